/- Lemmas that lead to the statement: which code of the model the machine's code stands for. how the heap of the deterministic machine stands to the model's memory, and the moves that keep it so. each operation of the deterministic machine that calls nothing does what the model's operation does. operators, conversions, indexes, appends, copies. values built out of parts; appends; copies. the other operations. which operation of the model an operation of the machine stands for, and that it does what that does. an operation that is checked does what the model's operation does. every checked operation that calls no function. calls; regions in the text's order. what the checker says of a region that draws its order; the run in the one order; operations whose answer does not hang on where they stand. -/
import Derived.Test.YtmgehmhebnjaaaaGreatDoorM0
import GoSem.Dispatch
import Derived.Calls
import Derived.Below
import Derived.Laws.Cells
import Derived.Laws.CopyRow
import Derived.Laws.Entries
import Derived.WalkKit
import Derived.Laws.StructEq
import Derived.Laws.Tables
import Derived.CallsIn
import Derived.OrdersIn
import Derived.TacticsIn
import Derived.RangeFuncIn
import Derived.RangeFuncRecord
import Derived.RangeFuncLeaves
set_option linter.all false
section
set_option linter.unusedVariables false
namespace Dm
open Go

def intField (P : Program) (f : Field) : Bool := f.name != "_" && (match P.underlying f.type with | some (.int _) => true | _ => false) && (P.info? f.type).isSome

def chkEq (P : Program) (t : TypeId) : EqK → Bool
  | .bool => match P.underlying t with | some .bool => true | _ => false
  | .slice => match P.underlying t with | some (.slice _) => true | _ => false
  | .nilI => match P.underlying t with | some (.interface _) => true | _ => false
  | .ints offs => match P.underlying t with
    | some (.struct fs) => fs.toList.all (intField P) && offs == fs.toList.map (·.offset) && !P.stoodInHeld t && !P.eqGuardType P.depth t
    | _ => false

/-- Where part i of a value of type t lies, and how many cells it has. -/
def placeAt (P : Program) (t : TypeId) (i : Nat) : Option (Nat × Nat) :=
  match P.underlying t with
  | some (.array _ e) => (P.info? e).map fun ie => (i * ie.size, ie.size)
  | some (.struct fields) => (fields.toList.mapM fun f => (P.info? f.type).map fun i => (f.offset, i.size)).bind (·.toArray[i]?)
  | _ => none

def sameC : Value → Value → Bool
  | .bool a, .bool b => a == b
  | .int k a, .int k' b => decide (k = k') && decide (a = b)
  | .string a, .string b => decide (a.data.toList = b.data.toList)
  | .pointer none, .pointer none => true
  | .slice none n c, .slice none n' c' => n == n' && c == c'
  | .nilFunc, .nilFunc => true
  | .nilIface, .nilIface => true
  | _, _ => false
def sameCs : List Value → List Value → Bool
  | [], [] => true
  | v :: vs, u :: us => sameC v u && sameCs vs us
  | _, _ => false
def chkX : Operand → X → Bool
  | .tmp t, .t n => t == n
  | .const v, .c v' => sameC v v'
  | .func f, .f n => f == n
  | _, _ => false
def chkXs : List Operand → List X → Bool
  | [], [] => true
  | o :: os, x :: xs => chkX o x && chkXs os xs
  | _, _ => false
def chkO : Option Operand → Option X → Bool
  | none, none => true
  | some o, some x => chkX o x
  | _, _ => false
def chkParts (place : Nat → Option (Nat × Nat)) : List (Nat × Operand) → List (Nat × Nat × X) → Bool
  | [], [] => true
  | (i, o) :: os, (off, n, x) :: xs => decide (place i = some (off, n)) && chkX o x && chkParts place os xs
  | _, _ => false
/-- The zero value's cells of a type, if it has that many. -/
def chkZero (P : Program) (t : TypeId) (z : List Value) : Bool :=
  match P.info? t with
  | some i => match i.zero with
    | some v => sameCs v.cells.toList z
    | none => false
  | none => false
/-- An element's type: its cells, its bytes, its zero. -/
def chkElem (P : Program) (t : TypeId) (size bytes : Nat) (z : List Value) : Bool :=
  match P.info? t with
  | some i => match i.zero with
    | some v => sameCs v.cells.toList z && decide (v.cells.size = i.size) && decide (i.size = size) && decide (i.bytes = bytes) && decide (size ≠ 0) && decide (bytes ≠ 0)
    | none => false
  | none => false
def oneT (P : Program) (t : TypeId) : Bool :=
  match P.underlying t with
  | some (.struct _) => false
  | some (.array _ _) => false
  | some _ => true
  | none => false
def manyT (P : Program) (t : TypeId) (n : Nat) : Bool :=
  (match P.underlying t with
  | some (.struct _) => true
  | some (.array _ _) => true
  | _ => false) && (match P.info? t with | some i => decide (i.size = n) | none => false)
def slElem (P : Program) (t : TypeId) : Option TypeId :=
  match P.underlying t with
  | some (.slice e) => some e
  | _ => none
def strT (P : Program) (t : TypeId) : Bool := match P.underlying t with | some .string => true | _ => false
def fieldT (P : Program) (t : TypeId) (k : Nat) : Option Field :=
  match P.underlying t with
  | some (.struct fs) => fs[k]?
  | _ => none
def intT (P : Program) (t : TypeId) : Option IntKind := match P.underlying t with | some (.int k) => some k | _ => none
def hasSize (P : Program) (t : TypeId) (n : Nat) : Bool := match P.info? t with | some i => decide (i.size = n) | none => false
def chkB (P : Program) (c : Call) : MOp → Bool
  | .app e size bytes z s x => match c.callee, c.args.toList, c.argTypes.toList with
    | .builtin .append, [s0, x0], [sT, xT] => chkX s0 s && chkX x0 x && (match slElem P sT with | some el => chkElem P el size bytes z | none => false) && (match P.underlying xT with | some (.slice _) => true | some .string => true | _ => false)
    | _, _, _ => false
  | .appz e size bytes z s x => match c.callee, c.args.toList, c.argTypes.toList with
    | .builtin .append, [s0, x0], [sT, xT] => chkX s0 s && chkX x0 x && (match slElem P sT with | some el => chkElem P el size bytes z | none => false) && (intT P xT).isSome
    | _, _, _ => false
  | .cpy size d s => match c.callee, c.args.toList, c.argTypes.toList with
    | .builtin .copy, [d0, s0], [dT, sT] => chkX d0 d && chkX s0 s && (match slElem P dT with | some el => hasSize P el size | none => false)
    | _, _, _ => false
  | .len x => match c.callee, c.args.toList, c.argTypes.toList with
    | .builtin .len, [x0], [t] => chkX x0 x && (slElem P t).isSome
    | _, _, _ => false
  | .slen x => match c.callee, c.args.toList, c.argTypes.toList with
    | .builtin .len, [x0], [t] => chkX x0 x && strT P t
    | _, _, _ => false
  | .cap x => match c.callee, c.args.toList, c.argTypes.toList with
    | .builtin .cap, [x0], [t] => chkX x0 x && (slElem P t).isSome
    | _, _, _ => false
  | .max2 x y => match c.callee, c.args.toList with
    | .builtin .max, [x0, y0] => chkX x0 x && chkX y0 y
    | _, _ => false
  | .clr z x => match c.callee, c.args.toList, c.argTypes.toList with
    | .builtin .clear, [x0], [t] => chkX x0 x && (match slElem P t with | some el => (match P.info? el with | some i => chkElem P el i.size i.bytes z | none => false) | none => false)
    | _, _, _ => false
  | _ => false

def chkOp (P : Program) : Op → MOp → Bool
  | _, .bad => true
  | .move x, .mv y => chkX x y
  | .assign x, .mv y => chkX x y
  | .pick c a b, .pick c' a' b' => chkX c c' && chkX a a' && chkX b b'
  | .alloc t, .new z e => chkZero P t z
  | .box t x, .box e y => chkX x y
  | .build t ps, .build z qs => chkZero P t z && chkParts (placeAt P t) ps.toList qs && (match P.underlying t with
      | some (.struct fs) => (fs.toList.mapM fun f => (P.info? f.type).map fun i => (f.offset, i.size)).isSome
      | some (.array _ e) => (P.info? e).isSome
      | _ => false)
  | .buildSlice t len ps, .lit e z qs len' => decide (len = len') && (match slElem P t with
      | some el => match P.info? el with
        | some i => chkElem P el i.size i.bytes z && decide (len * i.size ≤ 16777216) && chkParts (fun j => some (j * i.size, i.size)) ps.toList qs
        | none => false
      | none => false)
  | .load t a, .ld b => chkX a b && oneT P t
  | .load t a, .lds n b => chkX a b && manyT P t n
  | .store t a x, .st n b y => chkX a b && chkX x y && hasSize P t n
  | .nilCheck x, .chk y => chkX x y
  | .binOp op t x y _, .bin op' x' y' => decide (op = op') && chkX x x' && chkX y y'
  | .binOp op t x y _, .eq neq k x' y' => decide (op = if neq then .neq else .eql) && chkX x x' && chkX y y' && chkEq P t k && (match k, y' with | .nilI, .c _ => true | .nilI, _ => false | _, _ => true)
  | .unOp op t x, .not y => decide (op = .not) && chkX x y
  | .unOp op t x, .neg y => decide (op = .neg) && chkX x y
  | .convert s d x, .cvt k y => chkX x y && (P.underlying s).isSome && decide (intT P d = some k)
  | .convert s d x, .bytes e y => chkX x y && strT P s && (match slElem P d with | some el => decide (intT P el = some .u8) | none => false)
  | .field t x k, .fld off y => chkX x y && (match fieldT P t k with | some f => decide (f.offset = off) && oneT P f.type | none => false)
  | .field t x k, .flds off n y => chkX x y && (match fieldT P t k with | some f => decide (f.offset = off) && manyT P f.type n | none => false)
  | .fieldAddr t x k, .fa off y => chkX x y && (match fieldT P t k with | some f => decide (f.offset = off) && (match P.info? f.type with | some i => decide (i.size ≠ 0) | none => false) | none => false)
  | .indexAddr t x i, .ia size y j => chkX x y && chkX i j && (match slElem P t with | some el => hasSize P el size | none => false)
  | .index t x i, .ix y j => chkX x y && chkX i j && strT P t
  | .slice t x lo hi mx, .sl size y lo' hi' mx' => chkX x y && chkO lo lo' && chkO hi hi' && chkO mx mx' && (!mx'.isSome || hi'.isSome) && (match slElem P t with | some el => hasSize P el size | none => false)
  | .slice t x lo hi mx, .sls y lo' hi' => chkX x y && chkO lo lo' && chkO hi hi' && mx.isNone && strT P t
  | .makeSlice t l c, .mk e size bytes z l' c' => chkX l l' && chkX c c' && (match slElem P t with | some el => chkElem P el size bytes z | none => false)
  | .makeInterface t x, .iface t' y => decide (t = t') && chkX x y && (match P.underlying t with | some (.interface _) => false | some _ => true | none => false)
  | .extract x i, .ext y j => chkX x y && decide (i = j)
  | .makeFunc (.func f) first caps, .fn f' caps' => decide (f = f') && decide (first.size = 0) && chkXs caps.toList caps'
  | .call c, m => chkB P c m
  | _, _ => false


def chkCall : Op → MOp → Bool
  | .call c, .call f args => match c.callee with
    | .value g => chkX g f && chkXs c.args.toList args
    | _ => false
  | _, _ => false
def chkG (ops : Array Oper) : Option (Nat × Bool) → Option (Nat × Bool) → Bool
  | none, none => true
  | some (j, b), some (t, b') => decide ((ops[j]?).bind (·.dst) = some t) && b == b'
  | _, _ => false
def chkMO (P : Program) (ops : Array Oper) (o : Oper) (m : MO) : Bool :=
  decide (m.dst = o.dst) && chkG ops o.guard m.guard && (chkCall o.op m.op || chkOp P o.op m.op)
def chkSeq (P : Program) (ops : Array Oper) : List Oper → List MO → Bool
  | [], [] => true
  | o :: os, m :: ms => chkMO P ops o m && chkSeq P ops os ms
  | _, _ => false

/-! ### Regions that draw their order -/
def opXs : MOp → List X
  | .mv x => [x]
  | .pick c a b => [c, a, b]
  | .new _ _ => []
  | .box _ x => [x]
  | .build _ ps => ps.map (·.2.2)
  | .lit _ _ ps _ => ps.map (·.2.2)
  | .ld a => [a]
  | .lds _ a => [a]
  | .st _ a x => [a, x]
  | .chk x => [x]
  | .bin _ x y => [x, y]
  | .eq _ _ x y => [x, y]
  | .not x => [x]
  | .neg x => [x]
  | .cvt _ x => [x]
  | .bytes _ x => [x]
  | .fld _ x => [x]
  | .flds _ _ x => [x]
  | .fa _ x => [x]
  | .ia _ x i => [x, i]
  | .ix x i => [x, i]
  | .sl _ x lo hi mx => x :: (lo.toList ++ hi.toList ++ mx.toList)
  | .sls x lo hi => x :: (lo.toList ++ hi.toList)
  | .mk _ _ _ _ l c => [l, c]
  | .iface _ x => [x]
  | .ext x _ => [x]
  | .fn _ caps => caps
  | .call f args => f :: args
  | .app _ _ _ _ s x => [s, x]
  | .appz _ _ _ _ s x => [s, x]
  | .cpy _ d s => [d, s]
  | .len x => [x]
  | .slen x => [x]
  | .cap x => [x]
  | .max2 x y => [x, y]
  | .clr _ x => [x]
  | .bad => []
def tmpsX : X → List Nat
  | .t n => [n]
  | _ => []
/-- Does it write, or call? -/
def effM : MOp → Bool
  | .st _ _ _ | .call _ _ | .app _ _ _ _ _ _ | .appz _ _ _ _ _ _ | .cpy _ _ _ | .clr _ _ | .bad => true
  | _ => false
/-- Does it make memory, and nothing else? -/
def alcM : MOp → Bool
  | .new _ _ | .box _ _ | .lit _ _ _ _ | .bytes _ _ | .mk _ _ _ _ _ _ => true
  | _ => false
/-- Whose block it looks at. -/
def ldX : MOp → Option X
  | .ld a => some a
  | .lds _ a => some a
  | .sl _ x _ _ _ => some x
  | .cap x => some x
  | _ => none
def readsM (m : MO) : List Nat := (opXs m.op).flatMap tmpsX ++ (match m.guard with | some (t, _) => [t] | none => [])
def directs (o : Oper) : List Nat := (o.after.toList.filter (Region.binds .any)).map (·.on)
def ancTab : List Oper → List (List Nat) → List (List Nat)
  | [], acc => acc
  | o :: os, acc => ancTab os (acc ++ [(directs o ++ (directs o).flatMap fun d => acc.getD d []).eraseDups])
def sameX : X → X → Bool
  | .t n, .t m => n == m
  | _, _ => false
def pairOk (ops : List Oper) (tab : List (List Nat)) (i j : Nat) (m m' : MO) : Bool :=   -- j stands before i
  let a := (tab.getD i []).contains j
  (a || (!effM m'.op && (match m'.dst with | some t => !(readsM m).contains t | none => true) && (match m.dst with | some t => !(readsM m').contains t | none => true) &&
    (match ldX m'.op with | some x => !effM m.op || m.keep.any (sameX x) | none => true))) &&
  (match ops[j]? with | some o => !(directs o).contains i | none => false)
/-- What it waits for lies in the region, and is not itself; the block that it looks at stands. -/
def waitsOk (n i : Nat) (o : Oper) (m : MO) : Bool :=
  (directs o).all (fun d => decide (d < n) && !(d == i)) && (match ldX m.op with | some x => m.keep.any (sameX x) | none => true)
def addrOk (m : MO) (later : List MO) : Bool :=
  match ldX m.op with
  | some (.t n) => (m :: later).all fun q => decide (q.dst ≠ some n)
  | some _ => false
  | none => true
def addrsOk : List MO → Bool
  | [] => true
  | m :: ms => addrOk m ms && addrsOk ms
/-- Each pair of places, the earlier ones in 'before'. -/
def pairsOk (ops : List Oper) (tab : List (List Nat)) : List (Nat × MO) → List (Nat × MO) → Bool
  | _, [] => true
  | before, (i, m) :: rest => before.all (fun (j, m') => pairOk ops tab i j m m') && pairsOk ops tab (before ++ [(i, m)]) rest
def rowsOk (P : Program) (ops : Array Oper) : List (Nat × MO) → Bool
  | [] => true
  | (i, m) :: rest => (match ops[i]? with | some o => chkMO P ops o m && waitsOk ops.size i o m | none => false) && rowsOk P ops rest
def distinct : List MO → Bool
  | [] => true
  | m :: ms => (match m.dst with | some d => ms.all fun q => decide (q.dst ≠ some d) | none => true) && distinct ms
def chkDraw (P : Program) (ops : Array Oper) (ord : List Nat) (ms : List MO) : Bool :=
  decide (ord.length = ops.size) && decide (ms.length = ops.size) && decide ord.Nodup && (List.range ops.size).all (ord.contains ·) && distinct ms && rowsOk P ops (ord.zip ms) && addrsOk ms &&
  pairsOk ops.toList (ancTab ops.toList []) [] (ord.zip ms)

def noRange : MCode → Bool
  | .seq a b => noRange a && noRange b
  | .ite _ a b => noRange a && noRange b
  | .blk _ a => noRange a
  | .loop a => noRange a
  | .rangeF _ _ _ _ => false
  | _ => true
def chkCode (P : Program) : MCode → Code → Bool
  | .skip, .skip => true
  | .reg ms, .region _ ops false => chkSeq P ops ops.toList ms
  | .dreg ord ms, .region _ ops true => chkDraw P ops ord ms
  | .seq a b, .seq c d => chkCode P a c && chkCode P b d
  | .ite x a b, .cond y c d => chkX y x && chkCode P a c && chkCode P b d
  | .blk i a, .block j c => i == j && chkCode P a c
  | .loop a, .loop c => chkCode P a c
  | .exit i, .exit j => i == j
  | .ret, .ret => true
  | .rangeF f ps a b, .rangeFunc g qs c d => chkX g f && decide (ps = qs.toList) && chkCode P a c && chkCode P b d && noRange a && noRange b
  | _, _ => false
def chkRes (P : Program) : List ResultVar → List MRes → Bool
  | [], [] => true
  | .tmp t :: rs, .t n :: ms => t == n && chkRes P rs ms
  | .cell a t :: rs, .cell n none :: ms => a == n && oneT P t && chkRes P rs ms
  | .cell a t :: rs, .cell n (some k) :: ms => a == n && manyT P t k && chkRes P rs ms
  | _, _ => false
def chkFun (P : Program) (f : Nat) (mf : MFun) : Bool :=
  match P.funcs[f]? with
  | some fn => (match fn.body with | some c => chkCode P mf.body c | none => false) && fn.ntmps == mf.ntmps && chkRes P fn.results.toList mf.results && fn.name != "runtime.NumGoroutine"
  | none => false

end Dm
end
section
set_option linter.unusedVariables false
set_option linter.unusedSimpArgs false
namespace Dm
open Go Go.RowKit

/-- Where a block lies in the model's memory: the block, where it begins in it; how many cells that has; the size of its elements, if it may have spare places. -/
structure Img where
  blk : Nat
  base : Nat
  tot : Nat
  spare : Option Nat
abbrev Mu := Nat → Option Img

inductive VR (μ : Mu) : Value → Value → Prop
  | bool (b : Bool) : VR μ (.bool b) (.bool b)
  | int (k : IntKind) (n : Int) : VR μ (.int k n) (.int k n)
  | str (s : ByteArray) : VR μ (.string s) (.string s)
  | ptr0 : VR μ (.pointer none) (.pointer none)
  | ptr {i o : Nat} {m : Img} (h : μ i = some m) : VR μ (.pointer (some ⟨i, o, none⟩)) (.pointer (some ⟨m.blk, m.base + o, none⟩))
  | sl0 (n c : Nat) : VR μ (.slice none n c) (.slice none n c)
  | sl {i o n c c' : Nat} {m : Img} (h : μ i = some m) (hc : c' = c ∨ ∃ sz, m.spare = some sz ∧ c ≤ c' ∧ m.base + o + c' * sz ≤ m.tot) : VR μ (.slice (some ⟨i, o, none⟩) n c) (.slice (some ⟨m.blk, m.base + o, none⟩) n c')
  | sl9 {i o k : Nat} {a : Addr} : VR μ (.slice (some ⟨i, o, some k⟩) 0 0) (.slice (some a) 0 0)
  | fn (f : Nat) {a a' b b' : Array Value} (ha : a.size = a'.size) (hb : b.size = b'.size) (h1 : ∀ (i : Nat) (x y : Value), a[i]? = some x → a'[i]? = some y → VR μ x y) (h2 : ∀ (i : Nat) (x y : Value), b[i]? = some x → b'[i]? = some y → VR μ x y) : VR μ (.func (.func f) a b) (.func (.func f) a' b')
  | yield {i : Nat} {m : Img} (h : μ i = some m) : VR μ (.func (.yield i) #[] #[]) (.func (.yield m.blk) #[] #[])
  | nilF : VR μ .nilFunc .nilFunc
  | nilI : VR μ .nilIface .nilIface
  | iface (t : Nat) {v v' : Value} (h : VR μ v v') : VR μ (.iface t v) (.iface t v')
  | agg {a a' : Array Value} (ha : a.size = a'.size) (h1 : ∀ (i : Nat) (x y : Value), a[i]? = some x → a'[i]? = some y → VR μ x y) : VR μ (.agg a) (.agg a')
  | tup {a a' : Array Value} (ha : a.size = a'.size) (h1 : ∀ (i : Nat) (x y : Value), a[i]? = some x → a'[i]? = some y → VR μ x y) : VR μ (.tuple a) (.tuple a')

theorem VR.mono {μ μ' : Mu} (hm : ∀ i m, μ i = some m → μ' i = some m) {v v' : Value} (h : VR μ v v') : VR μ' v v' := by
  induction h with
  | bool b => exact .bool b
  | int k n => exact .int k n
  | str s => exact .str s
  | ptr0 => exact .ptr0
  | ptr h => exact .ptr (hm _ _ h)
  | sl0 n c => exact .sl0 n c
  | sl h hc => exact .sl (hm _ _ h) hc
  | sl9 => exact .sl9
  | fn f ha hb _ _ h1 h2 => exact .fn f ha hb h1 h2
  | yield h => exact .yield (hm _ _ h)
  | nilF => exact .nilF
  | nilI => exact .nilI
  | iface t _ h => exact .iface t h
  | agg ha _ h => exact .agg ha h
  | tup ha _ h => exact .tup ha h

def VRs (μ : Mu) (l l' : List Value) : Prop := l.length = l'.length ∧ ∀ (i : Nat) (x y : Value), l[i]? = some x → l'[i]? = some y → VR μ x y

theorem VRs.nil (μ : Mu) : VRs μ [] [] := ⟨rfl, fun i x y h => by simp at h⟩
theorem VRs.cons {μ : Mu} {v v' : Value} {l l' : List Value} (h : VR μ v v') (hl : VRs μ l l') : VRs μ (v :: l) (v' :: l') := by
  refine ⟨by simp [hl.1], fun i x y hx hy => ?_⟩
  cases i with
  | zero => simp at hx hy; subst hx; subst hy; exact h
  | succ i => simp at hx hy; exact hl.2 i x y hx hy
theorem VRs.mono {μ μ' : Mu} (hm : ∀ i m, μ i = some m → μ' i = some m) {l l' : List Value} (h : VRs μ l l') : VRs μ' l l' :=
  ⟨h.1, fun i x y hx hy => (h.2 i x y hx hy).mono hm⟩
theorem VRs.get {μ : Mu} {l l' : List Value} (h : VRs μ l l') {i : Nat} {x : Value} (hx : l[i]? = some x) : ∃ y, l'[i]? = some y ∧ VR μ x y := by
  have hi : i < l.length := (List.getElem?_eq_some_iff.1 hx).1
  have hi' : i < l'.length := by rw [← h.1]; exact hi
  exact ⟨l'[i], List.getElem?_eq_getElem hi', h.2 i x _ hx (List.getElem?_eq_getElem hi')⟩
theorem VRs.append {μ : Mu} {l l' k k' : List Value} (h : VRs μ l l') (h2 : VRs μ k k') : VRs μ (l ++ k) (l' ++ k') := by
  refine ⟨by simp [h.1, h2.1], fun i x y hx hy => ?_⟩
  rw [List.getElem?_append] at hx hy
  rw [h.1] at hx
  split at hx
  · rename_i hi; rw [if_pos hi] at hy; exact h.2 i x y hx hy
  · rename_i hi; rw [if_neg hi] at hy; exact h2.2 _ x y hx hy
theorem VRs.take {μ : Mu} {l l' : List Value} (h : VRs μ l l') (n : Nat) : VRs μ (l.take n) (l'.take n) := by
  refine ⟨by simp [h.1], fun i x y hx hy => ?_⟩
  rw [List.getElem?_take] at hx hy
  split at hx
  · rename_i hi; rw [if_pos hi] at hy; exact h.2 i x y hx hy
  · simp at hx
theorem VRs.drop {μ : Mu} {l l' : List Value} (h : VRs μ l l') (n : Nat) : VRs μ (l.drop n) (l'.drop n) := by
  refine ⟨by simp [h.1], fun i x y hx hy => ?_⟩
  rw [List.getElem?_drop] at hx hy
  exact h.2 _ x y hx hy
theorem VRs.set {μ : Mu} {l l' : List Value} (h : VRs μ l l') (n : Nat) {v v' : Value} (hv : VR μ v v') : VRs μ (l.set n v) (l'.set n v') := by
  refine ⟨by simp [h.1], fun i x y hx hy => ?_⟩
  rw [List.getElem?_set] at hx hy
  rw [h.1] at hx
  by_cases hn : n = i
  · simp only [hn, if_true] at hx hy
    split at hx
    · rename_i hi; rw [if_pos hi] at hy; simp at hx hy; subst hx; subst hy; exact hv
    · simp at hx
  · simp only [hn, if_false] at hx hy; exact h.2 i x y hx hy
theorem VRs.replicate {μ : Mu} {v v' : Value} (h : VR μ v v') : ∀ n, VRs μ (List.replicate n v) (List.replicate n v')
  | 0 => VRs.nil μ
  | n + 1 => by rw [List.replicate_succ, List.replicate_succ]; exact VRs.cons h (VRs.replicate h n)
theorem VR.undef (μ : Mu) : VR μ undefV undef := .tup rfl (fun i x y h => by simp at h)
theorem VRs.getD {μ : Mu} {l l' : List Value} (h : VRs μ l l') (i : Nat) : VR μ (l.getD i undefV) (l'.getD i undef) := by
  rw [List.getD_eq_getElem?_getD, List.getD_eq_getElem?_getD]
  cases hx : l[i]? with
  | none =>
    have : l'[i]? = none := by rw [List.getElem?_eq_none_iff] at hx ⊢; rw [← h.1]; exact hx
    rw [this]; exact VR.undef μ
  | some x => obtain ⟨y, hy, hv⟩ := h.get hx; rw [hy]; exact hv
theorem VRs.of_toList {μ : Mu} {a a' : Array Value} (ha : a.size = a'.size) (h : ∀ (i : Nat) (x y : Value), a[i]? = some x → a'[i]? = some y → VR μ x y) : VRs μ a.toList a'.toList :=
  ⟨by simpa using ha, fun i x y hx hy => h i x y (by simpa using hx) (by simpa using hy)⟩
theorem VRs.agg {μ : Mu} {l : List Value} {a' : Array Value} (h : VRs μ l a'.toList) : VR μ (.agg l.toArray) (.agg a') :=
  .agg (by simpa using h.1) (fun i x y hx hy => h.2 i x y (by simpa using hx) (by simpa using hy))
theorem VR.cells {μ : Mu} {v v' : Value} (h : VR μ v v') : VRs μ v.cells.toList v'.cells.toList := by
  cases h with
  | agg ha h1 => exact VRs.of_toList ha h1
  | bool b => exact VRs.cons (.bool b) (VRs.nil μ)
  | int k n => exact VRs.cons (.int k n) (VRs.nil μ)
  | str s => exact VRs.cons (.str s) (VRs.nil μ)
  | ptr0 => exact VRs.cons .ptr0 (VRs.nil μ)
  | ptr h => exact VRs.cons (.ptr h) (VRs.nil μ)
  | sl0 n c => exact VRs.cons (.sl0 n c) (VRs.nil μ)
  | sl h hc => exact VRs.cons (.sl h hc) (VRs.nil μ)
  | sl9 => exact VRs.cons .sl9 (VRs.nil μ)
  | fn f ha hb h1 h2 => exact VRs.cons (.fn f ha hb h1 h2) (VRs.nil μ)
  | yield h => exact VRs.cons (.yield h) (VRs.nil μ)
  | nilF => exact VRs.cons .nilF (VRs.nil μ)
  | nilI => exact VRs.cons .nilI (VRs.nil μ)
  | iface t h => exact VRs.cons (.iface t h) (VRs.nil μ)
  | tup ha h1 => exact VRs.cons (.tup ha h1) (VRs.nil μ)
theorem VR.flat {μ : Mu} {v v' : Value} (h : VR μ v v') : flat v = v'.oneCell' := by cases h <;> rfl
theorem VRs.flat {μ : Mu} {l l' : List Value} (h : VRs μ l l') (hf : l.all Dm.flat = true) : ∀ v ∈ l', v.oneCell' = true := by
  intro v hv
  obtain ⟨i, hi, rfl⟩ := List.mem_iff_getElem.1 hv
  have hi2 : i < l.length := by rw [h.1]; exact hi
  have := h.2 i l[i] l'[i] (List.getElem?_eq_getElem hi2) (List.getElem?_eq_getElem hi)
  rw [← this.flat]
  exact (List.all_eq_true.1 hf) _ (List.getElem_mem hi2)

def exCode : Ex → Option Code
  | .normal => none
  | .exit i => some (.exit i)
  | .ret => some .ret
def stOk : LSt → Loop → Prop
  | .ready, r => r.state = .ready ∧ r.pending = none
  | .busy, r => r.state = .busy
  | .done e, r => r.state = .done ∧ r.pending = exCode e
/-- What a block says of the model's memory. -/
def OR (P : Program) (B : Nat) (μ : Mu) (o : AObj) (m : Img) (w : World) : Prop :=
  match o with
  | .cells cs e kd v => ∃ C e' fr, w.heap[m.blk]? = some (.cells C e' fr) ∧ C.size = m.tot ∧ m.base + cs.length ≤ C.size ∧
      (∀ (j : Nat) (x y : Value), cs[j]? = some x → C[m.base + j]? = some y → VR μ x y) ∧ (kd.w = true → B ≤ m.blk ∧ fr = (0, 0)) ∧ m.spare = kd.spare
  | .dead v => m.spare ≠ none
  | .loop tm ps asg body st v => ∃ r, w.heap[m.blk]? = some (.loop r) ∧ VRs μ tm r.tmps.toList ∧ ps = r.params.toList ∧ chkCode P asg r.assign = true ∧ chkCode P body r.body = true ∧ noRange asg = true ∧ noRange body = true ∧ stOk st r ∧ B ≤ m.blk ∧ m.spare ≠ none

def RW (H : Heap) (i : Nat) : Prop := ∃ o, H[i]? = some o ∧ o.rw = true
def Alive (H : Heap) (i : Nat) : Prop := ∃ o, H[i]? = some o ∧ o.live = true
theorem RW.alive {H : Heap} {i : Nat} (h : RW H i) : Alive H i := by
  obtain ⟨o, h1, h2⟩ := h
  exact ⟨o, h1, by cases o <;> simp_all [AObj.rw, AObj.live]⟩

structure WR (P : Program) (B : Nat) (w0 : World) (μ : Mu) (H : Heap) (w : World) : Prop where
  dom : ∀ i m, μ i = some m → i < H.length
  obj : ∀ i m o, μ i = some m → H[i]? = some o → OR P B μ o m w
  inj : ∀ i j m n, μ i = some m → μ j = some n → i ≠ j → RW H i → Alive H j → m.blk ≠ n.blk
  lt : ∀ i m, μ i = some m → m.blk < w.heap.size
  below : Below B w0 w
  base : B ≤ w0.heap.size

structure Ext (P : Program) (B : Nat) (w0 : World) (μ : Mu) (H : Heap) (w : World) (μ' : Mu) (H' : Heap) (w' : World) : Prop where
  wr : WR P B w0 μ' H' w'
  len : H.length ≤ H'.length
  old : ∀ i, i < H.length → μ' i = μ i
  keep : ∀ i, i < H.length → μ i = none → H'[i]? = H[i]?
  ver : ∀ i, i < H.length → ver H i ≤ ver H' i ∧ (ver H' i = ver H i → H'[i]? = H[i]?)
  frame : ∀ b, b < w.heap.size → (b < B ∨ ∀ i m, μ i = some m → m.blk ≠ b) → w'.heap[b]? = w.heap[b]?
  size : w.heap.size ≤ w'.heap.size
  fresh : ∀ i m, H.length ≤ i → μ' i = some m → w.heap.size ≤ m.blk ∨ ∃ j n, μ j = some n ∧ n.blk = m.blk

variable {P : Program} {B : Nat} {w0 : World} {μ μ' μ'' : Mu} {H H' H'' : Heap} {w w' w'' : World}

theorem WR.B_le (h : WR P B w0 μ H w) : B ≤ w.heap.size := Nat.le_trans h.base h.below.size

theorem Ext.mono (h : Ext P B w0 μ H w μ' H' w') (hw : WR P B w0 μ H w) : ∀ i m, μ i = some m → μ' i = some m :=
  fun i m hm => by rw [h.old i (hw.dom i m hm)]; exact hm
theorem Ext.refl (h : WR P B w0 μ H w) : Ext P B w0 μ H w μ H w :=
  ⟨h, Nat.le_refl _, fun _ _ => rfl, fun _ _ _ => rfl, fun _ _ => ⟨Nat.le_refl _, fun _ => rfl⟩, fun _ _ _ => rfl, Nat.le_refl _, fun i m hi hm => absurd (h.dom i m hm) (by omega)⟩
theorem Ext.trans (h : Ext P B w0 μ H w μ' H' w') (k : Ext P B w0 μ' H' w' μ'' H'' w'') (hw : WR P B w0 μ H w) : Ext P B w0 μ H w μ'' H'' w'' where
  wr := k.wr
  len := Nat.le_trans h.len k.len
  old i hi := (k.old i (Nat.lt_of_lt_of_le hi h.len)).trans (h.old i hi)
  keep i hi hn := (k.keep i (Nat.lt_of_lt_of_le hi h.len) ((h.old i hi).trans hn)).trans (h.keep i hi hn)
  ver i hi := by
    obtain ⟨a, b⟩ := h.ver i hi
    obtain ⟨c, d⟩ := k.ver i (Nat.lt_of_lt_of_le hi h.len)
    exact ⟨Nat.le_trans a c, fun e => (d (by omega)).trans (b (by omega))⟩
  frame b hb hx := by
    refine (k.frame b (Nat.lt_of_lt_of_le hb h.size) (hx.imp id fun hx i m hm => ?_)).trans (h.frame b hb hx)
    by_cases hi : i < H.length
    · rw [h.old i hi] at hm; exact hx i m hm
    · rcases h.fresh i m (by omega) hm with hf | ⟨j, n, hj, hn⟩
      · omega
      · rw [← hn]; exact hx j n hj
  size := Nat.le_trans h.size k.size
  fresh i m hi hm := by
    by_cases hi2 : i < H'.length
    · rw [k.old i hi2] at hm; exact h.fresh i m hi hm
    · rcases k.fresh i m (by omega) hm with hf | ⟨j, n, hj, hn⟩
      · exact .inl (Nat.le_trans h.size hf)
      · by_cases hj2 : j < H.length
        · rw [h.old j hj2] at hj; exact .inr ⟨j, n, hj, hn⟩
        · rcases h.fresh j n (by omega) hj with hf | ⟨j', n', hj', hn'⟩
          · exact .inl (hn ▸ hf)
          · exact .inr ⟨j', n', hj', hn'.trans hn⟩

theorem OR.mono {o : AObj} {m : Img} (hm : ∀ i m, μ i = some m → μ' i = some m) (h : OR P B μ o m w) (hw : w'.heap[m.blk]? = w.heap[m.blk]?) : OR P B μ' o m w' := by
  cases o with
  | dead v => exact h
  | cells cs e kd v =>
    obtain ⟨C, e', fr, h1, h0, h2, h3, h4, h5⟩ := h
    exact ⟨C, e', fr, hw.trans h1, h0, h2, fun j x y hx hy => (h3 j x y hx hy).mono hm, h4, h5⟩
  | loop tm ps asg body st v =>
    obtain ⟨r, h1, h2, h3⟩ := h
    exact ⟨r, hw.trans h1, h2.mono hm, h3⟩

/-- A draw of the tape. -/
theorem Ext.drew (h : WR P B w0 μ H w) (n : Nat) : Ext P B w0 μ H w μ H { w with drawn := n } :=
  ⟨⟨h.dom, fun i m o hm ho => (h.obj i m o hm ho).mono (fun _ _ h => h) rfl, h.inj, h.lt, ⟨h.below.os, h.below.tape, h.below.output, h.below.size, h.below.block⟩, h.base⟩,
   Nat.le_refl _, fun _ _ => rfl, fun _ _ _ => rfl, fun _ _ => ⟨Nat.le_refl _, fun _ => rfl⟩, fun _ _ _ => rfl, Nat.le_refl _, fun i m hi hm => absurd (h.dom i m hm) (by omega)⟩

def Mu.add (μ : Mu) (i : Nat) (m : Img) : Mu := fun j => if j = i then some m else μ j
theorem Mu.add_same (μ : Mu) (i : Nat) (m : Img) : μ.add i m i = some m := by simp [Mu.add]
theorem Mu.add_mono {μ : Mu} {i : Nat} {m : Img} (hn : μ i = none) : ∀ j n, μ j = some n → μ.add i m j = some n := by
  intro j n h
  unfold Mu.add
  split
  · rename_i e; subst e; rw [hn] at h; simp at h
  · exact h
theorem WR.none_at (h : WR P B w0 μ H w) {i : Nat} (hi : H.length ≤ i) : μ i = none := by
  cases e : μ i with
  | none => rfl
  | some m => exact absurd (h.dom i m e) (by omega)

theorem ver_append_lt (H : Heap) (o : AObj) {i : Nat} (hi : i < H.length) : ver (H ++ [o]) i = ver H i := by
  simp [ver, List.getElem?_append, hi]

/-- A new row of cells. -/
theorem Ext.alloc (h : WR P B w0 μ H w) {cs : List Value} {C : Array Value} (e e' : Nat) (kd : Kd) (fr : Nat × Nat) (hfr : kd.w = true → fr = (0, 0)) (hC : cs.length ≤ C.size) (hv : ∀ (j : Nat) (x y : Value), cs[j]? = some x → C[j]? = some y → VR μ x y) :
    Ext P B w0 μ H w (μ.add H.length ⟨w.heap.size, 0, C.size, kd.spare⟩) (H ++ [.cells cs e kd 0]) (w.alloc (.cells C e' fr)) := by
  have hn : μ H.length = none := h.none_at (Nat.le_refl _)
  have hmo := Mu.add_mono (m := ⟨w.heap.size, 0, C.size, kd.spare⟩) hn
  have hold : ∀ k, k < w.heap.size → (w.alloc (.cells C e' fr)).heap[k]? = w.heap[k]? := fun k hk => Below.heap_alloc w _ k hk
  have hnew : (w.alloc (.cells C e' fr)).heap[w.heap.size]? = some (.cells C e' fr) := by
    show (w.heap.push _)[w.heap.size]? = _
    simp
  have hspl : ∀ j m, μ.add H.length ⟨w.heap.size, 0, C.size, kd.spare⟩ j = some m → (j = H.length ∧ m = ⟨w.heap.size, 0, C.size, kd.spare⟩) ∨ (j < H.length ∧ μ j = some m) := by
    intro j m hm
    unfold Mu.add at hm
    split at hm
    · rename_i e; exact .inl ⟨e, by simpa using hm.symm⟩
    · exact .inr ⟨h.dom j m hm, hm⟩
  refine ⟨⟨?_, ?_, ?_, ?_, h.below.alloc h.B_le _, h.base⟩, by simp, ?_, ?_, ?_, ?_, by simp, ?_⟩
  · intro j m hm
    rcases hspl j m hm with ⟨rfl, _⟩ | ⟨hj, _⟩ <;> simp <;> omega
  · intro j m o hm ho
    rcases hspl j m hm with ⟨rfl, rfl⟩ | ⟨hj, hm'⟩
    · simp at ho
      subst ho
      exact ⟨C, e', fr, hnew, rfl, by simpa using hC, fun j x y hx hy => (hv j x y hx (by simpa using hy)).mono hmo, fun hk => ⟨h.B_le, hfr hk⟩, rfl⟩
    · rw [List.getElem?_append_left hj] at ho
      exact (h.obj j m o hm' ho).mono hmo (hold _ (h.lt j m hm'))
  · intro i j m n hm hn' hij hi hj
    rcases hspl i m hm with ⟨rfl, rfl⟩ | ⟨hi1, hm'⟩
    · rcases hspl j n hn' with ⟨rfl, rfl⟩ | ⟨hj1, hn'⟩
      · exact absurd rfl hij
      · have := h.lt j n hn'
        simp only [ne_eq]
        omega
    · rcases hspl j n hn' with ⟨rfl, rfl⟩ | ⟨hj1, hn'⟩
      · have := h.lt i m hm'
        simp only [ne_eq]
        omega
      · refine h.inj i j m n hm' hn' hij ?_ ?_
        · obtain ⟨a, e1, e2⟩ := hi
          exact ⟨a, by rwa [List.getElem?_append_left hi1] at e1, e2⟩
        · obtain ⟨a, e1, e2⟩ := hj
          exact ⟨a, by rwa [List.getElem?_append_left hj1] at e1, e2⟩
  · intro j m hm
    rcases hspl j m hm with ⟨_, rfl⟩ | ⟨_, hm'⟩
    · simp
    · have := h.lt j m hm'; simp; omega
  · intro i hi
    unfold Mu.add
    rw [if_neg (by omega)]
  · intro i hi _
    rw [List.getElem?_append_left hi]
  · intro i hi
    rw [ver_append_lt _ _ hi, List.getElem?_append_left hi]
    exact ⟨Nat.le_refl _, fun _ => rfl⟩
  · intro b hb _
    exact hold b hb
  · intro i m hi hm
    rcases hspl i m hm with ⟨_, rfl⟩ | ⟨hi', _⟩
    · exact .inl (Nat.le_refl _)
    · omega


theorem rd_eq {i o : Nat} {v : Value} (h : rd H i o = some v) : ∃ cs e kd vr, H[i]? = some (.cells cs e kd vr) ∧ cs[o]? = some v := by
  unfold rd at h
  split at h
  · rename_i cs e kd vr hb; exact ⟨cs, e, kd, vr, hb, h⟩
  · simp at h
theorem rds_eq {i o n : Nat} {l : List Value} (h : rds H i o n = some l) : ∃ cs e kd vr, H[i]? = some (.cells cs e kd vr) ∧ o + n ≤ cs.length ∧ l = (cs.drop o).take n := by
  unfold rds at h
  split at h
  · rename_i cs e kd vr hb
    split at h
    · rename_i hle; simp at h; exact ⟨cs, e, kd, vr, hb, hle, h.symm⟩
    · simp at h
  · simp at h
theorem wr_eq {i o : Nat} {vs : List Value} (h : wr H i o vs = some H') : ∃ cs e kd vr, H[i]? = some (.cells cs e kd vr) ∧ kd.w = true ∧ o + vs.length ≤ cs.length ∧ vs.all flat = true ∧ H' = H.set i (.cells (cs.take o ++ vs ++ cs.drop (o + vs.length)) e kd (vr + 1)) := by
  unfold wr at h
  split at h
  · rename_i cs e kd vr hb
    split at h
    · rename_i hle; simp only [Option.some.injEq] at h; exact ⟨cs, e, kd, vr, hb, hle.1, hle.2.1, hle.2.2, h.symm⟩
    · simp at h
  · simp at h

/-- Cells that are read stand in the model's memory. -/
theorem WR.rds (h : WR P B w0 μ H w) {i o n : Nat} {m : Img} {l : List Value} (hm : μ i = some m) (hr : rds H i o n = some l) :
    ∃ l' : List Value, l'.length = n ∧ l.length = n ∧ VRs μ l l' ∧ (∀ j v, l'[j]? = some v → w.cell? ⟨m.blk, m.base + o + j, none⟩ = some v) := by
  obtain ⟨cs, e, kd, vr, hb, hle, rfl⟩ := rds_eq hr
  obtain ⟨C, e', fr, h1, h0, h2, h3, h4, h5⟩ := h.obj i m _ hm hb
  refine ⟨(C.toList.drop (m.base + o)).take n, by simp; omega, by simp; omega, ⟨by simp; omega, ?_⟩, ?_⟩
  · intro j x y hx hy
    rw [List.getElem?_take] at hx hy
    split at hx
    · rename_i hj
      rw [if_pos hj] at hy
      rw [List.getElem?_drop] at hx hy
      exact h3 (o + j) x y hx (by rw [← Nat.add_assoc]; simpa using hy)
    · simp at hx
  · intro j v hv
    rw [List.getElem?_take] at hv
    split at hv
    · rw [List.getElem?_drop] at hv
      simp only [World.cell?, h1]
      simpa using hv
    · simp at hv
theorem WR.rd (h : WR P B w0 μ H w) {i o : Nat} {m : Img} {v : Value} (hm : μ i = some m) (hr : rd H i o = some v) :
    ∃ v', VR μ v v' ∧ w.cell? ⟨m.blk, m.base + o, none⟩ = some v' := by
  obtain ⟨cs, e, kd, vr, hb, hv⟩ := rd_eq hr
  obtain ⟨C, e', fr, h1, h0, h2, h3, h4, h5⟩ := h.obj i m _ hm hb
  have ho : o < cs.length := (List.getElem?_eq_some_iff.1 hv).1
  have ho2 : m.base + o < C.size := by omega
  refine ⟨C[m.base + o], h3 o v _ hv (Array.getElem?_eq_getElem ho2), ?_⟩
  simp [World.cell?, h1, ho2]

theorem VRs.splice {μ : Mu} {cs vs vs' : List Value} {C : Array Value} {b o : Nat} (hl : b + cs.length ≤ C.size) (ho : o + vs.length ≤ cs.length) (hv : VRs μ vs vs')
    (h : ∀ (j : Nat) (x y : Value), cs[j]? = some x → C[b + j]? = some y → VR μ x y) :
    ∀ (j : Nat) (x y : Value), (cs.take o ++ vs ++ cs.drop (o + vs.length))[j]? = some x → (C.toList.take (b + o) ++ vs' ++ C.toList.drop (b + o + vs'.length)).toArray[b + j]? = some y → VR μ x y := by
  intro j x y hx hy
  simp only [List.getElem?_toArray] at hy
  rw [List.append_assoc, List.getElem?_append] at hx hy
  rw [List.getElem?_append] at hx hy
  simp only [List.length_take, List.getElem?_take, List.getElem?_drop] at hx hy
  have hlen := hv.1
  have e1 : min o cs.length = o := by omega
  have e2 : min (b + o) C.toList.length = b + o := by simp; omega
  rw [e1] at hx
  rw [e2] at hy
  by_cases c1 : j < o
  · rw [if_pos c1, if_pos c1] at hx
    rw [if_pos (by omega), if_pos (by omega)] at hy
    exact h j x y hx (by simpa using hy)
  · rw [if_neg c1] at hx
    rw [if_neg (by omega)] at hy
    by_cases c2 : j - o < vs.length
    · rw [if_pos c2] at hx
      rw [if_pos (by omega)] at hy
      exact hv.2 (j - o) x y hx (by rw [← hy]; congr 1; omega)
    · rw [if_neg c2] at hx
      rw [if_neg (by omega)] at hy
      refine h j x y (by rw [← hx]; congr 1; omega) ?_
      rw [← Array.getElem?_toList, ← hy]; congr 1; omega

theorem setRow_size_eq (w : World) (g : Nat) (cs : Array Value) : (w.setRow g cs).heap.size = w.heap.size := by simp

/-- A write of cells. -/
theorem Ext.write (h : WR P B w0 μ H w) {i o : Nat} {m : Img} {vs vs' : List Value} (hm : μ i = some m) (hw : Dm.wr H i o vs = some H') (hv : VRs μ vs vs') :
    ∃ C e', w.heap[m.blk]? = some (.cells C e' (0, 0)) ∧ m.base + o + vs'.length ≤ C.size ∧ (∀ v ∈ vs', v.oneCell' = true) ∧
      Ext P B w0 μ H w μ H' (w.setRow m.blk (C.toList.take (m.base + o) ++ vs' ++ C.toList.drop (m.base + o + vs'.length)).toArray) := by
  obtain ⟨cs, e, kd, vr, hb, hk, hle, hf, rfl⟩ := wr_eq hw
  obtain ⟨C, e', fr, h1, h0, h2, h3, h4, h5⟩ := h.obj i m _ hm hb
  obtain ⟨h4a, rfl⟩ := h4 hk
  have hi : i < H.length := (List.getElem?_eq_some_iff.1 hb).1
  have hlen := hv.1
  refine ⟨C, e', h1, by omega, hv.flat hf, ?_⟩
  generalize hC2 : (C.toList.take (m.base + o) ++ vs' ++ C.toList.drop (m.base + o + vs'.length)).toArray = C2
  have hsz : C2.size = C.size := by rw [← hC2]; simp; omega
  have hrow := setRow_heap w m.blk C C2 e' (0, 0) h1
  have hoth : ∀ k, k ≠ m.blk → (w.setRow m.blk C2).heap[k]? = w.heap[k]? := fun k hk => setRow_other w m.blk k C2 hk
  have hget : ∀ j, j ≠ i → (H.set i (.cells (cs.take o ++ vs ++ cs.drop (o + vs.length)) e kd (vr + 1)))[j]? = H[j]? := fun j hj => by rw [List.getElem?_set]; simp [Ne.symm hj]
  have hgi : (H.set i (.cells (cs.take o ++ vs ++ cs.drop (o + vs.length)) e kd (vr + 1)))[i]? = some (.cells (cs.take o ++ vs ++ cs.drop (o + vs.length)) e kd (vr + 1)) := by rw [List.getElem?_set]; simp [hi]
  have hrw : RW H i := ⟨_, hb, hk⟩
  have hal : ∀ j, Alive (H.set i (.cells (cs.take o ++ vs ++ cs.drop (o + vs.length)) e kd (vr + 1))) j → Alive H j := by
    intro j ⟨a, hj, hd⟩
    by_cases hji : j = i
    · subst hji; exact ⟨_, hb, rfl⟩
    · rw [hget j hji] at hj; exact ⟨a, hj, hd⟩
  have hrwj : ∀ j, RW (H.set i (.cells (cs.take o ++ vs ++ cs.drop (o + vs.length)) e kd (vr + 1))) j → RW H j := by
    intro j ⟨a, hj, hd⟩
    by_cases hji : j = i
    · subst hji; exact hrw
    · rw [hget j hji] at hj; exact ⟨a, hj, hd⟩
  refine ⟨⟨fun j n hj => by simpa using h.dom j n hj, ?_, fun a b n n' ha hb' hab hra hal' => h.inj a b n n' ha hb' hab (hrwj _ hra) (hal _ hal'), fun j n hj => by simpa using h.lt j n hj, ?_, h.base⟩, by simp, fun _ _ => rfl, ?_, ?_, ?_, by simp, fun j n hj hn => absurd (h.dom j n hn) (by omega)⟩
  · intro j n o' hn ho'
    by_cases hji : j = i
    · subst hji
      rw [hgi] at ho'
      rw [hm] at hn
      cases hn
      cases ho'
      refine ⟨C2, e', (0, 0), hrow, hsz.trans h0, by simp; omega, ?_, fun _ => ⟨h4a, rfl⟩, h5⟩
      rw [← hC2]
      exact VRs.splice h2 hle hv h3
    · rw [hget j hji] at ho'
      cases o' with
      | dead v => exact h.obj j n _ hn ho'
      | cells cs' e2 kd2 v2 =>
        have hne : m.blk ≠ n.blk := h.inj i j m n hm hn (Ne.symm hji) hrw ⟨_, ho', rfl⟩
        exact (h.obj j n _ hn ho').mono (fun _ _ h => h) (hoth _ (Ne.symm hne))
      | loop tm2 ps2 a2 b2 s2 v2 =>
        have hne : m.blk ≠ n.blk := h.inj i j m n hm hn (Ne.symm hji) hrw ⟨_, ho', rfl⟩
        exact (h.obj j n _ hn ho').mono (fun _ _ h => h) (hoth _ (Ne.symm hne))
  · exact ⟨h.below.os, h.below.tape, h.below.output, by simpa using h.below.size, fun k hk => (hoth k (by omega)).trans (h.below.block k hk)⟩
  · intro j hj hn
    exact hget j (fun e => by subst e; rw [hm] at hn; cases hn)
  · intro j hj
    by_cases hji : j = i
    · subst hji
      simp only [Dm.ver, hgi, hb]
      exact ⟨by omega, fun e => by omega⟩
    · simp only [Dm.ver, hget j hji]
      exact ⟨Nat.le_refl _, fun _ => trivial⟩
  · intro b hb' hx
    rcases hx with hx | hx
    · exact hoth b (by omega)
    · exact hoth b (Ne.symm (hx i m hm))


theorem kill_get (H : Heap) (i j : Nat) (h : j ≠ i) : (kill H i)[j]? = H[j]? := by
  unfold kill; rw [List.getElem?_set]; simp [Ne.symm h]
theorem kill_len (H : Heap) (i : Nat) : (kill H i).length = H.length := by simp [kill]

/-- A row with spare places is given up. -/
theorem Ext.kill (h : WR P B w0 μ H w) {i : Nat} {m : Img} (hm : μ i = some m) (hs : m.spare ≠ none) : Ext P B w0 μ H w μ (Dm.kill H i) w := by
  have hi : i < H.length := h.dom i m hm
  have hgi : (Dm.kill H i)[i]? = some (.dead (Dm.ver H i + 1)) := by simp [Dm.kill, hi]
  have hal : ∀ j, Alive (Dm.kill H i) j → Alive H j := by
    intro j ⟨a, hj, hd⟩
    by_cases hji : j = i
    · subst hji; rw [hgi] at hj; cases hj; cases hd
    · rw [kill_get H i j hji] at hj; exact ⟨a, hj, hd⟩
  have hrw : ∀ j, RW (Dm.kill H i) j → RW H j := by
    intro j ⟨a, hj, hd⟩
    by_cases hji : j = i
    · subst hji; rw [hgi] at hj; cases hj; cases hd
    · rw [kill_get H i j hji] at hj; exact ⟨a, hj, hd⟩
  refine ⟨⟨fun j n hj => by rw [kill_len]; exact h.dom j n hj, ?_, fun a b n n' ha hb' hab hra hal' => h.inj a b n n' ha hb' hab (hrw _ hra) (hal _ hal'), h.lt, h.below, h.base⟩, by rw [kill_len]; exact Nat.le_refl _, fun _ _ => rfl, ?_, ?_, fun _ _ _ => rfl, Nat.le_refl _, fun j n hj hn => absurd (h.dom j n hn) (by omega)⟩
  · intro j n o' hn ho'
    by_cases hji : j = i
    · subst hji
      rw [hgi] at ho'
      rw [hm] at hn
      cases hn
      cases ho'
      exact hs
    · rw [kill_get H i j hji] at ho'
      exact h.obj j n _ hn ho'
  · intro j hj hn
    exact kill_get H i j (fun e => by subst e; rw [hm] at hn; cases hn)
  · intro j hj
    by_cases hji : j = i
    · subst hji
      have : Dm.ver (Dm.kill H j) j = Dm.ver H j + 1 := by simp only [Dm.ver, hgi]
      rw [this]
      exact ⟨by omega, fun e => by omega⟩
    · have : Dm.ver (Dm.kill H i) j = Dm.ver H j := by simp only [Dm.ver, kill_get H i j hji]
      rw [this]
      exact ⟨Nat.le_refl _, fun _ => kill_get H i j hji⟩

/-- An append in place to a row that is given up: a new row in the same block. -/
theorem Ext.growIn (h : WR P B w0 μ H w) {i o len : Nat} {m : Img} {size n : Nat} {old new new' : List Value} (e : Nat) (hm : μ i = some m) (hs : m.spare = some size) (hs0 : size ≠ 0) (hr : Dm.rds H i o (len * size) = some old)
    (hn : new.length = n * size) (hf : new.all flat = true) (hv : VRs μ new new') {c' : Nat} (hc : m.base + o + c' * size ≤ m.tot) (hle : len + n ≤ c') :
    ∃ C e', w.heap[m.blk]? = some (.cells C e' (0, 0)) ∧ m.base + (o + len * size) + new'.length ≤ C.size ∧ (∀ v ∈ new', v.oneCell' = true) ∧
      Ext P B w0 μ H w (μ.add H.length ⟨m.blk, m.base + o, m.tot, some size⟩) (Dm.kill H i ++ [.cells (old ++ new) e (.loose size) 0]) (w.setRow m.blk (C.toList.take (m.base + (o + len * size)) ++ new' ++ C.toList.drop (m.base + (o + len * size) + new'.length)).toArray) := by
  obtain ⟨cs, e1, kd, vr, hb, hle1, rfl⟩ := rds_eq hr
  obtain ⟨C, e', fr, h1, h0, h2, h3, h4, h5⟩ := h.obj i m _ hm hb
  have hkd : kd = .loose size := by
    rw [hs] at h5
    cases kd <;> simp [Kd.spare] at h5
    · rw [h5]
    · exact absurd h5 hs0
  subst hkd
  obtain ⟨h4a, rfl⟩ := h4 rfl
  have hi : i < H.length := h.dom i m hm
  have hlen := hv.1
  have hmul : len * size + n * size ≤ c' * size := by rw [← Nat.add_mul]; exact Nat.mul_le_mul_right _ hle
  refine ⟨C, e', h1, by omega, hv.flat hf, ?_⟩
  generalize hC2 : (C.toList.take (m.base + (o + len * size)) ++ new' ++ C.toList.drop (m.base + (o + len * size) + new'.length)).toArray = C2
  have hsz : C2.size = C.size := by rw [← hC2]; simp; omega
  have hrow := setRow_heap w m.blk C C2 e' (0, 0) h1
  have hoth : ∀ k, k ≠ m.blk → (w.setRow m.blk C2).heap[k]? = w.heap[k]? := fun k hk => setRow_other w m.blk k C2 hk
  have hnone : μ H.length = none := h.none_at (Nat.le_refl _)
  have hmo := Mu.add_mono (m := ⟨m.blk, m.base + o, m.tot, some size⟩) hnone
  have hgi : (Dm.kill H i)[i]? = some (.dead (Dm.ver H i + 1)) := by simp [Dm.kill, hi]
  have hspl : ∀ j n, μ.add H.length ⟨m.blk, m.base + o, m.tot, some size⟩ j = some n → (j = H.length ∧ n = ⟨m.blk, m.base + o, m.tot, some size⟩) ∨ (j < H.length ∧ μ j = some n) := by
    intro j n hm
    unfold Mu.add at hm
    split at hm
    · rename_i e; exact .inl ⟨e, by simpa using hm.symm⟩
    · exact .inr ⟨h.dom j n hm, hm⟩
  have hgl : ∀ j, j < H.length → (Dm.kill H i ++ [.cells ((cs.drop o).take (len * size) ++ new) e (.loose size) 0])[j]? = (Dm.kill H i)[j]? := fun j hj => List.getElem?_append_left (by rw [kill_len]; exact hj)
  have hgn : (Dm.kill H i ++ [.cells ((cs.drop o).take (len * size) ++ new) e (.loose size) 0])[H.length]? = some (.cells ((cs.drop o).take (len * size) ++ new) e (.loose size) 0) := by
    rw [List.getElem?_append_right (by rw [kill_len]; exact Nat.le_refl _), kill_len]; simp
  have hrwi : RW H i := ⟨_, hb, rfl⟩
  have hne : ∀ j n, j < H.length → j ≠ i → μ j = some n → Alive H j → n.blk ≠ m.blk := fun j n hj hji hn ha => Ne.symm (h.inj i j m n hm hn (Ne.symm hji) hrwi ha)
  refine ⟨⟨?_, ?_, ?_, ?_, ?_, h.base⟩, by simp [kill_len], ?_, ?_, ?_, ?_, by simp, ?_⟩
  · intro j n hj
    rcases hspl j n hj with ⟨rfl, _⟩ | ⟨hj', _⟩ <;> simp [kill_len] <;> omega
  · intro j n o' hn ho'
    rcases hspl j n hn with ⟨rfl, rfl⟩ | ⟨hj', hn'⟩
    · rw [hgn] at ho'
      cases ho'
      refine ⟨C2, e', (0, 0), hrow, hsz.trans h0, by simp; omega, ?_, fun _ => ⟨h4a, rfl⟩, rfl⟩
      intro j x y hx hy
      refine VR.mono hmo ?_
      rw [← hC2] at hy
      simp only [List.getElem?_toArray] at hy
      rw [List.append_assoc, List.getElem?_append] at hy
      rw [List.getElem?_append] at hx
      simp only [List.length_take, List.length_drop, List.getElem?_take, List.getElem?_drop] at hx hy
      have q1 : min (len * size) (cs.length - o) = len * size := by omega
      have q2 : min (m.base + (o + len * size)) C.toList.length = m.base + (o + len * size) := by simp; omega
      rw [q1] at hx
      rw [q2] at hy
      by_cases c1 : j < len * size
      · rw [if_pos c1, if_pos c1] at hx
        rw [if_pos (by omega), if_pos (by omega)] at hy
        exact h3 (o + j) x y hx (by rw [← Nat.add_assoc]; simpa using hy)
      · rw [if_neg c1] at hx
        rw [if_neg (by omega), List.getElem?_append] at hy
        have hj2 : j - len * size < new.length := (List.getElem?_eq_some_iff.1 hx).1
        rw [if_pos (by omega)] at hy
        exact hv.2 (j - len * size) x y hx (by rw [← hy]; congr 1; omega)
    · rw [hgl j hj'] at ho'
      by_cases hji : j = i
      · subst hji
        rw [hgi] at ho'
        rw [hm] at hn'
        cases hn'
        cases ho'
        exact fun e => by rw [hs] at e; cases e
      · rw [kill_get H i j hji] at ho'
        cases o' with
        | dead v => exact h.obj j n _ hn' ho'
        | cells cs' e2 kd2 v2 => exact (h.obj j n _ hn' ho').mono hmo (hoth _ (hne j n hj' hji hn' ⟨_, ho', rfl⟩))
        | loop tm2 ps2 a2 b2 s2 v2 => exact (h.obj j n _ hn' ho').mono hmo (hoth _ (hne j n hj' hji hn' ⟨_, ho', rfl⟩))
  · intro a b n n' ha hb' hab hra hal'
    have ali : ∀ j, j < H.length → Alive (Dm.kill H i ++ [.cells ((cs.drop o).take (len * size) ++ new) e (.loose size) 0]) j → j ≠ i ∧ Alive H j := by
      intro j hj ⟨c1, hh, c2⟩
      rw [hgl j hj] at hh
      by_cases hji : j = i
      · subst hji; rw [hgi] at hh; cases hh; cases c2
      · rw [kill_get H i j hji] at hh; exact ⟨hji, c1, hh, c2⟩
    have rwi : ∀ j, j < H.length → RW (Dm.kill H i ++ [.cells ((cs.drop o).take (len * size) ++ new) e (.loose size) 0]) j → j ≠ i ∧ RW H j := by
      intro j hj ⟨c1, hh, c2⟩
      rw [hgl j hj] at hh
      by_cases hji : j = i
      · subst hji; rw [hgi] at hh; cases hh; cases c2
      · rw [kill_get H i j hji] at hh; exact ⟨hji, c1, hh, c2⟩
    rcases hspl a n ha with ⟨rfl, rfl⟩ | ⟨ha1, ha2⟩
    · rcases hspl b n' hb' with ⟨rfl, rfl⟩ | ⟨hb1, hb2⟩
      · exact absurd rfl hab
      · obtain ⟨q1, q2⟩ := ali b hb1 hal'
        exact Ne.symm (hne b n' hb1 q1 hb2 q2)
    · obtain ⟨q1, q2⟩ := rwi a ha1 hra
      rcases hspl b n' hb' with ⟨rfl, rfl⟩ | ⟨hb1, hb2⟩
      · exact hne a n ha1 q1 ha2 q2.alive
      · exact h.inj a b n n' ha2 hb2 hab q2 (ali b hb1 hal').2
  · intro j n hn
    rcases hspl j n hn with ⟨_, rfl⟩ | ⟨_, hn'⟩
    · simpa using h.lt i m hm
    · simpa using h.lt j n hn'
  · exact ⟨h.below.os, h.below.tape, h.below.output, by simpa using h.below.size, fun k hk => (hoth k (by omega)).trans (h.below.block k hk)⟩
  · intro j hj
    unfold Mu.add
    rw [if_neg (by omega)]
  · intro j hj hn
    rw [hgl j hj]
    exact kill_get H i j (fun e => by subst e; rw [hm] at hn; cases hn)
  · intro j hj
    by_cases hji : j = i
    · subst hji
      have : Dm.ver (Dm.kill H j ++ [.cells ((cs.drop o).take (len * size) ++ new) e (.loose size) 0]) j = Dm.ver H j + 1 := by simp only [Dm.ver, hgl j hj, hgi]
      rw [this]
      exact ⟨by omega, fun e => by omega⟩
    · have : Dm.ver (Dm.kill H i ++ [.cells ((cs.drop o).take (len * size) ++ new) e (.loose size) 0]) j = Dm.ver H j := by simp only [Dm.ver, hgl j hj, kill_get H i j hji]
      rw [this]
      exact ⟨Nat.le_refl _, fun _ => by rw [hgl j hj]; exact kill_get H i j hji⟩
  · intro b hb' hx
    rcases hx with hx | hx
    · exact hoth b (by omega)
    · exact hoth b (Ne.symm (hx i m hm))
  · intro j n hj hn
    rcases hspl j n hn with ⟨_, rfl⟩ | ⟨hj', _⟩
    · exact .inr ⟨i, m, hm, rfl⟩
    · omega

end Dm
end
section
set_option linter.unusedVariables false
set_option linter.unusedSimpArgs false
namespace Dm
open Go Go.RowKit

variable {P : Program} {B : Nat} {w0 : World} {μ : Mu} {H H' : Heap} {w : World}

/-- What an operation's run has to give. -/
def SimV (B : Nat) (w0 : World) (P : Program) (s : Sem Value) (μ : Mu) (H : Heap) (w : World) (v : Value) (H' : Heap) : Prop :=
  ∃ v' w' μ', s.run P w = .ok v' w' ∧ VR μ' v v' ∧ Ext P B w0 μ H w μ' H' w'
def SimU (B : Nat) (w0 : World) (P : Program) (s : Sem Unit) (μ : Mu) (H : Heap) (w : World) (H' : Heap) : Prop :=
  ∃ w' μ', s.run P w = .ok () w' ∧ Ext P B w0 μ H w μ' H' w'
theorem SimV.same {s : Sem Value} {v v' : Value} (h : WR P B w0 μ H w) (hv : VR μ v v') (hs : s.run P w = .ok v' w) : SimV B w0 P s μ H w v H :=
  ⟨v', w, μ, hs, hv, Ext.refl h⟩

theorem add_at (b o n : Nat) : (⟨b, o, none⟩ : Addr).add n = ⟨b, o + n, none⟩ := by unfold Addr.add; split <;> simp_all

theorem run_info {t : TypeId} {i : TypeInfo} (h : P.info? t = some i) : (typeInfo t).run P w = .ok i w := by simp [typeInfo, h]
theorem run_und {t : TypeId} {d : TypeDesc} (h : P.underlying t = some d) : (underlying t).run P w = .ok d w := by simp [underlying, h]
theorem run_size {t : TypeId} {i : TypeInfo} (h : P.info? t = some i) : (Go.sizeOf t).run P w = .ok i.size w := by simp [Go.sizeOf, run_info h]
theorem run_zero {t : TypeId} {i : TypeInfo} {v : Value} (h : P.info? t = some i) (hz : i.zero = some v) : (zeroValue t).run P w = .ok v w := by simp [zeroValue, run_info h, hz]

/-! ### New blocks -/
theorem Ext.allocAll (h : WR P B w0 μ H w) {cs cs' : List Value} (hv : VRs μ cs cs') (e e' : Nat) (kd : Kd) : Ext P B w0 μ H w (μ.add H.length ⟨w.heap.size, 0, cs'.length, kd.spare⟩) (H ++ [.cells cs e kd 0]) (w.alloc (.cells cs'.toArray e')) := by
  have := Ext.alloc h (C := cs'.toArray) e e' kd (0, 0) (fun _ => rfl) (by simp [hv.1]) (fun j x y hx hy => hv.2 j x y hx (by simpa using hy))
  simpa using this
theorem VR.newPtr (μ : Mu) (n b t : Nat) (s : Option Nat) : VR (μ.add n ⟨b, 0, t, s⟩) (Dm.ptr n 0) (.pointer (some ⟨b, 0, none⟩)) := by
  have := VR.ptr (μ := μ.add n ⟨b, 0, t, s⟩) (i := n) (o := 0) (Mu.add_same μ n ⟨b, 0, t, s⟩)
  simpa [Dm.ptr] using this

theorem sim_newVar (h : WR P B w0 μ H w) {cs : List Value} {v' : Value} (hv : VRs μ cs v'.cells.toList) (e t : Nat) :
    SimV B w0 P (do pure (.pointer (some (← newVar t v')))) μ H w (newAt H) (H ++ [.cells cs e .fix 0]) := by
  refine ⟨_, _, _, ?_, VR.newPtr μ H.length w.heap.size _ _, Ext.allocAll h hv e t .fix⟩
  simp only [newVar, newRow, newObj, Sem.run_bind, Sem.run, Result.andThen_ok, Sem.run_pure, Array.toArray_toList]
  rfl

theorem sim_alloc (h : WR P B w0 μ H w) {t e : Nat} {i : TypeInfo} {z : Value} {cs : List Value} (hi : P.info? t = some i) (hz : i.zero = some z) (hc : VRs μ cs z.cells.toList) :
    SimV B w0 P (Instr.alloc t true (.tuple #[])) μ H w (newAt H) (H ++ [.cells cs e .fix 0]) := by
  obtain ⟨v', w', μ', h1, h2, h3⟩ := sim_newVar (P := P) h hc e t
  refine ⟨v', w', μ', ?_, h2, h3⟩
  simp [Instr.alloc, run_zero hi hz] at h1 ⊢
  exact h1
theorem sim_box (h : WR P B w0 μ H w) {t e : Nat} {v v' : Value} (hv : VR μ v v') :
    SimV B w0 P (Instr.box t v') μ H w (newAt H) (H ++ [.cells v.cells.toList e .fix 0]) := sim_newVar h hv.cells e t

/-! ### Loads and stores -/
theorem sim_ld (h : WR P B w0 μ H w) {t i o : Nat} {v p' : Value} (hp : VR μ (.pointer (some ⟨i, o, none⟩)) p') (hr : rd H i o = some v) (ht : (P.underlying t).isSome = true) (hn : ∀ fs, P.underlying t ≠ some (.struct fs)) (hn2 : ∀ n e, P.underlying t ≠ some (.array n e)) :
    SimV B w0 P (Instr.loadAt t p') μ H w v H := by
  cases hp with
  | ptr hm =>
    obtain ⟨v', hv, hc⟩ := h.rd hm hr
    refine SimV.same h hv ?_
    obtain ⟨d, hd⟩ := Option.isSome_iff_exists.1 ht
    have : (isAgg t).run P w = .ok false w := by
      simp only [isAgg, Sem.run_bind, run_und hd, Result.andThen_ok]
      cases d <;> first | rfl | exact absurd hd (hn _) | exact absurd hd (hn2 _ _)
    simp [Instr.loadAt, Instr.sureAddr, loadVar, this, hc]

theorem run_isAgg_struct {t : TypeId} {fs : Array Field} (h : P.underlying t = some (.struct fs)) : (isAgg t).run P w = .ok true w := by simp [isAgg, run_und h]
theorem run_isAgg_array {t n e : Nat} (h : P.underlying t = some (.array n e)) : (isAgg t).run P w = .ok true w := by simp [isAgg, run_und h]

theorem sim_lds (h : WR P B w0 μ H w) {t i o : Nat} {inf : TypeInfo} {l : List Value} {p' : Value} (hp : VR μ (.pointer (some ⟨i, o, none⟩)) p') (hi : P.info? t = some inf) (hr : rds H i o inf.size = some l)
    (ht : (isAgg t).run P w = .ok true w) : SimV B w0 P (Instr.loadAt t p') μ H w (.agg l.toArray) H := by
  cases hp with
  | ptr hm =>
    obtain ⟨l', hl, hl0, hv, hc⟩ := h.rds hm hr
    refine SimV.same h (v' := .agg l'.toArray) (VRs.agg (by simpa using hv)) ?_
    have hload : (loadCells ⟨(‹Img›).blk, (‹Img›).base + o, none⟩ inf.size).run P w = .ok l'.toArray w := by
      rw [← hl]
      refine run_loadCells_list (P := P) w _ l' fun j v hj => ?_
      rw [add_at]
      exact hc j v hj
    simp [Instr.loadAt, Instr.sureAddr, loadVar, ht, run_size hi, hload]

theorem sim_st (h : WR P B w0 μ H w) {t i o : Nat} {inf : TypeInfo} {p' x x' : Value} (hp : VR μ (.pointer (some ⟨i, o, none⟩)) p') (hx : VR μ x x') (hi : P.info? t = some inf) (hs : x.cells.size = inf.size) (hw : wr H i o x.cells.toList = some H') :
    SimU B w0 P (Instr.storeAt t p' x') μ H w H' := by
  cases hp with
  | ptr hm =>
    obtain ⟨C, e', h1, h2, h3, h4⟩ := Ext.write h hm hw hx.cells
    have hsz : x'.cells.size = inf.size := by rw [← hs]; have := hx.cells.1; simpa using this.symm
    refine ⟨_, _, ?_, h4⟩
    have := run_storeCells_at P (‹Img›).blk ((‹Img›).base + o) e' x'.cells.toList 0 C w h1 (by simpa using h2) h3
    simp only [Nat.add_zero] at this
    simp [hsz] at this
    simp [Instr.storeAt, Instr.sureAddr, storeVar, run_size hi, hsz, this]


/-! ### Addresses, indexes, slices -/
theorem sim_fa (h : WR P B w0 μ H w) {s i o k : Nat} {fs : Array Field} {f : Field} {inf : TypeInfo} {p' : Value} (hp : VR μ (.pointer (some ⟨i, o, none⟩)) p') (hs : P.underlying s = some (.struct fs)) (hf : fs[k]? = some f) (hi : P.info? f.type = some inf) (hz : inf.size ≠ 0) :
    SimV B w0 P (Instr.fieldAt s p' k) μ H w (ptr i (o + f.offset)) H := by
  cases hp with
  | ptr hm =>
    refine SimV.same h (v' := .pointer (some ⟨(‹Img›).blk, (‹Img›).base + o + f.offset, none⟩)) ?_ ?_
    · rw [Nat.add_assoc]; exact VR.ptr hm
    · simp [Instr.fieldAt, run_und hs, hf, Instr.sureAddr, fieldPlace, run_size hi, hz, add_at]

theorem sim_ia (h : WR P B w0 μ H w) {t e b o len cap : Nat} {k : IntKind} {j : Int} {inf : TypeInfo} {s' : Value} (hp : VR μ (.slice (some ⟨b, o, none⟩) len cap) s') (ht : P.underlying t = some (.slice e)) (hi : P.info? e = some inf) (h0 : 0 ≤ j) (h1 : j < len) :
    SimV B w0 P (Instr.indexAt t s' (.int k j)) μ H w (ptr b (o + j.toNat * inf.size)) H := by
  cases hp with
  | sl hm hc =>
    refine SimV.same h (v' := .pointer (some ⟨(‹Img›).blk, (‹Img›).base + o + j.toNat * inf.size, none⟩)) ?_ ?_
    · rw [Nat.add_assoc]; exact VR.ptr hm
    · simp [Instr.indexAt, asIntOf, run_und ht, h0, h1, run_size hi, add_at]

theorem run_bound {k : IntKind} {i : Int} {y : Nat} {c : BoundsCode} (h0 : 0 ≤ i) (h1 : i ≤ y) : (Instr.sliceBound (.int k i) y c).run P w = .ok i.toNat w := by
  simp [Instr.sliceBound, asIntOf, h0, h1]

theorem bnd_eq {x : Option X} {ρ : X → Value} {d y n : Nat} (h : bnd x ρ d y = some n) : (x = none ∧ n = d) ∨ ∃ z k i, x = some z ∧ ρ z = .int k i ∧ 0 ≤ i ∧ i ≤ (y : Int) ∧ n = i.toNat := by
  unfold bnd at h
  split at h
  · simp at h; exact .inl ⟨rfl, h.symm⟩
  · rename_i z
    split at h
    · rename_i k i hz
      split at h
      · rename_i hc; simp at h; exact .inr ⟨_, k, i, rfl, hz, hc.1, hc.2, h.symm⟩
      · simp at h
    · simp at h

/-- The bounds of a slice expression, at a capacity that may be greater. -/
theorem run_bounds {ρ : X → Value} {lo hi mx : Option X} {lo' hi' mx' : Option Value} {b : Bool} {len cap cap' m hh l : Nat}
    (hlo : ∀ z k i, lo = some z → ρ z = .int k i → lo' = some (.int k i)) (hlo0 : lo = none → lo' = none)
    (hhi : ∀ z k i, hi = some z → ρ z = .int k i → hi' = some (.int k i)) (hhi0 : hi = none → hi' = none)
    (hmx : ∀ z k i, mx = some z → ρ z = .int k i → mx' = some (.int k i)) (hmx0 : mx = none → mx' = none)
    (hc : cap ≤ cap') (h1 : bnd mx ρ cap cap = some m) (h2 : bnd hi ρ len m = some hh) (h3 : bnd lo ρ 0 hh = some l) (hmh : mx.isSome = true → hi.isSome = true) :
    (Instr.sliceBounds b len cap' lo' hi' mx').run P w = .ok (l, hh, if mx.isNone then cap' else m) w := by
  unfold Instr.sliceBounds
  rcases bnd_eq h1 with ⟨rfl, rfl⟩ | ⟨zm, km, im, rfl, hzm, hm0, hm1, rfl⟩
  · rw [hmx0 rfl]
    rcases bnd_eq h2 with ⟨rfl, rfl⟩ | ⟨zh, kh, ih, rfl, hzh, hh0, hh1, rfl⟩
    · rw [hhi0 rfl]
      rcases bnd_eq h3 with ⟨rfl, rfl⟩ | ⟨zl, kl, il, rfl, hzl, hl0, hl1, rfl⟩
      · rw [hlo0 rfl]; simp
      · rw [hlo _ _ _ rfl hzl]; simp [run_bound hl0 hl1]
    · rw [hhi _ _ _ rfl hzh]
      have hh2 : ih ≤ (cap' : Int) := by omega
      rcases bnd_eq h3 with ⟨rfl, rfl⟩ | ⟨zl, kl, il, rfl, hzl, hl0, hl1, rfl⟩
      · rw [hlo0 rfl]; simp [run_bound hh0 hh2]
      · rw [hlo _ _ _ rfl hzl]; simp [run_bound hh0 hh2, run_bound hl0 hl1]
  · rw [hmx _ _ _ rfl hzm]
    have hm2 : im ≤ (cap' : Int) := by omega
    rcases bnd_eq h2 with ⟨rfl, rfl⟩ | ⟨zh, kh, ih, rfl, hzh, hh0, hh1, rfl⟩
    · exact absurd (hmh rfl) (by simp)
    · rw [hhi _ _ _ rfl hzh]
      rcases bnd_eq h3 with ⟨rfl, rfl⟩ | ⟨zl, kl, il, rfl, hzl, hl0, hl1, rfl⟩
      · rw [hlo0 rfl]; simp [run_bound hm0 hm2, run_bound hh0 hh1]
      · rw [hlo _ _ _ rfl hzl]; simp [run_bound hm0 hm2, run_bound hh0 hh1, run_bound hl0 hl1]
theorem bnd_le {x : Option X} {ρ : X → Value} {d y n : Nat} (h : bnd x ρ d y = some n) (hd : d ≤ y) : n ≤ y := by
  rcases bnd_eq h with ⟨_, rfl⟩ | ⟨_, _, i, _, _, h0, h1, rfl⟩ <;> omega


theorem WR.kd (h : WR P B w0 μ H w) {i : Nat} {m : Img} (hm : μ i = some m) : m.spare = (kdAt H i).spare ∨ (m.spare ≠ none ∧ kdAt H i = .loose 0 ∧ ∀ cs e kd v, H[i]? ≠ some (.cells cs e kd v)) := by
  have hi := h.dom i m hm
  cases ho : H[i]? with
  | none => rw [List.getElem?_eq_none_iff] at ho; omega
  | some o =>
    have := h.obj i m o hm ho
    cases o with
    | cells cs e kd v => obtain ⟨_, _, _, _, _, _, _, _, h5⟩ := this; left; simp [kdAt, ho, h5]
    | dead v => right; exact ⟨this, by simp [kdAt, ho], fun _ _ _ _ e => by cases e⟩
    | loop tm ps asg body st v => right; obtain ⟨_, _, _, _, _, _, _, _, _, _, h9⟩ := this; exact ⟨h9, by simp [kdAt, ho], fun _ _ _ _ e => by cases e⟩

/-- A slice of a slice. -/
theorem sim_sl (h : WR P B w0 μ H w) {t e len cap size : Nat} {a : Option Addr} {inf : TypeInfo} {s' : Value} {ρ : X → Value} {lo hi mx : Option X} {lo' hi' mx' : Option Value} {m hh l : Nat} {v : Value}
    (hs : VR μ (.slice a len cap) s') (ht : P.underlying t = some (.slice e)) (hi0 : P.info? e = some inf) (hsz : inf.size = size)
    (hlo : ∀ z k i, lo = some z → ρ z = .int k i → lo' = some (.int k i)) (hlo0 : lo = none → lo' = none)
    (hhi : ∀ z k i, hi = some z → ρ z = .int k i → hi' = some (.int k i)) (hhi0 : hi = none → hi' = none)
    (hmx : ∀ z k i, mx = some z → ρ z = .int k i → mx' = some (.int k i)) (hmx0 : mx = none → mx' = none) (hmh : mx.isSome = true → hi.isSome = true)
    (h1 : bnd mx ρ cap cap = some m) (h2 : bnd hi ρ len m = some hh) (h3 : bnd lo ρ 0 hh = some l)
    (hv : slV H size mx.isNone a hh l m = some v) :
    SimV B w0 P (Instr.sliceAt t s' lo' hi' mx') μ H w v H := by
  subst hsz
  have hl0 : l ≤ hh := bnd_le h3 (Nat.zero_le _)
  have run : ∀ (a' : Option Addr) (c' : Nat), cap ≤ c' → (Instr.sliceAt t (.slice a' len c') lo' hi' mx').run P w = .ok (.slice (if (if mx.isNone then c' else m) = l then a' else a'.map (·.add (l * inf.size))) (hh - l) ((if mx.isNone then c' else m) - l)) w := by
    intro a' c' hc
    have := run_bounds (P := P) (w := w) (b := true) hlo hlo0 hhi hhi0 hmx hmx0 hc h1 h2 h3 hmh
    simp only [Instr.sliceAt, Instr.slice, Sem.run_bind, run_und ht, Result.andThen_ok, this, run_size hi0, Sem.run_pure]
  cases hs with
  | sl0 =>
    simp only [slV, Option.some.injEq] at hv
    subst hv
    refine SimV.same h (v' := .slice none (hh - l) (m - l)) (VR.sl0 _ _) ?_
    rw [run none cap (Nat.le_refl _)]
    have : (if mx.isNone then cap else m) = m := by
      cases mx with
      | none => simp [bnd] at h1; simp [h1]
      | some x => rfl
    rw [this]
    simp
  | sl9 => cases hv
  | @sl i o _ _ c' mm hm hc =>
    simp only [slV] at hv
    have hcc : cap ≤ c' := by rcases hc with e | ⟨_, _, e, _⟩ <;> omega
    have hr := run (some ⟨mm.blk, mm.base + o, none⟩) c' hcc
    have hkd := h.kd hm
    have hmc : mx.isNone = true → m = cap := by
      intro hx
      cases mx with
      | none => simpa [bnd] using h1.symm
      | some x => simp at hx
    split at hv
    · rename_i hsp
      have hsp2 : mm.spare = none := by
        rcases hkd with e | ⟨_, e, _⟩
        · rw [e, hsp]
        · rw [e] at hsp; cases hsp
      have hcap : c' = cap := by
        rcases hc with e | ⟨sz, e, _⟩
        · exact e
        · rw [hsp2] at e; cases e
      subst hcap
      have hm2 : (if mx.isNone then c' else m) = m := by
        split
        · rename_i hx; exact (hmc hx).symm
        · rfl
      rw [hm2] at hr
      split at hv
      · rename_i hml
        simp only [Option.some.injEq] at hv
        subst hv
        rw [if_pos hml] at hr
        exact SimV.same h (VR.sl hm (.inl rfl)) hr
      · rename_i hml
        simp only [Option.some.injEq] at hv
        subst hv
        rw [if_neg hml] at hr
        simp only [Option.map_some, add_at] at hr
        refine SimV.same h ?_ hr
        rw [Nat.add_assoc]
        exact VR.sl hm (.inl rfl)
    · rename_i sz hsp
      split at hv
      · rename_i hx
        split at hv
        · rename_i hc2
          obtain ⟨rfl, hs0, hml, hlm⟩ := hc2
          simp only [Option.some.injEq] at hv
          subst hv
          rw [if_pos hx] at hr
          have e1 := hmc hx
          subst e1
          rw [if_neg (by omega)] at hr
          simp only [Option.map_some, add_at] at hr
          refine SimV.same h ?_ hr
          rw [Nat.add_assoc]
          refine VR.sl hm ?_
          rcases hc with e | ⟨sz, e, h4, h5⟩
          · left; omega
          · right
            have hsz : sz = inf.size := by
              rcases hkd with e' | ⟨_, e', _⟩
              · rw [e, hsp] at e'; simpa using e'
              · rw [e'] at hsp; simp [Kd.spare] at hsp; exact absurd hsp.symm hs0
            subst hsz
            refine ⟨_, e, by omega, ?_⟩
            have : l * inf.size + (c' - l) * inf.size = c' * inf.size := by rw [← Nat.add_mul]; congr 1; omega
            omega
        · cases hv
      · rename_i hx
        have hx2 : mx.isNone = false := by cases mx with
          | none => simp at hx
          | some x => rfl
        rw [hx2] at hr
        simp only [Bool.false_eq_true, if_false] at hr
        split at hv
        · rename_i hml
          simp only [Option.some.injEq] at hv
          subst hv
          rw [if_pos hml] at hr
          exact SimV.same h (VR.sl hm (.inl rfl)) hr
        · rename_i hml
          simp only [Option.some.injEq] at hv
          subst hv
          rw [if_neg hml] at hr
          simp only [Option.map_some, add_at] at hr
          refine SimV.same h ?_ hr
          rw [Nat.add_assoc]
          exact VR.sl hm (.inl rfl)


theorem sim_sls (h : WR P B w0 μ H w) {t : Nat} {s : ByteArray} {s' : Value} {ρ : X → Value} {lo hi : Option X} {lo' hi' : Option Value} {hh l : Nat}
    (hs : VR μ (.string s) s') (ht : P.underlying t = some .string)
    (hlo : ∀ z k i, lo = some z → ρ z = .int k i → lo' = some (.int k i)) (hlo0 : lo = none → lo' = none)
    (hhi : ∀ z k i, hi = some z → ρ z = .int k i → hi' = some (.int k i)) (hhi0 : hi = none → hi' = none)
    (h2 : bnd hi ρ s.size s.size = some hh) (h3 : bnd lo ρ 0 hh = some l) :
    SimV B w0 P (Instr.sliceAt t s' lo' hi' none) μ H w (.string (s.extract l hh)) H := by
  cases hs with
  | str =>
    refine SimV.same h (VR.str _) ?_
    have := run_bounds (P := P) (w := w) (b := false) (mx := none) (mx' := none) (cap := s.size) (cap' := s.size) hlo hlo0 hhi hhi0 (fun _ _ _ e => by cases e) (fun _ => rfl) (Nat.le_refl _) (by rfl) h2 h3 (by simp)
    simp only [Instr.sliceAt, Instr.slice, Sem.run_bind, run_und ht, Result.andThen_ok, Option.isSome_none, Bool.false_eq_true, if_false, Sem.run_pure, this]

theorem zeros_get (z : List Value) : ∀ (c j : Nat), j < c * z.length → (zeros z c)[j]? = z[j % z.length]?
  | 0, j, h => by simp at h
  | c + 1, j, h => by
    have hz : 0 < z.length := by
      rcases Nat.eq_zero_or_pos z.length with e | e
      · rw [e] at h; simp at h
      · exact e
    simp only [zeros]
    rw [List.getElem?_append]
    split
    · rename_i hj; rw [Nat.mod_eq_of_lt hj]
    · rename_i hj
      have hle : z.length ≤ j := by omega
      rw [Nat.succ_mul] at h
      rw [zeros_get z c (j - z.length) (by omega)]
      congr 1
      conv => rhs; rw [← Nat.sub_add_cancel hle]
      rw [Nat.add_mod_right]
theorem zeros_len (z : List Value) : ∀ c, (zeros z c).length = c * z.length
  | 0 => by simp [zeros]
  | c + 1 => by simp [zeros, zeros_len z c, Nat.succ_mul]; omega

/-- The model's row of zeros. -/
theorem zeros_eq (z : Array Value) (c size : Nat) (hz : z.size = size) : ((Array.range (c * size)).map fun i => z[i % z.size]!) = (zeros z.toList c).toArray := by
  subst hz
  apply Array.ext_getElem?
  intro j
  simp only [Array.getElem?_map, Array.getElem?_range, List.getElem?_toArray]
  by_cases hj : j < c * z.size
  · have hp : 0 < z.size := by
      rcases Nat.eq_zero_or_pos z.size with e | e
      · rw [e] at hj; simp at hj
      · exact e
    have hm : j % z.size < z.size := Nat.mod_lt _ hp
    rw [zeros_get z.toList c j (by simpa using hj)]
    simp [hj, hm]
  · rw [List.getElem?_eq_none (by rw [zeros_len]; simpa using Nat.le_of_not_lt hj)]
    simp [hj]
theorem VRs.zeros {z z' : List Value} (h : VRs μ z z') : ∀ c, VRs μ (Dm.zeros z c) (Dm.zeros z' c)
  | 0 => VRs.nil μ
  | c + 1 => VRs.append h (VRs.zeros h c)

theorem wrap64_id {n : Int} (h0 : -9223372036854775808 ≤ n) (h1 : n ≤ 9223372036854775807) : IntKind.i64.wrap n = n := by
  simp only [IntKind.wrap, IntKind.bits, IntKind.signed]
  simp
  omega

theorem sim_mk (h : WR P B w0 μ H w) {t e e0 : Nat} {inf : TypeInfo} {z : Value} {cs : List Value} {l c : Int} (ht : P.underlying t = some (.slice e)) (hi : P.info? e = some inf) (hz : inf.zero = some z) (hzs : z.cells.size = inf.size) (hcs : VRs μ cs z.cells.toList)
    (h0 : 0 ≤ l) (h1 : l ≤ c) (h2 : c ≤ 9223372036854775807) (h3 : inf.bytes * c ≤ 281474976710656) :
    SimV B w0 P (Instr.makeSlice t (.int .i64 l) (.int .i64 c)) μ H w (.slice (some ⟨H.length, 0, none⟩) l.toNat c.toNat) (H ++ [.cells (zeros cs c.toNat) e0 .fix 0]) := by
  have hrow : ((Array.range (c.toNat * inf.size)).map fun i => z.cells[i % z.cells.size]!) = (zeros z.cells.toList c.toNat).toArray := zeros_eq _ _ _ hzs
  refine ⟨.slice (some ⟨w.heap.size, 0, none⟩) l.toNat c.toNat, _, _, ?_, ?_, Ext.allocAll h (hcs.zeros c.toNat) e0 e .fix⟩
  · have wl := wrap64_id (n := l) (by omega) (by omega)
    have wc := wrap64_id (n := c) (by omega) (by omega)
    have e1 : ¬ ((inf.bytes : Int) * c > 2 ^ 48) := by omega
    have e2 : ¬ (c < 0) := by omega
    have e3 : ¬ (l < 0) := by omega
    have e4 : ¬ (l > c) := by omega
    have hask : ∀ n, (askRoom n).run P w = .ok () w := by intro n; unfold askRoom; split <;> rfl
    by_cases hc0 : c.toNat * inf.size = 0
    · have hr2 : ((Array.range (c.toNat * inf.size)).map fun i => (#[] : Array Value)[i % (#[] : Array Value).size]!) = (zeros z.cells.toList c.toNat).toArray := by
        rw [← hrow, hc0]; simp
      simp only [Instr.makeSlice, Sem.run_bind, run_und ht, Result.andThen_ok, asInt, asIntOf, Sem.run_pure, run_info hi, wl, wc, e1, e2, e3, e4, decide_false, Bool.or_self, Bool.false_eq_true, if_false, hask, run_size hi, hc0, if_true, newRow, newObj, Sem.run]
      rw [hc0] at hr2
      rw [hr2]
      rfl
    · simp only [Instr.makeSlice, Sem.run_bind, run_und ht, Result.andThen_ok, asInt, asIntOf, Sem.run_pure, run_info hi, wl, wc, e1, e2, e3, e4, decide_false, Bool.or_self, Bool.false_eq_true, if_false, hask, run_size hi, hc0, run_zero hi hz, newRow, newObj, Sem.run]
      rw [hrow]
      rfl
  · have := VR.sl (μ := μ.add H.length ⟨w.heap.size, 0, (zeros z.cells.toList c.toNat).length, Kd.fix.spare⟩) (o := 0) (n := l.toNat) (c := c.toNat) (c' := c.toNat) (Mu.add_same μ H.length _) (.inl rfl)
    simpa using this

end Dm
end
section
set_option linter.unusedVariables false
set_option linter.unusedSimpArgs false
namespace Dm
open Go Go.RowKit

variable {P : Program} {B : Nat} {w0 : World} {μ : Mu} {H H' : Heap} {w : World}

theorem run_bin {op : BinOp} {t : TypeId} {x y : Operand} {a b v : Value} (h : binV op a b = some v) :
    (do eqGuard op t x y a b; binOp op t a b : Sem Value).run P w = .ok v w := by
  unfold binV at h
  split at h
  · rename_i k m k' n
    have hg : (eqGuard op t x y (.int k m) (.int k' n)).run P w = .ok () w := by cases op <;> rfl
    simp only [Sem.run_bind, hg, Result.andThen_ok]
    split at h
    · unfold shV at h
      split at h
      · cases h
      · rename_i hn
        simp only [Option.some.injEq] at h
        subst h
        simp [binOp, Op.shift, hn]
    · unfold shV at h
      split at h
      · cases h
      · rename_i hn
        simp only [Option.some.injEq] at h
        subst h
        simp [binOp, Op.shift, hn]
    · rename_i h1 h2
      split at h
      · rename_i hk
        subst hk
        cases op <;> first | exact absurd rfl h1 | exact absurd rfl h2 | skip
        all_goals simp only [intV] at h
        case quo =>
          split at h
          · cases h
          · rename_i h0; simp only [Option.some.injEq] at h; subst h; simp [binOp, Op.intDiv, h0]
        case rem =>
          split at h
          · cases h
          · rename_i h0; simp only [Option.some.injEq] at h; subst h; simp [binOp, Op.intDiv, h0]
        all_goals
          simp only [Option.some.injEq] at h
          subst h
          simp [binOp, Op.intArith, Op.intBits, Op.intCmp]
      · cases h
  · rename_i s r
    have hg : (eqGuard op t x y (.string s) (.string r)).run P w = .ok () w := by cases op <;> rfl
    simp only [Sem.run_bind, hg, Result.andThen_ok]
    unfold strV at h
    cases op <;> simp only at h <;> first | cases h | skip
    case add =>
      split at h
      · rename_i hle
        simp only [Option.some.injEq] at h
        subst h
        have : ¬ ((s.size + r.size : Nat) : Int) > IntKind.i64.max := by simp [IntKind.max, IntKind.signed, IntKind.bits]; omega
        simp only [binOp, Op.stringOp, this, if_false, Sem.run_pure]
      · cases h
    all_goals
      try (simp only [Option.some.injEq] at h)
      try subst h
      simp [binOp, Op.stringOp]
  · cases h

theorem intV_vr {op : BinOp} {k : IntKind} {a b : Int} {v : Value} (h : intV op k a b = some v) : VR μ v v := by
  cases op <;> simp only [intV] at h <;> (try split at h) <;> first | (cases h; done) | (simp only [Option.some.injEq] at h; subst h; first | exact VR.int _ _ | exact VR.bool _)
theorem shV_vr {op : BinOp} {k : IntKind} {a b : Int} {v : Value} (h : shV op k a b = some v) : VR μ v v := by
  unfold shV at h
  split at h
  · cases h
  · cases op <;> simp only at h <;> first | (cases h; done) | (simp only [Option.some.injEq] at h; subst h; exact VR.int _ _)
theorem strV_vr {op : BinOp} {a b : ByteArray} {v : Value} (h : strV op a b = some v) : VR μ v v := by
  cases op <;> simp only [strV] at h <;> (try split at h) <;> first | (cases h; done) | (simp only [Option.some.injEq] at h; subst h; first | exact VR.str _ | exact VR.bool _)
theorem binV_vr {op : BinOp} {a b v a' b' : Value} (h : binV op a b = some v) (ha : VR μ a a') (hb : VR μ b b') : a' = a ∧ b' = b ∧ VR μ v v := by
  unfold binV at h
  split at h
  · cases ha; cases hb
    refine ⟨rfl, rfl, ?_⟩
    split at h
    · exact shV_vr h
    · exact shV_vr h
    · split at h
      · exact intV_vr h
      · cases h
  · cases ha; cases hb
    exact ⟨rfl, rfl, strV_vr h⟩
  · cases h

theorem sim_bin (h : WR P B w0 μ H w) {op : BinOp} {t : TypeId} {x y : Operand} {a b v a' b' : Value} (hv : binV op a b = some v) (ha : VR μ a a') (hb : VR μ b b') :
    SimV B w0 P (do eqGuard op t x y a' b'; binOp op t a' b') μ H w v H := by
  obtain ⟨rfl, rfl, hvv⟩ := binV_vr hv ha hb
  exact SimV.same h hvv (run_bin hv)

/-! ### Equality -/
theorem run_part_int {f : Field} (hf : intField P f = true) {xs : Array Value} {v : Value} (hx : xs[f.offset]? = some v) : (part f.type xs f.offset).run P w = .ok v w := by
  unfold intField at hf
  simp only [Bool.and_eq_true] at hf
  obtain ⟨⟨_, h2⟩, h3⟩ := hf
  split at h2
  · rename_i k hk
    have : (isAgg f.type).run P w = .ok false w := by simp [isAgg, run_und hk]
    simp [part, this, hx]
  · cases h2

theorem VR.at {xs xs' : Array Value} (h : VR μ (.agg xs) (.agg xs')) {i : Nat} {k : IntKind} {n : Int} (hx : xs[i]? = some (.int k n)) : xs'[i]? = some (.int k n) := by
  cases h with
  | agg ha h1 =>
    have hi : i < xs.size := (Array.getElem?_eq_some_iff.1 hx).1
    have hy : xs'[i]? = some xs'[i] := Array.getElem?_eq_getElem (by omega)
    have := h1 i _ _ hx hy
    rw [hy]
    generalize xs'[i] = y at this
    cases this
    rfl

theorem run_eqInts {xs ys xs' ys' : Array Value} (hx : VR μ (.agg xs) (.agg xs')) (hy : VR μ (.agg ys) (.agg ys')) {r : Bool} (d : Nat) : ∀ fs : List Field, (∀ f ∈ fs, intField P f = true) → eqInts xs ys (fs.map (·.offset)) = some r →
    (Op.eqFields (d + 1) xs' ys' fs).run P w = .ok r w
  | [], _, h => by simp [eqInts] at h; simp [Op.eqFields, h]
  | f :: fs, hf, h => by
    have hf0 := hf f (by simp)
    have hne : f.name ≠ "_" := by
      unfold intField at hf0
      simp only [Bool.and_eq_true] at hf0
      simpa using hf0.1.1
    have hk : ∃ k, P.underlying f.type = some (.int k) := by
      unfold intField at hf0
      simp only [Bool.and_eq_true] at hf0
      have := hf0.1.2
      split at this
      · exact ⟨_, ‹_›⟩
      · cases this
    obtain ⟨k0, hk⟩ := hk
    simp only [List.map_cons, eqInts] at h
    split at h
    · rename_i k a k' b h1 h2
      split at h
      · rename_i e
        subst e
        simp only [Op.eqFields, hne, ne_eq, not_false_eq_true, if_true, Sem.run_bind, run_part_int hf0 (VR.at hx h1), run_part_int hf0 (VR.at hy h2), Result.andThen_ok, run_equalIn_int w d f.type k k0 a b hk]
        split at h
        · rename_i e
          subst e
          simpa using run_eqInts hx hy d fs (fun g hg => hf g (by simp [hg])) h
        · rename_i e
          simp only [Option.some.injEq] at h
          subst h
          simp [e]
      · cases h
    · cases h

theorem run_eq_of {t : TypeId} {a b : Value} {r : Bool} (neq : Bool) (x y : Operand) (he : (Op.equalIn (9999 + 1) t a b).run P w = .ok r w)
    (h1 : binOp .eql t a b = (do pure (.bool (← Op.equal t a b)))) (h2 : binOp .neq t a b = (do pure (.bool (!(← Op.equal t a b))))) (hg : ∀ op, (eqGuard op t x y a b).run P w = .ok () w) :
    (do eqGuard (if neq then .neq else .eql) t x y a b; binOp (if neq then .neq else .eql) t a b : Sem Value).run P w = .ok (.bool (if neq then !r else r)) w := by
  have he2 : (Op.equal t a b).run P w = .ok r w := he
  cases neq
  · simp only [Bool.false_eq_true, if_false, Sem.run_bind, hg, Result.andThen_ok, h1, he2, Sem.run_pure]
  · simp only [if_true, Sem.run_bind, hg, Result.andThen_ok, h2, he2, Sem.run_pure]

theorem run_equalIn_sl {t e : TypeId} (d : Nat) {a b : Option Addr} {n c n' c' : Nat} (h : P.underlying t = some (.slice e)) (hn : a = none ∨ b = none) :
    (Op.equalIn (d + 1) t (.slice a n c) (.slice b n' c')).run P w = .ok (a.isNone && b.isNone) w := by
  rcases hn with rfl | rfl
  · cases b <;> simp [Op.equalIn, run_und h]
  · cases a <;> simp [Op.equalIn, run_und h]

theorem run_equalIn_nilI {t : TypeId} {ms : Array (String × TypeId)} (d : Nat) (h : P.underlying t = some (.interface ms)) : (Op.equalIn (d + 1) t .nilIface .nilIface).run P w = .ok true w := by
  simp [Op.equalIn, run_und h]
theorem run_equalIn_iface {t u : TypeId} {v : Value} {ms : Array (String × TypeId)} (d : Nat) (h : P.underlying t = some (.interface ms)) : (Op.equalIn (d + 1) t (.iface u v) .nilIface).run P w = .ok false w := by
  simp [Op.equalIn, run_und h]
theorem sim_eq (h : WR P B w0 μ H w) {t : TypeId} {k : EqK} {x y : Operand} {a b a' b' : Value} {r : Bool} (neq : Bool) (hy : k = .nilI → ∃ v, y = .const v) (hc : chkEq P t k = true) (hv : eqV k a b = some r) (ha : VR μ a a') (hb : VR μ b b') :
    SimV B w0 P (do eqGuard (if neq then .neq else .eql) t x y a' b'; binOp (if neq then .neq else .eql) t a' b') μ H w (.bool (if neq then !r else r)) H := by
  refine SimV.same h (VR.bool _) ?_
  unfold eqV at hv
  split at hv
  · rename_i p q
    cases ha; cases hb
    simp only [Option.some.injEq] at hv
    subst hv
    simp only [chkEq] at hc
    split at hc
    · rename_i ht
      exact run_eq_of neq x y (run_equalIn_bool' w 9999 t p q ht) rfl rfl (fun op => by cases op <;> rfl)
    · cases hc
  · rename_i n c s n' c'
    simp only [chkEq] at hc
    split at hc
    · rename_i e ht
      simp only [Option.some.injEq] at hv
      subst hv
      cases ha
      cases hb with
      | sl0 => exact run_eq_of neq x y (run_equalIn_sl 9999 ht (.inl rfl)) rfl rfl (fun op => by cases op <;> rfl)
      | sl hm hc => exact run_eq_of neq x y (run_equalIn_sl 9999 ht (.inl rfl)) rfl rfl (fun op => by cases op <;> rfl)
      | sl9 => exact run_eq_of neq x y (run_equalIn_sl 9999 ht (.inl rfl)) rfl rfl (fun op => by cases op <;> rfl)
    · cases hc
  · rename_i s n c n' c'
    simp only [chkEq] at hc
    split at hc
    · rename_i e ht
      simp only [Option.some.injEq] at hv
      subst hv
      cases hb
      cases ha with
      | sl hm hc => exact run_eq_of neq x y (run_equalIn_sl 9999 ht (.inr rfl)) rfl rfl (fun op => by cases op <;> rfl)
      | sl9 => exact run_eq_of neq x y (run_equalIn_sl 9999 ht (.inr rfl)) rfl rfl (fun op => by cases op <;> rfl)
    · cases hc
  · rename_i offs xs ys
    simp only [chkEq] at hc
    split at hc
    · rename_i fs ht
      simp only [Bool.and_eq_true, beq_iff_eq, Bool.not_eq_true'] at hc
      obtain ⟨⟨⟨h1, h2⟩, h3⟩, h4⟩ := hc
      subst h2
      have hfo : P.underlying t = some (.struct (P.fieldsOf t)) := by simp [Program.fieldsOf, ht]
      have hfo2 : P.fieldsOf t = fs := by simp [Program.fieldsOf, ht]
      cases ha with
      | agg ha1 ha2 =>
        cases hb with
        | agg hb1 hb2 =>
          have := run_eqInts (w := w) (P := P) (VR.agg ha1 ha2) (VR.agg hb1 hb2) 9998 fs.toList (List.all_eq_true.1 h1) hv
          cases neq
          · simp only [Bool.false_eq_true, if_false, Sem.run_bind, run_eqGuard_agg w _ _ _ _ _ _ h4, Result.andThen_ok, run_eql_struct, run_equalIn_struct w 9999 t _ _ hfo h3, hfo2, this]
          · simp only [if_true, Sem.run_bind, run_eqGuard_agg w _ _ _ _ _ _ h4, Result.andThen_ok, run_neq_struct, run_equalIn_struct w 9999 t _ _ hfo h3, hfo2, this]
    · cases hc
  · obtain ⟨v, rfl⟩ := hy rfl
    simp only [chkEq] at hc
    split at hc
    · rename_i ms ht
      simp only [Option.some.injEq] at hv
      subst hv
      cases ha
      cases hb
      exact run_eq_of neq x _ (run_equalIn_nilI 9999 ht) rfl rfl (fun op => by cases op <;> first | rfl | (simp [eqGuard]))
    · cases hc
  · obtain ⟨v, rfl⟩ := hy rfl
    simp only [chkEq] at hc
    split at hc
    · rename_i ms ht
      simp only [Option.some.injEq] at hv
      subst hv
      cases hb
      cases ha with
      | iface t hx => exact run_eq_of neq x _ (run_equalIn_iface 9999 ht) rfl rfl (fun op => by cases op <;> rfl)
    · cases hc
  · cases hv

end Dm
end
section
set_option linter.unusedVariables false
set_option linter.unusedSimpArgs false
namespace Dm
open Go Go.RowKit

variable {P : Program} {B : Nat} {w0 : World} {μ : Mu} {H H' : Heap} {w : World}

theorem fold_set (off : Nat) : ∀ (l : List Value) (s : Nat) (cs : Array Value), off + s + l.length ≤ cs.size →
    ((l.zipIdx s).foldl (fun cs (p : Value × Nat) => cs.setIfInBounds (off + p.2) p.1) cs) = (cs.toList.take (off + s) ++ l ++ cs.toList.drop (off + s + l.length)).toArray
  | [], s, cs, h => by simp
  | v :: l, s, cs, h => by
    simp only [List.zipIdx_cons, List.foldl_cons]
    rw [fold_set off l (s + 1) _ (by simp at h ⊢; omega)]
    have hs : (cs.setIfInBounds (off + s) v).toList = cs.toList.set (off + s) v := by simp
    rw [hs]
    have := list_seg_step cs.toList (off + s) v l (by simp at h ⊢; omega)
    rw [show off + (s + 1) = off + s + 1 from by omega]
    rw [this]
    simp

def PM (place : Nat → Option (Nat × Nat)) (μ : Mu) (ρ : X → Value) : List (Nat × Nat × X) → List (Nat × Value) → Prop
  | [], [] => True
  | p :: ps, q :: qs => place q.1 = some (p.1, p.2.1) ∧ VR μ (ρ p.2.2) q.2 ∧ PM place μ ρ ps qs
  | _, _ => False

theorem fill_lay {place : Nat → Option (Nat × Nat)} {ρ : X → Value} : ∀ (ps : List (Nat × Nat × X)) (qs : List (Nat × Value)) (z : List Value) (z' : Array Value) (l : List (Nat × List Value)) (cs : List Value),
    VRs μ z z'.toList → PM place μ ρ ps qs → partsOf ρ ps = some l → lay z l = some cs → ∃ C, Instr.fill place z' qs = some C ∧ VRs μ cs C.toList
  | [], [], z, z', l, cs, hz, _, hp, hl => by
    simp [partsOf] at hp
    subst hp
    simp [lay] at hl
    subst hl
    exact ⟨z', rfl, hz⟩
  | (o, n, x) :: ps, (i, v) :: qs, z, z', l, cs, hz, hm, hp, hl => by
    obtain ⟨h1, h2, h3⟩ := hm
    simp only [partsOf] at hp
    split at hp
    · rename_i hn
      cases hps : partsOf ρ ps with
      | none => simp [hps] at hp
      | some l1 =>
        simp [hps] at hp
        subst hp
        simp only [lay] at hl
        split at hl
        · rename_i hle
          have hv := h2.cells
          have hvl := hv.1
          have hzl := hz.1
          simp only [Array.length_toList] at hvl hle hzl
          have hfold := fold_set o v.cells.toList 0 z' (by simp; omega)
          have e1 : v.cells.size = n := by omega
          have e2 : ¬ o + v.cells.size > z'.size := by omega
          have hnew : VRs μ (z.take o ++ (ρ x).cells.toList ++ z.drop (o + (ρ x).cells.toList.length)) (z'.toList.take (o + 0) ++ v.cells.toList ++ z'.toList.drop (o + 0 + v.cells.toList.length)).toArray.toList := by
            have hl2 : (ρ x).cells.toList.length = v.cells.toList.length := hv.1
            rw [hl2]
            simp only [Nat.add_zero]
            exact ((hz.take o).append hv).append (hz.drop _)
          obtain ⟨C, hC1, hC2⟩ := fill_lay ps qs _ _ l1 cs hnew h3 hps hl
          refine ⟨C, ?_, hC2⟩
          simp only [Instr.fill, h1, e1, e2]
          simp only [ne_eq, not_true_eq_false, decide_false, Bool.or_self, Bool.false_eq_true, if_false]
          rw [← hC1, ← hfold, ← Array.foldl_toList]
          simp
          intro hh
          omega
        · cases hl
    · cases hp
  | [], _ :: _, _, _, _, _, _, hm, _, _ => hm.elim
  | _ :: _, [], _, _, _, _, _, hm, _, _ => hm.elim


theorem fill_congr {p q : Nat → Option (Nat × Nat)} : ∀ (l : List (Nat × Value)) (c : Array Value), (∀ x ∈ l, p x.1 = q x.1) → Instr.fill p c l = Instr.fill q c l
  | [], _, _ => rfl
  | (i, v) :: r, c, h => by
    simp only [Instr.fill]
    rw [h (i, v) (by simp)]
    cases q (i, v).1 with
    | none => rfl
    | some x =>
      simp only []
      split
      · rfl
      · exact fill_congr r _ (fun x hx => h x (by simp [hx]))

theorem PM.placed {place : Nat → Option (Nat × Nat)} {ρ : X → Value} : ∀ (ps : List (Nat × Nat × X)) (qs : List (Nat × Value)), PM place μ ρ ps qs → ∀ x ∈ qs, (place x.1).isSome = true
  | [], [], _, x, hx => by simp at hx
  | p :: ps, q :: qs, h, x, hx => by
    rcases List.mem_cons.1 hx with rfl | hx
    · rw [h.1]; rfl
    · exact PM.placed ps qs h.2.2 x hx
  | [], _ :: _, h, _, _ => h.elim
  | _ :: _, [], h, _, _ => h.elim

theorem sim_build (h : WR P B w0 μ H w) {t : TypeId} {inf : TypeInfo} {z : Value} {zs : List Value} {ρ : X → Value} {ps : List (Nat × Nat × X)} {qs : Array (Nat × Value)} {l : List (Nat × List Value)} {cs : List Value}
    (hi : P.info? t = some inf) (hz : inf.zero = some z) (hzs : VRs μ zs z.cells.toList) (hu : (∃ fs, P.underlying t = some (.struct fs)) ∨ ∃ n e, P.underlying t = some (.array n e))
    (hm : PM (placeAt P t) μ ρ ps qs.toList) (hp : partsOf ρ ps = some l) (hl : lay zs l = some cs) (hne : ps ≠ [] ∨ ∀ fs, P.underlying t = some (.struct fs) → (fs.toList.mapM fun f => (P.info? f.type).map fun i => (f.offset, i.size)).isSome = true) (hne2 : ∀ n e, P.underlying t = some (.array n e) → (P.info? e).isSome = true) :
    SimV B w0 P (Instr.build t qs) μ H w (.agg cs.toArray) H := by
  obtain ⟨C, hC1, hC2⟩ := fill_lay ps qs.toList zs z.cells l cs hzs hm hp hl
  refine SimV.same h (VRs.agg hC2) ?_
  refine run_build w t qs C ?_
  rcases hu with ⟨fs, hu⟩ | ⟨n, e, hu⟩
  · unfold Program.built
    simp only [hi, hu, hz]
    cases hpl : fs.toList.mapM (fun f => (P.info? f.type).map fun i => (f.offset, i.size)) with
    | none =>
      exfalso
      rcases hne with hne | hne
      · cases hq : qs.toList with
        | nil => rw [hq] at hm; cases ps with
          | nil => exact hne rfl
          | cons p ps => exact hm
        | cons q qs' =>
          have := PM.placed ps qs.toList hm q (by rw [hq]; simp)
          simp [placeAt, hu, hpl] at this
      · have := hne fs hu
        rw [hpl] at this
        cases this
    | some places =>
      simp only []
      rw [← hC1]
      refine fill_congr _ _ fun x hx => ?_
      simp [placeAt, hu, hpl]
  · unfold Program.built
    simp only [hi, hu, hz]
    obtain ⟨ie, hie⟩ := Option.isSome_iff_exists.1 (hne2 n e hu)
    simp only [hie]
    rw [← hC1]
    refine fill_congr _ _ fun x hx => ?_
    simp [placeAt, hu, hie]

theorem sim_lit (h : WR P B w0 μ H w) {t e e0 len : Nat} {inf : TypeInfo} {z : Value} {zs : List Value} {ρ : X → Value} {ps : List (Nat × Nat × X)} {qs : Array (Nat × Value)} {l : List (Nat × List Value)} {cs : List Value}
    (ht : P.underlying t = some (.slice e)) (hi : P.info? e = some inf) (hz : inf.zero = some z) (hzc : z.cells.size = inf.size) (hzs : VRs μ zs z.cells.toList) (hsm : len * inf.size ≤ 16777216)
    (hm : PM (fun i => some (i * inf.size, inf.size)) μ ρ ps qs.toList) (hp : partsOf ρ ps = some l) (hl : lay (zeros zs len) l = some cs) :
    SimV B w0 P (Instr.buildSlice t len qs) μ H w (.slice (some ⟨H.length, 0, none⟩) len len) (H ++ [.cells cs e0 .fix 0]) := by
  have hrow : ((Array.range (len * inf.size)).map fun i => z.cells[i % z.cells.size]!) = (zeros z.cells.toList len).toArray := zeros_eq _ _ _ hzc
  obtain ⟨C, hC1, hC2⟩ := fill_lay ps qs.toList (zeros zs len) (zeros z.cells.toList len).toArray l cs (by simpa using hzs.zeros len) hm hp hl
  have hA := Ext.allocAll h hC2 e0 e .fix
  rw [Array.toArray_toList] at hA
  refine ⟨.slice (some ⟨w.heap.size, 0, none⟩) len len, _, _, ?_, ?_, hA⟩
  · have hn : ¬ len * inf.size > 2 ^ 24 := by omega
    by_cases h0 : len * inf.size = 0
    · have hr2 : ((Array.range (len * inf.size)).map fun i => (#[] : Array Value)[i % (#[] : Array Value).size]!) = (zeros z.cells.toList len).toArray := by
        rw [← hrow, h0]; simp
      have hn0 : ¬ (0 : Nat) > 2 ^ 24 := by decide
      simp only [Instr.buildSlice, Sem.run_bind, run_und ht, Result.andThen_ok, run_size hi, h0, hn0, if_false, if_true, Sem.run_pure]
      rw [h0] at hr2
      simp only [hr2, hC1, newRow, newObj, Sem.run, Sem.run_bind, Result.andThen_ok, Sem.run_pure]
      rfl
    · simp only [Instr.buildSlice, Sem.run_bind, run_und ht, Result.andThen_ok, run_size hi, hn, if_false, h0, run_zero hi hz, Sem.run_pure]
      simp only [hrow, hC1, newRow, newObj, Sem.run, Sem.run_bind, Result.andThen_ok, Sem.run_pure]
      rfl
  · have := VR.sl (μ := μ.add H.length ⟨w.heap.size, 0, C.toList.length, Kd.fix.spare⟩) (o := 0) (n := len) (c := len) (c' := len) (Mu.add_same μ H.length _) (.inl rfl)
    simpa using this

/-! ### The cells of what is appended or copied -/
theorem run_firstCells (h : WR P B w0 μ H w) {size n : Nat} {x x' : Value} {new : List Value} (hx : VR μ x x') (hn : srcCells H size n x = some new) :
    ∃ new' : List Value, (∀ w1 : World, w1.heap = w.heap → (Builtin.firstCells size n x').run P w1 = .ok new'.toArray w1) ∧ VRs μ new new' := by
  unfold srcCells at hn
  split at hn
  · rename_i i o len cap
    cases hx with
    | sl hm hc =>
      split at hn
      · rename_i h0
        simp only [Option.some.injEq] at hn
        subst hn
        refine ⟨[], fun w1 _ => ?_, VRs.nil μ⟩
        simp only [Builtin.firstCells, h0]
        rfl
      · obtain ⟨l', hl, hl0, hv, hc⟩ := h.rds hm hn
        refine ⟨l', fun w1 hw1 => ?_, hv⟩
        simp only [Builtin.firstCells]
        rw [← hl]
        refine run_loadCells_list (P := P) w1 _ l' fun j v hj => ?_
        rw [add_at]
        have := hc j v hj
        simpa [World.cell?, hw1] using this
  · cases hx
    split at hn
    · rename_i h0
      simp only [Option.some.injEq] at hn
      subst hn
      subst h0
      refine ⟨[], fun w1 _ => ?_, VRs.nil μ⟩
      simp only [Builtin.firstCells, Nat.zero_mul]
      rfl
    · cases hn
  · cases hx
    simp only [Option.some.injEq] at hn
    subst hn
    exact ⟨[], fun _ _ => rfl, VRs.nil μ⟩
  · rename_i s
    cases hx
    simp only [Option.some.injEq] at hn
    subst hn
    refine ⟨(s.extract 0 n).data.toList.map fun b => .int .u8 b.toNat, fun w1 _ => ?_, ⟨rfl, fun i x y hx hy => ?_⟩⟩
    · simp only [Builtin.firstCells, Sem.run_pure]
      congr 1
      rw [← Array.toList_map]
    · rw [hx] at hy
      cases hy
      rw [List.getElem?_map] at hx
      cases hb : (s.extract 0 n).data.toList[i]? with
      | none => rw [hb] at hx; cases hx
      | some b => rw [hb] at hx; cases hx; exact .int _ _
  · cases hn
theorem run_lenOf {x x' : Value} {n : Nat} (hx : VR μ x x') (hn : lenV x = some n) : (Builtin.lenOf x').run P w = .ok n w := by
  unfold lenV at hn
  split at hn
  · simp only [Option.some.injEq] at hn; subst hn; cases hx <;> rfl
  · simp only [Option.some.injEq] at hn; subst hn; cases hx; rfl
  · cases hn


theorem next_le (need cap : Nat) (h : cap < need) : Builtin.nextslicecap need cap ≤ 2 * need := by
  have key : ∀ r c, 256 ≤ c → c < 2 * need → Builtin.growBy need r c ≤ 2 * need := by
    intro r
    induction r with
    | zero => intro c h1 h2; simp only [Builtin.growBy]; omega
    | succ r ih =>
      intro c h1 h2
      simp only [Builtin.growBy]
      split
      · omega
      · exact ih _ (by omega) (by omega)
  unfold Builtin.nextslicecap
  split
  · omega
  · split
    · omega
    · exact key 4 cap (by omega) (by omega)

/-- What is left of an append when it is known how many elements come. -/
def tailS (zeros : Bool) (elem : TypeId) (size : Nat) (s x : Value) (base : Option Addr) (sLen sCap n : Nat) (appended : Sem (Array Value)) : Sem Value := do
  let need := sLen + n
  if need ≤ sCap then
    let new ← appended
    if let some a := base then storeCells (a.add (sLen * size)) new.toList
    pure (.slice base need sCap)
  else
    if (need : Int) > IntKind.i64.max ∧ (zeros ∨ (← typeInfo elem).bytes = 0) then runtimePanic (.error "growslice: len out of range")
    if Builtin.nextslicecap need sCap * (← typeInfo elem).bytes > 2 ^ 48 then (if zeros then runtimePanic (.error "growslice: len out of range") else do
      if !(← Builtin.mayShare size sLen n base x) then mark .noRoom
      unsupported (.resourceLimit "append: a slice or a string whose bytes no memory bears"))
    let newCap ← choose (.appendCap need sCap elem)
    askRoom (newCap * (← typeInfo elem).bytes)
    let old ← Builtin.firstCells size sLen s
    let new ← appended
    let rest := Builtin.zeroCells (← zeroValue elem).cells (newCap - need)
    pure (.slice (some (← newRow elem (old ++ new ++ rest))) need newCap)

theorem run_tail_in {zs : Bool} {e size sLen sCap n : Nat} {s x : Value} {ap : Sem (Array Value)} {new : List Value} (hle : sLen + n ≤ sCap) (hap : ap.run P w = .ok new.toArray w) :
    (tailS zs e size s x none sLen sCap n ap).run P w = .ok (.slice none (sLen + n) sCap) w := by
  simp only [tailS, hle, if_true, Sem.run_bind, hap, Result.andThen_ok, Sem.run_pure]
theorem run_tail_at {zs : Bool} {e size sLen sCap n : Nat} {s x : Value} {b o : Nat} {ap : Sem (Array Value)} {new : List Value} {w' : World} (hle : sLen + n ≤ sCap) (hap : ap.run P w = .ok new.toArray w) (hst : (storeCells ⟨b, o + sLen * size, none⟩ new).run P w = .ok () w') :
    (tailS zs e size s x (some ⟨b, o, none⟩) sLen sCap n ap).run P w = .ok (.slice (some ⟨b, o, none⟩) (sLen + n) sCap) w' := by
  simp only [tailS, hle, if_true, Sem.run_bind, hap, Result.andThen_ok, Sem.run_pure, add_at, hst]
theorem run_tail_out {zs : Bool} {e size sLen sCap n : Nat} {s x : Value} {base : Option Addr} {ap : Sem (Array Value)} {inf : TypeInfo} {z : Value} {old new : List Value}
    (hi : P.info? e = some inf) (hz : inf.zero = some z) (hgt : sCap < sLen + n) (hb : (sLen + n) * inf.bytes ≤ 140737488355328) (hn64 : zs = true ∨ inf.bytes = 0 → sLen + n ≤ 9223372036854775807)
    (hold : ∀ w1 : World, w1.heap = w.heap → (Builtin.firstCells size sLen s).run P w1 = .ok old.toArray w1) (hap : ∀ w1 : World, w1.heap = w.heap → ap.run P w1 = .ok new.toArray w1) :
    ∃ cap k, sLen + n ≤ cap ∧ (tailS zs e size s x base sLen sCap n ap).run P w = .ok (.slice (some ⟨w.heap.size, 0, none⟩) (sLen + n) cap) ({ w with drawn := k }.alloc (.cells (old.toArray ++ new.toArray ++ Builtin.zeroCells z.cells (cap - (sLen + n))) e)) := by
  have hnot : ¬ (sLen + n ≤ sCap) := by omega
  have hno1 : ¬ (((sLen + n : Nat) : Int) > IntKind.i64.max ∧ (zs = true ∨ inf.bytes = 0)) := by
    rintro ⟨h1, h2⟩
    have := hn64 h2
    simp [IntKind.max, IntKind.signed, IntKind.bits] at h1
    omega
  have hno2 : ¬ (Builtin.nextslicecap (sLen + n) sCap * inf.bytes > 2 ^ 48) := by
    have h1 := next_le (sLen + n) sCap hgt
    have h2 : Builtin.nextslicecap (sLen + n) sCap * inf.bytes ≤ 2 * (sLen + n) * inf.bytes := Nat.mul_le_mul_right _ h1
    rw [Nat.mul_assoc] at h2
    omega
  have hask : ∀ m (w1 : World), (askRoom m).run P w1 = .ok () w1 := by intro m w1; unfold askRoom; split <;> rfl
  have hch : ∃ cap k, sLen + n ≤ cap ∧ (choose (.appendCap (sLen + n) sCap e)).run P w = .ok cap { w with drawn := k } := by
    refine ⟨(Question.appendCap (sLen + n) sCap e).cut (w.tape w.drawn (.appendCap (sLen + n) sCap e)), w.drawn + 1, ?_, ?_⟩
    · simp only [Question.cut]; omega
    · simp only [choose, Sem.run, Question.forced, Bool.false_eq_true, if_false]
  obtain ⟨cap, k, hcap, hch⟩ := hch
  refine ⟨cap, k, hcap, ?_⟩
  have i1 : ∀ w1 : World, (typeInfo e).run P w1 = .ok inf w1 := fun w1 => run_info hi
  have i2 : ∀ w1 : World, (zeroValue e).run P w1 = .ok z w1 := fun w1 => run_zero hi hz
  simp only [tailS, hnot, if_false, Sem.run_bind, i1, Result.andThen_ok, hno1, hno2, Sem.run_ite, hch, hask, hold { w with drawn := k } rfl, hap { w with drawn := k } rfl, i2, newRow, newObj, Sem.run, Sem.run_pure]
  rfl

theorem zeroCells_len (z : Array Value) (n : Nat) : (Builtin.zeroCells z n).size = n * z.size := by simp [Builtin.zeroCells]

theorem WR.heap_eq (h : WR P B w0 μ H w) {w1 : World} (k : Nat) (e : w1 = { w with drawn := k }) : WR P B w0 μ H w1 := by subst e; exact (Ext.drew h k).wr

/-- The tail of an append, as the deterministic machine has it. -/
theorem sim_tail (h : WR P B w0 μ H w) {zs : Bool} {e e0 size n : Nat} {s s' x v : Value} {sLen sCap : Nat} {base : Option Addr} {ap : Sem (Array Value)} {inf : TypeInfo} {z : Value} {new new' : List Value}
    (hi : P.info? e = some inf) (hz : inf.zero = some z) (hzc : z.cells.size = inf.size) (hsz : inf.size = size) (hs : VR μ s s') (hs' : s' = .slice base sLen sCap)
    (hap : ∀ w1 : World, w1.heap = w.heap → ap.run P w1 = .ok new'.toArray w1) (hnew : VRs μ new new') (hlen : new.length = n * size) (hn64 : zs = true → sLen + n ≤ 9223372036854775807) (hby : inf.bytes ≠ 0) (hs0 : inf.size ≠ 0)
    (hv : appV H e0 size inf.bytes s n new = some (v, H')) :
    SimV B w0 P (tailS zs e size s' x base sLen sCap n ap) μ H w v H' := by
  subst hsz
  have hnl := hnew.1
  have hap0 := hap w rfl
  unfold appV at hv
  split at hv
  · -- a nil slice
    rename_i len cap
    cases hs
    injection hs' with q1 q2 q3
    subst q1 q2 q3
    split at hv
    · rename_i hle
      split at hv
      · rename_i hn0
        cases hv
        exact SimV.same h (VR.sl0 _ _) (run_tail_in hle hap0)
      · cases hv
    · rename_i hgt
      split at hv
      · rename_i hc
        obtain ⟨hb, hl0⟩ := hc
        cases hv
        subst hl0
        obtain ⟨cp, k, hcp, hrun⟩ := run_tail_out (zs := zs) (x := x) (s := .slice none 0 cap) (base := none) (sLen := 0) (sCap := cap) (n := n) (size := inf.size) (old := []) (new := new') hi hz (by omega) hb (fun hh => by rcases hh with hh | hh; exact hn64 hh; exact absurd hh hby) (fun w1 _ => rfl) hap
        have hW := h.heap_eq k rfl
        have hA := Ext.alloc hW (cs := new) (C := (([] : List Value).toArray ++ new'.toArray ++ Builtin.zeroCells z.cells (cp - (0 + n)))) e0 e (.loose inf.size) (0, 0) (fun _ => rfl) (by simp; omega) (fun j x y hx hy => by
          have hj : j < new'.length := by have := (List.getElem?_eq_some_iff.1 hx).1; omega
          refine hnew.2 j x y hx ?_
          rw [← hy]
          simp [Array.getElem?_append, hj])
        refine ⟨_, _, _, hrun, ?_, (Ext.drew h k).trans hA h⟩
        have := VR.sl (μ := μ.add H.length ⟨({ w with drawn := k } : World).heap.size, 0, (([] : List Value).toArray ++ new'.toArray ++ Builtin.zeroCells z.cells (cp - (0 + n))).size, (Kd.loose inf.size).spare⟩) (o := 0) (n := n) (c := n) (c' := cp) (Mu.add_same μ H.length _) (.inr ⟨inf.size, rfl, by omega, by
          simp only [Array.size_append, zeroCells_len, hzc]
          simp
          have e1 : cp = n + (cp - n) := by omega
          rw [← hnl, hlen, ← Nat.add_mul, ← e1]
          exact Nat.le_refl _⟩)
        simpa using this
      · cases hv
  · -- a slice at an address
    rename_i i o len cap
    cases hs with
    | @sl _ _ _ _ c' m hm hcc =>
      injection hs' with q1 q2 q3
      subst q1 q2 q3
      split at hv
      · rename_i hle
        have hle' : len + n ≤ c' := by rcases hcc with e | ⟨_, _, e, _⟩ <;> omega
        split at hv
        · rename_i hn0
          cases hv
          have : new' = [] := by rw [hn0] at hnl; exact List.eq_nil_of_length_eq_zero hnl.symm
          subst this
          exact SimV.same h (VR.sl hm hcc) (run_tail_at hle' hap0 rfl)
        · cases hw : wr H i (o + len * inf.size) new with
          | none => rw [hw] at hv; cases hv
          | some H1 =>
            rw [hw] at hv
            simp only [Option.map_some, Option.some.injEq, Prod.mk.injEq] at hv
            obtain ⟨rfl, rfl⟩ := hv
            obtain ⟨C, e', h1, h2, h3, h4⟩ := Ext.write h hm hw hnew
            have hst := run_storeCells_at P m.blk (m.base + (o + len * inf.size)) e' new' 0 C w h1 (by simpa using h2) h3
            simp only [Nat.add_zero] at hst
            refine ⟨_, _, _, run_tail_at hle' hap0 ?_, VR.sl (h4.mono h _ _ hm) hcc, h4⟩
            rw [Nat.add_assoc]
            exact hst
      · rename_i hgt
        split at hv
        · rename_i hb
          split at hv
          · rename_i old hold
            obtain ⟨old', ho1, ho2, ho3, ho4⟩ := h.rds hm hold
            have hOld : ∀ w1 : World, w1.heap = w.heap → (Builtin.firstCells inf.size len (.slice (some ⟨m.blk, m.base + o, none⟩) len c')).run P w1 = .ok old'.toArray w1 := by
              intro w1 hw1
              simp only [Builtin.firstCells]
              rw [← ho1]
              refine run_loadCells_list (P := P) w1 _ old' fun j v hj => ?_
              rw [add_at]
              have := ho4 j v hj
              simpa [World.cell?, hw1] using this
            have hgrow : ∀ (c' : Nat) (hcc : c' < len + n) , ∃ cp k, len + n ≤ cp ∧ (tailS zs e inf.size (.slice (some ⟨m.blk, m.base + o, none⟩) len c') x (some ⟨m.blk, m.base + o, none⟩) len c' n ap).run P w = .ok (.slice (some ⟨w.heap.size, 0, none⟩) (len + n) cp) ({ w with drawn := k }.alloc (.cells (old'.toArray ++ new'.toArray ++ Builtin.zeroCells z.cells (cp - (len + n))) e)) := by
              intro c2 hc2
              refine run_tail_out hi hz hc2 hb (fun hh => by rcases hh with hh | hh; exact hn64 hh; exact absurd hh hby) (fun w1 hw1 => ?_) hap
              simp only [Builtin.firstCells]
              rw [← ho1]
              refine run_loadCells_list (P := P) w1 _ old' fun j v hj => ?_
              rw [add_at]
              have := ho4 j v hj
              simpa [World.cell?, hw1] using this
            have hnewrow : ∀ (H1 : Heap) (k cp : Nat), H1.length = H.length → WR P B w0 μ H1 { w with drawn := k } → len + n ≤ cp → 
                Ext P B w0 μ H1 { w with drawn := k } (μ.add H1.length ⟨w.heap.size, 0, (old'.toArray ++ new'.toArray ++ Builtin.zeroCells z.cells (cp - (len + n))).size, (Kd.loose inf.size).spare⟩) (H1 ++ [.cells (old ++ new) e0 (.loose inf.size) 0]) ({ w with drawn := k }.alloc (.cells (old'.toArray ++ new'.toArray ++ Builtin.zeroCells z.cells (cp - (len + n))) e)) ∧
                VR (μ.add H1.length ⟨w.heap.size, 0, (old'.toArray ++ new'.toArray ++ Builtin.zeroCells z.cells (cp - (len + n))).size, (Kd.loose inf.size).spare⟩) (.slice (some ⟨H.length, 0, none⟩) (len + n) (len + n)) (.slice (some ⟨w.heap.size, 0, none⟩) (len + n) cp) := by
              intro H1 k cp hH1 hW hcp
              refine ⟨Ext.alloc hW e0 e (.loose inf.size) (0, 0) (fun _ => rfl) (by simp; omega) (fun j x y hx hy => ?_), ?_⟩
              · refine (ho3.append hnew).2 j x y hx ?_
                have hj : j < (old' ++ new').length := by have := (List.getElem?_eq_some_iff.1 hx).1; simp at this ⊢; omega
                rw [← hy]
                simp only [List.append_toArray]
                rw [Array.getElem?_append]
                simp at hj
                simp [hj]
              · have := VR.sl (μ := μ.add H1.length ⟨w.heap.size, 0, (old'.toArray ++ new'.toArray ++ Builtin.zeroCells z.cells (cp - (len + n))).size, (Kd.loose inf.size).spare⟩) (o := 0) (n := len + n) (c := len + n) (c' := cp) (Mu.add_same μ H1.length _) (.inr ⟨inf.size, rfl, by omega, by
                  simp only [Array.size_append, zeroCells_len, hzc]
                  simp
                  rw [ho1, ← hnl, hlen, ← Nat.add_mul, ← Nat.add_mul]
                  exact Nat.mul_le_mul_right _ (by omega)⟩)
                rw [← hH1]
                simpa using this
            have hkd := h.kd hm
            split at hv
            · rename_i hsp
              cases hv
              have hsp2 : m.spare = none := by
                rcases hkd with e | ⟨_, e, _⟩
                · rw [e, hsp]
                · rw [e] at hsp; cases hsp
              have hcap : c' = cap := by
                rcases hcc with e | ⟨sz, e, _⟩
                · exact e
                · rw [hsp2] at e; cases e
              subst hcap
              obtain ⟨cp, k, hcp, hrun⟩ := hgrow c' (by omega)
              obtain ⟨q1, q2⟩ := hnewrow H k cp rfl (h.heap_eq k rfl) hcp
              exact ⟨_, _, _, hrun, q2, (Ext.drew h k).trans q1 h⟩
            · rename_i sz hsp
              split at hv
              · rename_i hc2
                obtain ⟨rfl, hfl⟩ := hc2
                cases hv
                have hsp2 : m.spare = some inf.size := by
                  rcases hkd with e | ⟨_, e, hna⟩
                  · rw [e, hsp]
                  · obtain ⟨cs, e2, kd, vr, hb2, _, _⟩ := rds_eq hold
                    exact absurd hb2 (hna _ _ _ _)
                by_cases hroom : len + n ≤ c'
                · -- in place
                  have hc3 : m.base + o + c' * inf.size ≤ m.tot := by
                    rcases hcc with e | ⟨sz, e, _, e2⟩
                    · omega
                    · rw [hsp2] at e; cases e; exact e2
                  obtain ⟨C, e', h1, h2, h3, h4⟩ := Ext.growIn h e0 hm hsp2 hs0 hold hlen hfl hnew hc3 hroom
                  have hst := run_storeCells_at P m.blk (m.base + (o + len * inf.size)) e' new' 0 C w h1 (by simpa using h2) h3
                  simp only [Nat.add_zero] at hst
                  refine ⟨_, _, _, run_tail_at hroom hap0 ?_, ?_, h4⟩
                  · rw [Nat.add_assoc]; exact hst
                  · have := VR.sl (μ := μ.add H.length ⟨m.blk, m.base + o, m.tot, some inf.size⟩) (o := 0) (n := len + n) (c := len + n) (c' := c') (Mu.add_same μ H.length _) (.inr ⟨inf.size, rfl, hroom, by simpa using hc3⟩)
                    simpa using this
                · obtain ⟨cp, k, hcp, hrun⟩ := hgrow c' (by omega)
                  have hK := Ext.kill h hm (by rw [hsp2]; simp)
                  obtain ⟨q1, q2⟩ := hnewrow (kill H i) k cp (kill_len H i) (hK.wr.heap_eq k rfl) hcp
                  refine ⟨_, _, _, hrun, q2, ?_⟩
                  exact (hK.trans (Ext.drew hK.wr k) h).trans q1 h
              · cases hv
          · cases hv
        · cases hv
  · cases hv

end Dm
end
section
set_option linter.unusedVariables false
set_option linter.unusedSimpArgs false
namespace Dm
open Go Go.RowKit

variable {P : Program} {B : Nat} {w0 : World} {μ : Mu} {H H' : Heap} {w : World}

theorem appV_slice {e size bytes n : Nat} {s v : Value} {new : List Value} (h : appV H e size bytes s n new = some (v, H')) : ∃ a l c, s = .slice a l c := by
  unfold appV at h
  split at h
  · exact ⟨_, _, _, rfl⟩
  · exact ⟨_, _, _, rfl⟩
  · cases h
theorem VR.slice {a : Option Addr} {l c : Nat} {s' : Value} (h : VR μ (.slice a l c) s') : ∃ a' c', s' = .slice a' l c' := by
  cases h with
  | sl0 => exact ⟨_, _, rfl⟩
  | sl => exact ⟨_, _, rfl⟩
  | sl9 => exact ⟨_, _, rfl⟩

theorem sim_app (h : WR P B w0 μ H w) {e e0 ty n size sT xT : Nat} {inf : TypeInfo} {z : Value} {s s' x x' v : Value} {new : List Value}
    (ht : P.underlying sT = some (.slice e)) (hi : P.info? e = some inf) (hz : inf.zero = some z) (hzc : z.cells.size = inf.size) (hsz : inf.size = size) (hby : inf.bytes ≠ 0) (hs0 : inf.size ≠ 0)
    (hxT : (match P.underlying xT with | some (.slice _) => true | some .string => true | _ => false) = true)
    (hs : VR μ s s') (hx : VR μ x x') (hn : lenV x = some n) (hc : srcCells H size n x = some new) (hlen : new.length = n * size) (hv : appV H e0 size inf.bytes s n new = some (v, H')) :
    SimV B w0 P (Builtin.append_ #[sT, xT] ty #[s', x']) μ H w v H' := by
  subst hsz
  obtain ⟨a, l, c, rfl⟩ := appV_slice hv
  obtain ⟨a', c', rfl⟩ := hs.slice
  obtain ⟨new', hf, hnew⟩ := run_firstCells (P := P) h hx hc
  have hlenOf : (Builtin.lenOf x').run P w = .ok n w := run_lenOf hx hn
  have hd : (∃ q, P.underlying xT = some (.slice q)) ∨ P.underlying xT = some .string := by
    split at hxT
    · rename_i d hd; exact .inl ⟨_, hd⟩
    · rename_i hd; exact .inr hd
    · cases hxT
  obtain ⟨v', w', μ', h1, h2, h3⟩ := sim_tail (P := P) h (zs := false) (x := x') (ap := Builtin.firstCells inf.size n x') hi hz hzc rfl hs rfl hf hnew hlen (fun hh => by cases hh) hby hs0 hv
  refine ⟨v', w', μ', ?_, h2, h3⟩
  rw [← h1]
  rcases hd with ⟨q, hd⟩ | hd
  all_goals
    simp only [Builtin.append_, tailS]
    simp only [List.getElem?_toArray, List.getElem?_cons_zero, List.getElem?_cons_succ, Sem.run_bind, run_und ht, Result.andThen_ok, run_size hi]
    simp only [run_und hd, Result.andThen_ok, Sem.run_pure, Bool.false_eq_true, if_false, Sem.run_bind, hlenOf, Bool.not_false, if_true]
    rfl

/-- 'append(s, make([]T, n)...)'. -/
theorem sim_appz (h : WR P B w0 μ H w) {e e0 ty size sT xT : Nat} {k : IntKind} {inf : TypeInfo} {z : Value} {zs : List Value} {s s' v : Value} {n : Int}
    (ht : P.underlying sT = some (.slice e)) (hi : P.info? e = some inf) (hz : inf.zero = some z) (hzc : z.cells.size = inf.size) (hsz : inf.size = size) (hby : inf.bytes ≠ 0) (hs0 : inf.size ≠ 0) (hzs : VRs μ zs z.cells.toList)
    (hxT : P.underlying xT = some (.int k))
    (hs : VR μ s s') (h0 : 0 ≤ n) (h1 : n ≤ 9223372036854775807) (h2 : n * inf.bytes ≤ 281474976710656) (hcap : ∀ a l c, s = .slice a l c → l + n.toNat ≤ 9223372036854775807) (hv : appV H e0 size inf.bytes s n.toNat (zeros zs n.toNat) = some (v, H')) :
    SimV B w0 P (Builtin.append_ #[sT, xT] ty #[s', .int .i64 n]) μ H w v H' := by
  subst hsz
  obtain ⟨a, l, c, rfl⟩ := appV_slice hv
  obtain ⟨a', c', rfl⟩ := hs.slice
  have hwr := wrap64_id (n := n) (by omega) (by omega)
  have hzl : zs.length = inf.size := by have := hzs.1; simp at this; omega
  have hap : ∀ w1 : World, w1.heap = w.heap → (if n.toNat * inf.size = 0 then pure #[] else (do pure (Builtin.zeroCells (← zeroValue e).cells n.toNat)) : Sem (Array Value)).run P w1 = .ok (zeros z.cells.toList n.toNat).toArray w1 := by
    intro w1 _
    have hrow : ((Array.range (n.toNat * inf.size)).map fun i => z.cells[i % z.cells.size]!) = (zeros z.cells.toList n.toNat).toArray := zeros_eq _ _ _ hzc
    split
    · rename_i h0'
      rw [← hrow, h0']; simp
    · simp only [Sem.run_bind, run_zero hi hz, Result.andThen_ok, Sem.run_pure, Builtin.zeroCells]
      rw [← hrow, hzc]
  obtain ⟨v', w', μ', h3, h4, h5⟩ := sim_tail (P := P) h (zs := true) (x := .int .i64 n) (n := n.toNat) hi hz hzc rfl hs rfl hap (hzs.zeros n.toNat) (by rw [zeros_len, hzl]) (fun _ => hcap _ _ _ rfl) hby hs0 hv
  refine ⟨v', w', μ', ?_, h4, h5⟩
  rw [← h3]
  have e3 : ¬ n < 0 := by omega
  have e4 : ¬ n * (inf.bytes : Int) > 2 ^ 48 := by omega
  simp only [Builtin.append_, tailS]
  simp only [List.getElem?_toArray, List.getElem?_cons_zero, List.getElem?_cons_succ, Sem.run_bind, run_und ht, run_und hxT, Result.andThen_ok, run_size hi, Sem.run_pure, if_true, asInt, asIntOf, hwr, e3, e4, if_false, run_info hi, Bool.not_true, Bool.false_eq_true]
  rfl

theorem sim_cpy (h : WR P B w0 μ H w) {e ty size dT sT dl sl cp : Nat} {inf : TypeInfo} {base : Option Addr} {d' s s' : Value} {cells : List Value}
    (ht : P.underlying dT = some (.slice e)) (hi : P.info? e = some inf) (hsz : inf.size = size)
    (hd : VR μ (.slice base dl cp) d') (hs : VR μ s s') (hn : lenV s = some sl) (hc : srcCells H size (min sl dl) s = some cells)
    (hw : cpyH H base cells = some H') :
    SimV B w0 P (Builtin.copy_ #[dT, sT] ty #[d', s']) μ H w (.int .i64 (min sl dl : Nat)) H' := by
  subst hsz
  obtain ⟨cells', hf, hcells⟩ := run_firstCells (P := P) h hs hc
  have hlenOf : (Builtin.lenOf s').run P w = .ok sl w := run_lenOf hs hn
  have hf0 := hf w rfl
  have hmin : Nat.min sl dl = min sl dl := rfl
  cases hd with
  | sl0 =>
    simp only [cpyH] at hw
    split at hw
    · rename_i h0
      cases hw
      refine SimV.same h (VR.int _ _) ?_
      simp only [Builtin.copy_, List.getElem?_toArray, List.getElem?_cons_zero, List.getElem?_cons_succ, Sem.run_bind, run_und ht, Result.andThen_ok, hlenOf, run_size hi, hmin, hf0, Sem.run_pure, goInt]
    · cases hw
  | sl9 => cases hw
  | @sl i o _ _ c' m hm hcc =>
    simp only [cpyH] at hw
    split at hw
    · rename_i h0
      cases hw
      have : cells' = [] := by have := hcells.1; rw [h0] at this; exact List.eq_nil_of_length_eq_zero this.symm
      subst this
      refine SimV.same h (VR.int _ _) ?_
      simp only [Builtin.copy_, List.getElem?_toArray, List.getElem?_cons_zero, List.getElem?_cons_succ, Sem.run_bind, run_und ht, Result.andThen_ok, hlenOf, run_size hi, hmin, hf0, Sem.run_pure, goInt, storeCells]
    · obtain ⟨C, e', h1, h2, h3, h4⟩ := Ext.write h hm hw hcells
      have hst := run_storeCells_at P m.blk (m.base + o) e' cells' 0 C w h1 (by simpa using h2) h3
      simp only [Nat.add_zero] at hst
      refine ⟨_, _, _, ?_, VR.int _ _, h4⟩
      simp only [Builtin.copy_, List.getElem?_toArray, List.getElem?_cons_zero, List.getElem?_cons_succ, Sem.run_bind, run_und ht, Result.andThen_ok, hlenOf, run_size hi, hmin, hf0, Sem.run_pure, goInt, hst]


theorem sim_len_sl (h : WR P B w0 μ H w) {ty t e n c : Nat} {a : Option Addr} {x' : Value} (ht : P.underlying t = some (.slice e)) (hx : VR μ (.slice a n c) x') :
    SimV B w0 P (Builtin.len_ #[t] ty #[x']) μ H w (.int .i64 n) H := by
  refine SimV.same h (VR.int _ _) ?_
  cases hx <;> simp [Builtin.len_, run_und ht, goInt]
theorem sim_len_str (h : WR P B w0 μ H w) {ty t : Nat} {s : ByteArray} {x' : Value} (ht : P.underlying t = some .string) (hx : VR μ (.string s) x') :
    SimV B w0 P (Builtin.len_ #[t] ty #[x']) μ H w (.int .i64 s.size) H := by
  refine SimV.same h (VR.int _ _) ?_
  cases hx; simp [Builtin.len_, run_und ht, goInt]

theorem sim_cap0 (h : WR P B w0 μ H w) {ty t e n c : Nat} {x' : Value} (ht : P.underlying t = some (.slice e)) (hx : VR μ (.slice none n c) x') :
    SimV B w0 P (Builtin.cap_ #[t] ty #[x']) μ H w (.int .i64 c) H := by
  cases hx
  exact SimV.same h (VR.int _ _) (by simp [Builtin.cap_, run_und ht, goInt])
theorem sim_capA (h : WR P B w0 μ H w) {ty t e n c i o : Nat} {x' : Value} (ht : P.underlying t = some (.slice e)) (hx : VR μ (.slice (some ⟨i, o, none⟩) n c) x') (hsp : (kdAt H i).spare = none) :
    SimV B w0 P (Builtin.cap_ #[t] ty #[x']) μ H w (.int .i64 c) H := by
  cases hx with
  | @sl _ _ _ _ c' m hm hcc =>
    have hsp2 : m.spare = none := by
      rcases h.kd hm with e | ⟨_, e, _⟩
      · rw [e, hsp]
      · rw [e] at hsp; cases hsp
    have hcap : c' = c := by
      rcases hcc with e | ⟨sz, e, _⟩
      · exact e
      · rw [hsp2] at e; cases e
    subst hcap
    exact SimV.same h (VR.int _ _) (by simp [Builtin.cap_, run_und ht, goInt])

theorem sim_max (h : WR P B w0 μ H w) {ty : Nat} {ts : Array TypeId} {k k' : IntKind} {a b : Int} {x' y' : Value} (hx : VR μ (.int k a) x') (hy : VR μ (.int k' b) y') :
    SimV B w0 P (Builtin.max_ ts ty #[x', y']) μ H w (.int k (if b > a then b else a)) H := by
  cases hx; cases hy
  refine SimV.same h (VR.int _ _) ?_
  simp [Builtin.max_, Builtin.max2]

theorem sim_clr0 (h : WR P B w0 μ H w) {ty t e c : Nat} {a : Option Addr} {x' : Value} (ht : P.underlying t = some (.slice e)) (hx : VR μ (.slice a 0 c) x') :
    SimV B w0 P (Builtin.clear_ #[t] ty #[x']) μ H w undefV H := by
  refine SimV.same h (VR.undef μ) ?_
  cases hx <;> simp [Builtin.clear_, run_und ht, undef]
theorem sim_clrA (h : WR P B w0 μ H w) {ty t e n c i o : Nat} {inf : TypeInfo} {z : Value} {zs : List Value} {x' : Value} (ht : P.underlying t = some (.slice e)) (hi : P.info? e = some inf) (hz : inf.zero = some z) (hzc : z.cells.size = inf.size) (hzs : VRs μ zs z.cells.toList) (hx : VR μ (.slice (some ⟨i, o, none⟩) n c) x') (hn : n ≠ 0) (hv : wr H i o (zeros zs n) = some H') :
    SimV B w0 P (Builtin.clear_ #[t] ty #[x']) μ H w undefV H' := by
  cases hx with
  | @sl _ _ _ _ c' m hm hcc =>
    obtain ⟨C, e', h1, h2, h3, h4⟩ := Ext.write h hm hv (hzs.zeros n)
    have hst := run_storeCells_at P m.blk (m.base + o) e' (zeros z.cells.toList n) 0 C w h1 (by simpa using h2) h3
    simp only [Nat.add_zero] at hst
    have hrow : Builtin.zeroCells z.cells n = (zeros z.cells.toList n).toArray := zeros_eq _ _ _ rfl
    refine ⟨undef, _, _, ?_, VR.undef _, h4⟩
    simp only [Builtin.clear_, List.getElem?_toArray, List.getElem?_cons_zero, Sem.run_bind, run_und ht, Result.andThen_ok]
    cases n with
    | zero => exact absurd rfl hn
    | succ n => simp only [run_zero hi hz, Result.andThen_ok, Sem.run_bind, hrow, hst, Sem.run_pure, undef]

theorem sim_ix (h : WR P B w0 μ H w) {t : Nat} {s : ByteArray} {k : IntKind} {j : Int} {b : UInt8} {x' y' : Value} (ht : P.underlying t = some .string) (hx : VR μ (.string s) x') (hy : VR μ (.int k j) y') (h0 : 0 ≤ j) (hb : s[j.toNat]? = some b) :
    SimV B w0 P (Instr.index t x' y') μ H w (.int .u8 b.toNat) H := by
  cases hx; cases hy
  refine SimV.same h (VR.int _ _) ?_
  simp [Instr.index, asIntOf, run_und ht, h0, hb]

theorem sim_bytes (h : WR P B w0 μ H w) {t t2 e0 : Nat} {d : TypeDesc} {s : ByteArray} {x' : Value} (hs : P.underlying t = some d) (hns : ∀ k, d ≠ .slice k) (ht : P.underlying t2 = some (.slice e0)) (he : P.underlying e0 = some (.int .u8)) (hx : VR μ (.string s) x') (e : Nat) :
    SimV B w0 P (convert t t2 x') μ H w (.slice (some ⟨H.length, 0, none⟩) s.size s.size) (H ++ [.cells (s.data.toList.map fun b => .int .u8 b.toNat) e .rob 0]) := by
  cases hx
  obtain ⟨cap, k, hcap, hch⟩ : ∃ cap k, s.size ≤ cap ∧ (choose (.appendCap s.size 0 e0)).run P w = .ok cap { w with drawn := k } := by
    refine ⟨(Question.appendCap s.size 0 e0).cut (w.tape w.drawn (.appendCap s.size 0 e0)), w.drawn + 1, ?_, ?_⟩
    · simp only [Question.cut]; omega
    · simp only [choose, Sem.run, Question.forced, Bool.false_eq_true, if_false]
  generalize hC : (s.data.map fun b => Value.int .u8 b.toNat) ++ Array.replicate (cap - s.size) (Value.int .u8 0) = C
  have hCs : C.size = cap := by
    rw [← hC]
    simp
    have : s.data.size = s.size := rfl
    omega
  have hW := h.heap_eq k rfl
  have hA := Ext.alloc hW (cs := s.data.toList.map fun b => .int .u8 b.toNat) (C := C) e e0 .rob (cap, cap + 1) (fun hh => by cases hh) (by simp; rw [hCs]; exact hcap) (fun j x y hx hy => by
    have hj : j < s.data.toList.length := by have := (List.getElem?_eq_some_iff.1 hx).1; simpa using this
    rw [← hC, Array.getElem?_append] at hy
    rw [if_pos (by simpa using hj)] at hy
    rw [List.getElem?_map] at hx
    rw [Array.getElem?_map] at hy
    cases hb : s.data.toList[j]? with
    | none => rw [hb] at hx; cases hx
    | some b =>
      rw [hb] at hx
      have hb2 : s.data[j]? = some b := by simpa using hb
      rw [hb2] at hy
      cases hx; cases hy
      exact VR.int _ _)
  refine ⟨.slice (some ⟨w.heap.size, 0, none⟩) s.size cap, _, _, ?_, ?_, (Ext.drew h k).trans hA h⟩
  · have hfr : ∀ (w1 : World), w1.heap = w.heap → (freeze ⟨w.heap.size, cap, none⟩ 1).run P (w1.alloc (.cells C e0)) = .ok () (w1.alloc (.cells C e0 (cap, cap + 1))) := by
      intro w1 hw1
      simp only [freeze, Sem.run, World.freeze]
      congr 1
      have key : ∀ f : Obj → Obj, f (.cells C e0) = .cells C e0 (cap, cap + 1) → (w1.alloc (.cells C e0)).heap.modify w.heap.size f = (w1.alloc (.cells C e0 (cap, cap + 1))).heap := by
        intro f hf
        show (w1.heap.push _).modify _ _ = w1.heap.push _
        apply Array.ext_getElem?
        intro j
        rw [← hw1]
        simp only [Array.getElem?_modify, Array.getElem?_push]
        by_cases hj : j = w1.heap.size
        · subst hj; simp [hf]
        · have : ¬ w1.heap.size = j := fun e => hj e.symm
          simp [this, hj]
      simp only [Nat.one_ne_zero, if_false]
      exact congrArg (fun hp => ({ heap := hp, tape := w1.tape, drawn := w1.drawn, os := w1.os, output := w1.output } : World)) (key _ (by simp))
    have hsh : ∀ w1 : World, w1.heap = w.heap → (shape w.heap.size).run P (w1.alloc (.cells C e0)) = .ok (some (e0, cap)) (w1.alloc (.cells C e0)) := by
      intro w1 hw1
      simp only [shape, Sem.run, World.shape?]
      have : (w1.alloc (.cells C e0)).heap[w.heap.size]? = some (.cells C e0) := by
        show (w1.heap.push _)[w.heap.size]? = _
        rw [← hw1]; simp
      rw [this]
      simp [hCs]
    have hnew : (newObj (.cells C e0)).run P { w with drawn := k } = .ok w.heap.size ({ w with drawn := k }.alloc (.cells C e0)) := rfl
    cases d <;> first | exact absurd rfl (hns _) | skip
    all_goals
      simp only [convert, Sem.run_bind, run_und hs, run_und ht, run_und he, Result.andThen_ok, Conv.stringToBytes, hch, newRow, Sem.run_pure, hC, hnew, markStringish, hsh { w with drawn := k } rfl, hfr { w with drawn := k } rfl]
  · have := VR.sl (μ := μ.add H.length ⟨({ w with drawn := k } : World).heap.size, 0, C.size, Kd.rob.spare⟩) (o := 0) (n := s.size) (c := s.size) (c' := cap) (Mu.add_same μ H.length _) (.inr ⟨0, rfl, hcap, by simp⟩)
    simpa using this

theorem sim_cvt (h : WR P B w0 μ H w) {t t2 : Nat} {d : TypeDesc} {k0 k : IntKind} {n : Int} {x' : Value} (hs : P.underlying t = some d) (ht : P.underlying t2 = some (.int k)) (hx : VR μ (.int k0 n) x') :
    SimV B w0 P (convert t t2 x') μ H w (.int k (k.wrap n)) H := by
  cases hx
  refine SimV.same h (VR.int _ _) ?_
  simp [convert, run_und hs, run_und ht, Conv.intToInt]

theorem sim_fld (h : WR P B w0 μ H w) {t k : Nat} {fs : Array Field} {f : Field} {cs : Array Value} {x' v : Value} (ht : P.underlying t = some (.struct fs)) (hf : fs[k]? = some f) (hd : (P.underlying f.type).isSome = true) (hn : ∀ fs, P.underlying f.type ≠ some (.struct fs)) (hn2 : ∀ n e, P.underlying f.type ≠ some (.array n e))
    (hx : VR μ (.agg cs) x') (hv : cs[f.offset]? = some v) :
    SimV B w0 P (Instr.field t x' k) μ H w v H := by
  cases hx with
  | @agg _ a' ha h1 =>
    have hi : f.offset < cs.size := (Array.getElem?_eq_some_iff.1 hv).1
    have hy : a'[f.offset]? = some a'[f.offset] := Array.getElem?_eq_getElem (by omega)
    refine SimV.same h (h1 _ _ _ hv hy) ?_
    obtain ⟨d, hd⟩ := Option.isSome_iff_exists.1 hd
    have : (isAgg f.type).run P w = .ok false w := by
      simp only [isAgg, Sem.run_bind, run_und hd, Result.andThen_ok]
      cases d <;> first | rfl | exact absurd hd (hn _) | exact absurd hd (hn2 _ _)
    simp only [Instr.field, Sem.run_bind, run_und ht, Result.andThen_ok, hf, asAgg, Sem.run_pure, part, this, Bool.false_eq_true, if_false, hy]
theorem sim_flds (h : WR P B w0 μ H w) {t k : Nat} {fs : Array Field} {f : Field} {inf : TypeInfo} {cs : Array Value} {x' : Value} (ht : P.underlying t = some (.struct fs)) (hf : fs[k]? = some f) (hi : P.info? f.type = some inf) (hag : (isAgg f.type).run P w = .ok true w)
    (hx : VR μ (.agg cs) x') :
    SimV B w0 P (Instr.field t x' k) μ H w (.agg (cs.extract f.offset (f.offset + inf.size))) H := by
  cases hx with
  | @agg _ a' ha h1 =>
    refine SimV.same h (v' := .agg (a'.extract f.offset (f.offset + inf.size))) (VR.agg (by simp [ha]) (fun i x y hx hy => ?_)) ?_
    · simp only [Array.getElem?_extract] at hx hy
      split at hx
      · rename_i q
        rw [if_pos (by rw [← ha]; exact q)] at hy
        exact h1 _ _ _ hx hy
      · cases hx
    · simp only [Instr.field, Sem.run_bind, run_und ht, Result.andThen_ok, hf, asAgg, Sem.run_pure, part, hag, if_true, run_size hi]

theorem sim_ext (h : WR P B w0 μ H w) {k : Nat} {vs : Array Value} {x' v : Value} (hx : VR μ (.tuple vs) x') (hv : vs[k]? = some v) :
    SimV B w0 P (Instr.extract x' k) μ H w v H := by
  cases hx with
  | @tup _ a' ha h1 =>
    have hi : k < vs.size := (Array.getElem?_eq_some_iff.1 hv).1
    have hy : a'[k]? = some a'[k] := Array.getElem?_eq_getElem (by omega)
    exact SimV.same h (h1 _ _ _ hv hy) (by simp [Instr.extract, hy])

theorem sim_iface (h : WR P B w0 μ H w) {t : Nat} {d : TypeDesc} {x x' : Value} (ht : P.underlying t = some d) (hn : ∀ ms, d ≠ .interface ms) (hx : VR μ x x') :
    SimV B w0 P (Instr.makeInterface t x') μ H w (.iface t x) H := by
  refine SimV.same h (VR.iface t hx) ?_
  cases d <;> first | exact absurd rfl (hn _) | simp [Instr.makeInterface, run_und ht]

theorem VRs.toArr {μ : Mu} {l l' : List Value} (h : VRs μ l l') : l.toArray.size = l'.toArray.size ∧ ∀ (i : Nat) (x y : Value), l.toArray[i]? = some x → l'.toArray[i]? = some y → VR μ x y :=
  ⟨by simpa using h.1, fun i x y hx hy => h.2 i x y (by simpa using hx) (by simpa using hy)⟩
theorem sim_fn (h : WR P B w0 μ H w) {f : Nat} {caps caps' : List Value} (hc : VRs μ caps caps') :
    SimV B w0 P (Instr.makeFunc (.func f) #[] caps'.toArray) μ H w (.func (.func f) #[] caps.toArray) H := by
  refine SimV.same h (VR.fn f rfl hc.toArr.1 (fun i x y hx => by simp at hx) hc.toArr.2) ?_
  simp [Instr.makeFunc]

theorem sim_not (h : WR P B w0 μ H w) {b : Bool} {x' : Value} (hx : VR μ (.bool b) x') : SimV B w0 P (Op.unary .not x') μ H w (.bool !b) H := by
  cases hx
  exact SimV.same h (VR.bool _) (by simp [Op.unary])
theorem sim_neg (h : WR P B w0 μ H w) {k : IntKind} {n : Int} {x' : Value} (hx : VR μ (.int k n) x') : SimV B w0 P (Op.unary .neg x') μ H w (.int k (k.wrap (0 - n))) H := by
  cases hx
  exact SimV.same h (VR.int _ _) (by simp [Op.unary, Op.intArith])

end Dm
end
section
set_option linter.unusedVariables false
set_option linter.unusedSimpArgs false
namespace Dm
open Go Go.RowKit

variable {P : Program} {B : Nat} {w0 : World} {μ : Mu} {H H' : Heap} {w : World}

theorem sameC_vr {v v' : Value} (h : sameC v v' = true) : VR μ v' v := by
  unfold sameC at h
  split at h
  · simp at h; subst h; exact .bool _
  · simp at h; obtain ⟨rfl, rfl⟩ := h; exact .int _ _
  · rename_i a b
    simp at h
    have : a = b := by cases a; cases b; simp_all
    subst this; exact .str _
  · exact .ptr0
  · simp at h; obtain ⟨rfl, rfl⟩ := h; exact .sl0 _ _
  · exact .nilF
  · exact .nilI
  · cases h
theorem sameCs_vr : ∀ {l l' : List Value}, sameCs l l' = true → VRs μ l' l
  | [], [], _ => VRs.nil μ
  | v :: vs, u :: us, h => by
    simp only [sameCs, Bool.and_eq_true] at h
    exact VRs.cons (sameC_vr h.1) (sameCs_vr h.2)
  | [], _ :: _, h => by cases h
  | _ :: _, [], h => by cases h

theorem chkX_vr {a : Act} {tm : Tm} (ht : VRs μ tm a.tmps.toList) {o : Operand} {x : X} (h : chkX o x = true) : VR μ (ev tm x) (a.eval o) := by
  unfold chkX at h
  split at h
  · rename_i t n
    have e : t = n := by simpa using h
    subst e
    have := ht.getD t
    simpa [ev, Act.eval, Array.getD_eq_getD_getElem?, List.getD_eq_getElem?_getD] using this
  · exact sameC_vr h
  · rename_i f n
    have e : f = n := by simpa using h
    subst e
    exact .fn f rfl rfl (fun i x y h => by simp at h) (fun i x y h => by simp at h)
  · cases h
theorem chkXs_vr {a : Act} {tm : Tm} (ht : VRs μ tm a.tmps.toList) : ∀ {os : List Operand} {xs : List X}, chkXs os xs = true → VRs μ (xs.map (ev tm)) (os.map a.eval)
  | [], [], _ => VRs.nil μ
  | o :: os, x :: xs, h => by
    simp only [chkXs, Bool.and_eq_true] at h
    exact VRs.cons (chkX_vr ht h.1) (chkXs_vr ht h.2)
  | [], _ :: _, h => by cases h
  | _ :: _, [], h => by cases h
theorem chkO_none {o : Option Operand} {x : Option X} (h : chkO o x = true) (hx : x = none) : o = none := by
  subst hx; cases o <;> simp [chkO] at h ⊢
theorem chkO_int {a : Act} {tm : Tm} (ht : VRs μ tm a.tmps.toList) {o : Option Operand} {x : Option X} (h : chkO o x = true) : ∀ z k i, x = some z → ev tm z = .int k i → o.map a.eval = some (.int k i) := by
  intro z k i hx hz
  subst hx
  cases o with
  | none => cases h
  | some o =>
    have := chkX_vr ht (show chkX o z = true from h)
    rw [hz] at this
    cases hh : a.eval o <;> rw [hh] at this <;> cases this
    simp [hh]

theorem chkParts_pm {a : Act} {tm : Tm} (ht : VRs μ tm a.tmps.toList) {place : Nat → Option (Nat × Nat)} : ∀ {os : List (Nat × Operand)} {xs : List (Nat × Nat × X)}, chkParts place os xs = true → PM place μ (ev tm) xs (os.map fun (i, x) => (i, a.eval x))
  | [], [], _ => trivial
  | (i, o) :: os, (off, n, x) :: xs, h => by
    simp only [chkParts, Bool.and_eq_true, decide_eq_true_eq] at h
    exact ⟨h.1.1, chkX_vr ht h.1.2, chkParts_pm ht h.2⟩
  | [], _ :: _, h => by cases h
  | _ :: _, [], h => by cases h

theorem chkZero_spec {t : TypeId} {z : List Value} (h : chkZero P t z = true) : ∃ i v, P.info? t = some i ∧ i.zero = some v ∧ ∀ μ, VRs μ z v.cells.toList := by
  unfold chkZero at h
  split at h
  · rename_i i hi
    split at h
    · rename_i v hv; exact ⟨i, v, hi, hv, fun μ => sameCs_vr h⟩
    · cases h
  · cases h
theorem chkElem_spec {t : TypeId} {size bytes : Nat} {z : List Value} (h : chkElem P t size bytes z = true) : ∃ i v, P.info? t = some i ∧ i.zero = some v ∧ v.cells.size = i.size ∧ i.size = size ∧ i.bytes = bytes ∧ size ≠ 0 ∧ bytes ≠ 0 ∧ ∀ μ, VRs μ z v.cells.toList := by
  unfold chkElem at h
  split at h
  · rename_i i hi
    split at h
    · rename_i v hv
      simp only [Bool.and_eq_true, decide_eq_true_eq] at h
      obtain ⟨⟨⟨⟨⟨h1, h2⟩, h3⟩, h4⟩, h5⟩, h6⟩ := h
      exact ⟨i, v, hi, hv, h2, h3, h4, h5, h6, fun μ => sameCs_vr h1⟩
    · cases h
  · cases h
theorem oneT_spec {t : TypeId} (h : oneT P t = true) : (P.underlying t).isSome = true ∧ (∀ fs, P.underlying t ≠ some (.struct fs)) ∧ ∀ n e, P.underlying t ≠ some (.array n e) := by
  unfold oneT at h
  split at h
  · cases h
  · cases h
  · rename_i d h1 h2 hd
    rw [hd]
    exact ⟨rfl, fun fs e => h1 fs (by simpa using e), fun n e h => h2 n e (by simpa using h)⟩
  · cases h
theorem manyT_spec {t : TypeId} {n : Nat} (h : manyT P t n = true) : (isAgg t).run P w = .ok true w ∧ ∃ i, P.info? t = some i ∧ i.size = n := by
  unfold manyT at h
  simp only [Bool.and_eq_true] at h
  obtain ⟨h1, h2⟩ := h
  constructor
  · split at h1
    · rename_i hd; exact run_isAgg_struct hd
    · rename_i hd; exact run_isAgg_array hd
    · cases h1
  · split at h2
    · rename_i i hi; exact ⟨i, hi, by simpa using h2⟩
    · cases h2
theorem slElem_spec {t e : TypeId} (h : slElem P t = some e) : P.underlying t = some (.slice e) := by
  unfold slElem at h
  split at h
  · rename_i hd; cases h; exact hd
  · cases h
theorem strT_spec {t : TypeId} (h : strT P t = true) : P.underlying t = some .string := by
  unfold strT at h
  split at h
  · assumption
  · cases h
theorem fieldT_spec {t : TypeId} {k : Nat} {f : Field} (h : fieldT P t k = some f) : ∃ fs, P.underlying t = some (.struct fs) ∧ fs[k]? = some f := by
  unfold fieldT at h
  split at h
  · rename_i fs hd; exact ⟨fs, hd, h⟩
  · cases h
theorem intT_spec {t : TypeId} {k : IntKind} (h : intT P t = some k) : P.underlying t = some (.int k) := by
  unfold intT at h
  split at h
  · rename_i hd; cases h; exact hd
  · cases h
theorem hasSize_spec {t : TypeId} {n : Nat} (h : hasSize P t n = true) : ∃ i, P.info? t = some i ∧ i.size = n := by
  unfold hasSize at h
  split at h
  · rename_i i hi; exact ⟨i, hi, by simpa using h⟩
  · cases h

end Dm
end
section
set_option linter.unusedVariables false
set_option linter.unusedSimpArgs false
namespace Dm
open Go Go.RowKit

variable {P : Program} {B : Nat} {w0 : World} {μ : Mu} {H H' : Heap} {w : World}

def SimN (B : Nat) (w0 : World) (P : Program) (s : Sem Next) (μ : Mu) (H : Heap) (w : World) (v : Value) (H' : Heap) : Prop :=
  ∃ n v' w' μ', s.run P w = .ok n w' ∧ (n = .value v' ∨ (n = .skip ∧ v' = undef)) ∧ VR μ' v v' ∧ Ext P B w0 μ H w μ' H' w'
theorem SimV.next {s : Sem Value} {v : Value} (h : SimV B w0 P s μ H w v H') : SimN B w0 P (do pure (.value (← s))) μ H w v H' := by
  obtain ⟨v', w', μ', h1, h2, h3⟩ := h
  exact ⟨.value v', v', w', μ', by simp [h1], .inl rfl, h2, h3⟩
theorem SimU.next {s : Sem Unit} (h : SimU B w0 P s μ H w H') : SimN B w0 P (do s; pure .skip) μ H w undefV H' := by
  obtain ⟨w', μ', h1, h3⟩ := h
  exact ⟨.skip, undef, w', μ', by simp [h1], .inr ⟨rfl, rfl⟩, VR.undef _, h3⟩
theorem SimN.same (h : WR P B w0 μ H w) {s : Sem Next} {v v' : Value} (hv : VR μ v v') (hs : s.run P w = .ok (.value v') w) : SimN B w0 P s μ H w v H :=
  ⟨_, v', w, μ, hs, .inl rfl, hv, Ext.refl h⟩
theorem optmap {α β : Type} {x : Option α} {f : α → β} {y : β} (h : x.map f = some y) : ∃ a, x = some a ∧ f a = y := by
  cases x with
  | none => cases h
  | some a => exact ⟨a, rfl, by simpa using h⟩

theorem builtin_sim (h : WR P B w0 μ H w) {a : Act} {tm : Tm} (ht : VRs μ tm a.tmps.toList) {c : Call} {ty : TypeId} {m : MOp} {v : Value} (hc : chkB P c m = true) (hv : opV (ev tm) H m = some (v, H')) :
    SimN B w0 P (do let d ← resolve a.eval c ty; invoke d.target d.args) μ H w v H' := by
  obtain ⟨callee, ⟨args⟩, ⟨tys⟩⟩ := c
  unfold chkB at hc
  split at hc
  · -- app
    rename_i e size bytes z s x
    split at hc
    · rename_i s0 x0 sT xT hcal hargs htys
      simp only at hcal hargs htys
      subst hcal hargs htys
      simp only [Bool.and_eq_true] at hc
      obtain ⟨⟨⟨c1, c2⟩, c3⟩, c4⟩ := hc
      split at c3
      · rename_i el hel
        obtain ⟨i, z0, hi, hz, hzc, hsz, hby, hs0, hb0, hzs⟩ := chkElem_spec c3
        simp only [opV] at hv
        split at hv
        · rename_i n hn
          split at hv
          · rename_i new hnew
            split at hv
            · rename_i hlen
              have := (sim_app (P := P) h (ty := ty) (slElem_spec hel) hi hz hzc hsz (by omega) (by omega) c4 (chkX_vr ht c1) (chkX_vr ht c2) hn hnew hlen (by rw [hby]; exact hv)).next
              simpa [resolve, invoke, builtin] using this
            · cases hv
          · cases hv
        · cases hv
      · cases c3
    · cases hc
  · -- appz
    rename_i e size bytes z s x
    split at hc
    · rename_i s0 x0 sT xT hcal hargs htys
      simp only at hcal hargs htys
      subst hcal hargs htys
      simp only [Bool.and_eq_true] at hc
      obtain ⟨⟨⟨c1, c2⟩, c3⟩, c4⟩ := hc
      split at c3
      · rename_i el hel
        obtain ⟨i, z0, hi, hz, hzc, hsz, hby, hs0, hb0, hzs⟩ := chkElem_spec c3
        obtain ⟨k, hk⟩ := Option.isSome_iff_exists.1 c4
        simp only [opV] at hv
        split at hv
        · rename_i n hn
          split at hv
          · rename_i hcond
            obtain ⟨q0, q1, q2, q3⟩ := hcond
            have hx := chkX_vr ht c2
            rw [hn] at hx
            have hx2 : a.eval x0 = .int .i64 n := by
              generalize a.eval x0 = y at hx
              cases hx
              rfl
            have := (sim_appz (P := P) h (ty := ty) (slElem_spec hel) hi hz hzc hsz (by omega) (by omega) (hzs μ) (intT_spec hk) (chkX_vr ht c1) q0 q1 (by rw [hby]; exact q2) (fun a l c e => by rw [e] at q3; exact q3) (by rw [hby]; exact hv)).next
            simpa [resolve, invoke, builtin, hx2] using this
          · cases hv
        · cases hv
      · cases c3
    · cases hc
  · -- cpy
    rename_i size d s
    split at hc
    · rename_i d0 s0 dT sT hcal hargs htys
      simp only at hcal hargs htys
      subst hcal hargs htys
      simp only [Bool.and_eq_true] at hc
      obtain ⟨⟨c1, c2⟩, c3⟩ := hc
      split at c3
      · rename_i el hel
        obtain ⟨i, hi, hsz⟩ := hasSize_spec c3
        have hd := chkX_vr ht c1
        have hs := chkX_vr ht c2
        simp only [opV] at hv
        split at hv
        · rename_i base dl cp sl hdv hsl
          rw [hdv] at hd
          split at hv
          · rename_i cells hcells
            obtain ⟨H2, e1, e2⟩ := optmap hv
            cases e2
            have := (sim_cpy (P := P) h (ty := ty) (sT := sT) (slElem_spec hel) hi hsz hd hs hsl hcells e1).next
            simpa [resolve, invoke, builtin] using this
          · cases hv
        · cases hv
      · cases c3
    · cases hc
  · -- len
    rename_i x
    split at hc
    · rename_i x0 t hcal hargs htys
      simp only at hcal hargs htys
      subst hcal hargs htys
      simp only [Bool.and_eq_true] at hc
      obtain ⟨c1, c2⟩ := hc
      obtain ⟨el, hel⟩ := Option.isSome_iff_exists.1 c2
      have hx := chkX_vr ht c1
      simp only [opV] at hv
      split at hv
      · rename_i b n c hxv
        cases hv
        rw [hxv] at hx
        have := (sim_len_sl (P := P) h (ty := ty) (slElem_spec hel) hx).next
        simpa [resolve, invoke, builtin] using this
      · cases hv
    · cases hc
  · -- slen
    rename_i x
    split at hc
    · rename_i x0 t hcal hargs htys
      simp only at hcal hargs htys
      subst hcal hargs htys
      simp only [Bool.and_eq_true] at hc
      obtain ⟨c1, c2⟩ := hc
      have hx := chkX_vr ht c1
      simp only [opV] at hv
      split at hv
      · rename_i s hxv
        cases hv
        rw [hxv] at hx
        have := (sim_len_str (P := P) h (ty := ty) (strT_spec c2) hx).next
        simpa [resolve, invoke, builtin] using this
      · cases hv
    · cases hc
  · -- cap
    rename_i x
    split at hc
    · rename_i x0 t hcal hargs htys
      simp only at hcal hargs htys
      subst hcal hargs htys
      simp only [Bool.and_eq_true] at hc
      obtain ⟨c1, c2⟩ := hc
      obtain ⟨el, hel⟩ := Option.isSome_iff_exists.1 c2
      have hx := chkX_vr ht c1
      simp only [opV] at hv
      split at hv
      · rename_i n c hxv
        cases hv
        rw [hxv] at hx
        have := (sim_cap0 (P := P) h (ty := ty) (slElem_spec hel) hx).next
        simpa [resolve, invoke, builtin] using this
      · rename_i i o n c hxv
        rw [hxv] at hx
        split at hv
        · rename_i hsp
          cases hv
          have := (sim_capA (P := P) h (ty := ty) (slElem_spec hel) hx hsp).next
          simpa [resolve, invoke, builtin] using this
        · cases hv
      · cases hv
    · cases hc
  · -- max
    rename_i x y
    split at hc
    · rename_i x0 y0 hcal hargs
      simp only at hcal hargs
      subst hcal hargs
      simp only [Bool.and_eq_true] at hc
      obtain ⟨c1, c2⟩ := hc
      have hx := chkX_vr ht c1
      have hy := chkX_vr ht c2
      simp only [opV] at hv
      split at hv
      · rename_i k p k' q hxv hyv
        cases hv
        rw [hxv] at hx
        rw [hyv] at hy
        have := (sim_max (P := P) h (ty := ty) (ts := ⟨tys⟩) hx hy).next
        simpa [resolve, invoke, builtin] using this
      · cases hv
    · cases hc
  · -- clr
    rename_i z x
    split at hc
    · rename_i x0 t hcal hargs htys
      simp only at hcal hargs htys
      subst hcal hargs htys
      simp only [Bool.and_eq_true] at hc
      obtain ⟨c1, c2⟩ := hc
      have hx := chkX_vr ht c1
      split at c2
      · rename_i el hel
        split at c2
        · obtain ⟨i, z0, hi, hz, hzc, hsz, hby, hs0, hb0, hzs⟩ := chkElem_spec c2
          simp only [opV] at hv
          split at hv
          · rename_i i o n c hxv
            rw [hxv] at hx
            split at hv
            · rename_i h0
              cases hv
              subst h0
              have := (sim_clr0 (P := P) h (ty := ty) (slElem_spec hel) hx).next
              simpa [resolve, invoke, builtin] using this
            · rename_i h0
              obtain ⟨H2, e1, e2⟩ := optmap hv
              cases e2
              have := (sim_clrA (P := P) h (ty := ty) (slElem_spec hel) hi hz hzc (hzs μ) hx h0 e1).next
              simpa [resolve, invoke, builtin] using this
          · rename_i n c hxv
            rw [hxv] at hx
            split at hv
            · rename_i h0
              cases hv
              subst h0
              have := (sim_clr0 (P := P) h (ty := ty) (slElem_spec hel) hx).next
              simpa [resolve, invoke, builtin] using this
            · cases hv
          · cases hv
        · cases c2
      · cases c2
    · cases hc
  · cases hc

end Dm
end
section
set_option linter.unusedVariables false
set_option linter.unusedSimpArgs false
namespace Dm
open Go Go.RowKit

variable {P : Program} {B : Nat} {w0 : World} {μ : Mu} {H H' : Heap} {w : World}

theorem op_sim (h : WR P B w0 μ H w) {a : Act} {tm : Tm} (ht : VRs μ tm a.tmps.toList) {o : Oper} {m : MOp} {v : Value} (hc : chkOp P o.op m = true) (hv : opV (ev tm) H m = some (v, H')) :
    SimN B w0 P (execOp a.eval o) μ H w v H' := by
  obtain ⟨dst, op, type, pos, after, guard⟩ := o
  simp only at hc
  unfold chkOp at hc
  split at hc
  · cases hv
  · -- move
    simp only [opV] at hv
    cases hv
    exact SimN.same h (chkX_vr ht hc) rfl
  · -- assign
    simp only [opV] at hv
    cases hv
    exact SimN.same h (chkX_vr ht hc) rfl
  · -- pick
    rename_i c0 a0 b0 c x y
    simp only [Bool.and_eq_true] at hc
    obtain ⟨⟨c1, c2⟩, c3⟩ := hc
    simp only [opV] at hv
    split at hv
    · rename_i t hcv
      cases hv
      have hx := chkX_vr ht c1
      rw [hcv] at hx
      have hx2 : a.eval c0 = .bool t := by
        generalize a.eval c0 = z at hx
        cases hx
        rfl
      refine SimN.same h (v' := if t then a.eval a0 else a.eval b0) ?_ (by simp [execOp, hx2, asBool])
      cases t
      · exact chkX_vr ht c3
      · exact chkX_vr ht c2
    · cases hv
  · -- alloc
    rename_i t z e
    obtain ⟨i, z0, hi, hz, hzs⟩ := chkZero_spec hc
    simp only [opV] at hv
    cases hv
    exact (sim_alloc h hi hz (hzs μ)).next
  · -- box
    simp only [opV] at hv
    cases hv
    exact (sim_box h (chkX_vr ht hc)).next
  · -- build
    rename_i t ps z qs
    simp only [Bool.and_eq_true] at hc
    obtain ⟨⟨c1, c2⟩, c3⟩ := hc
    obtain ⟨i, z0, hi, hz, hzs⟩ := chkZero_spec c1
    have hpm := chkParts_pm (a := a) ht c2
    simp only [opV] at hv
    split at hv
    · rename_i l hl
      obtain ⟨cs, e1, e2⟩ := optmap hv
      cases e2
      have hu : (∃ fs, P.underlying t = some (.struct fs)) ∨ ∃ n e, P.underlying t = some (.array n e) := by
        split at c3
        · exact .inl ⟨_, ‹_›⟩
        · exact .inr ⟨_, _, ‹_›⟩
        · cases c3
      have := (sim_build (P := P) h (qs := (ps.map fun (i, x) => (i, a.eval x))) hi hz (hzs μ) hu (by simpa using hpm) hl e1 (.inr fun fs hfs => by rw [hfs] at c3; exact c3) (fun n e hne => by rw [hne] at c3; exact c3)).next
      exact this
    · cases hv
  · -- buildSlice
    rename_i t len ps e z qs len'
    simp only [Bool.and_eq_true, decide_eq_true_eq] at hc
    obtain ⟨rfl, c2⟩ := hc
    split at c2
    · rename_i el hel
      split at c2
      · rename_i i hi
        simp only [Bool.and_eq_true, decide_eq_true_eq] at c2
        obtain ⟨⟨c3, c4⟩, c5⟩ := c2
        obtain ⟨i', z0, hi', hz, hzc, hsz, hby, hs0, hb0, hzs⟩ := chkElem_spec c3
        rw [hi] at hi'
        cases hi'
        have hpm := chkParts_pm (a := a) ht c5
        simp only [opV] at hv
        split at hv
        · rename_i l hl
          obtain ⟨cs, e1, e2⟩ := optmap hv
          cases e2
          have := (sim_lit (P := P) h (e0 := e) (qs := (ps.map fun (i, x) => (i, a.eval x))) (slElem_spec hel) hi hz hzc (hzs μ) c4 (by simpa using hpm) hl e1).next
          exact this
        · cases hv
      · cases c2
    · cases c2
  · -- load one
    rename_i t a0 b
    simp only [Bool.and_eq_true] at hc
    obtain ⟨c1, c2⟩ := hc
    obtain ⟨q1, q2, q3⟩ := oneT_spec c2
    have hx := chkX_vr ht c1
    simp only [opV] at hv
    split at hv
    · rename_i i o hbv
      rw [hbv] at hx
      obtain ⟨v0, e1, e2⟩ := optmap hv
      cases e2
      exact (sim_ld h hx e1 q1 q2 q3).next
    · cases hv
  · -- load many
    rename_i t a0 n b
    simp only [Bool.and_eq_true] at hc
    obtain ⟨c1, c2⟩ := hc
    obtain ⟨q1, i0, q2, rfl⟩ := manyT_spec (w := w) c2
    have hx := chkX_vr ht c1
    simp only [opV] at hv
    split at hv
    · rename_i i o hbv
      rw [hbv] at hx
      obtain ⟨l, e1, e2⟩ := optmap hv
      cases e2
      exact (sim_lds h hx q2 e1 q1).next
    · cases hv
  · -- store
    rename_i t a0 x0 n b y
    simp only [Bool.and_eq_true] at hc
    obtain ⟨⟨c1, c2⟩, c3⟩ := hc
    obtain ⟨i0, q2, q3⟩ := hasSize_spec c3
    have hx := chkX_vr ht c1
    have hy := chkX_vr ht c2
    simp only [opV] at hv
    split at hv
    · rename_i i o hbv
      rw [hbv] at hx
      split at hv
      · rename_i hsz
        obtain ⟨H2, e1, e2⟩ := optmap hv
        cases e2
        exact (sim_st h hx hy q2 (by omega) e1).next
      · cases hv
    · cases hv
  · -- nilCheck
    rename_i x0 y
    have hx := chkX_vr ht hc
    simp only [opV] at hv
    split at hv
    · rename_i p hyv
      cases hv
      rw [hyv] at hx
      obtain ⟨p', hp⟩ : ∃ p', a.eval x0 = .pointer (some p') := by
        generalize a.eval x0 = z at hx
        cases hx
        exact ⟨_, rfl⟩
      rw [hp] at hx
      exact SimN.same h hx (by simp [execOp, hp])
    · rename_i g f c hyv
      cases hv
      rw [hyv] at hx
      obtain ⟨f', c', hp⟩ : ∃ f' c', a.eval x0 = .func (.func g) f' c' := by
        generalize a.eval x0 = z at hx
        cases hx
        exact ⟨_, _, rfl⟩
      rw [hp] at hx
      exact SimN.same h hx (by simp [execOp, hp])
    · cases hv
  · -- bin
    rename_i op t x0 y0 yt op' x y
    simp only [Bool.and_eq_true, decide_eq_true_eq] at hc
    obtain ⟨⟨rfl, c2⟩, c3⟩ := hc
    simp only [opV] at hv
    obtain ⟨v0, e1, e2⟩ := optmap hv
    cases e2
    exact (sim_bin h e1 (chkX_vr ht c2) (chkX_vr ht c3)).next
  · -- eq
    rename_i op t x0 y0 yt neq k x y
    simp only [Bool.and_eq_true, decide_eq_true_eq] at hc
    obtain ⟨⟨⟨⟨c1, c2⟩, c3⟩, c4⟩, c5⟩ := hc
    simp only [opV] at hv
    obtain ⟨r, e1, e2⟩ := optmap hv
    cases e2
    subst c1
    have hy : k = .nilI → ∃ v, y0 = .const v := by
      rintro rfl
      split at c5
      · cases y0 <;> first | exact ⟨_, rfl⟩ | (simp [chkX] at c3)
      · cases c5
      · rename_i h1 h2; exact absurd rfl (by first | exact h2 | exact h1)
    exact (sim_eq h neq hy c4 e1 (chkX_vr ht c2) (chkX_vr ht c3)).next
  · -- not
    simp only [Bool.and_eq_true, decide_eq_true_eq] at hc
    obtain ⟨rfl, c2⟩ := hc
    have hx := chkX_vr ht c2
    simp only [opV] at hv
    split at hv
    · rename_i b hb
      cases hv
      rw [hb] at hx
      exact (sim_not h hx).next
    · cases hv
  · -- neg
    simp only [Bool.and_eq_true, decide_eq_true_eq] at hc
    obtain ⟨rfl, c2⟩ := hc
    have hx := chkX_vr ht c2
    simp only [opV] at hv
    split at hv
    · rename_i k n hb
      cases hv
      rw [hb] at hx
      exact (sim_neg h hx).next
    · cases hv
  · -- cvt
    simp only [Bool.and_eq_true, decide_eq_true_eq] at hc
    obtain ⟨⟨c1, c2⟩, c3⟩ := hc
    obtain ⟨d, hd⟩ := Option.isSome_iff_exists.1 c2
    have hx := chkX_vr ht c1
    simp only [opV] at hv
    split at hv
    · rename_i k0 n hb
      cases hv
      rw [hb] at hx
      exact (sim_cvt h hd (intT_spec c3) hx).next
    · cases hv
  · -- bytes
    rename_i s d x0 e y
    simp only [Bool.and_eq_true] at hc
    obtain ⟨⟨c1, c2⟩, c3⟩ := hc
    have hx := chkX_vr ht c1
    split at c3
    · rename_i el hel
      simp only [decide_eq_true_eq] at c3
      simp only [opV] at hv
      split at hv
      · rename_i s hb
        split at hv
        · cases hv
          rw [hb] at hx
          exact (sim_bytes h (strT_spec c2) (fun k e => by cases e) (slElem_spec hel) (intT_spec c3) hx e).next
        · cases hv
      · cases hv
    · cases c3
  · -- fld
    simp only [Bool.and_eq_true] at hc
    obtain ⟨c1, c2⟩ := hc
    have hx := chkX_vr ht c1
    split at c2
    · rename_i f hf
      simp only [Bool.and_eq_true, decide_eq_true_eq] at c2
      obtain ⟨rfl, c3⟩ := c2
      obtain ⟨q1, q2, q3⟩ := oneT_spec c3
      obtain ⟨fs, hu, hfs⟩ := fieldT_spec hf
      simp only [opV] at hv
      split at hv
      · rename_i cs hb
        rw [hb] at hx
        obtain ⟨v0, e1, e2⟩ := optmap hv
        cases e2
        exact (sim_fld h hu hfs q1 q2 q3 hx e1).next
      · cases hv
    · cases c2
  · -- flds
    simp only [Bool.and_eq_true] at hc
    obtain ⟨c1, c2⟩ := hc
    have hx := chkX_vr ht c1
    split at c2
    · rename_i f hf
      simp only [Bool.and_eq_true, decide_eq_true_eq] at c2
      obtain ⟨rfl, c3⟩ := c2
      obtain ⟨q1, i0, q2, rfl⟩ := manyT_spec (w := w) c3
      obtain ⟨fs, hu, hfs⟩ := fieldT_spec hf
      simp only [opV] at hv
      split at hv
      · rename_i cs hb
        rw [hb] at hx
        cases hv
        exact (sim_flds h hu hfs q2 q1 hx).next
      · cases hv
    · cases c2
  · -- fieldAddr
    simp only [Bool.and_eq_true] at hc
    obtain ⟨c1, c2⟩ := hc
    have hx := chkX_vr ht c1
    split at c2
    · rename_i f hf
      simp only [Bool.and_eq_true, decide_eq_true_eq] at c2
      obtain ⟨rfl, c3⟩ := c2
      obtain ⟨fs, hu, hfs⟩ := fieldT_spec hf
      split at c3
      · rename_i i0 hi0
        simp only [decide_eq_true_eq] at c3
        simp only [opV] at hv
        split at hv
        · rename_i i o hb
          rw [hb] at hx
          cases hv
          exact (sim_fa h hx hu hfs hi0 c3).next
        · cases hv
      · cases c3
    · cases c2
  · -- indexAddr
    simp only [Bool.and_eq_true] at hc
    obtain ⟨⟨c1, c2⟩, c3⟩ := hc
    have hx := chkX_vr ht c1
    have hy := chkX_vr ht c2
    split at c3
    · rename_i el hel
      obtain ⟨i0, hi0, rfl⟩ := hasSize_spec c3
      simp only [opV] at hv
      split at hv
      · rename_i b o len cp k j hb hj
        rw [hb] at hx
        rw [hj] at hy
        split at hv
        · rename_i hcond
          cases hv
          have := (sim_ia (P := P) h (k := k) hx (slElem_spec hel) hi0 hcond.1 hcond.2).next
          rename_i i1 _ _ _ _ _
          have hj2 : ∀ z, VR μ (.int k j) z → z = .int k j := fun z hz => by cases hz; rfl
          have := hj2 _ hy
          simp only [execOp]
          rw [this]
          assumption
        · cases hv
      · cases hv
    · cases c3
  · -- index
    simp only [Bool.and_eq_true] at hc
    obtain ⟨⟨c1, c2⟩, c3⟩ := hc
    have hx := chkX_vr ht c1
    have hy := chkX_vr ht c2
    simp only [opV] at hv
    split at hv
    · rename_i s k j hb hj
      rw [hb] at hx
      rw [hj] at hy
      split at hv
      · rename_i h0
        obtain ⟨b, e1, e2⟩ := optmap hv
        cases e2
        exact (sim_ix h (strT_spec c3) hx hy h0 e1).next
      · cases hv
    · cases hv
  · -- slice
    rename_i t x0 lo hi mx size y lo' hi' mx'
    simp only [Bool.and_eq_true] at hc
    obtain ⟨⟨⟨⟨⟨c1, c2⟩, c3⟩, c4⟩, c5⟩, c6⟩ := hc
    have hx := chkX_vr ht c1
    split at c6
    · rename_i el hel
      obtain ⟨i0, hi0, hsz⟩ := hasSize_spec c6
      simp only [opV] at hv
      split at hv
      · rename_i ad len cp hb
        rw [hb] at hx
        split at hv
        · cases hv
        · rename_i m hm
          split at hv
          · cases hv
          · rename_i hh hhh
            split at hv
            · cases hv
            · rename_i l hl
              obtain ⟨v1, key, e2⟩ := optmap hv
              cases e2
              exact (sim_sl (P := P) h hx (slElem_spec hel) hi0 hsz (chkO_int ht c2) (fun e => by rw [chkO_none c2 e]; rfl) (chkO_int ht c3) (fun e => by rw [chkO_none c3 e]; rfl) (chkO_int ht c4) (fun e => by rw [chkO_none c4 e]; rfl) (fun e => by rw [e] at c5; simpa using c5) hm hhh hl key).next
      · cases hv
    · cases c6
  · -- slice of a string
    rename_i t x0 lo hi mx y lo' hi'
    simp only [Bool.and_eq_true] at hc
    obtain ⟨⟨⟨⟨c1, c2⟩, c3⟩, c4⟩, c5⟩ := hc
    have hx := chkX_vr ht c1
    have hmx : mx = none := by cases mx <;> simp at c4 ⊢
    subst hmx
    simp only [opV] at hv
    split at hv
    · rename_i s hb
      rw [hb] at hx
      split at hv
      · cases hv
      · rename_i hh hhh
        split at hv
        · cases hv
        · rename_i l hl
          cases hv
          exact (sim_sls (P := P) h hx (strT_spec c5) (chkO_int ht c2) (fun e => by rw [chkO_none c2 e]; rfl) (chkO_int ht c3) (fun e => by rw [chkO_none c3 e]; rfl) hhh hl).next
    · cases hv
  · -- makeSlice
    rename_i t l0 c0 e size bytes z l c
    simp only [Bool.and_eq_true] at hc
    obtain ⟨⟨c1, c2⟩, c3⟩ := hc
    have hx := chkX_vr ht c1
    have hy := chkX_vr ht c2
    split at c3
    · rename_i el hel
      obtain ⟨i, z0, hi, hz, hzc, hsz, hby, hs0, hb0, hzs⟩ := chkElem_spec c3
      simp only [opV] at hv
      split at hv
      · rename_i l1 c4 hl hcc
        rw [hl] at hx
        rw [hcc] at hy
        split at hv
        · rename_i hcnd
          cases hv
          obtain ⟨q0, q1, q2, q3⟩ := hcnd
          have := (sim_mk (P := P) h (e0 := e) (slElem_spec hel) hi hz hzc (hzs μ) q0 q1 q2 (by rw [hby]; exact q3)).next
          have e1 : a.eval l0 = .int .i64 l1 := by generalize a.eval l0 = zz at hx; cases hx; rfl
          have e2 : a.eval c0 = .int .i64 c4 := by generalize a.eval c0 = zz at hy; cases hy; rfl
          simp only [execOp, e1, e2]
          exact this
        · cases hv
      · cases hv
    · cases c3
  · -- makeInterface
    simp only [Bool.and_eq_true, decide_eq_true_eq] at hc
    obtain ⟨⟨rfl, c2⟩, c3⟩ := hc
    simp only [opV] at hv
    cases hv
    split at c3
    · cases c3
    · rename_i d hnd hd
      exact (sim_iface h hd (fun ms e => hnd ms e) (chkX_vr ht c2)).next
    · cases c3
  · -- extract
    simp only [Bool.and_eq_true, decide_eq_true_eq] at hc
    obtain ⟨c1, rfl⟩ := hc
    have hx := chkX_vr ht c1
    simp only [opV] at hv
    split at hv
    · rename_i vs hb
      rw [hb] at hx
      obtain ⟨v0, e1, e2⟩ := optmap hv
      cases e2
      exact (sim_ext h hx e1).next
    · cases hv
  · -- makeFunc
    rename_i f first caps f' caps'
    simp only [Bool.and_eq_true, decide_eq_true_eq] at hc
    obtain ⟨⟨rfl, c2⟩, c3⟩ := hc
    simp only [opV] at hv
    cases hv
    have := (sim_fn (P := P) h (f := f) (chkXs_vr (a := a) ht c3)).next
    have e1 : first.map a.eval = #[] := by
      have : first = #[] := Array.eq_empty_of_size_eq_zero c2
      rw [this]; simp
    have e2 : caps.map a.eval = (caps.toList.map a.eval).toArray := by rw [← Array.toList_map]
    simp only [execOp, e1, e2]
    exact this
  · -- a builtin
    exact builtin_sim h ht hc hv
  · cases hc

end Dm
end
section
set_option linter.unusedVariables false
set_option linter.unusedSimpArgs false
namespace Dm
open Go Go.RowKit

variable {P : Program} {F : Fence} {B : Nat} {w0 : World} {μ : Mu} {H H' : Heap} {w : World} {C : CallF}

def Post (P : Program) (B : Nat) (w0 : World) (μ : Mu) (H : Heap) (w : World) (r : Value) (H' : Heap) (e : Ending) (w' : World) : Prop :=
  ∃ v' μ', e = .returned v' ∧ VR μ' r v' ∧ Ext P B w0 μ H w μ' H' w'

/-- What is called does what the machine says of it. -/
def CallOK (P : Program) (F : Fence) (C : CallF) : Prop :=
  (∀ (B : Nat) (w0 : World) (f : Nat) (args : List Value) (H : Heap) (r : Value) (H' : Heap) (μ : Mu) (w : World) (args' : List Value), C (.fn f) args H = some (r, H') → WR P B w0 μ H w → VRs μ args args' →
    (∃ fn, P.funcs[f]? = some fn ∧ (fn.name == "runtime.NumGoroutine") = false ∧ fn.body.isNone = false) ∧ CallsIn F 0 P f args'.toArray w (Post P B w0 μ H w r H')) ∧
  (∀ (B : Nat) (w0 : World) (l : Nat) (args : List Value) (H : Heap) (r : Value) (H' : Heap) (μ : Mu) (w : World) (args' : List Value) (m : Img), C (.round l) args H = some (r, H') → WR P B w0 μ H w → VRs μ args args' → μ l = some m →
    ∃ fn tmps asg body, (Instr.yield m.blk args'.toArray).run P w = .ok (.round m.blk fn tmps asg body) w ∧ RoundIn F 0 P m.blk fn tmps asg body w (Post P B w0 μ H w r H'))

theorem chkOp_nodefer {op : Op} {m : MOp} (h : chkOp P op m = true) (hm : m ≠ .bad) : ∀ c, op ≠ .defer c := by
  intro c e
  subst e
  cases m <;> first | exact absurd rfl hm | (simp [chkOp] at h)
theorem chkCall_nodefer {op : Op} {m : MOp} (h : chkCall op m = true) : ∀ c, op ≠ .defer c := by
  intro c e
  subst e
  cases m <;> simp [chkCall] at h
theorem semAt_exec {r : Option Nat} {ρ : Operand → Value} {o : Oper} (h : ∀ c, o.op ≠ .defer c) : Oper.semAt r ρ o = execOp ρ o := by
  cases r with
  | none => rfl
  | some l => exact Oper.semAt_some l ρ o h

theorem op_wp (hF : ∀ f, F.fn f) (hD : F.depth = none) (hC : CallOK P F C) {o : Oper} {m : MOp} {a : Act} {tm : Tm} {v : Value} {next : Act → World → Prop} {Q : Exit → Act → World → Prop}
    (hc : (chkCall o.op m || chkOp P o.op m) = true) (hv : opC C (ev tm) H m = some (v, H')) (h : WR P B w0 μ H w) (ht : VRs μ tm a.tmps.toList)
    (hn : ∀ v' w' μ', VR μ' v v' → Ext P B w0 μ H w μ' H' w' → next (a.put o.dst v') w') : o.wpIn F 0 P a w next Q := by
  refine ⟨fun f _ => hF f, ?_⟩
  have hd0 : F.depth.isSome = true → 1 ≤ 0 := fun hh => by rw [hD] at hh; cases hh
  by_cases hcall : chkCall o.op m = true
  · rw [semAt_exec (chkCall_nodefer hcall)]
    obtain ⟨dst, op, type, pos, after, guard⟩ := o
    simp only at hcall hn ⊢
    unfold chkCall at hcall
    split at hcall
    · rename_i c f args
      split at hcall
      · rename_i g hg
        simp only [Bool.and_eq_true] at hcall
        obtain ⟨c1, c2⟩ := hcall
        have hf := chkX_vr ht c1
        have hargs := chkXs_vr (a := a) ht c2
        have hma : c.args.map a.eval = (c.args.toList.map a.eval).toArray := by rw [← Array.toList_map]
        simp only [opC] at hv
        split at hv
        · rename_i fid first cap hfv
          rw [hfv] at hf
          generalize hgv : a.eval g = gv at hf
          cases hf with
          | @fn _ _ first' _ cap' ha hb h1 h2 =>
            have hall : VRs μ (first.toList ++ args.map (ev tm) ++ cap.toList) (first'.toList ++ c.args.toList.map a.eval ++ cap'.toList) := ((VRs.of_toList ha h1).append hargs).append (VRs.of_toList hb h2)
            obtain ⟨⟨fn, q1, q2, q3⟩, q4⟩ := hC.1 B w0 fid _ _ _ _ _ _ _ hv h hall
            have hrun : (execOp a.eval ⟨dst, .call c, type, pos, after, guard⟩).run P w = .ok (.enter fid (first'.toList ++ c.args.toList.map a.eval ++ cap'.toList).toArray) w := by
              have harr : first' ++ c.args.map a.eval ++ cap' = (first'.toList ++ c.args.toList.map a.eval ++ cap'.toList).toArray := by
                rw [hma]; simp
              simp only [execOp, resolve, hg, hgv, Deferred.ofValue, Sem.run_bind, Sem.run_pure, Result.andThen_ok, invoke, callFunc, program, Sem.run, q1, q2, q3, Bool.false_eq_true, if_false]
              rw [harr]
            rw [hrun, Oper.uponIn_enter]
            refine ⟨hd0, q4.mono ?_⟩
            rintro e w' ⟨v', μ', rfl, q5, q6⟩
            exact hn v' w' μ' q5 q6
        · rename_i l first cap hfv
          rw [hfv] at hf
          split at hv
          · rename_i hsz
            have e1 : first = #[] := Array.eq_empty_of_size_eq_zero hsz.1
            have e2 : cap = #[] := Array.eq_empty_of_size_eq_zero hsz.2
            subst e1 e2
            generalize hgv : a.eval g = gv at hf
            cases hf with
            | @yield _ mm hm =>
              obtain ⟨fn, tmps, asg, body, q1, q2⟩ := hC.2 B w0 l _ _ _ _ _ _ _ mm hv h hargs hm
              have hrun : (execOp a.eval ⟨dst, .call c, type, pos, after, guard⟩).run P w = .ok (.round mm.blk fn tmps asg body) w := by
                simp only [execOp, resolve, hg, hgv, Deferred.ofValue, Sem.run_bind, Sem.run_pure, Result.andThen_ok, invoke]
                rw [hma]
                simpa using q1
              rw [hrun, Oper.uponIn_round]
              refine ⟨hd0, q2.mono ?_⟩
              rintro e w' ⟨v', μ', rfl, q5, q6⟩
              exact hn v' w' μ' q5 q6
          · cases hv
        · cases hv
      · cases hcall
    · cases hcall
  · have hop : chkOp P o.op m = true := by simpa [hcall] using hc
    have hnc : opV (ev tm) H m = some (v, H') := by
      cases m <;> first | exact hv | skip
      rename_i f args
      exfalso
      obtain ⟨dst, op, type, pos, after, guard⟩ := o
      cases op <;> simp [chkOp, chkB] at hop
    have hbad : m ≠ .bad := by rintro rfl; cases hnc
    rw [semAt_exec (chkOp_nodefer hop hbad)]
    obtain ⟨n, v', w', μ', q1, q2, q3, q4⟩ := op_sim (a := a) h ht hop hnc
    rw [q1]
    rcases q2 with rfl | ⟨rfl, rfl⟩
    · exact hn v' w' μ' q3 q4
    · exact hn undef w' μ' q3 q4

theorem put_vrs {tm : Tm} {a : Act} {d : Option Nat} {v v' : Value} (ht : VRs μ tm a.tmps.toList) (hv : VR μ v v') : VRs μ (put tm d v) (a.put d v').tmps.toList := by
  cases d with
  | none => exact ht
  | some d =>
    have := ht.set d hv
    simpa [put, Act.put] using this
theorem wants_eq {ops : Array Oper} {o : Oper} {mg : Option (Nat × Bool)} {a : Act} {tm : Tm} (hg : chkG ops o.guard mg = true) (ht : ∀ t b, mg = some (t, b) → VR μ (tm.getD t undefV) (a.tmps.toList.getD t undef)) : Region.wanted o (yielded ops a.tmps) = wants tm mg := by
  unfold chkG at hg
  split at hg
  · rename_i e1
    simp only [Region.wanted, e1, wants]
  · rename_i j b t b' e1
    simp only [Bool.and_eq_true, decide_eq_true_eq, beq_iff_eq] at hg
    obtain ⟨h1, rfl⟩ := hg
    have hv := ht t b rfl
    simp only [Region.wanted, e1, wants, yielded, h1, Option.bind_some]
    have hget : a.tmps.toList.getD t undef = (a.tmps[t]?).getD undef := by rw [List.getD_eq_getElem?_getD]; simp
    rw [hget] at hv
    cases hx : a.tmps[t]? with
    | none =>
      rw [hx] at hv
      simp only [Option.getD_none, undef] at hv
      generalize tm.getD t undefV = u at hv
      cases hv
      rfl
    | some x =>
      rw [hx] at hv
      simp only [Option.getD_some] at hv
      generalize tm.getD t undefV = u at hv
      cases hv <;> first | rfl | (simp; rename_i q; cases q <;> cases b <;> rfl)
  · cases hg

/-- A region in the text's order. -/
theorem seq_wp (hF : ∀ f, F.fn f) (hD : F.depth = none) (hC : CallOK P F C) {ops : Array Oper} {Q : Exit → Act → World → Prop} : ∀ (os : List Oper) (ms : List MO) (is : List Nat) (tm : Tm) (H : Heap) (μ : Mu) (w : World) (a : Act) (tm' : Tm) (H' : Heap),
    is.length = os.length → (∀ (k i : Nat), is[k]? = some i → ops[i]? = os[k]?) → chkSeq P ops os ms = true → runOs C ms tm H = some (tm', H') → WR P B w0 μ H w → VRs μ tm a.tmps.toList →
    (∀ a' w' μ', a'.defers = a.defers → VRs μ' tm' a'.tmps.toList → Ext P B w0 μ H w μ' H' w' → Q .normal a' w') → wpOpsIn F 0 P ops Q is a w
  | [], [], is, tm, H, μ, w, a, tm', H', hl, _, _, hr, h, ht, hq => by
    have : is = [] := List.eq_nil_of_length_eq_zero hl
    subst this
    simp only [runOs, Option.some.injEq, Prod.mk.injEq] at hr
    obtain ⟨rfl, rfl⟩ := hr
    exact hq a w μ rfl ht (Ext.refl h)
  | o :: os, m :: ms, is, tm, H, μ, w, a, tm', H', hl, hi, hc, hr, h, ht, hq => by
    cases is with
    | nil => cases hl
    | cons i is =>
      simp only [chkSeq, Bool.and_eq_true] at hc
      obtain ⟨c1, c2⟩ := hc
      simp only [chkMO, Bool.and_eq_true, decide_eq_true_eq] at c1
      obtain ⟨⟨c3, c4⟩, c5⟩ := c1
      have hio : ops[i]? = some o := hi 0 i rfl
      have hi2 : ∀ (k j : Nat), is[k]? = some j → ops[j]? = os[k]? := fun k j hk => hi (k + 1) j hk
      have hw := wants_eq (μ := μ) (a := a) (tm := tm) c4 (fun t b _ => ht.getD t)
      rw [wpOpsIn_cons]
      unfold wpOpIn
      simp only [hio]
      simp only [runOs] at hr
      split at hr
      · rename_i tm1 H1 hr1
        unfold runO at hr1
        split at hr1
        · rename_i hwant
          rw [hw, if_pos hwant]
          split at hr1
          · rename_i v H2 hv
            split at hr1
            · simp only [Option.some.injEq, Prod.mk.injEq] at hr1
              obtain ⟨rfl, rfl⟩ := hr1
              refine op_wp hF hD hC c5 hv h ht fun v' w' μ' q1 q2 => ?_
              refine seq_wp hF hD hC os ms is _ _ μ' w' _ tm' H' (by simpa using hl) hi2 c2 hr q2.wr ?_ ?_
              · rw [c3]; exact put_vrs (ht.mono (q2.mono h)) q1
              · intro a' w'' μ'' e1 e2 e3
                refine hq a' w'' μ'' (e1.trans ?_) e2 (q2.trans e3 h)
                cases o.dst <;> rfl
            · cases hr1
          · cases hr1
        · rename_i hwant
          rw [hw, if_neg hwant]
          simp only [Option.some.injEq, Prod.mk.injEq] at hr1
          obtain ⟨rfl, rfl⟩ := hr1
          refine ⟨fun f _ => hF f, seq_wp hF hD hC os ms is _ _ μ w _ tm' H' (by simpa using hl) hi2 c2 hr h ?_ ?_⟩
          · rw [c3]; exact put_vrs ht (VR.undef μ)
          · intro a' w'' μ'' e1 e2 e3
            refine hq a' w'' μ'' (e1.trans ?_) e2 e3
            cases o.dst <;> rfl
      · cases hr
  | [], _ :: _, _, _, _, _, _, _, _, _, _, _, hc, _, _, _, _ => by cases hc
  | _ :: _, [], _, _, _, _, _, _, _, _, _, _, hc, _, _, _, _ => by cases hc

end Dm
end
section
set_option linter.unusedVariables false
set_option linter.unusedSimpArgs false
namespace Dm
open Go Go.RowKit

/-! ### The run in one order -/
structure Canon (C : CallF) (ms : List MO) (tm0 : Tm) (H0 : Heap) (T : Nat → Tm) (K : Nat → Heap) (V : Nat → Value) : Prop where
  t0 : T 0 = tm0
  k0 : K 0 = H0
  step : ∀ (p : Nat) (m : MO), ms[p]? = some m → T (p + 1) = put (T p) m.dst (V p) ∧
    ((wants (T p) m.guard = true ∧ opC C (ev (T p)) (K p) m.op = some (V p, K (p + 1)) ∧ m.keep.all (kept (T p) (K p) (K (p + 1))) = true) ∨
     (wants (T p) m.guard = false ∧ V p = undefV ∧ K (p + 1) = K p))

theorem canon_of {C : CallF} : ∀ (ms : List MO) (tm0 : Tm) (H0 : Heap) (tm1 : Tm) (H1 : Heap), runOs C ms tm0 H0 = some (tm1, H1) →
    ∃ T K V, Canon C ms tm0 H0 T K V ∧ T ms.length = tm1 ∧ K ms.length = H1
  | [], tm0, H0, tm1, H1, h => by
    simp only [runOs, Option.some.injEq, Prod.mk.injEq] at h
    obtain ⟨rfl, rfl⟩ := h
    exact ⟨fun _ => tm0, fun _ => H0, fun _ => undefV, ⟨rfl, rfl, fun p m h => by simp at h⟩, rfl, rfl⟩
  | m :: ms, tm0, H0, tm1, H1, h => by
    simp only [runOs] at h
    split at h
    · rename_i tm' H' hr
      obtain ⟨T, K, V, hc, e1, e2⟩ := canon_of ms tm' H' tm1 H1 h
      unfold runO at hr
      split at hr
      · rename_i hw
        split at hr
        · rename_i v H2 hv
          split at hr
          · rename_i hk
            simp only [Option.some.injEq, Prod.mk.injEq] at hr
            obtain ⟨rfl, rfl⟩ := hr
            refine ⟨fun | 0 => tm0 | p + 1 => T p, fun | 0 => H0 | p + 1 => K p, fun | 0 => v | p + 1 => V p, ⟨rfl, rfl, ?_⟩, e1, e2⟩
            intro p m' hp
            cases p with
            | zero =>
              simp at hp
              subst hp
              exact ⟨hc.t0, .inl ⟨hw, by rw [hv]; simp only [hc.k0], by simp only [hc.k0]; exact hk⟩⟩
            | succ p => exact hc.step p m' (by simpa using hp)
          · cases hr
        · cases hr
      · rename_i hw
        simp only [Option.some.injEq, Prod.mk.injEq] at hr
        obtain ⟨rfl, rfl⟩ := hr
        refine ⟨fun | 0 => tm0 | p + 1 => T p, fun | 0 => H0 | p + 1 => K p, fun | 0 => undefV | p + 1 => V p, ⟨rfl, rfl, ?_⟩, e1, e2⟩
        intro p m' hp
        cases p with
        | zero =>
          simp at hp
          subst hp
          exact ⟨hc.t0, .inr ⟨by simpa using hw, rfl, hc.k0⟩⟩
        | succ p => exact hc.step p m' (by simpa using hp)
    · cases h

/-- The temporaries, where some of the operations are done. -/
def mask (ms : List MO) (V : Nat → Value) (tm0 : Tm) (D : Nat → Bool) : Nat → Tm
  | 0 => tm0
  | q + 1 => match ms[q]? with
    | some m => if D q then put (mask ms V tm0 D q) m.dst (V q) else mask ms V tm0 D q
    | none => mask ms V tm0 D q

section
variable {C : CallF} {ms : List MO} {tm0 : Tm} {H0 : Heap} {T : Nat → Tm} {K : Nat → Heap} {V : Nat → Value} {D D' : Nat → Bool}

theorem mask_all (hc : Canon C ms tm0 H0 T K V) : ∀ q, q ≤ ms.length → (∀ p, p < q → D p = true) → mask ms V tm0 D q = T q
  | 0, _, _ => hc.t0.symm
  | q + 1, hq, h => by
    have hm : ms[q]? = some ms[q] := List.getElem?_eq_getElem (by omega)
    simp only [mask, hm, h q (by omega), if_true, mask_all hc q (by omega) (fun p hp => h p (by omega))]
    exact ((hc.step q _ hm).1).symm
theorem mask_stop (p : Nat) : ∀ q, p ≤ q → (∀ r, p ≤ r → r < q → D r = false) → mask ms V tm0 D q = mask ms V tm0 D p
  | 0, h, _ => by have : p = 0 := by omega
                  subst this; rfl
  | q + 1, h, hd => by
    by_cases e : p = q + 1
    · rw [e]
    · have : mask ms V tm0 D (q + 1) = mask ms V tm0 D q := by
        simp only [mask, hd q (by omega) (by omega), Bool.false_eq_true, if_false]
        split <;> rfl
      rw [this]
      exact mask_stop p q (by omega) fun r h1 h2 => hd r h1 (by omega)
/-- What stands before an operation. -/
theorem mask_lt (hc : Canon C ms tm0 H0 T K V) {p : Nat} (hp : p ≤ ms.length) : mask ms V tm0 (fun q => decide (q < p)) ms.length = T p := by
  rw [mask_stop p ms.length hp (fun r h1 _ => by simpa using h1)]
  exact mask_all hc p hp fun q hq => by simpa using hq
theorem put_len (tm : Tm) (d : Option Nat) (v : Value) : (put tm d v).length = tm.length := by cases d <;> simp [put]
theorem mask_len : ∀ q, (mask ms V tm0 D q).length = tm0.length
  | 0 => rfl
  | q + 1 => by
    simp only [mask]
    split
    · split
      · rw [put_len]; exact mask_len q
      · exact mask_len q
    · exact mask_len q
theorem mask_congr (t : Nat) : ∀ q, (∀ (p : Nat) (m : MO), p < q → ms[p]? = some m → m.dst = some t → D p = D' p) → (mask ms V tm0 D q)[t]? = (mask ms V tm0 D' q)[t]?
  | 0, _ => rfl
  | q + 1, h => by
    have ih := mask_congr t q fun p m hp => h p m (by omega)
    simp only [mask]
    split
    · rename_i m hm
      by_cases e : m.dst = some t
      · have := h q m (by omega) hm e
        rw [this]
        split
        · simp only [put, e, List.getElem?_set, mask_len, if_true]
        · exact ih
      · have hp : ∀ (tm : Tm) v, (put tm m.dst v)[t]? = tm[t]? := by
          intro tm v
          unfold put
          split
          · rename_i d hd
            rw [List.getElem?_set]
            have : d ≠ t := fun e2 => e (by rw [hd, e2])
            simp [this]
          · rfl
        split
        · rw [hp]
          split
          · rw [hp]; exact ih
          · exact ih
        · split
          · rw [hp]; exact ih
          · exact ih
    · exact ih
theorem distinct_spec : ∀ {ms : List MO}, distinct ms = true → ∀ (p q : Nat) (m m' : MO) (d : Nat), p < q → ms[p]? = some m → ms[q]? = some m' → m.dst = some d → m'.dst ≠ some d
  | [], _, p, q, m, m', d, _, hp, _, _ => by simp at hp
  | m0 :: ms, h, p, q, m, m', d, hpq, hp, hq, hd => by
    simp only [distinct, Bool.and_eq_true] at h
    cases q with
    | zero => omega
    | succ q =>
      cases p with
      | zero =>
        simp at hp hq
        subst hp
        rw [hd] at h
        have := (List.all_eq_true.1 h.1) m' (List.mem_of_getElem? hq)
        simpa using this
      | succ p => exact distinct_spec h.2 p q m m' d (by omega) (by simpa using hp) (by simpa using hq) hd
theorem put_comm {tm : Tm} {d e : Option Nat} {u v : Value} (h : ∀ x, d = some x → e ≠ some x) : put (put tm d u) e v = put (put tm e v) d u := by
  cases d with
  | none => rfl
  | some d =>
    cases e with
    | none => rfl
    | some e =>
      simp only [put]
      exact List.set_comm u v fun e2 => h d rfl (by rw [e2])
theorem mask_add (hd : distinct ms = true) {p : Nat} {m : MO} (hm : ms[p]? = some m) (hp : D p = false) : ∀ q, p < q → mask ms V tm0 (fun r => D r || decide (r = p)) q = put (mask ms V tm0 D q) m.dst (V p)
  | 0, h => by omega
  | q + 1, h => by
    by_cases e : p = q
    · subst e
      have e1 : mask ms V tm0 (fun r => D r || decide (r = p)) p = mask ms V tm0 D p := by
        have : ∀ s, s ≤ p → mask ms V tm0 (fun r => D r || decide (r = p)) s = mask ms V tm0 D s := by
          intro s
          induction s with
          | zero => intro _; rfl
          | succ s ih =>
            intro hs
            have : decide (s = p) = false := by simp; omega
            simp only [mask, ih (by omega), this, Bool.or_false]
        exact this p (Nat.le_refl _)
      simp only [mask, hm, hp, Bool.false_or, decide_true, if_true, Bool.false_eq_true, if_false, e1]
    · have ih := mask_add hd hm hp q (by omega)
      have hq : decide (q = p) = false := by simp; omega
      simp only [mask, ih, hq, Bool.or_false]
      split
      · rename_i m' hm'
        split
        · exact put_comm fun x hx => distinct_spec hd p q m m' x (by omega) hm hm' hx
        · rfl
      · rfl

/-! ### Answers that hang on the operands alone -/
theorem partsOf_congr {ρ ρ' : X → Value} : ∀ (ps : List (Nat × Nat × X)), (∀ x ∈ ps.map (·.2.2), ρ x = ρ' x) → partsOf ρ ps = partsOf ρ' ps
  | [], _ => rfl
  | (o, n, x) :: r, h => by
    simp only [partsOf]
    rw [h x (by simp), partsOf_congr r fun y hy => h y (by simp at hy ⊢; exact .inr hy)]
theorem bnd_congr {ρ ρ' : X → Value} {x : Option X} (h : ∀ y, x = some y → ρ y = ρ' y) (d y : Nat) : bnd x ρ d y = bnd x ρ' d y := by
  cases x with
  | none => rfl
  | some x => simp only [bnd]; rw [h x rfl]
theorem opV_congr {ρ ρ' : X → Value} {H : Heap} {m : MOp} (h : ∀ x ∈ opXs m, ρ x = ρ' x) : opV ρ H m = opV ρ' H m := by
  cases m <;> simp only [opXs] at h <;> simp only [opV]
  case build z ps => rw [partsOf_congr ps h]
  case lit e z ps len => rw [partsOf_congr ps h]
  case sl size x lo hi mx =>
    rw [h x (by simp)]
    have h1 := fun d y => bnd_congr (ρ := ρ) (ρ' := ρ') (x := lo) (fun z hz => h z (by simp [hz])) d y
    have h2 := fun d y => bnd_congr (ρ := ρ) (ρ' := ρ') (x := hi) (fun z hz => h z (by simp [hz])) d y
    have h3 := fun d y => bnd_congr (ρ := ρ) (ρ' := ρ') (x := mx) (fun z hz => h z (by simp [hz])) d y
    simp only [h1, h2, h3]
  case sls x lo hi =>
    rw [h x (by simp)]
    have h1 := fun d y => bnd_congr (ρ := ρ) (ρ' := ρ') (x := lo) (fun z hz => h z (by simp [hz])) d y
    have h2 := fun d y => bnd_congr (ρ := ρ) (ρ' := ρ') (x := hi) (fun z hz => h z (by simp [hz])) d y
    simp only [h1, h2]
  case fn f caps => rw [List.map_congr_left (f := ρ) (g := ρ') h]
  all_goals (simp only [List.mem_cons, List.mem_singleton, List.not_mem_nil, or_false, forall_eq_or_imp, forall_eq] at h; simp only [h])
theorem opC_congr {ρ ρ' : X → Value} {H : Heap} {m : MOp} (h : ∀ x ∈ opXs m, ρ x = ρ' x) : opC C ρ H m = opC C ρ' H m := by
  cases m <;> first | rfl | exact opV_congr h | skip
  rename_i f args
  simp only [opXs] at h
  simp only [opC]
  rw [h f (by simp), List.map_congr_left (f := ρ) (g := ρ') (l := args) fun x hx => h x (by simp [hx])]

/-- The block of an address or of a slice. -/
def blkOf : Value → Option Nat
  | .pointer (some ⟨i, _, none⟩) => some i
  | .slice (some ⟨i, _, none⟩) _ _ => some i
  | _ => none
theorem rd_congr {H H' : Heap} {i : Nat} (h : H'[i]? = H[i]?) (o : Nat) : rd H' i o = rd H i o := by simp only [rd, h]
theorem rds_congr {H H' : Heap} {i : Nat} (h : H'[i]? = H[i]?) (o n : Nat) : rds H' i o n = rds H i o n := by simp only [rds, h]
theorem kdAt_congr {H H' : Heap} {i : Nat} (h : H'[i]? = H[i]?) : kdAt H' i = kdAt H i := by simp only [kdAt, h]

theorem pure_any {ρ : X → Value} {H H' : Heap} {m : MOp} {v : Value} (h1 : effM m = false) (h2 : alcM m = false) (hv : opV ρ H m = some (v, H')) :
    H' = H ∧ ∀ H2 : Heap, (∀ x i, ldX m = some x → blkOf (ρ x) = some i → H2[i]? = H[i]?) → opV ρ H2 m = some (v, H2) := by
  cases m <;> simp only [effM, alcM, Bool.true_eq_false, reduceCtorEq] at h1 h2 <;> simp only [opV] at hv ⊢
  case ld a =>
    split at hv
    · rename_i i o hp
      obtain ⟨u, e1, e2⟩ := optmap hv
      cases e2
      refine ⟨rfl, fun H2 h => ?_⟩
      rw [rd_congr (h a i rfl (by rw [hp]; rfl)), e1]
      rfl
    · cases hv
  case lds n a =>
    split at hv
    · rename_i i o hp
      obtain ⟨u, e1, e2⟩ := optmap hv
      cases e2
      refine ⟨rfl, fun H2 h => ?_⟩
      rw [rds_congr (h a i rfl (by rw [hp]; rfl)), e1]
      rfl
    · cases hv
  case sl size x lo hi mx =>
    split at hv
    · rename_i a len cap hx
      split at hv
      · cases hv
      · rename_i m hm
        split at hv
        · cases hv
        · rename_i hh hhe
          split at hv
          · cases hv
          · rename_i l hl
            obtain ⟨u, e1, e2⟩ := optmap hv
            cases e2
            refine ⟨rfl, fun H2 h => ?_⟩
            have : slV H2 size mx.isNone a hh l m = slV H size mx.isNone a hh l m := by
              unfold slV
              split
              · rfl
              · rename_i i o
                rw [kdAt_congr (h x i rfl (by rw [hx]; rfl))]
              · rfl
            rw [this, e1]
            rfl
    · cases hv
  case cap x =>
    split at hv
    · cases hv; rename_i hx; exact ⟨rfl, fun H2 h => rfl⟩
    · rename_i i o n c hx
      split at hv
      · rename_i hk
        cases hv
        refine ⟨rfl, fun H2 h => ?_⟩
        rw [kdAt_congr (h x i rfl (by rw [hx]; rfl)), hk]
      · cases hv
    · cases hv
  case max2 x y =>
    split at hv
    · rename_i hx hy
      cases hv
      exact ⟨rfl, fun _ _ => rfl⟩
    · cases hv
  all_goals
    first
      | (cases hv; exact ⟨rfl, fun _ _ => rfl⟩)
      | (repeat' split at hv) <;>
        first
          | (cases hv; done)
          | (simp only [Option.some.injEq, Prod.mk.injEq] at hv; obtain ⟨rfl, rfl⟩ := hv; exact ⟨rfl, fun _ _ => by first | (simp only [*]; done) | simp_all⟩)
          | (obtain ⟨u, e1, e2⟩ := optmap hv; cases e2; exact ⟨rfl, fun _ _ => by simp_all⟩)
end
end Dm
end
