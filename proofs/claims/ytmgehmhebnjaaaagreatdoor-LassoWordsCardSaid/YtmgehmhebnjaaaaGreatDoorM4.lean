/- Lemmas that lead to the statement: what comes in is opened: values without memory, and rows that are read alone. a law's call, by its values alone. -/
import Derived.Test.YtmgehmhebnjaaaaGreatDoorM3
import Derived.Test.YtmgehmhebnjaaaaGreatDoorM2
import Derived.ChangeArms
import Derived.DataReads
set_option linter.all false
section
set_option linter.unusedVariables false
set_option linter.unusedSimpArgs false
namespace Dm
open Go Go.RowKit
variable {P : Program} {w : World} {μ μ' : Mu} {H H' : Heap}

def AllRo (H : Heap) : Prop := ∀ (i : Nat) (o : AObj), H[i]? = some o → ∃ cs e v, o = AObj.cells cs e .ro v
theorem AllRo.no_rw (h : AllRo H) (i : Nat) : ¬ RW H i := by
  rintro ⟨o, h1, h2⟩
  obtain ⟨cs, e, v, rfl⟩ := h i o h1
  cases h2
theorem AllRo.add (h : AllRo H) (cs : List Value) : AllRo (H ++ [AObj.cells cs 0 .ro 0]) := by
  intro i o ho
  by_cases hi : i < H.length
  · rw [List.getElem?_append_left hi] at ho; exact h i o ho
  · rw [List.getElem?_append_right (by omega)] at ho
    have : i - H.length = 0 := by
      by_cases e : i - H.length = 0
      · exact e
      · rw [List.getElem?_eq_none (by simp; omega)] at ho; cases ho
    rw [this] at ho
    simp only [List.getElem?_cons_zero, Option.some.injEq] at ho
    exact ⟨cs, 0, 0, ho.symm⟩
/-- A row that is read alone. -/
theorem WR.addRo (h : WR P w.heap.size w μ H w) (hr : AllRo H) {blk off e' : Nat} {C : Array Value} {fr : Nat × Nat} {cs : List Value} (hC : w.heap[blk]? = some (.cells C e' fr)) (hle : off + cs.length ≤ C.size)
    (hv : ∀ (j : Nat) (x y : Value), cs[j]? = some x → C[off + j]? = some y → VR μ x y) :
    WR P w.heap.size w (μ.add H.length ⟨blk, off, C.size, none⟩) (H ++ [.cells cs 0 .ro 0]) w := by
  have hn : μ H.length = none := h.none_at (Nat.le_refl _)
  have hmo := Mu.add_mono (m := ⟨blk, off, C.size, none⟩) hn
  have hspl : ∀ j m, μ.add H.length ⟨blk, off, C.size, none⟩ j = some m → (j = H.length ∧ m = ⟨blk, off, C.size, none⟩) ∨ (j < H.length ∧ μ j = some m) := by
    intro j m hm
    unfold Mu.add at hm
    split at hm
    · rename_i e; exact .inl ⟨e, by simpa using hm.symm⟩
    · exact .inr ⟨h.dom j m hm, hm⟩
  have hblk : blk < w.heap.size := (Array.getElem?_eq_some_iff.1 hC).1
  refine ⟨?_, ?_, ?_, ?_, h.below, h.base⟩
  · intro j m hm
    rcases hspl j m hm with ⟨rfl, _⟩ | ⟨hj, _⟩ <;> simp <;> omega
  · intro j m o hm ho
    rcases hspl j m hm with ⟨rfl, rfl⟩ | ⟨hj, hm'⟩
    · simp at ho
      subst ho
      exact ⟨C, e', fr, hC, rfl, hle, fun j x y hx hy => (hv j x y hx hy).mono hmo, fun hk => (by cases hk), rfl⟩
    · rw [List.getElem?_append_left hj] at ho
      exact (h.obj j m o hm' ho).mono hmo rfl
  · intro i j m n hm hn' hij hi hj
    exact absurd hi ((hr.add cs).no_rw i)
  · intro j m hm
    rcases hspl j m hm with ⟨_, rfl⟩ | ⟨_, hm'⟩
    · exact hblk
    · exact h.lt j m hm'

/-- Cells that are opened. -/
def OpenedL (P : Program) (w : World) (cs : List Value) (ps : List PV) : Prop :=
  ∀ μ H, WR P w.heap.size w μ H w → AllRo H → ∃ μ' H' avs, WR P w.heap.size w μ' H' w ∧ AllRo H' ∧ More H H' ∧ (∀ i m, μ i = some m → μ' i = some m) ∧ VRs μ' avs cs ∧ RepL id 0 (fun _ => False) H' ps avs
theorem OpenedL.nil : OpenedL P w [] [] := fun μ H hw hr => ⟨μ, H, [], hw, hr, More.refl H, fun _ _ h => h, VRs.nil _, .nil⟩
theorem RepL.more {l : List PV} {l' : List Value} (h : RepL id 0 (fun _ => False) H l l') (hm : More H H') : RepL id 0 (fun _ => False) H' l l' :=
  h.mono (fun _ _ => rfl) (Nat.le_refl _) (fun b hb _ => ⟨fun h => h, hm.at hb⟩) hm.len
theorem OpenedL.append {cs cs' : List Value} {ps ps' : List PV} (h : OpenedL P w cs ps) (h' : OpenedL P w cs' ps') : OpenedL P w (cs ++ cs') (ps ++ ps') := by
  intro μ H hw hr
  obtain ⟨μ1, H1, a1, w1, r1, m1, e1, v1, p1⟩ := h μ H hw hr
  obtain ⟨μ2, H2, a2, w2, r2, m2, e2, v2, p2⟩ := h' μ1 H1 w1 r1
  exact ⟨μ2, H2, a1 ++ a2, w2, r2, m1.trans m2, fun i m hm => e2 i m (e1 i m hm), (v1.mono e2).append v2, (p1.more m2).append p2⟩
theorem OpenedL.plain {v : Value} (h : plain v = true) (hv : ∀ μ, VR μ v v) : OpenedL P w [v] [.v v] :=
  fun μ H hw hr => ⟨μ, H, [v], hw, hr, More.refl H, fun _ _ h => h, VRs.cons (hv μ) (VRs.nil _), .cons (.v h) .nil⟩

/-- What a value of a type looks like. -/
inductive Sh (P : Program) : TypeId → List PV → Prop
  | bool {t : TypeId} {b : Bool} (h : P.underlying t = some .bool) : Sh P t [.v (.bool b)]
  | int {t : TypeId} {k : IntKind} {n : Int} (h : P.underlying t = some (.int k)) (hw : (Lit.int k n).wf = true) : Sh P t [.v (.int k n)]
  | str {t : TypeId} {s : ByteArray} (h : P.underlying t = some .string) (hs : s.size ≤ maxLen) : Sh P t [.v (.string s)]
  | sl {t e : TypeId} {css : List (List PV)} (h : P.underlying t = some (.slice e)) (hm : css.length ≤ maxLen) (hlen : ∀ c ∈ css, c.length = P.cellsOf e) (hall : ∀ c ∈ css, Sh P e c) : Sh P t [.sl css.length css.flatten]
  | struct {t : TypeId} {fs : Array Field} {css : List (List PV)} (h : P.underlying t = some (.struct fs)) (hn : css.length = fs.size) (hall : ∀ (i : Nat) (f : Field) (c : List PV), fs[i]? = some f → css[i]? = some c → Sh P f.type c) : Sh P t css.flatten

/-- Fields that stand one behind the other. -/
def tight (P : Program) : List Field → Nat → Option Nat
  | [], o => some o
  | f :: fs, o => if f.offset = o then tight P fs (o + P.cellsOf f.type) else none
/-- Types of plain data. -/
def dataT (P : Program) : Nat → TypeId → Bool
  | 0, _ => false
  | d + 1, t => match P.underlying t with
    | some .bool => true
    | some (.int _) => true
    | some .string => true
    | some (.slice e) => decide (P.cellsOf e ≠ 0) && dataT P d e
    | some (.struct fs) => decide (tight P fs.toList 0 = some (P.cellsOf t)) && fs.toList.all fun f => dataT P d f.type
    | _ => false

section
variable {T : Type} {enc : TypeId × Value → T}
theorem mapM_some {α β : Type} {f : α → Option β} : ∀ {l : List α} {r : List β}, l.mapM f = some r → ∀ (i : Nat) (a : α), l[i]? = some a → ∃ b, f a = some b
  | [], r, _, i, a, ha => by simp at ha
  | x :: l, r, h, i, a, ha => by
    simp only [List.mapM_cons, bind, Option.bind_eq_some_iff] at h
    obtain ⟨b, h1, r', h2, _⟩ := h
    cases i with
    | zero => simp at ha; subst ha; exact ⟨b, h1⟩
    | succ i => exact mapM_some h2 i a (by simpa using ha)
theorem cell_at {a : Addr} {n : Nat} {v : Value} (h : w.cell? (a.add n) = some v) (ha : a.spot = none) : ∃ C e fr, w.heap[a.block]? = some (.cells C e fr) ∧ C[a.off + n]? = some v := by
  unfold World.cell? at h
  have e1 : (a.add n).block = a.block := by unfold Addr.add; split <;> rfl
  have e2 : (a.add n).off = a.off + n := by unfold Addr.add; split <;> simp_all
  rw [e1, e2] at h
  split at h
  · rename_i C e fr hc
    split at h
    · cases h
    · exact ⟨C, e, fr, hc, h⟩
  · cases h
theorem spot_none {a : Addr} {v : Value} (h : w.cell? a = some v) : a.spot = none := by
  unfold World.cell? at h
  split at h
  · split at h
    · cases h
    · rename_i hs; simpa using hs
  · cases h
theorem add_add {a : Addr} (ha : a.spot = none) (m n : Nat) : (a.add m).add n = a.add (m + n) := by
  obtain ⟨b, o, s⟩ := a
  simp only at ha
  subst ha
  unfold Addr.add
  by_cases h1 : m = 0
  · subst h1; simp
  · by_cases h2 : n = 0
    · subst h2; simp
    · simp [h1, h2, Nat.add_assoc]

/-- Data that are read are opened. -/
theorem open_trod : ∀ (fuel d : Nat) (t : TypeId) (cs : List Value) (x : DataW T × List MemPlace), dataT P d t = true → DataW.trod enc P w 0 (fun _ => true) true fuel t cs = some x → ∃ ps, Sh P t ps ∧ OpenedL P w cs ps ∧ ps.length = cs.length
  | 0, _, _, _, _, _, h => by simp [DataW.trod] at h
  | _ + 1, 0, _, _, _, hd, _ => by simp [dataT] at hd
  | fuel + 1, d + 1, t, cs, x, hd, h => by
    have ih := open_trod fuel d
    simp only [dataT] at hd
    split at hd
    · rename_i ht
      unfold DataW.trod at h
      rw [ht] at h
      split at h <;> first | (cases h; done) | (simp_all; done) | skip
      rename_i b _
      exact ⟨_, .bool ht, .plain rfl (fun _ => .bool b), rfl⟩
    · rename_i k ht
      unfold DataW.trod at h
      rw [ht] at h
      split at h <;> first | (cases h; done) | (simp_all; done) | skip
      rename_i k1 k' n e
      split at h
      · rename_i hk
        simp only [Option.some.injEq, TypeDesc.int.injEq] at e
        obtain ⟨rfl, hw⟩ := hk
        subst e
        exact ⟨_, .int ht hw, .plain rfl (fun _ => .int _ n), rfl⟩
      · cases h
    · rename_i ht
      unfold DataW.trod at h
      rw [ht] at h
      split at h <;> first | (cases h; done) | (simp_all; done) | skip
      rename_i s _
      split at h
      · rename_i hs
        exact ⟨_, .str ht hs, .plain rfl (fun _ => .str s), rfl⟩
      · cases h
    · rename_i e ht
      simp only [Bool.and_eq_true, decide_eq_true_eq] at hd
      obtain ⟨hce, hde⟩ := hd
      rcases DataW.trod_slice ht h with ⟨rfl, _⟩ | ⟨a, len, cap, elems, rest, n, hfn, rfl, _, hb, hl, hm, hlen, hel, hsp, _⟩
      · refine ⟨[.sl 0 []], .sl (css := []) ht (Nat.zero_le _) (fun _ h => by cases h) (fun _ h => by cases h), fun μ H hw hr => ⟨μ, H, [.slice none 0 0], hw, hr, More.refl H, fun _ _ h => h, VRs.cons (.sl0 0 0) (VRs.nil _), .cons (.sl0 (by omega)) .nil⟩, rfl⟩
      · have hfn' : fuel = n := by omega
        subst hfn'
        by_cases hc0 : cap = 0
        · have hl0 : len = 0 := by omega
          subst hc0
          subst hl0
          exact ⟨[.sl 0 []], .sl (css := []) ht (Nat.zero_le _) (fun _ h => by cases h) (fun _ h => by cases h), fun μ H hw hr => ⟨μ, H, [.slice (some ⟨0, 0, some 0⟩) 0 0], hw, hr, More.refl H, fun _ _ h => h, VRs.cons .sl9 (VRs.nil _), .cons .sl9 .nil⟩, rfl⟩
        · -- the first element is read: the row stands somewhere
          have hread : ∀ i, i < cap → ∃ ci y, w.cells? 0 (a.add (i * P.cellsOf e)) (P.cellsOf e) = some ci ∧ DataW.trod enc P w 0 (fun _ => true) true fuel e ci = some y := by
            intro i hi
            by_cases hil : i < len
            · have := hel i hil
              rw [List.getElem?_eq_getElem (by omega)] at this
              obtain ⟨ci, h1, h2⟩ := Option.bind_eq_some_iff.1 this
              exact ⟨ci, _, h1, h2⟩
            · obtain ⟨q1, q2⟩ := hsp rfl
              have := q2 (i - len) (by omega)
              rw [List.getElem?_eq_getElem (by omega)] at this
              have e1 : len + (i - len) = i := by omega
              rw [e1] at this
              obtain ⟨ci, h1, h2⟩ := Option.bind_eq_some_iff.1 this
              exact ⟨ci, _, h1, h2⟩
          have hspot : a.spot = none := by
            obtain ⟨ci, _, h1, _⟩ := hread 0 (by omega)
            obtain ⟨_, h3, h4⟩ := World.cells?_some h1
            have h5 := h4 0 (by omega)
            rw [List.getElem?_eq_getElem (by omega)] at h5
            have h6 := spot_none h5
            simpa [Addr.add] using h6
          obtain ⟨C, e', fr, hC, _⟩ : ∃ C e' fr, w.heap[a.block]? = some (.cells C e' fr) ∧ True := by
            obtain ⟨ci, _, h1, _⟩ := hread 0 (by omega)
            obtain ⟨_, h3, h4⟩ := World.cells?_some h1
            have h5 := h4 0 (by omega)
            rw [List.getElem?_eq_getElem (by omega)] at h5
            rw [add_add hspot] at h5
            obtain ⟨C, e', fr, q1, _⟩ := cell_at h5 hspot
            exact ⟨C, e', fr, q1, trivial⟩
          have step : ∀ k, k ≤ len → ∃ (L : List Value) (css : List (List PV)), L.length = k * P.cellsOf e ∧ css.length = k ∧ (∀ c ∈ css, c.length = P.cellsOf e) ∧ (∀ c ∈ css, Sh P e c) ∧ OpenedL P w L css.flatten ∧ (∀ j v, L[j]? = some v → C[a.off + j]? = some v) := by
            intro k
            induction k with
            | zero => exact fun _ => ⟨[], [], by simp, rfl, fun _ h => by simp at h, fun _ h => by simp at h, .nil, fun j v h => by simp at h⟩
            | succ k ihk =>
              intro hk
              obtain ⟨L, css, l1, l2, l3, l4, l5, l6⟩ := ihk (by omega)
              obtain ⟨ci, y, h1, h2⟩ := hread k (by omega)
              obtain ⟨ps, s1, s2, s3⟩ := ih e ci y hde h2
              obtain ⟨_, h3, h4⟩ := World.cells?_some h1
              refine ⟨L ++ ci, css ++ [ps], by rw [List.length_append, l1, h3, Nat.add_mul, Nat.one_mul], by simp [l2], fun c hc => ?_, fun c hc => ?_, ?_, fun j v hj => ?_⟩
              · rcases List.mem_append.1 hc with hc | hc
                · exact l3 c hc
                · simp at hc; subst hc; rw [s3, h3]
              · rcases List.mem_append.1 hc with hc | hc
                · exact l4 c hc
                · simp at hc; subst hc; exact s1
              · simp only [List.flatten_append, List.flatten_cons, List.flatten_nil, List.append_nil]
                exact l5.append s2
              · by_cases hjl : j < L.length
                · rw [List.getElem?_append_left hjl] at hj; exact l6 j v hj
                · rw [List.getElem?_append_right (by omega)] at hj
                  have hj2 : j - L.length < P.cellsOf e := by rw [← h3]; exact (List.getElem?_eq_some_iff.1 hj).1
                  have h5 := h4 _ hj2
                  rw [hj, add_add hspot] at h5
                  obtain ⟨C2, _, _, q1, q2⟩ := cell_at h5 hspot
                  rw [hC] at q1
                  cases q1
                  rw [← q2]
                  congr 1
                  omega
          obtain ⟨L, css, l1, l2, l3, l4, l5, l6⟩ := step len (Nat.le_refl _)
          have hfl : css.flatten.length = L.length := by
            rw [l1, ← l2]
            clear l1 l2 l4 l5 l6
            induction css with
            | nil => simp
            | cons c css ihc =>
              simp only [List.flatten_cons, List.length_append, List.length_cons]
              rw [ihc (fun c hc => l3 c (by simp [hc])), l3 c (by simp), Nat.add_mul]
              omega
          refine ⟨[.sl css.length css.flatten], .sl ht (by omega) l3 l4, fun μ H hw hr => ?_, rfl⟩
          obtain ⟨μ1, H1, avs, w1, r1, m1, e1, v1, p1⟩ := l5 μ H hw hr
          have hle : a.off + avs.length ≤ C.size := by
            rw [v1.1]
            by_cases hL : L.length = 0
            · have : ∃ v, C[a.off]? = some v := by
                obtain ⟨ci, _, h1, _⟩ := hread 0 (by omega)
                obtain ⟨_, h3, h4⟩ := World.cells?_some h1
                have h5 := h4 0 (by omega)
                rw [List.getElem?_eq_getElem (by omega), add_add hspot] at h5
                obtain ⟨C2, _, _, q1, q2⟩ := cell_at h5 hspot
                rw [hC] at q1
                cases q1
                exact ⟨_, by simpa using q2⟩
              obtain ⟨v, hv⟩ := this
              have := (Array.getElem?_eq_some_iff.1 hv).1
              omega
            · have := l6 (L.length - 1) L[L.length - 1] (List.getElem?_eq_getElem (by omega))
              have := (Array.getElem?_eq_some_iff.1 this).1
              omega
          have w2 := w1.addRo r1 (cs := avs) hC hle (fun j x y hx hy => by
            obtain ⟨y', z1, z2⟩ := v1.get hx
            have := l6 j y' z1
            rw [this] at hy
            cases hy
            exact z2)
          have hn : μ1 H1.length = none := w1.none_at (Nat.le_refl _)
          have hmo := Mu.add_mono (m := ⟨a.block, a.off, C.size, none⟩) hn
          have hVR : VR (μ1.add H1.length ⟨a.block, a.off, C.size, none⟩) (.slice (some ⟨H1.length, 0, none⟩) len cap) (.slice (some a) len cap) := by
            have := VR.sl (μ := μ1.add H1.length ⟨a.block, a.off, C.size, none⟩) (o := 0) (n := len) (c := cap) (c' := cap) (Mu.add_same _ _ _) (.inl rfl)
            obtain ⟨ab, ao, as⟩ := a
            simp only at hspot
            subst hspot
            simpa using this
          have hm2 : More H1 (H1 ++ [AObj.cells avs 0 .ro 0]) := More.add _ _
          have p2 := p1.more hm2
          refine ⟨_, _, [.slice (some ⟨H1.length, 0, none⟩) len cap], w2, r1.add avs, m1.trans hm2, fun i m hm => hmo i m (e1 i m hm), VRs.cons hVR (VRs.nil _), .cons ?_ .nil⟩
          rw [l2]
          refine .sl (cs' := avs) hl (by unfold maxLen at hm; omega) (fun h => h) (by simp) p2.1 (.inr ?_) (.inl ?_) p2.2
          · simp only [rds, List.getElem?_append_right (Nat.le_refl _), Nat.sub_self, List.getElem?_cons_zero, Nat.zero_add, Nat.le_refl, if_true, List.drop_zero, List.take_length]
          · simp only [kdAt, List.getElem?_append_right (Nat.le_refl _), Nat.sub_self, List.getElem?_cons_zero, Kd.spare]
    · rename_i fs ht
      simp only [Bool.and_eq_true, decide_eq_true_eq] at hd
      obtain ⟨htight, hall⟩ := hd
      unfold DataW.trod at h
      rw [ht] at h
      split at h <;> first | (cases h; done) | (simp_all; done) | skip
      rename_i cs _ _ fs' e
      simp only [Option.some.injEq, TypeDesc.struct.injEq] at e
      subst e
      split at h
      · rename_i hcl
        cases hm : (fs.toList.mapM fun f => DataW.trod enc P w 0 (fun _ => true) true fuel f.type ((cs.drop f.offset).take (P.cellsOf f.type))) with
        | none => rw [hm] at h; cases h
        | some xs =>
          have hf : ∀ f ∈ fs.toList, ∃ y, DataW.trod enc P w 0 (fun _ => true) true fuel f.type ((cs.drop f.offset).take (P.cellsOf f.type)) = some y := by
            intro f hf
            obtain ⟨i, hi⟩ := List.mem_iff_getElem?.1 hf
            exact mapM_some hm i f hi
          have go : ∀ (l : List Field) (o tot : Nat), (∀ f ∈ l, f ∈ fs.toList) → tight P l o = some tot → tot ≤ cs.length → ∃ css : List (List PV), css.length = l.length ∧ (∀ (i : Nat) (f : Field) (c : List PV), l[i]? = some f → css[i]? = some c → Sh P f.type c) ∧ OpenedL P w ((cs.drop o).take (tot - o)) css.flatten ∧ css.flatten.length = tot - o ∧ o ≤ tot := by
            intro l
            induction l with
            | nil =>
              intro o tot _ h1 _
              simp only [tight, Option.some.injEq] at h1
              subst h1
              exact ⟨[], rfl, fun i f c hf => by simp at hf, by simpa using OpenedL.nil, by simp, Nat.le_refl _⟩
            | cons f l ihl =>
              intro o tot hin h1 h2
              simp only [tight] at h1
              split at h1
              · rename_i ho
                subst ho
                obtain ⟨y, hy⟩ := hf f (hin f (by simp))
                obtain ⟨ps, s1, s2, s3⟩ := ih f.type _ y (List.all_eq_true.1 hall f (hin f (by simp))) hy
                obtain ⟨css, q1, q2, q3, q4, q5⟩ := ihl _ _ (fun g hg => hin g (by simp [hg])) h1 h2
                have hps : ps.length = P.cellsOf f.type := by rw [s3]; simp; omega
                refine ⟨ps :: css, by simp [q1], fun i g c hg hc => ?_, ?_, by simp [hps, q4]; omega, by omega⟩
                · cases i with
                  | zero => simp at hg hc; subst hg; subst hc; exact s1
                  | succ i => exact q2 i g c (by simpa using hg) (by simpa using hc)
                · have e1 : (cs.drop f.offset).take (tot - f.offset) = (cs.drop f.offset).take (P.cellsOf f.type) ++ (cs.drop (f.offset + P.cellsOf f.type)).take (tot - (f.offset + P.cellsOf f.type)) := by
                    rw [← List.drop_drop, ← List.take_add]
                    congr 1
                    omega
                  rw [e1]
                  exact s2.append q3
              · cases h1
          obtain ⟨css, q1, q2, q3, q4, q5⟩ := go fs.toList 0 (P.cellsOf t) (fun _ h => h) htight (by omega)
          refine ⟨css.flatten, .struct ht (by simpa using q1) (fun i f c hf hc => q2 i f c (by simpa using hf) hc), ?_, ?_⟩
          · have : (cs.drop 0).take (P.cellsOf t - 0) = cs := by rw [List.drop_zero, Nat.sub_zero, ← hcl, List.take_length]
            rwa [this] at q3
          · rw [q4, hcl]; rfl
      · cases h
    · cases hd
end
end Dm
end
section
set_option linter.unusedVariables false
set_option linter.unusedSimpArgs false
namespace Dm
open Go Go.RowKit
variable {P : Program} {w : World} {μ μ' : Mu} {H H' : Heap}

theorem OpenedL.agg {cs : Array Value} {ps : List PV} (h : OpenedL P w cs.toList ps) : OpenedL P w [.agg cs] [.agg ps] := by
  intro μ H hw hr
  obtain ⟨μ1, H1, avs, w1, r1, m1, e1, v1, p1⟩ := h μ H hw hr
  refine ⟨μ1, H1, [.agg avs.toArray], w1, r1, m1, e1, VRs.cons (VRs.agg v1) (VRs.nil _), .cons (.agg (by simpa using p1.1) (fun i x y hx hy => p1.2 i x y hx (by simpa using hy))) .nil⟩
theorem law_calls (hmix : P.follows .mixedOrders = true) {T : Tab} {pr : Prims} (hT : ∀ f mf, T f = some mf → chkFun P f mf = true) (hpr : ∀ f g, pr f = some g → PrimOK P f g) {f : Nat} {args' : List Value} {pvs : List PV} {r : Bool} (ho : OpenedL P w args' pvs) (hC : Closed T pr f pvs (.v (.bool r))) :
    Calls P f args'.toArray w fun e w' => e = .returned (.bool r) ∧ Below w.heap.size w w' := by
  have hw0 : WR P w.heap.size w (fun _ => none) [] w := ⟨fun i m h => (nomatch h), fun i m o h => (nomatch h), fun i j m n h => (nomatch h), fun i m h => (nomatch h), Below.refl _ _, Nat.le_refl _⟩
  obtain ⟨μ1, H1, avs, w1, r1, m1, e1, v1, p1⟩ := ho _ _ hw0 (fun i o h => by simp at h)
  obtain ⟨k, rv, H2, hrun, hm, hrep⟩ := hC (fun _ => False) H1 avs (fun _ h => h.elim) p1
  have : rv = .bool r := by cases hrep; rfl
  subst this
  refine (callM_calls hmix hT hpr hrun w1 v1).mono fun e w' hp => ?_
  obtain ⟨v', μ2, rfl, hv, hx⟩ := hp
  cases hv
  exact ⟨rfl, hx.wr.below⟩

/-! ### What values of some types look like -/
def inR (x : Int) : Prop := -9223372036854775808 ≤ x ∧ x ≤ 9223372036854775807
theorem Sh.int' {t : TypeId} {ps : List PV} (ht : P.underlying t = some (.int .i64)) (h : Sh P t ps) : ∃ n, ps = [.v (.int .i64 n)] ∧ inR n := by
  cases h with
  | bool h1 => rw [ht] at h1; cases h1
  | int h1 hw => 
    rw [ht] at h1
    cases h1
    simp only [Lit.wf, Bool.and_eq_true, decide_eq_true_eq] at hw
    exact ⟨_, rfl, hw⟩
  | str h1 hs => rw [ht] at h1; cases h1
  | sl h1 hm hl ha => rw [ht] at h1; cases h1
  | struct h1 hn ha => rw [ht] at h1; cases h1
theorem Sh.bool' {t : TypeId} {ps : List PV} (ht : P.underlying t = some .bool) (h : Sh P t ps) : ∃ b, ps = [.v (.bool b)] := by
  cases h with
  | bool h1 => exact ⟨_, rfl⟩
  | int h1 hw => rw [ht] at h1; cases h1
  | str h1 hs => rw [ht] at h1; cases h1
  | sl h1 hm hl ha => rw [ht] at h1; cases h1
  | struct h1 hn ha => rw [ht] at h1; cases h1
theorem Sh.str' {t : TypeId} {ps : List PV} (ht : P.underlying t = some .string) (h : Sh P t ps) : ∃ s : ByteArray, ps = [.v (.string s)] ∧ s.size ≤ maxLen := by
  cases h with
  | bool h1 => rw [ht] at h1; cases h1
  | int h1 hw => rw [ht] at h1; cases h1
  | str h1 hs => exact ⟨_, rfl, hs⟩
  | sl h1 hm hl ha => rw [ht] at h1; cases h1
  | struct h1 hn ha => rw [ht] at h1; cases h1
theorem Sh.sl' {t e : TypeId} {ps : List PV} (ht : P.underlying t = some (.slice e)) (h : Sh P t ps) : ∃ css : List (List PV), ps = [.sl css.length css.flatten] ∧ css.length ≤ maxLen ∧ (∀ c ∈ css, c.length = P.cellsOf e) ∧ ∀ c ∈ css, Sh P e c := by
  cases h with
  | bool h1 => rw [ht] at h1; cases h1
  | int h1 hw => rw [ht] at h1; cases h1
  | str h1 hs => rw [ht] at h1; cases h1
  | sl h1 hm hl ha => 
    rw [ht] at h1
    cases h1
    exact ⟨_, rfl, hm, hl, ha⟩
  | struct h1 hn ha => rw [ht] at h1; cases h1
theorem Sh.struct' {t : TypeId} {fs : Array Field} {ps : List PV} (ht : P.underlying t = some (.struct fs)) (h : Sh P t ps) : ∃ css : List (List PV), ps = css.flatten ∧ css.length = fs.size ∧ ∀ (i : Nat) (f : Field) (c : List PV), fs[i]? = some f → css[i]? = some c → Sh P f.type c := by
  cases h with
  | bool h1 => rw [ht] at h1; cases h1
  | int h1 hw => rw [ht] at h1; cases h1
  | str h1 hs => rw [ht] at h1; cases h1
  | sl h1 hm hl ha => rw [ht] at h1; cases h1
  | struct h1 hn ha => 
    rw [ht] at h1
    cases h1
    exact ⟨_, rfl, hn, ha⟩
/-- Parts, each of its type. -/
def ShAll (P : Program) : List TypeId → List (List PV) → Prop
  | [], [] => True
  | t :: ts, c :: cs => Sh P t c ∧ ShAll P ts cs
  | _, _ => False
theorem ShAll.of : ∀ {ts : List TypeId} {css : List (List PV)}, css.length = ts.length → (∀ (i : Nat) (t : TypeId) (c : List PV), ts[i]? = some t → css[i]? = some c → Sh P t c) → ShAll P ts css
  | [], [], _, _ => trivial
  | [], _ :: _, h, _ => by simp at h
  | _ :: _, [], h, _ => by simp at h
  | t :: ts, c :: cs, h, h2 => ⟨h2 0 t c rfl rfl, ShAll.of (by simpa using h) fun i t c h1 h3 => h2 (i + 1) t c (by simpa using h1) (by simpa using h3)⟩
theorem Sh.fields {t : TypeId} {fs : Array Field} {ts : List TypeId} {ps : List PV} (ht : P.underlying t = some (.struct fs)) (hts : fs.toList.map (·.type) = ts) (h : Sh P t ps) : ∃ css : List (List PV), ps = css.flatten ∧ ShAll P ts css := by
  obtain ⟨css, h1, h2, h3⟩ := h.struct' ht
  refine ⟨css, h1, .of (by rw [h2, ← hts]; simp) fun i t c hi hc => ?_⟩
  rw [← hts, List.getElem?_map] at hi
  cases hf : fs.toList[i]? with
  | none => rw [hf] at hi; cases hi
  | some f =>
    rw [hf] at hi
    simp only [Option.map_some, Option.some.injEq] at hi
    subst hi
    exact h3 i f c (by simpa using hf) hc
theorem Sh.ints {t e : TypeId} {ps : List PV} (ht : P.underlying t = some (.slice e)) (he : P.underlying e = some (.int .i64)) (h : Sh P t ps) : ∃ l : List Int, ps = [.sl l.length (pints l)] ∧ l.length ≤ maxLen ∧ ∀ x ∈ l, inR x := by
  obtain ⟨css, rfl, hm, hl, ha⟩ := h.sl' ht
  have : ∃ l : List Int, css.flatten = pints l ∧ l.length = css.length ∧ ∀ x ∈ l, inR x := by
    clear hm hl h
    induction css with
    | nil => exact ⟨[], rfl, rfl, fun x h => by simp at h⟩
    | cons c css ih =>
      obtain ⟨n, rfl, hn⟩ := (ha c (by simp)).int' he
      obtain ⟨l, h1, h2, h3⟩ := ih (fun c hc => ha c (by simp [hc]))
      refine ⟨n :: l, by simp [pints, h1], by simp [h2], fun x hx => ?_⟩
      rcases List.mem_cons.1 hx with rfl | hx
      · exact hn
      · exact h3 x hx
  obtain ⟨l, h1, h2, h3⟩ := this
  exact ⟨l, by rw [h1, h2], by omega, h3⟩
/-- Two slices of whole numbers. -/
theorem Sh.ints2 {t u e : TypeId} {fs : Array Field} {ps : List PV} (ht : P.underlying t = some (.struct fs)) (hts : fs.toList.map (·.type) = [u, u]) (hu : P.underlying u = some (.slice e)) (he : P.underlying e = some (.int .i64)) (h : Sh P t ps) :
    ∃ a b : List Int, ps = [.sl a.length (pints a), .sl b.length (pints b)] ∧ (a.length ≤ maxLen ∧ ∀ x ∈ a, inR x) ∧ (b.length ≤ maxLen ∧ ∀ x ∈ b, inR x) := by
  obtain ⟨css, rfl, hs⟩ := h.fields ht hts
  match css, hs with
  | [x0, x1], ⟨h0, h1, _⟩ =>
    obtain ⟨a, rfl, ha⟩ := h0.ints hu he
    obtain ⟨b, rfl, hb⟩ := h1.ints hu he
    exact ⟨a, b, rfl, ha, hb⟩
end Dm
end
