/- Lemmas that lead to the statement: memory that is made late; what the checker says. a region that draws its order answers as in the one order. a region that draws its order: the steps. a region that draws its order answers as the machine says. a region that draws its order. loops over a function: the record in the heap. code, rounds, functions: what the machine answers, the model answers. functions: the machine's answer is the model's. -/
import Derived.Test.YtmgehmhebnjaaaaGreatDoorM1
import Derived.LoopNIn
import Derived.Laws.Sem
set_option linter.all false
section
set_option linter.unusedVariables false
set_option linter.unusedSimpArgs false
namespace Dm
open Go Go.RowKit

variable {P : Program} {F : Fence} {B : Nat} {w0 w00 : World} {μ μ' μ0 : Mu} {H H' H0 : Heap} {w w' : World} {C : CallF}

theorem VR.restrict {x y0 : Value} (h : VR μ x y0) (hm : ∀ i m, μ i = some m → μ' i = some m) : ∀ y, VR μ' x y → VR μ x y := by
  have img : ∀ {i m m'}, μ i = some m → μ' i = some m' → μ i = some m' := fun a b => by
    have := hm _ _ a
    rw [b] at this
    cases this
    exact a
  have arr : ∀ {a a' : Array Value}, a.size = a'.size → (∀ (i : Nat) (x y : Value), a[i]? = some x → a'[i]? = some y → ∀ z, VR μ' x z → VR μ x z) → ∀ {a'' : Array Value}, a.size = a''.size → (∀ (i : Nat) (x y : Value), a[i]? = some x → a''[i]? = some y → VR μ' x y) →
      ∀ (i : Nat) (x y : Value), a[i]? = some x → a''[i]? = some y → VR μ x y := by
    intro a a' h1 h2 a'' h3 h4 i x y hx hy
    have hi : i < a'.size := by rw [← h1]; exact (Array.getElem?_eq_some_iff.1 hx).1
    exact h2 i x _ hx (Array.getElem?_eq_getElem hi) y (h4 i x y hx hy)
  induction h with
  | bool b => intro y h'; cases h'; exact .bool b
  | int k n => intro y h'; cases h'; exact .int k n
  | str s => intro y h'; cases h'; exact .str s
  | ptr0 => intro y h'; cases h'; exact .ptr0
  | ptr h => intro y h'; cases h' with | ptr h2 => exact .ptr (img h h2)
  | sl0 n c => intro y h'; cases h'; exact .sl0 n c
  | sl h hc => intro y h'; cases h' with | sl h2 hc2 => exact .sl (img h h2) hc2
  | sl9 => intro y h'; cases h' with | sl9 => exact .sl9
  | fn f ha hb _ _ h1 h2 =>
    intro y h'
    cases h' with
    | fn _ ha' hb' g1 g2 => exact .fn f ha' hb' (arr ha h1 ha' g1) (arr hb h2 hb' g2)
  | yield h => intro y h'; cases h' with | yield h2 => exact .yield (img h h2)
  | nilF => intro y h'; cases h'; exact .nilF
  | nilI => intro y h'; cases h'; exact .nilI
  | iface t _ h => intro y h'; cases h' with | iface _ h2 => exact .iface t (h _ h2)
  | agg ha _ h1 => intro y h'; cases h' with | agg ha' g1 => exact .agg ha' (arr ha h1 ha' g1)
  | tup ha _ h1 => intro y h'; cases h' with | tup ha' g1 => exact .tup ha' (arr ha h1 ha' g1)

def Rel (μ : Mu) (x : Value) : Prop := ∃ y, VR μ x y
theorem VRs.rel {l l' : List Value} (h : VRs μ l l') : ∀ x ∈ l, Rel μ x := by
  intro x hx
  obtain ⟨i, hi⟩ := List.mem_iff_getElem?.1 hx
  obtain ⟨y, _, hy⟩ := h.get hi
  exact ⟨y, hy⟩

theorem Ext.phantoms (h : Ext P B w0 μ0 H0 w00 μ H w) (l : Heap) : Ext P B w0 μ0 H0 w00 μ (H ++ l) w := by
  have ha : ∀ i, i < H.length → (H ++ l)[i]? = H[i]? := fun i hi => List.getElem?_append_left hi
  have hv : ∀ i, i < H.length → Dm.ver (H ++ l) i = Dm.ver H i := fun i hi => by simp only [Dm.ver, ha i hi]
  refine ⟨⟨?_, ?_, ?_, h.wr.lt, h.wr.below, h.wr.base⟩, ?_, h.old, ?_, ?_, h.frame, h.size, h.fresh⟩
  · intro i m hm; have := h.wr.dom i m hm; simp; omega
  · intro i m o hm ho; rw [ha i (h.wr.dom i m hm)] at ho; exact h.wr.obj i m o hm ho
  · intro i j m n hm hn hij ⟨a, e1, e2⟩ ⟨b, f1, f2⟩
    rw [ha i (h.wr.dom i m hm)] at e1
    rw [ha j (h.wr.dom j n hn)] at f1
    exact h.wr.inj i j m n hm hn hij ⟨a, e1, e2⟩ ⟨b, f1, f2⟩
  · have := h.len; simp; omega
  · intro i hi hn
    have := h.len
    rw [ha i (by omega)]
    exact h.keep i hi hn
  · intro i hi
    have := h.len
    rw [hv i (by omega), ha i (by omega)]
    exact h.ver i hi

/-- What was made late stands where it would have stood. -/
theorem Ext.late (h1 : Ext P B w0 μ0 H0 w00 μ H w) (hw0 : WR P B w0 μ0 H0 w00) {cs : List Value} {e : Nat} {kd : Kd} (h2 : Ext P B w0 μ H w μ' (H ++ [.cells cs e kd 0]) w') {k : Nat} {img : Img} (hi : μ' H.length = some img)
    (hk : H[k]? = some (.cells cs e kd 0)) (hn : μ k = none) (hk0 : H0.length ≤ k) (hr : ∀ x ∈ cs, Rel μ x) : Ext P B w0 μ0 H0 w00 (μ.add k img) H w' := by
  have hkl : k < H.length := (List.getElem?_eq_some_iff.1 hk).1
  have hmono : ∀ i m, μ i = some m → μ' i = some m := h2.mono h1.wr
  have hadd : ∀ i m, μ i = some m → μ.add k img i = some m := Mu.add_mono hn
  have hl : ∀ i, i < H.length → (H ++ [AObj.cells cs e kd 0])[i]? = H[i]? := fun i hi => List.getElem?_append_left hi
  have hlast : (H ++ [AObj.cells cs e kd 0])[H.length]? = some (.cells cs e kd 0) := by simp
  have hspl : ∀ j m, μ.add k img j = some m → (j = k ∧ m = img) ∨ (j ≠ k ∧ μ j = some m) := by
    intro j m hm
    unfold Mu.add at hm
    split at hm
    · rename_i e; exact .inl ⟨e, by simpa using hm.symm⟩
    · rename_i e; exact .inr ⟨e, hm⟩
  have h3 := h1.trans h2 hw0
  refine ⟨⟨?_, ?_, ?_, ?_, h2.wr.below, h2.wr.base⟩, h1.len, ?_, h1.keep, h1.ver, h3.frame, h3.size, ?_⟩
  · intro i m hm
    rcases hspl i m hm with ⟨rfl, _⟩ | ⟨_, hm⟩
    · exact hkl
    · exact h1.wr.dom i m hm
  · intro i m o hm ho
    rcases hspl i m hm with ⟨rfl, rfl⟩ | ⟨_, hm⟩
    · rw [hk] at ho
      cases ho
      obtain ⟨C, e', fr, g1, g0, g2, g3, g4, g5⟩ := h2.wr.obj _ _ _ hi hlast
      refine ⟨C, e', fr, g1, g0, g2, fun j x y hx hy => ?_, g4, g5⟩
      obtain ⟨y0, hy0⟩ := hr x (List.mem_of_getElem? hx)
      exact (hy0.restrict hmono y (g3 j x y hx hy)).mono hadd
    · have hi2 := h1.wr.dom i m hm
      have o1 := h1.wr.obj i m o hm ho
      have o2 := h2.wr.obj i m o (hmono i m hm) (by rw [hl i hi2]; exact ho)
      cases o with
      | dead v => exact o1
      | cells cs' e2 kd2 v2 =>
        obtain ⟨C, e', fr, g1, g0, g2, g3, g4, g5⟩ := o1
        obtain ⟨C', e'', fr', k1, k0, k2, k3, k4, k5⟩ := o2
        refine ⟨C', e'', fr', k1, k0, k2, fun j x y hx hy => ?_, k4, k5⟩
        have hj : j < cs'.length := (List.getElem?_eq_some_iff.1 hx).1
        have hj2 : m.base + j < C.size := by omega
        exact ((g3 j x _ hx (Array.getElem?_eq_getElem hj2)).restrict hmono y (k3 j x y hx hy)).mono hadd
      | loop tm ps asg body st v =>
        obtain ⟨r, g1, g2, g3⟩ := o1
        obtain ⟨r', k1, k2, k3⟩ := o2
        refine ⟨r', k1, ⟨k2.1, fun j x y hx hy => ?_⟩, k3⟩
        obtain ⟨y0, _, hy0⟩ := g2.get hx
        exact (hy0.restrict hmono y (k2.2 j x y hx hy)).mono hadd
  · have rk : RW H k → RW (H ++ [AObj.cells cs e kd 0]) H.length := by
      rintro ⟨o, q1, q2⟩
      rw [hk] at q1
      cases q1
      exact ⟨_, hlast, q2⟩
    have ak : Alive (H ++ [AObj.cells cs e kd 0]) H.length := ⟨_, hlast, rfl⟩
    have ro : ∀ j, RW H j → RW (H ++ [AObj.cells cs e kd 0]) j := fun j ⟨o, q1, q2⟩ => ⟨o, by rw [hl j (List.getElem?_eq_some_iff.1 q1).1]; exact q1, q2⟩
    have ao : ∀ j, Alive H j → Alive (H ++ [AObj.cells cs e kd 0]) j := fun j ⟨o, q1, q2⟩ => ⟨o, by rw [hl j (List.getElem?_eq_some_iff.1 q1).1]; exact q1, q2⟩
    intro i j m n hm hn2 hij hri haj
    rcases hspl i m hm with ⟨rfl, rfl⟩ | ⟨i1, hm1⟩
    · rcases hspl j n hn2 with ⟨rfl, rfl⟩ | ⟨j1, hn1⟩
      · exact absurd rfl hij
      · exact h2.wr.inj _ _ _ _ hi (hmono j n hn1) (by have := h1.wr.dom j n hn1; omega) (rk hri) (ao j haj)
    · rcases hspl j n hn2 with ⟨rfl, rfl⟩ | ⟨j1, hn1⟩
      · exact h2.wr.inj _ _ _ _ (hmono i m hm1) hi (by have := h1.wr.dom i m hm1; omega) (ro i hri) ak
      · exact h2.wr.inj _ _ _ _ (hmono i m hm1) (hmono j n hn1) hij (ro i hri) (ao j haj)
  · intro i m hm
    rcases hspl i m hm with ⟨rfl, rfl⟩ | ⟨_, hm⟩
    · exact h2.wr.lt _ _ hi
    · exact h2.wr.lt _ _ (hmono i m hm)
  · intro i hi0
    unfold Mu.add
    rw [if_neg (by omega)]
    exact h1.old i hi0
  · intro i m hi0 hm
    rcases hspl i m hm with ⟨rfl, rfl⟩ | ⟨_, hm⟩
    · exact h3.fresh _ _ (Nat.le_trans hk0 (by omega)) hi
    · exact h1.fresh i m hi0 hm

/-! ### Operations that make memory and nothing else -/
theorem alc_form {ρ : X → Value} {m : MOp} {v : Value} (ha : alcM m = true) (hv : opV ρ H m = some (v, H')) :
    ∃ (cs : List Value) (e : Nat) (kd : Kd) (f : Nat → Value), H' = H ++ [.cells cs e kd 0] ∧ v = f H.length ∧ (∀ H2 : Heap, opV ρ H2 m = some (f H2.length, H2 ++ [.cells cs e kd 0])) ∧
      ∀ (n : Nat) (μ : Mu) (v' : Value), VR μ (f n) v' → ∃ img, μ n = some img ∧ ∀ (k : Nat) (μ2 : Mu), μ2 k = some img → VR μ2 (f k) v' := by
  have hp : ∀ (n : Nat) (μ : Mu) (v' : Value), VR μ (ptr n 0) v' → ∃ img, μ n = some img ∧ ∀ (k : Nat) (μ2 : Mu), μ2 k = some img → VR μ2 (ptr k 0) v' := by
    intro n μ v' h
    cases h with
    | @ptr _ _ m h => exact ⟨m, h, fun k μ2 hk => .ptr hk⟩
  have hs : ∀ (a b n : Nat) (μ : Mu) (v' : Value), VR μ (.slice (some ⟨n, 0, none⟩) a b) v' → ∃ img, μ n = some img ∧ ∀ (k : Nat) (μ2 : Mu), μ2 k = some img → VR μ2 (.slice (some ⟨k, 0, none⟩) a b) v' := by
    intro a b n μ v' h
    cases h with
    | @sl _ _ _ _ _ m h hc => exact ⟨m, h, fun k μ2 hk => .sl hk hc⟩
  cases m <;> simp only [alcM, Bool.false_eq_true] at ha <;> simp only [opV] at hv ⊢
  case new z e => cases hv; exact ⟨_, _, _, _, rfl, rfl, fun _ => rfl, hp⟩
  case box e x => cases hv; exact ⟨_, _, _, _, rfl, rfl, fun _ => rfl, hp⟩
  case lit e z ps len =>
    split at hv
    · obtain ⟨cs, e1, e2⟩ := optmap hv
      cases e2
      exact ⟨cs, e, .fix, fun n => .slice (some ⟨n, 0, none⟩) len len, rfl, rfl, fun H2 => by simp only [e1, Option.map_some], hs len len⟩
    · cases hv
  case bytes e x =>
    split at hv
    · rename_i s hx
      split at hv
      · rename_i hsz
        cases hv
        exact ⟨_, _, _, fun n => .slice (some ⟨n, 0, none⟩) s.size s.size, rfl, rfl, fun H2 => by rw [if_pos hsz], hs _ _⟩
      · cases hv
    · cases hv
  case mk e size bytes z l c =>
    split at hv
    · rename_i ll cc _ _
      split at hv
      · rename_i hsz
        cases hv
        exact ⟨_, _, _, fun n => .slice (some ⟨n, 0, none⟩) ll.toNat cc.toNat, rfl, rfl, fun H2 => by rw [if_pos hsz], hs _ _⟩
      · cases hv
    · cases hv

theorem mem_zeros {z : List Value} {x : Value} : ∀ n, x ∈ zeros z n → x ∈ z
  | 0, h => by simp [zeros] at h
  | n + 1, h => by
    simp only [zeros, List.mem_append] at h
    exact h.elim id (mem_zeros n)
theorem mem_lay {x : Value} : ∀ (l : List (Nat × List Value)) (z cs : List Value), lay z l = some cs → x ∈ cs → x ∈ z ∨ ∃ q ∈ l, x ∈ q.2
  | [], z, cs, h, hx => by
    simp only [lay, Option.some.injEq] at h
    subst h
    exact .inl hx
  | (o, vs) :: l, z, cs, h, hx => by
    simp only [lay] at h
    split at h
    · rcases mem_lay l _ _ h hx with q | ⟨q, q1, q2⟩
      · simp only [List.mem_append] at q
        rcases q with (q | q) | q
        · exact .inl (List.mem_of_mem_take q)
        · exact .inr ⟨(o, vs), by simp, q⟩
        · exact .inl (List.mem_of_mem_drop q)
      · exact .inr ⟨q, by simp [q1], q2⟩
    · cases h
theorem mem_parts {ρ : X → Value} : ∀ (ps : List (Nat × Nat × X)) (l : List (Nat × List Value)), partsOf ρ ps = some l → ∀ q ∈ l, ∃ y ∈ ps.map (·.2.2), q.2 = (ρ y).cells.toList
  | [], l, h, q, hq => by
    simp only [partsOf, Option.some.injEq] at h
    subst h
    simp at hq
  | (o, n, y) :: ps, l, h, q, hq => by
    simp only [partsOf] at h
    split at h
    · obtain ⟨l', e1, e2⟩ := optmap h
      subst e2
      simp only [List.mem_cons] at hq
      rcases hq with rfl | hq
      · exact ⟨y, by simp, rfl⟩
      · obtain ⟨y', q1, q2⟩ := mem_parts ps l' e1 q hq
        exact ⟨y', by simp at q1 ⊢; exact .inr q1, q2⟩
    · cases h
theorem alc_rel {ρ : X → Value} {op : Op} {m : MOp} {v : Value} (ha : alcM m = true) (hc : chkOp P op m = true) (hρ : ∀ x ∈ opXs m, Rel μ (ρ x)) {cs : List Value} {e : Nat} {kd : Kd} (hv : opV ρ H m = some (v, H ++ [.cells cs e kd 0])) : ∀ x ∈ cs, Rel μ x := by
  have cells : ∀ {u : Value}, Rel μ u → ∀ x ∈ u.cells.toList, Rel μ x := fun ⟨y, hy⟩ => hy.cells.rel
  cases m <;> simp only [alcM, Bool.false_eq_true] at ha <;> simp only [opV] at hv
  case new z e' =>
    cases op <;> simp only [chkOp, chkB, Bool.false_eq_true] at hc
    obtain ⟨i, z0, _, _, hzs⟩ := chkZero_spec hc
    simp only [Option.some.injEq, Prod.mk.injEq, List.append_cancel_left_eq, List.cons.injEq, AObj.cells.injEq] at hv
    obtain ⟨_, ⟨rfl, _⟩, _⟩ := hv
    exact (hzs μ).rel
  case box e' x =>
    simp only [Option.some.injEq, Prod.mk.injEq, List.append_cancel_left_eq, List.cons.injEq, AObj.cells.injEq] at hv
    obtain ⟨_, ⟨rfl, _⟩, _⟩ := hv
    exact cells (hρ x (by simp [opXs]))
  case lit e' z ps len =>
    cases op <;> simp only [chkOp, chkB, Bool.false_eq_true] at hc
    rename_i t len0 qs
    simp only [Bool.and_eq_true] at hc
    obtain ⟨_, c2⟩ := hc
    split at c2
    · rename_i el hel
      split at c2
      · rename_i inf hinf
        simp only [Bool.and_eq_true] at c2
        obtain ⟨⟨c3, _⟩, _⟩ := c2
        obtain ⟨_, _, _, _, _, _, _, _, _, hzs⟩ := chkElem_spec c3
        split at hv
        · rename_i l hl
          obtain ⟨cs', e1, e2⟩ := optmap hv
          simp only [Prod.mk.injEq, List.append_cancel_left_eq, List.cons.injEq, AObj.cells.injEq] at e2
          obtain ⟨_, ⟨rfl, _⟩, _⟩ := e2
          intro x hx
          rcases mem_lay l _ _ e1 hx with q | ⟨q, q1, q2⟩
          · exact (hzs μ).rel x (mem_zeros _ q)
          · obtain ⟨y, y1, y2⟩ := mem_parts ps l hl q q1
            rw [y2] at q2
            exact cells (hρ y y1) x q2
        · cases hv
      · cases c2
    · cases c2
  case bytes e' x =>
    split at hv
    · split at hv
      · simp only [Option.some.injEq, Prod.mk.injEq, List.append_cancel_left_eq, List.cons.injEq, AObj.cells.injEq] at hv
        obtain ⟨_, ⟨rfl, _⟩, _⟩ := hv
        intro x hx
        simp only [List.mem_map] at hx
        obtain ⟨b, _, rfl⟩ := hx
        exact ⟨_, .int _ _⟩
      · cases hv
    · cases hv
  case mk e' size bytes z l c =>
    cases op <;> simp only [chkOp, chkB, Bool.false_eq_true] at hc
    simp only [Bool.and_eq_true] at hc
    obtain ⟨_, c2⟩ := hc
    split at c2
    · obtain ⟨_, _, _, _, _, _, _, _, _, hzs⟩ := chkElem_spec c2
      split at hv
      · split at hv
        · simp only [Option.some.injEq, Prod.mk.injEq, List.append_cancel_left_eq, List.cons.injEq, AObj.cells.injEq] at hv
          obtain ⟨_, ⟨rfl, _⟩, _⟩ := hv
          intro x hx
          exact (hzs μ).rel x (mem_zeros _ hx)
        · cases hv
      · cases hv
    · cases c2

end Dm
end
section
set_option linter.unusedVariables false
set_option linter.unusedSimpArgs false
namespace Dm
open Go Go.RowKit

/-! ### What the checker says -/
/-- What an operation waits for, near or far. -/
def AncGood (ops : List Oper) (tab : List (List Nat)) : Prop :=
  ∀ (L : Nat → Bool), (∀ i o, ops[i]? = some o → L i = true → ∀ d ∈ directs o, L d = true) → ∀ i o, ops[i]? = some o → (∀ d ∈ directs o, L d = true) → ∀ d ∈ tab.getD i [], L d = true
theorem ancTab_good (all : List Oper) : ∀ (os : List Oper) (acc : List (List Nat)) (pre : List Oper), all = pre ++ os → acc.length = pre.length →
    AncGood all acc → AncGood all (ancTab os acc)
  | [], acc, pre, _, _, h => h
  | o :: os, acc, pre, e, hl, h => by
    simp only [ancTab]
    refine ancTab_good all os _ (pre ++ [o]) (by simp [e]) (by simp [hl]) ?_
    intro L hL i o' ho hd d hmem
    by_cases hi : i < acc.length
    · rw [List.getD_eq_getElem?_getD, List.getElem?_append_left hi, ← List.getD_eq_getElem?_getD] at hmem
      exact h L hL i o' ho hd d hmem
    · rw [List.getD_eq_getElem?_getD, List.getElem?_append_right (by omega)] at hmem
      by_cases hi2 : i = acc.length
      · subst hi2
        have : o' = o := by
          rw [e, hl, List.getElem?_append_right (Nat.le_refl _)] at ho
          simpa using ho.symm
        subst this
        simp only [Nat.sub_self, List.getElem?_cons_zero, Option.getD_some, List.mem_eraseDups, List.mem_append, List.mem_flatMap] at hmem
        rcases hmem with hmem | ⟨d', hd', hmem⟩
        · exact hd d hmem
        · by_cases hdl : d' < all.length
          · exact h L hL d' _ (List.getElem?_eq_getElem hdl) (hL d' _ (List.getElem?_eq_getElem hdl) (hd d' hd')) d hmem
          · have : acc.getD d' [] = [] := by
              rw [List.getD_eq_getElem?_getD, List.getElem?_eq_none]; rfl
              have : pre.length ≤ all.length := by rw [e]; simp
              omega
            rw [this] at hmem
            cases hmem
      · have : ([(directs o ++ (directs o).flatMap fun d => acc.getD d []).eraseDups] : List (List Nat))[i - acc.length]? = none := by
          rw [List.getElem?_eq_none]; simp; omega
        rw [this] at hmem
        cases hmem

theorem pairsOk_spec {ops : List Oper} {tab : List (List Nat)} : ∀ (rest before : List (Nat × MO)), pairsOk ops tab before rest = true →
    ∀ (p q : Nat) (x y : Nat × MO), q < p → before.length ≤ p → (before ++ rest)[p]? = some x → (before ++ rest)[q]? = some y → pairOk ops tab x.1 y.1 x.2 y.2 = true
  | [], before, h, p, q, x, y, hqp, hb, hx, hy => by
    rw [List.getElem?_eq_none (by simpa using hb)] at hx
    cases hx
  | (i, m) :: rest, before, h, p, q, x, y, hqp, hb, hx, hy => by
    simp only [pairsOk, Bool.and_eq_true] at h
    by_cases e : p = before.length
    · subst e
      rw [List.getElem?_append_right (Nat.le_refl _)] at hx
      simp at hx
      subst hx
      rw [List.getElem?_append_left hqp] at hy
      have := (List.all_eq_true.1 h.1) y (List.mem_of_getElem? hy)
      exact this
    · exact pairsOk_spec rest (before ++ [(i, m)]) h.2 p q x y hqp (by simp; omega) (by simpa using hx) (by simpa using hy)

theorem addrsOk_spec : ∀ {ms : List MO}, addrsOk ms = true → ∀ (p q : Nat) (m m' : MO) (x : X), p ≤ q → ms[p]? = some m → ms[q]? = some m' → ldX m.op = some x → ∃ n, x = .t n ∧ m'.dst ≠ some n
  | [], _, p, q, m, m', x, _, hp, _, _ => by simp at hp
  | m0 :: ms, h, p, q, m, m', x, hpq, hp, hq, hx => by
    simp only [addrsOk, Bool.and_eq_true] at h
    cases p with
    | zero =>
      simp at hp
      subst hp
      have h1 := h.1
      unfold addrOk at h1
      rw [hx] at h1
      cases x with
      | t n =>
        refine ⟨n, rfl, ?_⟩
        have := (List.all_eq_true.1 h1) m' (by simpa using List.mem_of_getElem? hq)
        simpa using this
      | c v => cases h1
      | f n => cases h1
    | succ p =>
      cases q with
      | zero => omega
      | succ q => exact addrsOk_spec h.2 p q m m' x (by omega) (by simpa using hp) (by simpa using hq) hx

theorem rowsOk_spec {P : Program} {ops : Array Oper} : ∀ {l : List (Nat × MO)}, rowsOk P ops l = true → ∀ (p : Nat) (x : Nat × MO), l[p]? = some x → ∃ o, ops[x.1]? = some o ∧ chkMO P ops o x.2 = true ∧ waitsOk ops.size x.1 o x.2 = true
  | [], _, p, x, hp => by simp at hp
  | (i, m) :: l, h, p, x, hp => by
    simp only [rowsOk, Bool.and_eq_true] at h
    cases p with
    | zero =>
      simp at hp
      subst hp
      have h1 := h.1
      split at h1
      · rename_i o ho
        simp only [Bool.and_eq_true] at h1
        exact ⟨o, ho, h1.1, h1.2⟩
      · cases h1
    | succ p => exact rowsOk_spec h.2 p x (by simpa using hp)

structure Drawn (P : Program) (ops : Array Oper) (ord : List Nat) (ms : List MO) (tab : List (List Nat)) : Prop where
  len1 : ord.length = ops.size
  len2 : ms.length = ops.size
  nodup : ord.Nodup
  all : ∀ i, i < ops.size → ∃ p : Nat, ord[p]? = some i
  dist : distinct ms = true
  row : ∀ (p i : Nat) (m : MO), ord[p]? = some i → ms[p]? = some m → ∃ o, ops[i]? = some o ∧ chkMO P ops o m = true ∧ (∀ d ∈ directs o, d < ops.size ∧ d ≠ i) ∧ (∀ x, ldX m.op = some x → m.keep.any (sameX x) = true)
  addr : ∀ (p q : Nat) (m m' : MO) (x : X), p ≤ q → ms[p]? = some m → ms[q]? = some m' → ldX m.op = some x → ∃ n, x = .t n ∧ m'.dst ≠ some n
  pair : ∀ (p q i j : Nat) (m m' : MO), q < p → ord[p]? = some i → ord[q]? = some j → ms[p]? = some m → ms[q]? = some m' → pairOk ops.toList tab i j m m' = true
  anc : AncGood ops.toList tab

theorem chkDraw_spec {P : Program} {ops : Array Oper} {ord : List Nat} {ms : List MO} (h : chkDraw P ops ord ms = true) : ∃ tab, Drawn P ops ord ms tab := by
  simp only [chkDraw, Bool.and_eq_true, decide_eq_true_eq] at h
  obtain ⟨⟨⟨⟨⟨⟨⟨h1, h2⟩, h3⟩, h4⟩, h5⟩, h6⟩, h7⟩, h8⟩ := h
  have hz : ∀ (p i : Nat) (m : MO), ord[p]? = some i → ms[p]? = some m → (ord.zip ms)[p]? = some (i, m) := by
    intro p i m a b
    rw [List.getElem?_zip_eq_some]
    exact ⟨a, b⟩
  refine ⟨_, h1, h2, h3, ?_, h5, ?_, fun p q m m' x => addrsOk_spec h7 p q m m' x, ?_, ancTab_good ops.toList ops.toList [] [] rfl rfl ?_⟩
  · intro i hi
    have := (List.all_eq_true.1 h4) i (List.mem_range.2 hi)
    exact List.mem_iff_getElem?.1 (by simpa using this)
  · intro p i m hp hm
    obtain ⟨o, q1, q2, q3⟩ := rowsOk_spec h6 p _ (hz p i m hp hm)
    refine ⟨o, q1, q2, ?_⟩
    simp only [waitsOk, Bool.and_eq_true] at q3
    refine ⟨fun d hd => ?_, fun x hx => ?_⟩
    · have := (List.all_eq_true.1 q3.1) d hd
      simpa using this
    · have := q3.2
      rw [hx] at this
      exact this
  · intro p q i j m m' hqp hp hq hm hm'
    have := pairsOk_spec (ord.zip ms) [] h8 p q (i, m) (j, m') hqp (Nat.zero_le _) (by simpa using hz p i m hp hm) (by simpa using hz q j m' hq hm')
    exact this
  · intro L hL i o ho hd d hmem
    simp at hmem

theorem kept_spec {tm : Tm} {H H' : Heap} {x : X} (h : kept tm H H' x = true) {i : Nat} (hb : blkOf (ev tm x) = some i) : i < H.length ∧ ver H i = ver H' i := by
  unfold kept at h
  unfold blkOf at hb
  split at hb
  · rename_i i' o hv
    cases hb
    rw [hv] at h
    simpa using h
  · rename_i i' o n c hv
    cases hb
    rw [hv] at h
    simpa using h
  · cases hb
theorem keep_any {tm : Tm} {H H' : Heap} {l : List X} {n : Nat} (h : l.all (kept tm H H') = true) (ha : l.any (sameX (.t n)) = true) : kept tm H H' (.t n) = true := by
  obtain ⟨x, hx, hs⟩ := List.any_eq_true.1 ha
  have : x = .t n := by
    cases x <;> simp [sameX] at hs
    rw [hs]
  subst this
  exact (List.all_eq_true.1 h) _ hx

theorem countP_lt {p q : Nat → Bool} {i : Nat} : ∀ {l : List Nat}, (∀ x, q x = true → p x = true) → i ∈ l → p i = true → q i = false → l.countP q < l.countP p
  | [], _, hi, _, _ => by cases hi
  | x :: l, h, hi, hp, hq => by
    simp only [List.countP_cons]
    by_cases e : i ∈ l
    · have := countP_lt (l := l) h e hp hq
      by_cases hx : q x = true
      · rw [if_pos hx, if_pos (h x hx)]; omega
      · rw [if_neg hx]
        split <;> omega
    · have : x = i := by simp at hi; exact (hi.resolve_right e).symm
      subst this
      have : l.countP q ≤ l.countP p := List.countP_mono_left fun x _ => h x
      rw [if_pos hp, if_neg (by simp [hq])]
      omega
end Dm
end
section
set_option linter.unusedVariables false
set_option linter.unusedSimpArgs false
namespace Dm
open Go Go.RowKit

variable {P : Program} {F : Fence} {B : Nat} {w0 w00 : World} {μ μ' μ0 : Mu} {H0 : Heap} {w w' : World} {C : CallF}
variable {ops : Array Oper} {ord : List Nat} {ms : List MO} {tab : List (List Nat)} {tm0 : Tm} {T : Nat → Tm} {K : Nat → Heap} {V : Nat → Value} {D : Nat → Bool} {a a' : Act}

theorem opC_noneff {ρ : X → Value} {H : Heap} {m : MOp} (h : effM m = false) : opC C ρ H m = opV ρ H m := by
  cases m <;> first | rfl | (simp [effM] at h)
theorem noneff_step (hc : Canon C ms tm0 H0 T K V) {p : Nat} {m : MO} (hm : ms[p]? = some m) (he : effM m.op = false) : ∃ l, K (p + 1) = K p ++ l := by
  rcases (hc.step p m hm).2 with ⟨_, h, _⟩ | ⟨_, _, h⟩
  · rw [opC_noneff he] at h
    by_cases ha : alcM m.op = true
    · obtain ⟨cs, e, kd, f, h1, _⟩ := alc_form ha h
      exact ⟨_, h1⟩
    · exact ⟨[], by rw [(pure_any he (by simpa using ha) h).1]; simp⟩
  · exact ⟨[], by rw [h]; simp⟩
theorem grow (hc : Canon C ms tm0 H0 T K V) (s : Nat) : ∀ s', s ≤ s' → s' ≤ ms.length → (∀ (p : Nat) (m : MO), s ≤ p → p < s' → ms[p]? = some m → effM m.op = false) → ∃ l, K s' = K s ++ l
  | 0, h, _, _ => by have : s = 0 := by omega
                     subst this; exact ⟨[], by simp⟩
  | s' + 1, h, hl, hn => by
    by_cases e : s = s' + 1
    · subst e; exact ⟨[], by simp⟩
    · obtain ⟨l, h1⟩ := grow hc s s' (by omega) (by omega) fun p m a b => hn p m a (by omega)
      have hm : ms[s']? = some ms[s'] := List.getElem?_eq_getElem (by omega)
      obtain ⟨l2, h2⟩ := noneff_step hc hm (hn s' _ (by omega) (by omega) hm)
      exact ⟨l ++ l2, by rw [h2, h1]; simp⟩
theorem nextE (ms : List MO) : ∀ (k s : Nat), ms.length - s = k → s ≤ ms.length → ∃ s', s ≤ s' ∧ s' ≤ ms.length ∧ (∀ (p : Nat) (m : MO), s ≤ p → p < s' → ms[p]? = some m → effM m.op = false) ∧ ∀ m, ms[s']? = some m → effM m.op = true
  | 0, s, h, hs => ⟨s, Nat.le_refl _, hs, fun p m a b => by omega, fun m hm => by rw [List.getElem?_eq_none (by omega)] at hm; cases hm⟩
  | k + 1, s, h, hs => by
    have hm : ms[s]? = some ms[s] := List.getElem?_eq_getElem (by omega)
    by_cases he : effM ms[s].op = true
    · exact ⟨s, Nat.le_refl _, hs, fun p m a b => by omega, fun m hm' => by rw [hm] at hm'; cases hm'; exact he⟩
    · obtain ⟨s', h1, h2, h3, h4⟩ := nextE ms k (s + 1) (by omega) (by omega)
      refine ⟨s', by omega, h2, fun p m a b hp => ?_, h4⟩
      by_cases e : p = s
      · subst e; rw [hm] at hp; cases hp; simpa using he
      · exact h3 p m (by omega) b hp

theorem pairOk_spec {i j : Nat} {m m' : MO} (h : pairOk ops.toList tab i j m m' = true) :
    (j ∉ tab.getD i [] → effM m'.op = false ∧ (∀ t, m'.dst = some t → t ∉ readsM m) ∧ (∀ t, m.dst = some t → t ∉ readsM m') ∧ (∀ x, ldX m'.op = some x → effM m.op = true → m.keep.any (sameX x) = true)) ∧
    (∀ o, ops[j]? = some o → i ∉ directs o) := by
  simp only [pairOk, Bool.and_eq_true, Bool.or_eq_true] at h
  obtain ⟨h1, h2⟩ := h
  refine ⟨fun hj => ?_, fun o ho => ?_⟩
  · rcases h1 with h1 | h1
    · exact absurd (by simpa using h1) hj
    · obtain ⟨⟨⟨q1, q2⟩, q3⟩, q4⟩ := h1
      refine ⟨by simpa using q1, fun t ht => ?_, fun t ht => ?_, fun x hx he => ?_⟩
      · rw [ht] at q2; simpa using q2
      · rw [ht] at q3; simpa using q3
      · rw [hx] at q4
        simp only [he, Bool.not_true, Bool.false_or] at q4
        exact q4
  · have ho' : ops.toList[j]? = some o := by simpa using ho
    rw [ho'] at h2
    simpa using h2

/-- How a drawn region stands: which operations are done; up to where the heap has come. -/
structure Pre (P : Program) (B : Nat) (w0 : World) (μ0 : Mu) (H0 : Heap) (w00 : World) (ms : List MO) (tm0 : Tm) (T : Nat → Tm) (K : Nat → Heap) (V : Nat → Value) (D : Nat → Bool) (s : Nat) (μ : Mu) (a : Act) (w : World) : Prop where
  hs : s ≤ ms.length
  hD : ∀ p, D p = true → p < s
  hE : ∀ (p : Nat) (m : MO), p < s → ms[p]? = some m → effM m.op = true → D p = true
  mono : ∀ r, r < s → (K r).length ≤ (K (r + 1)).length
  ext : Ext P B w0 μ0 H0 w00 μ (K s) w
  tm : VRs μ (mask ms V tm0 D ms.length) a.tmps.toList
  ph : ∀ (p : Nat) (m : MO), p < s → D p = false → ms[p]? = some m → alcM m.op = true → wants (T p) m.guard = true → H0.length ≤ (K p).length ∧ μ (K p).length = none ∧ (K p).length < (K s).length ∧ (K s)[(K p).length]? = (K (p + 1))[(K p).length]?
  ld : ∀ (p : Nat) (m : MO) (x : X) (i : Nat), p < s → D p = false → ms[p]? = some m → wants (T p) m.guard = true → ldX m.op = some x → blkOf (ev (T p) x) = some i → i < (K p).length ∧ (K s)[i]? = (K p)[i]?

theorem Pre.len_le {s : Nat} (h : Pre P B w0 μ0 H0 w00 ms tm0 T K V D s μ a w) (q : Nat) : ∀ p, q ≤ p → p ≤ s → (K q).length ≤ (K p).length
  | 0, hq, _ => by have : q = 0 := by omega
                   subst this; exact Nat.le_refl _
  | p + 1, hq, hs => by
    by_cases e : q = p + 1
    · subst e; exact Nat.le_refl _
    · exact Nat.le_trans (Pre.len_le h q p (by omega) (by omega)) (h.mono p (by omega))
theorem alc_len (hc : Canon C ms tm0 H0 T K V) {p : Nat} {m : MO} (hm : ms[p]? = some m) (ha : alcM m.op = true) (hw : wants (T p) m.guard = true) : (K (p + 1)).length = (K p).length + 1 := by
  have he : effM m.op = false := by generalize m.op = x at ha; cases x <;> simp_all [alcM, effM]
  rcases (hc.step p m hm).2 with ⟨_, q, _⟩ | ⟨q, _⟩
  · rw [opC_noneff he] at q
    obtain ⟨cs, e, kd, f, q1, _⟩ := alc_form ha q
    rw [q1]; simp
  · rw [q] at hw; cases hw
theorem Pre.len_ne {s : Nat} (h : Pre P B w0 μ0 H0 w00 ms tm0 T K V D s μ a w) (hc : Canon C ms tm0 H0 T K V) {p q : Nat} {m m' : MO} (hm : ms[p]? = some m) (ha : alcM m.op = true) (hw : wants (T p) m.guard = true)
    (hm' : ms[q]? = some m') (ha' : alcM m'.op = true) (hw' : wants (T q) m'.guard = true) (hp : p < s) (hq : q < s) (hne : q ≠ p) : (K q).length ≠ (K p).length := by
  have h1 := alc_len hc hm ha hw
  have h2 := alc_len hc hm' ha' hw'
  rcases Nat.lt_or_ge q p with e | e
  · have := h.len_le (q + 1) p (by omega) (by omega); omega
  · have := h.len_le (p + 1) q (by omega) (by omega); omega

theorem alc_eff {m : MOp} (h : alcM m = true) : effM m = false := by cases m <;> simp_all [alcM, effM]

theorem Pre.advance (hd : Drawn P ops ord ms tab) (hc : Canon C ms tm0 H0 T K V) {s : Nat} (h : Pre P B w0 μ0 H0 w00 ms tm0 T K V D s μ a w) :
    ∃ s', Pre P B w0 μ0 H0 w00 ms tm0 T K V D s' μ a w ∧ ∀ m, ms[s']? = some m → effM m.op = true := by
  obtain ⟨s', g1, g2, g3, g4⟩ := nextE ms _ s rfl h.hs
  refine ⟨s', ?_, g4⟩
  obtain ⟨l, hl⟩ := grow hc s s' g1 g2 g3
  have happ : ∀ i, i < (K s).length → (K s')[i]? = (K s)[i]? := fun i hi => by rw [hl, List.getElem?_append_left hi]
  refine ⟨g2, fun p hp => Nat.lt_of_lt_of_le (h.hD p hp) g1, ?_, ?_, ?_, h.tm, ?_, ?_⟩
  · intro p m hp hm he
    by_cases e : p < s
    · exact h.hE p m e hm he
    · rw [g3 p m (by omega) hp hm] at he; cases he
  · intro r hr
    by_cases e : r < s
    · exact h.mono r e
    · have hm : ms[r]? = some ms[r] := List.getElem?_eq_getElem (by omega)
      obtain ⟨l2, h2⟩ := noneff_step hc hm (g3 r _ (by omega) hr hm)
      rw [h2]; simp
  · rw [hl]; exact h.ext.phantoms l
  · intro p m hp hDp hm ha hw
    by_cases e : p < s
    · obtain ⟨q0, q1, q2, q3⟩ := h.ph p m e hDp hm ha hw
      refine ⟨q0, q1, ?_, (happ _ q2).trans q3⟩
      rw [hl]; simp; omega
    · obtain ⟨l1, e1⟩ := grow hc s p (by omega) (by omega) fun q m a b => g3 q m a (by omega)
      obtain ⟨l2, e2⟩ := grow hc (p + 1) s' (by omega) g2 fun q m a b => g3 q m (by omega) b
      have e3 : ∃ o, K (p + 1) = K p ++ [o] := by
        rcases (hc.step p m hm).2 with ⟨_, q, _⟩ | ⟨q, _⟩
        · rw [opC_noneff (alc_eff ha)] at q
          obtain ⟨cs, e, kd, f, q1, _⟩ := alc_form ha q
          exact ⟨_, q1⟩
        · rw [q] at hw; cases hw
      obtain ⟨o, e3⟩ := e3
      have hlen : (K s).length ≤ (K p).length := by rw [e1]; simp
      refine ⟨Nat.le_trans h.ext.len hlen, h.ext.wr.none_at hlen, ?_, ?_⟩
      · rw [e2, e3]; simp
      · rw [e2, List.getElem?_append_left (by rw [e3]; simp)]
  · intro p m x i hp hDp hm hw hx hb
    by_cases e : p < s
    · obtain ⟨q1, q2⟩ := h.ld p m x i e hDp hm hw hx hb
      refine ⟨q1, ?_⟩
      have : i < (K s).length := by
        rw [List.getElem?_eq_getElem q1] at q2
        exact (List.getElem?_eq_some_iff.1 q2).1
      exact (happ i this).trans q2
    · have hpl : p < ord.length := by rw [hd.len1, ← hd.len2]; omega
      obtain ⟨o, _, _, _, hk⟩ := hd.row p _ m (List.getElem?_eq_getElem hpl) hm
      obtain ⟨n, rfl, _⟩ := hd.addr p p m m x (Nat.le_refl _) hm hm hx
      rcases (hc.step p m hm).2 with ⟨_, _, q⟩ | ⟨q, _⟩
      · have hi := (kept_spec (keep_any q (hk _ hx)) hb).1
        refine ⟨hi, ?_⟩
        obtain ⟨l1, e1⟩ := grow hc p s' (by omega) g2 fun q m a b => g3 q m (by omega) b
        rw [e1, List.getElem?_append_left hi]
      · rw [q] at hw; cases hw

/-- Done before it, or waiting for it. -/
structure Turn (D : Nat → Bool) (ord : List Nat) (tab : List (List Nat)) (p : Nat) : Prop where
  hA : ∀ (q i j : Nat), ord[p]? = some i → ord[q]? = some j → j ∈ tab.getD i [] → D q = true
  hC : ∀ (p' q i j : Nat), D p' = true → ord[p']? = some i → ord[q]? = some j → j ∈ tab.getD i [] → D q = true

theorem pos_le (hd : Drawn P ops ord ms tab) {s p : Nat} (h : Pre P B w0 μ0 H0 w00 ms tm0 T K V D s μ a w) (hN : ∀ m, ms[s]? = some m → effM m.op = true) (ht : Turn D ord tab p) (hp : p < ms.length) : p ≤ s := by
  refine Nat.le_of_not_lt fun hlt => ?_
  have hl : ord.length = ms.length := by rw [hd.len1, hd.len2]
  have h1 : ms[p]? = some ms[p] := List.getElem?_eq_getElem hp
  have h2 : ms[s]? = some ms[s] := List.getElem?_eq_getElem (by omega)
  have h3 : ord[p]? = some ord[p] := List.getElem?_eq_getElem (by omega)
  have h4 : ord[s]? = some ord[s] := List.getElem?_eq_getElem (by omega)
  have hpair := (pairOk_spec (hd.pair p s _ _ _ _ hlt h3 h4 h1 h2)).1
  by_cases hm : ord[s] ∈ tab.getD ord[p] []
  · exact absurd (h.hD s (ht.hA s _ _ h3 h4 hm)) (by omega)
  · have q := hN _ h2
    rw [(hpair hm).1] at q
    cases q

theorem agree (hd : Drawn P ops ord ms tab) (hc : Canon C ms tm0 H0 T K V) {s p : Nat} (h : Pre P B w0 μ0 H0 w00 ms tm0 T K V D s μ a w) (ht : Turn D ord tab p) (hDp : D p = false) {m : MO} (hm : ms[p]? = some m) :
    ∀ t ∈ readsM m, (mask ms V tm0 D ms.length)[t]? = (T p)[t]? := by
  intro t htm
  have hp : p < ms.length := (List.getElem?_eq_some_iff.1 hm).1
  have hl : ord.length = ms.length := by rw [hd.len1, hd.len2]
  have h3 : ord[p]? = some ord[p] := List.getElem?_eq_getElem (by omega)
  rw [← mask_lt hc (Nat.le_of_lt hp)]
  refine mask_congr t _ fun q m' hq hm' hdst => ?_
  have h4 : ord[q]? = some ord[q] := List.getElem?_eq_getElem (by omega)
  rcases Nat.lt_trichotomy q p with hqp | rfl | hqp
  · simp only [hqp, decide_true]
    by_cases ha : ord[q] ∈ tab.getD ord[p] []
    · exact ht.hA q _ _ h3 h4 ha
    · exact absurd htm (((pairOk_spec (hd.pair p q _ _ _ _ hqp h3 h4 hm hm')).1 ha).2.1 t hdst)
  · simpa using hDp
  · have : decide (q < p) = false := by simp; omega
    rw [this]
    by_cases ha : ord[p] ∈ tab.getD ord[q] []
    · cases hDq : D q
      · rfl
      · have := ht.hC q p _ _ hDq h4 h3 ha
        rw [hDp] at this
        cases this
    · exact absurd htm (((pairOk_spec (hd.pair q p _ _ _ _ hqp h4 h3 hm' hm)).1 ha).2.2.1 t hdst)

theorem ev_agree {tm tm' : Tm} {m : MO} (h : ∀ t ∈ readsM m, tm[t]? = tm'[t]?) : ∀ x ∈ opXs m.op, ev tm x = ev tm' x := by
  intro x hx
  cases x with
  | t n =>
    have : n ∈ readsM m := by
      unfold readsM
      exact List.mem_append_left _ (List.mem_flatMap.2 ⟨_, hx, by simp [tmpsX]⟩)
    simp only [ev, List.getD_eq_getElem?_getD, h n this]
  | c v => rfl
  | f n => rfl
theorem wants_agree {tm tm' : Tm} {m : MO} (h : ∀ t ∈ readsM m, tm[t]? = tm'[t]?) : wants tm m.guard = wants tm' m.guard := by
  unfold wants
  split
  · rfl
  · rename_i t b hg
    have : t ∈ readsM m := by
      unfold readsM
      rw [hg]
      simp
    simp only [List.getD_eq_getElem?_getD, h t this]

def plus (D : Nat → Bool) (p : Nat) : Nat → Bool := fun r => D r || decide (r = p)
theorem plus_false {p q : Nat} (h : plus D p q = false) : D q = false ∧ q ≠ p := by
  simpa [plus] using h

/-- An operation behind which the heap stands already. -/
theorem Pre.same (hd : Drawn P ops ord ms tab) {s p : Nat} (h : Pre P B w0 μ0 H0 w00 ms tm0 T K V D s μ a w) (hp : p < s) (hDp : D p = false) {m : MO} (hm : ms[p]? = some m) {v' : Value} (hv : VR μ' (V p) v')
    (hx : Ext P B w0 μ0 H0 w00 μ' (K s) w') (hmo : ∀ i m, μ i = some m → μ' i = some m) (hph : ∀ (q : Nat) (m : MO), q < s → plus D p q = false → ms[q]? = some m → alcM m.op = true → wants (T q) m.guard = true → μ' (K q).length = none) :
    Pre P B w0 μ0 H0 w00 ms tm0 T K V (plus D p) s μ' (a.put m.dst v') w' := by
  refine ⟨h.hs, ?_, ?_, h.mono, hx, ?_, ?_, ?_⟩
  · intro r hr
    simp only [plus, Bool.or_eq_true, decide_eq_true_eq] at hr
    rcases hr with hr | rfl
    · exact h.hD r hr
    · exact hp
  · intro r m hr hm he
    simp only [plus, h.hE r m hr hm he, Bool.true_or]
  · have : mask ms V tm0 (plus D p) ms.length = put (mask ms V tm0 D ms.length) m.dst (V p) := mask_add hd.dist hm hDp _ (List.getElem?_eq_some_iff.1 hm).1
    rw [this]
    exact put_vrs (h.tm.mono hmo) hv
  · intro q m hq hDq hm ha hw
    obtain ⟨q0, _, q2, q3⟩ := h.ph q m hq (plus_false hDq).1 hm ha hw
    exact ⟨q0, hph q m hq hDq hm ha hw, q2, q3⟩
  · intro q m x i hq hDq hm hw hx hb
    exact h.ld q m x i hq (plus_false hDq).1 hm hw hx hb

/-- The next operation that writes or calls. -/
theorem Pre.eff (hd : Drawn P ops ord ms tab) (hc : Canon C ms tm0 H0 T K V) (hw0 : WR P B w0 μ0 H0 w00) {s : Nat} (h : Pre P B w0 μ0 H0 w00 ms tm0 T K V D s μ a w) (ht : Turn D ord tab s) (hDp : D s = false) {m : MO} (hm : ms[s]? = some m) (he : effM m.op = true)
    {v' : Value} (hv : VR μ' (V s) v') (hx : Ext P B w0 μ (K s) w μ' (K (s + 1)) w') :
    Pre P B w0 μ0 H0 w00 ms tm0 T K V (plus D s) (s + 1) μ' (a.put m.dst v') w' := by
  have hsl : s < ms.length := (List.getElem?_eq_some_iff.1 hm).1
  have hl : ord.length = ms.length := by rw [hd.len1, hd.len2]
  have hmo := hx.mono h.ext.wr
  refine ⟨hsl, ?_, ?_, ?_, h.ext.trans hx hw0, ?_, ?_, ?_⟩
  · intro r hr
    simp only [plus, Bool.or_eq_true, decide_eq_true_eq] at hr
    rcases hr with hr | rfl
    · exact Nat.lt_succ_of_lt (h.hD r hr)
    · exact Nat.lt_succ_self _
  · intro r m hr hm he
    by_cases e : r = s
    · simp [plus, e]
    · simp only [plus, h.hE r m (by omega) hm he, Bool.true_or]
  · intro r hr
    by_cases e : r = s
    · subst e; exact hx.len
    · exact h.mono r (by omega)
  · have : mask ms V tm0 (plus D s) ms.length = put (mask ms V tm0 D ms.length) m.dst (V s) := mask_add hd.dist hm hDp _ hsl
    rw [this]
    exact put_vrs (h.tm.mono hmo) hv
  · intro q m' hq hDq hm' ha hw
    obtain ⟨d1, d2⟩ := plus_false hDq
    obtain ⟨q0, q1, q2, q3⟩ := h.ph q m' (by omega) d1 hm' ha hw
    refine ⟨q0, (hx.old _ q2).trans q1, Nat.lt_of_lt_of_le q2 hx.len, ?_⟩
    exact (hx.keep _ q2 q1).trans q3
  · intro q m' x i hq hDq hm' hw hxx hb
    obtain ⟨d1, d2⟩ := plus_false hDq
    obtain ⟨q1, q2⟩ := h.ld q m' x i (by omega) d1 hm' hw hxx hb
    have hil : i < (K s).length := by
      rw [List.getElem?_eq_getElem q1] at q2
      exact (List.getElem?_eq_some_iff.1 q2).1
    refine ⟨q1, Eq.trans ?_ q2⟩
    rcases (hc.step s m hm).2 with ⟨_, _, hk⟩ | ⟨_, _, hk⟩
    · have h3 : ord[s]? = some ord[s] := List.getElem?_eq_getElem (by omega)
      have h4 : ord[q]? = some ord[q] := List.getElem?_eq_getElem (by omega)
      have hna : ord[q] ∉ tab.getD ord[s] [] := fun hh => by
        have := ht.hA q _ _ h3 h4 hh
        rw [d1] at this
        cases this
      have hkeep := ((pairOk_spec (hd.pair s q _ _ _ _ (by omega) h3 h4 hm hm')).1 hna).2.2.2 x hxx he
      obtain ⟨n, rfl, _⟩ := hd.addr q q m' m' x (Nat.le_refl _) hm' hm' hxx
      have hev : ev (T s) (.t n) = ev (T q) (.t n) := by
        simp only [ev, List.getD_eq_getElem?_getD]
        rw [← mask_lt hc (Nat.le_of_lt hsl), ← mask_lt hc (p := q) (by omega)]
        rw [mask_congr n _ fun r m'' hr hm'' hdst => ?_]
        rcases Nat.lt_or_ge r q with hr1 | hr1
        · have e1 : r < s := by omega
          simp [hr1, e1]
        · obtain ⟨n', e1, e2⟩ := hd.addr q r m' m'' _ hr1 hm' hm'' hxx
          cases e1
          exact absurd hdst e2
      exact (hx.ver i hil).2 (kept_spec (keep_any hk hkeep) (by rw [hev]; exact hb)).2.symm
    · rw [hk]

end Dm
end
section
set_option linter.unusedVariables false
set_option linter.unusedSimpArgs false
namespace Dm
open Go Go.RowKit

variable {P : Program} {F : Fence} {B : Nat} {w0 w00 : World} {μ μ' μ0 : Mu} {H0 : Heap} {w w' : World} {C : CallF}
variable {ops : Array Oper} {ord : List Nat} {ms : List MO} {tab : List (List Nat)} {tm0 : Tm} {T : Nat → Tm} {K : Nat → Heap} {V : Nat → Value} {D : Nat → Bool} {a a' : Act}

theorem chkCall_eff {op : Op} {m : MOp} (h : chkCall op m = true) : effM m = true := by
  cases op <;> cases m <;> first | rfl | (simp [chkCall] at h)

theorem chkParts_mem {place : Nat → Option (Nat × Nat)} : ∀ (os : List (Nat × Operand)) (xs : List (Nat × Nat × X)), chkParts place os xs = true → ∀ x ∈ xs.map (·.2.2), ∃ y, chkX y x = true
  | [], [], _, x, hx => by simp at hx
  | (i, o) :: os, (off, n, y) :: xs, h, x, hx => by
    simp only [chkParts, Bool.and_eq_true] at h
    simp only [List.map_cons, List.mem_cons] at hx
    rcases hx with rfl | hx
    · exact ⟨o, h.1.2⟩
    · exact chkParts_mem os xs h.2 x hx
  | [], _ :: _, h, _, _ => by simp [chkParts] at h
  | _ :: _, [], h, _, _ => by simp [chkParts] at h
theorem alc_opX {op : Op} {m : MOp} (ha : alcM m = true) (hc : chkOp P op m = true) : ∀ x ∈ opXs m, ∃ y, chkX y x = true := by
  intro x hx
  cases m <;> simp only [alcM, Bool.false_eq_true] at ha
  case new z e => simp [opXs] at hx
  case box e y =>
    cases op <;> simp only [chkOp, chkB, Bool.false_eq_true] at hc
    simp only [opXs, List.mem_singleton] at hx
    subst hx
    exact ⟨_, hc⟩
  case lit e z ps len =>
    cases op <;> simp only [chkOp, chkB, Bool.false_eq_true] at hc
    simp only [Bool.and_eq_true] at hc
    obtain ⟨_, c2⟩ := hc
    split at c2
    · split at c2
      · simp only [Bool.and_eq_true] at c2
        exact chkParts_mem _ _ c2.2 x hx
      · cases c2
    · cases c2
  case bytes e y =>
    cases op <;> simp only [chkOp, chkB, Bool.false_eq_true] at hc
    simp only [Bool.and_eq_true] at hc
    simp only [opXs, List.mem_singleton] at hx
    subst hx
    exact ⟨_, hc.1.1⟩
  case mk e size bytes z l c =>
    cases op <;> simp only [chkOp, chkB, Bool.false_eq_true] at hc
    simp only [Bool.and_eq_true] at hc
    simp only [opXs, List.mem_cons, List.not_mem_nil, or_false] at hx
    rcases hx with rfl | rfl
    · exact ⟨_, hc.1.1⟩
    · exact ⟨_, hc.1.2⟩

theorem draw_step (hF : ∀ f, F.fn f) (hDp : F.depth = none) (hC : CallOK P F C) (hd : Drawn P ops ord ms tab) (hc : Canon C ms tm0 H0 T K V) (hw0 : WR P B w0 μ0 H0 w00) {s : Nat} (h : Pre P B w0 μ0 H0 w00 ms tm0 T K V D s μ a w)
    (hN : ∀ m, ms[s]? = some m → effM m.op = true) {p i : Nat} (hp : p < ms.length) (hi : ord[p]? = some i) (hDf : D p = false) (ht : Turn D ord tab p) {K' : Act → World → Prop} {Q : Exit → Act → World → Prop}
    (hK : ∀ s' μ' a' w', a'.defers = a.defers → Pre P B w0 μ0 H0 w00 ms tm0 T K V (plus D p) s' μ' a' w' → (∀ m, ms[s']? = some m → effM m.op = true) → K' a' w') : wpOpIn F 0 P ops Q i K' a w := by
  have hm : ms[p]? = some ms[p] := List.getElem?_eq_getElem hp
  generalize ms[p] = m at hm
  obtain ⟨o, ho, hmo, _, _⟩ := hd.row p i m hi hm
  simp only [chkMO, Bool.and_eq_true, decide_eq_true_eq] at hmo
  obtain ⟨⟨c3, c4⟩, c5⟩ := hmo
  have hag := agree hd hc h ht hDf hm
  have hev := ev_agree hag
  have hwa := wants_agree hag
  have hw := wants_eq (μ := μ) (a := a) (tm := mask ms V tm0 D ms.length) c4 (fun t b _ => h.tm.getD t)
  have hdef : ∀ v', (a.put o.dst v').defers = a.defers := fun v' => by cases o.dst <;> rfl
  have hfin : ∀ {s' μ' a' w'}, a'.defers = a.defers → Pre P B w0 μ0 H0 w00 ms tm0 T K V (plus D p) s' μ' a' w' → K' a' w' := by
    intro s' μ' a' w' e hh
    obtain ⟨s2, h1, h2⟩ := hh.advance hd hc
    exact hK s2 μ' a' w' e h1 h2
  have hple := pos_le hd h hN ht hp
  unfold wpOpIn
  simp only [ho]
  rw [hw, hwa]
  by_cases hps : p = s
  · subst hps
    have he := hN m hm
    rcases (hc.step p m hm).2 with ⟨q1, q2, q3⟩ | ⟨q1, q2, q3⟩
    · rw [if_pos q1]
      have hv : opC C (ev (mask ms V tm0 D ms.length)) (K p) m.op = some (V p, K (p + 1)) := by rw [opC_congr hev]; exact q2
      refine op_wp hF hDp hC c5 hv h.ext.wr h.tm fun v' w' μ' g1 g2 => ?_
      rw [← c3]
      refine hfin (by rw [c3]; exact hdef _) (h.eff hd hc hw0 ht hDf hm he g1 g2)
    · rw [if_neg (by rw [q1]; simp)]
      refine ⟨fun f _ => hF f, ?_⟩
      rw [← c3]
      refine hfin (by rw [c3]; exact hdef _) (h.eff (v' := undef) hd hc hw0 ht hDf hm he (by rw [q2]; exact VR.undef μ) (by rw [q3]; exact Ext.refl h.ext.wr))
  · have hlt : p < s := by omega
    have he : effM m.op = false := by
      cases e : effM m.op
      · rfl
      · have := h.hE p m hlt hm e
        rw [hDf] at this
        cases this
    have hop : chkOp P o.op m.op = true := by
      rcases (Bool.or_eq_true _ _).mp c5 with q | q
      · rw [chkCall_eff q] at he; cases he
      · exact q
    rcases (hc.step p m hm).2 with ⟨q1, q2, q3⟩ | ⟨q1, q2, q3⟩
    · rw [if_pos q1]
      rw [opC_noneff he] at q2
      by_cases ha : alcM m.op = true
      · obtain ⟨cs, e, kd, f, g1, g2, g3, g4⟩ := alc_form ha q2
        obtain ⟨r0, r1, r2, r3⟩ := h.ph p m hlt hDf hm ha q1
        have hv : opC C (ev (mask ms V tm0 D ms.length)) (K s) m.op = some (f (K s).length, K s ++ [.cells cs e kd 0]) := by
          rw [opC_noneff he, opV_congr hev]; exact g3 (K s)
        have hrel : ∀ x ∈ cs, Rel μ x := by
          have hr : ∀ x ∈ opXs m.op, Rel μ (ev (mask ms V tm0 D ms.length) x) := by
            intro x hx
            obtain ⟨y, hy⟩ := alc_opX ha hop x hx
            exact ⟨_, chkX_vr h.tm hy⟩
          rw [opC_noneff he] at hv
          exact alc_rel ha hop hr hv
        refine op_wp hF hDp hC c5 hv h.ext.wr h.tm fun v' w' μ' k1 k2 => ?_
        obtain ⟨img, i1, i2⟩ := g4 _ _ _ k1
        have hobj : (K s)[(K p).length]? = some (.cells cs e kd 0) := by rw [r3, g1]; simp
        rw [← c3]
        refine hfin (by rw [c3]; exact hdef _) (h.same hd hlt hDf hm (μ' := μ.add (K p).length img) ?_ (h.ext.late hw0 k2 i1 hobj r1 r0 hrel) (Mu.add_mono r1) ?_)
        · rw [g2]; exact i2 _ _ (Mu.add_same _ _ _)
        · intro q m2 hq hDq hm2 ha2 hw2
          obtain ⟨d1, d2⟩ := plus_false hDq
          have hne : (K q).length ≠ (K p).length := by
            exact h.len_ne hc hm ha q1 hm2 ha2 hw2 hlt hq d2
          unfold Mu.add
          rw [if_neg hne]
          exact (h.ph q m2 hq d1 hm2 ha2 hw2).2.1
      · obtain ⟨g1, g2⟩ := pure_any he (by simpa using ha) q2
        have hv : opC C (ev (mask ms V tm0 D ms.length)) (K s) m.op = some (V p, K s) := by
          rw [opC_noneff he, opV_congr hev]
          exact g2 (K s) fun x i hx hb => (h.ld p m x i hlt hDf hm q1 hx hb).2
        refine op_wp hF hDp hC c5 hv h.ext.wr h.tm fun v' w' μ' k1 k2 => ?_
        rw [← c3]
        refine hfin (by rw [c3]; exact hdef _) (h.same hd hlt hDf hm k1 (h.ext.trans k2 hw0) (k2.mono h.ext.wr) ?_)
        intro q m2 hq hDq hm2 ha2 hw2
        obtain ⟨_, z1, z2, _⟩ := h.ph q m2 hq (plus_false hDq).1 hm2 ha2 hw2
        exact (k2.old _ z2).trans z1
    · rw [if_neg (by rw [q1]; simp)]
      refine ⟨fun f _ => hF f, ?_⟩
      rw [← c3]
      refine hfin (by rw [c3]; exact hdef _) (h.same (v' := undef) hd hlt hDf hm (by rw [q2]; exact VR.undef μ) h.ext (fun _ _ hh => hh) ?_)
      intro q m2 hq hDq hm2 ha2 hw2
      exact (h.ph q m2 hq (plus_false hDq).1 hm2 ha2 hw2).2.1

end Dm
end
section
set_option linter.unusedVariables false
set_option linter.unusedSimpArgs false
namespace Dm
open Go Go.RowKit

variable {P : Program} {F : Fence} {B : Nat} {w0 w00 : World} {μ μ' μ0 : Mu} {H0 HN : Heap} {w w' : World} {C : CallF}
variable {ops : Array Oper} {ord : List Nat} {ms : List MO} {tab : List (List Nat)} {tm0 tmN : Tm} {T : Nat → Tm} {K : Nat → Heap} {V : Nat → Value} {D : Nat → Bool} {a a' a0 : Act}

def DL (ord : List Nat) (listed : Array Bool) (p : Nat) : Bool :=
  match ord[p]? with
  | some i => listed.getD i false
  | none => false

theorem getD_set {l : Array Bool} {i j : Nat} (hi : i < l.size) : (l.setIfInBounds i true).getD j false = if i = j then true else l.getD j false := by
  rw [Array.getD_eq_getD_getElem?, Array.getD_eq_getD_getElem?, Array.getElem?_setIfInBounds]
  split
  · simp [hi]
  · rfl
theorem DL_set {listed : Array Bool} (hn : ord.Nodup) {p i : Nat} (hp : ord[p]? = some i) (hi : i < listed.size) : DL ord (listed.setIfInBounds i true) = plus (DL ord listed) p := by
  funext r
  simp only [DL, plus]
  cases hr : ord[r]? with
  | none =>
    have : r ≠ p := by rintro rfl; rw [hp] at hr; cases hr
    simp [this]
  | some j =>
    simp only [getD_set hi]
    by_cases e : r = p
    · subst e
      rw [hp] at hr
      cases hr
      simp
    · have : i ≠ j := by
        rintro rfl
        obtain ⟨h1, h2⟩ := List.getElem?_eq_some_iff.1 hp
        obtain ⟨h3, h4⟩ := List.getElem?_eq_some_iff.1 hr
        exact e ((List.getElem_inj hn).1 (h4.trans h2.symm))
      simp [this, e]

theorem mem_ready {listed : Array Bool} (hs : listed.size = ops.size) {i : Nat} : i ∈ Region.ready .any ops listed ↔ i < ops.size ∧ listed.getD i false = false ∧ ∃ o, ops[i]? = some o ∧ ∀ d ∈ directs o, listed.getD d false = true := by
  unfold Region.ready
  simp only [List.mem_filter, List.mem_range, Bool.and_eq_true, Bool.not_eq_true']
  constructor
  · rintro ⟨h1, h2, h3⟩
    have ho : ops[i]? = some ops[i] := Array.getElem?_eq_getElem h1
    rw [ho] at h3
    simp only [Option.map_some, Option.getD_some, Array.all_eq_true_iff_forall_mem] at h3
    refine ⟨h1, ?_, _, ho, ?_⟩
    · rw [Array.getD_eq_getD_getElem?, Array.getElem?_eq_getElem (by omega)] at h2 ⊢
      simpa using h2
    · intro d hd
      unfold directs at hd
      simp only [List.mem_map, List.mem_filter] at hd
      obtain ⟨e, ⟨e1, e2⟩, rfl⟩ := hd
      have := h3 e (by simpa using e1)
      simpa [e2] using this
  · rintro ⟨h1, h2, o, ho, h3⟩
    refine ⟨h1, ?_, ?_⟩
    · rw [Array.getD_eq_getD_getElem?, Array.getElem?_eq_getElem (by omega)] at h2 ⊢
      simpa using h2
    · rw [ho]
      simp only [Option.map_some, Option.getD_some, Array.all_eq_true_iff_forall_mem]
      intro e he
      by_cases hb : Region.binds .any e = true
      · have := h3 e.on (by unfold directs; exact List.mem_map.2 ⟨e, List.mem_filter.2 ⟨by simpa using he, hb⟩, rfl⟩)
        simp [this]
      · simp [hb]

theorem any_wp (hF : ∀ f, F.fn f) (hDp : F.depth = none) (hC : CallOK P F C) (hd : Drawn P ops ord ms tab) (hc : Canon C ms tm0 H0 T K V) (hw0 : WR P B w0 μ0 H0 w00) {Q : Exit → Act → World → Prop}
    (hq : ∀ a' w' μ', a'.defers = a0.defers → VRs μ' (T ms.length) a'.tmps.toList → Ext P B w0 μ0 H0 w00 μ' (K ms.length) w' → Q .normal a' w') :
    ∀ (fuel : Nat) (listed : Array Bool) (s : Nat) (μ : Mu) (a : Act) (w : World), listed.size = ops.size →
      (∀ i o, ops[i]? = some o → listed.getD i false = true → ∀ d ∈ directs o, listed.getD d false = true) →
      (List.range ops.size).countP (fun i => !listed.getD i false) ≤ fuel → a.defers = a0.defers →
      Pre P B w0 μ0 H0 w00 ms tm0 T K V (DL ord listed) s μ a w → (∀ m, ms[s]? = some m → effM m.op = true) → wpAnyIn F 0 P .any ops Q fuel listed a w := by
  have hl : ord.length = ms.length := by rw [hd.len1, hd.len2]
  have done : ∀ (listed : Array Bool) (s : Nat) (μ : Mu) (a : Act) (w : World), a.defers = a0.defers → Pre P B w0 μ0 H0 w00 ms tm0 T K V (DL ord listed) s μ a w → (∀ p, p < ms.length → DL ord listed p = true) → Q .normal a w := by
    intro listed s μ a w hdf h hall
    have hs : s = ms.length := by
      refine Nat.le_antisymm h.hs (Nat.le_of_not_lt fun hlt => ?_)
      exact absurd (h.hD s (hall s hlt)) (by omega)
    have := mask_all (V := V) (D := DL ord listed) hc ms.length (Nat.le_refl _) hall
    exact hq a w μ hdf (this ▸ h.tm) (hs ▸ h.ext)
  have allL : ∀ (listed : Array Bool), listed.size = ops.size → Region.ready .any ops listed = [] → ∀ p, p < ms.length → DL ord listed p = true := by
    intro listed hsz hr p
    induction p using Nat.strongRecOn with
    | ind p ih =>
      intro hp
      have h3 : ord[p]? = some ord[p] := List.getElem?_eq_getElem (by omega)
      have hm : ms[p]? = some ms[p] := List.getElem?_eq_getElem hp
      generalize ord[p] = i at h3
      obtain ⟨o, ho, _, hw, _⟩ := hd.row p i _ h3 hm
      have hi : i < ops.size := (Array.getElem?_eq_some_iff.1 ho).1
      cases hh : DL ord listed p
      · exfalso
        have hh2 : listed.getD i false = false := by unfold DL at hh; rw [h3] at hh; exact hh
        have : i ∈ Region.ready .any ops listed := by
          refine (mem_ready hsz).2 ⟨hi, hh2, o, ho, fun d hdd => ?_⟩
          obtain ⟨d1, d2⟩ := hw d hdd
          obtain ⟨q, hq⟩ := hd.all d d1
          have hql : q < ms.length := by rw [← hl]; exact (List.getElem?_eq_some_iff.1 hq).1
          rcases Nat.lt_trichotomy q p with e | e | e
          · have := ih q e hql
            unfold DL at this
            rw [hq] at this
            exact this
          · subst e
            rw [h3] at hq
            cases hq
            exact absurd rfl d2
          · have := (pairOk_spec (hd.pair q p d i _ _ e hq h3 (List.getElem?_eq_getElem hql) hm)).2 o ho
            exact absurd hdd this
        rw [hr] at this
        cases this
      · rfl
  intro fuel
  induction fuel with
  | zero =>
    intro listed s μ a w hsz hcl hcnt hdf h hN
    have hall : ∀ i, i < ops.size → listed.getD i false = true := by
      intro i hi
      have : (List.range ops.size).countP (fun i => !listed.getD i false) = 0 := by omega
      rw [List.countP_eq_zero] at this
      simpa using this i (List.mem_range.2 hi)
    refine ⟨?_, done listed s μ a w hdf h ?_⟩
    · rw [List.eq_nil_iff_forall_not_mem]
      intro i hi
      obtain ⟨h1, h2, _⟩ := (mem_ready hsz).1 hi
      rw [hall i h1] at h2
      cases h2
    · intro p hp
      have h3 : ord[p]? = some ord[p] := List.getElem?_eq_getElem (by omega)
      have hm : ms[p]? = some ms[p] := List.getElem?_eq_getElem hp
      generalize ord[p] = i at h3
      obtain ⟨o, ho, _⟩ := hd.row p i _ h3 hm
      unfold DL
      rw [h3]
      exact hall i (Array.getElem?_eq_some_iff.1 ho).1
  | succ fuel ih =>
    intro listed s μ a w hsz hcl hcnt hdf h hN
    refine ⟨fun hr => done listed s μ a w hdf h (allL listed hsz hr), fun i hi => ?_⟩
    obtain ⟨h1, h2, o, ho, h4⟩ := (mem_ready hsz).1 hi
    obtain ⟨p, hp⟩ := hd.all i h1
    have hpl : p < ms.length := by rw [← hl]; exact (List.getElem?_eq_some_iff.1 hp).1
    have hDf : DL ord listed p = false := by unfold DL; rw [hp]; exact h2
    have ofL : ∀ q j, ord[q]? = some j → listed.getD j false = true → DL ord listed q = true := fun q j hq hj => by unfold DL; rw [hq]; exact hj
    have hcl' : ∀ i o, ops.toList[i]? = some o → listed.getD i false = true → ∀ d ∈ directs o, listed.getD d false = true := fun i o ho => hcl i o (by simpa using ho)
    have ht : Turn (DL ord listed) ord tab p := by
      refine ⟨fun q i' j hi' hq hm => ?_, fun p' q i' j hp' hi' hq hm => ?_⟩
      · rw [hp] at hi'
        cases hi'
        exact ofL q j hq (hd.anc _ hcl' i o (by simpa using ho) h4 j hm)
      · have hpl' : p' < ms.length := by rw [← hl]; exact (List.getElem?_eq_some_iff.1 hi').1
        obtain ⟨o', ho', _⟩ := hd.row p' i' _ hi' (List.getElem?_eq_getElem hpl')
        have hL : listed.getD i' false = true := by unfold DL at hp'; rw [hi'] at hp'; exact hp'
        exact ofL q j hq (hd.anc _ hcl' i' o' (by simpa using ho') (hcl i' o' ho' hL) j hm)
    refine draw_step hF hDp hC hd hc hw0 h hN hpl hp hDf ht fun s' μ' a' w' e1 e2 e3 => ?_
    have hii : i < listed.size := by omega
    refine ih _ s' μ' a' w' (by simpa using hsz) ?_ ?_ (e1.trans hdf) (by rw [DL_set hd.nodup hp hii]; exact e2) e3
    · intro i' o' ho' hL d hdd
      rw [getD_set hii] at hL ⊢
      split
      · rfl
      · split at hL
        · rename_i e
          subst e
          rw [ho] at ho'
          cases ho'
          exact h4 d hdd
        · exact hcl i' o' ho' hL d hdd
    · have : (List.range ops.size).countP (fun j => !(listed.setIfInBounds i true).getD j false) < (List.range ops.size).countP (fun j => !listed.getD j false) := by
        refine countP_lt (i := i) (fun x hx => ?_) (List.mem_range.2 h1) (by simp only [h2, Bool.not_false]) (by simp only [getD_set hii, if_true, Bool.not_true])
        rw [getD_set hii] at hx
        split at hx
        · cases hx
        · exact hx
      omega

theorem dreg_wp (hF : ∀ f, F.fn f) (hDp : F.depth = none) (hC : CallOK P F C) (hmix : P.follows .mixedOrders = true) {id : Nat} {H H' : Heap} {tm tm' : Tm} (hch : chkDraw P ops ord ms = true) (hr : runOs C ms tm H = some (tm', H')) (h : WR P B w0 μ H w) (ht : VRs μ tm a.tmps.toList) {Q : Exit → Act → World → Prop}
    (hq : ∀ a' w' μ', a'.defers = a.defers → VRs μ' tm' a'.tmps.toList → Ext P B w0 μ H w μ' H' w' → Q .normal a' w') : (Code.region id ops true).wpIn F 0 P Q a w := by
  refine wpIn_region_any hmix ?_
  obtain ⟨tab, hd⟩ := chkDraw_spec hch
  obtain ⟨T, K, V, hc, e1, e2⟩ := canon_of ms tm H tm' H' hr
  have hDL : DL ord (Array.replicate ops.size false) = fun _ => false := by
    funext p
    unfold DL
    split
    · rw [Array.getD_eq_getD_getElem?, Array.getElem?_replicate]; split <;> rfl
    · rfl
  have hm0 : ∀ q, mask ms V tm (fun _ => false) q = tm := by
    intro q
    induction q with
    | zero => rfl
    | succ q ih => simp only [mask, ih, Bool.false_eq_true, if_false]; split <;> rfl
  have h0 : Pre P B w0 μ H w ms tm T K V (DL ord (Array.replicate ops.size false)) 0 μ a { w with drawn := w.drawn + 1 } := by
    rw [hDL]
    refine ⟨Nat.zero_le _, fun p hp => (nomatch hp), fun p m hp => (by omega), fun r hr => (by omega), ?_, ?_, fun p m hp => (by omega), fun p m x i hp => (by omega)⟩
    · rw [hc.k0]; exact Ext.drew h _
    · rw [hm0]; exact ht
  obtain ⟨s, h1, h2⟩ := h0.advance hd hc
  refine any_wp hF hDp hC hd hc h (a0 := a) (by rw [e1, e2]; exact hq) ops.size _ s μ a _ (by simp) ?_ ?_ rfl h1 h2
  · intro i o ho hL
    exfalso
    rw [Array.getD_eq_getD_getElem?, Array.getElem?_replicate] at hL
    split at hL <;> cases hL
  · exact Nat.le_trans List.countP_le_length (by simp)
end Dm
end
section
set_option linter.unusedVariables false
set_option linter.unusedSimpArgs false
namespace Dm
open Go Go.RowKit

variable {P : Program} {F : Fence} {B : Nat} {w0 w00 : World} {μ μ' μ0 : Mu} {H H' H0 : Heap} {w w' : World} {C : CallF}

theorem WR.alive_ne (h : WR P B w0 μ H w) {i j : Nat} {m n : Img} (hi : μ i = some m) (hj : μ j = some n) (hij : j ≠ i) (hr : RW H i) {o : AObj} (ho : H[j]? = some o) : (∃ v, o = .dead v) ∨ n.blk ≠ m.blk := by
  cases o with
  | dead v => exact .inl ⟨v, rfl⟩
  | cells cs e kd v => exact .inr (Ne.symm (h.inj i j m n hi hj (Ne.symm hij) hr ⟨_, ho, rfl⟩))
  | loop tm ps a b s v => exact .inr (Ne.symm (h.inj i j m n hi hj (Ne.symm hij) hr ⟨_, ho, rfl⟩))
theorem OR.other {o : AObj} {m : Img} (h : OR P B μ o m w) (hb : (∃ v, o = .dead v) ∨ w'.heap[m.blk]? = w.heap[m.blk]?) : OR P B μ o m w' := by
  rcases hb with ⟨v, rfl⟩ | hb
  · exact h
  · exact h.mono (fun _ _ h => h) hb

theorem below_putObj {N : Nat} (h : Below N w0 w) {b : Nat} (hb : N ≤ b) (o : Obj) : Below N w0 (w.putObj b o) :=
  ⟨h.os, h.tape, h.output, by simpa using h.size, fun k hk => (World.putObj_heap_other (by omega)).trans (h.block k hk)⟩

/-- A record of a loop is written; what the machine says of it, o2, holds of the new record. -/
theorem Ext.reloop (h : WR P B w0 μ H w) {i : Nat} {m : Img} {tm : Tm} {ps : List Nat} {asg body : MCode} {st : LSt} {v : Nat} (hm : μ i = some m) (ho : H[i]? = some (.loop tm ps asg body st v)) (ob : Obj) (o2 : AObj) (hv : Dm.ver (H.set i o2) i = v + 1)
    (h2 : OR P B μ o2 m (w.putObj m.blk ob)) : Ext P B w0 μ H w μ (H.set i o2) (w.putObj m.blk ob) := by
  have hi : i < H.length := (List.getElem?_eq_some_iff.1 ho).1
  have hrw : RW H i := ⟨_, ho, rfl⟩
  obtain ⟨r, g1, g2, g3, g4, g5, g6, g7, g8, g9, g10⟩ := h.obj i m _ hm ho
  have hget : ∀ j, j ≠ i → (H.set i o2)[j]? = H[j]? := fun j hj => by rw [List.getElem?_set]; simp [Ne.symm hj]
  have hgi : (H.set i o2)[i]? = some o2 := by rw [List.getElem?_set]; simp [hi]
  have hoth : ∀ k, k ≠ m.blk → (w.putObj m.blk ob).heap[k]? = w.heap[k]? := fun k hk => World.putObj_heap_other hk
  refine ⟨⟨fun j n hj => by simpa using h.dom j n hj, ?_, ?_, fun j n hj => by simpa using h.lt j n hj, below_putObj h.below g9 _, h.base⟩, by simp, fun _ _ => rfl, ?_, ?_, ?_, by simp, fun j n hj hn => absurd (h.dom j n hn) (by omega)⟩
  · intro j n o' hn ho'
    by_cases hji : j = i
    · subst hji
      rw [hm] at hn
      cases hn
      rw [hgi] at ho'
      cases ho'
      exact h2
    · rw [hget j hji] at ho'
      refine (h.obj j n o' hn ho').other ?_
      rcases h.alive_ne hm hn hji hrw ho' with q | q
      · exact .inl q
      · exact .inr (hoth _ q)
  · have hrl : ∀ j, RW (H.set i o2) j → RW H j := by
      intro j ⟨a, hj, hd⟩
      by_cases hji : j = i
      · subst hji; exact hrw
      · rw [hget j hji] at hj; exact ⟨a, hj, hd⟩
    have hal : ∀ j, Alive (H.set i o2) j → Alive H j := by
      intro j ⟨a, hj, hd⟩
      by_cases hji : j = i
      · subst hji; exact ⟨_, ho, rfl⟩
      · rw [hget j hji] at hj; exact ⟨a, hj, hd⟩
    exact fun a b n n' ha hb' hab hra hal' => h.inj a b n n' ha hb' hab (hrl _ hra) (hal _ hal')
  · intro j hj hn
    exact hget j (fun e => by subst e; rw [hm] at hn; cases hn)
  · intro j hj
    by_cases hji : j = i
    · subst hji
      have hv0 : Dm.ver H j = v := by simp only [Dm.ver, ho]
      rw [hv, hv0]
      exact ⟨by omega, fun e => by omega⟩
    · simp only [Dm.ver, hget j hji]
      exact ⟨Nat.le_refl _, fun _ => trivial⟩
  · intro b hb hx
    rcases hx with hx | hx
    · exact hoth b (by omega)
    · exact hoth b (Ne.symm (hx i m hm))

theorem Ext.setLoop (h : WR P B w0 μ H w) {i : Nat} {m : Img} {tm : Tm} {ps : List Nat} {asg body : MCode} {st st' : LSt} {v : Nat} (hm : μ i = some m) (ho : H[i]? = some (.loop tm ps asg body st v)) {r r' : Loop} (hr : w.heap[m.blk]? = some (.loop r))
    (h1 : r'.tmps = r.tmps) (h2 : r'.params = r.params) (h3 : r'.assign = r.assign) (h4 : r'.body = r.body) (h5 : stOk st' r') : Ext P B w0 μ H w μ (Dm.setLoop H i st') (w.putObj m.blk (.loop r')) := by
  have hi : i < H.length := (List.getElem?_eq_some_iff.1 ho).1
  obtain ⟨r0, g1, g2, g3, g4, g5, g6, g7, g8, g9, g10⟩ := h.obj i m _ hm ho
  rw [hr] at g1
  cases g1
  have e : Dm.setLoop H i st' = H.set i (.loop tm ps asg body st' (v + 1)) := by simp only [Dm.setLoop, ho]
  rw [e]
  refine Ext.reloop h hm ho _ _ (by simp [Dm.ver, hi]) ?_
  exact ⟨r', World.putObj_heap_same (h.lt i m hm), by rw [h1]; exact g2, by rw [h2]; exact g3, by rw [h3]; exact g4, by rw [h4]; exact g5, g6, g7, h5, g9, g10⟩

/-- A loop is over. -/
theorem Ext.endLoop (h : WR P B w0 μ H w) {i : Nat} {m : Img} {tm : Tm} {ps : List Nat} {asg body : MCode} {st : LSt} {v : Nat} (hm : μ i = some m) (ho : H[i]? = some (.loop tm ps asg body st v)) (ob : Obj) : Ext P B w0 μ H w μ (Dm.kill H i) (w.putObj m.blk ob) := by
  have hi : i < H.length := (List.getElem?_eq_some_iff.1 ho).1
  obtain ⟨r0, g1, g2, g3, g4, g5, g6, g7, g8, g9, g10⟩ := h.obj i m _ hm ho
  have hv : Dm.ver H i = v := by simp only [Dm.ver, ho]
  unfold Dm.kill
  rw [hv]
  exact Ext.reloop h hm ho _ _ (by simp [Dm.ver, hi]) g10

/-- A block that no value names. -/
theorem Ext.hidden (h : WR P B w0 μ H w) (o : Obj) : Ext P B w0 μ H w μ H (w.alloc o) := by
  have hold : ∀ k, k < w.heap.size → (w.alloc o).heap[k]? = w.heap[k]? := fun k hk => Below.heap_alloc w _ k hk
  refine ⟨⟨h.dom, fun i m o' hm ho => (h.obj i m o' hm ho).mono (fun _ _ h => h) (hold _ (h.lt i m hm)), h.inj, fun i m hm => by have := h.lt i m hm; simp; omega, h.below.alloc h.B_le _, h.base⟩,
    Nat.le_refl _, fun _ _ => rfl, fun _ _ _ => rfl, fun _ _ => ⟨Nat.le_refl _, fun _ => rfl⟩, fun b hb _ => hold b hb, by simp, fun i m hi hm => absurd (h.dom i m hm) (by omega)⟩
theorem Ext.unseen (h : WR P B w0 μ H w) {b : Nat} (hb : B ≤ b) (hn : ∀ i m, μ i = some m → m.blk ≠ b) (o : Obj) : WR P B w0 μ H (w.putObj b o) :=
  ⟨h.dom, fun i m o' hm ho => (h.obj i m o' hm ho).mono (fun _ _ h => h) (World.putObj_heap_other (hn i m hm)), h.inj, fun i m hm => by simpa using h.lt i m hm, below_putObj h.below hb _, h.base⟩

/-- A loop begins. -/
theorem Ext.newLoop (h : WR P B w0 μ H w) {tm : Tm} {ps : List Nat} {asg body : MCode} {st : LSt} {r : Loop} (h1 : VRs μ tm r.tmps.toList) (h2 : ps = r.params.toList) (h3 : chkCode P asg r.assign = true) (h4 : chkCode P body r.body = true) (h5 : noRange asg = true) (h6 : noRange body = true) (h7 : stOk st r) :
    Ext P B w0 μ H w (μ.add H.length ⟨w.heap.size, 0, 0, some 0⟩) (H ++ [.loop tm ps asg body st 0]) (w.alloc (.loop r)) := by
  have hn : μ H.length = none := h.none_at (Nat.le_refl _)
  have hmo := Mu.add_mono (m := ⟨w.heap.size, 0, 0, some 0⟩) hn
  have hold : ∀ k, k < w.heap.size → (w.alloc (.loop r)).heap[k]? = w.heap[k]? := fun k hk => Below.heap_alloc w _ k hk
  have hnew : (w.alloc (.loop r)).heap[w.heap.size]? = some (.loop r) := World.alloc_heap_new w _
  have hspl : ∀ j m, μ.add H.length ⟨w.heap.size, 0, 0, some 0⟩ j = some m → (j = H.length ∧ m = ⟨w.heap.size, 0, 0, some 0⟩) ∨ (j < H.length ∧ μ j = some m) := by
    intro j m hm
    unfold Mu.add at hm
    split at hm
    · rename_i e; exact .inl ⟨e, by simpa using hm.symm⟩
    · exact .inr ⟨h.dom j m hm, hm⟩
  refine ⟨⟨?_, ?_, ?_, ?_, h.below.alloc h.B_le _, h.base⟩, by simp, ?_, ?_, ?_, ?_, by simp, ?_⟩
  · intro j m hm
    rcases hspl j m hm with ⟨rfl, _⟩ | ⟨hj, _⟩ <;> simp <;> omega
  · intro j m o hm ho
    rcases hspl j m hm with ⟨rfl, rfl⟩ | ⟨hj, hm'⟩
    · simp at ho
      subst ho
      exact ⟨r, hnew, h1.mono hmo, h2, h3, h4, h5, h6, h7, h.B_le, by simp⟩
    · rw [List.getElem?_append_left hj] at ho
      exact (h.obj j m o hm' ho).mono hmo (hold _ (h.lt j m hm'))
  · intro i j m n hm hn' hij hi hj
    rcases hspl i m hm with ⟨rfl, rfl⟩ | ⟨hi1, hm'⟩
    · rcases hspl j n hn' with ⟨rfl, rfl⟩ | ⟨hj1, hn'⟩
      · exact absurd rfl hij
      · have := h.lt j n hn'
        simp only [ne_eq]
        omega
    · rcases hspl j n hn' with ⟨rfl, rfl⟩ | ⟨hj1, hn'⟩
      · have := h.lt i m hm'
        simp only [ne_eq]
        omega
      · refine h.inj i j m n hm' hn' hij ?_ ?_
        · obtain ⟨a, e1, e2⟩ := hi
          exact ⟨a, by rwa [List.getElem?_append_left hi1] at e1, e2⟩
        · obtain ⟨a, e1, e2⟩ := hj
          exact ⟨a, by rwa [List.getElem?_append_left hj1] at e1, e2⟩
  · intro j m hm
    rcases hspl j m hm with ⟨_, rfl⟩ | ⟨_, hm'⟩
    · simp
    · have := h.lt j m hm'; simp; omega
  · intro i hi
    unfold Mu.add
    rw [if_neg (by omega)]
  · intro i hi _
    rw [List.getElem?_append_left hi]
  · intro i hi
    rw [ver_append_lt _ _ hi, List.getElem?_append_left hi]
    exact ⟨Nat.le_refl _, fun _ => rfl⟩
  · intro b hb _
    exact hold b hb
  · intro i m hi hm
    rcases hspl i m hm with ⟨_, rfl⟩ | ⟨hi', _⟩
    · exact .inl (Nat.le_refl _)
    · omega

/-- The marks that loops have left among the calls put off. -/
structure Marks (N : Nat) (μ : Mu) (df : List Deferred) (w : World) : Prop where
  one : ∀ d ∈ df, ∃ b, d.target = .collected b ∧ N ≤ b ∧ w.heap[b]? = some (.deferred (some [])) ∧ ∀ i m, μ i = some m → m.blk ≠ b
  dist : df.Pairwise fun d e => d.target ≠ e.target
theorem Marks.nil (N : Nat) (μ : Mu) (w : World) : Marks N μ [] w := ⟨fun d hd => (nomatch hd), List.Pairwise.nil⟩
theorem Marks.ext {N : Nat} {df : List Deferred} (h : Marks N μ df w) (hx : Ext P B w0 μ H w μ' H' w') : Marks N μ' df w' := by
  refine ⟨fun d hd => ?_, h.dist⟩
  obtain ⟨b, h1, h2, h3, h4⟩ := h.one d hd
  have hb : b < w.heap.size := (Array.getElem?_eq_some_iff.1 h3).1
  refine ⟨b, h1, h2, (hx.frame b hb (.inr h4)).trans h3, fun i m hm => ?_⟩
  by_cases hi : i < H.length
  · rw [hx.old i hi] at hm; exact h4 i m hm
  · rcases hx.fresh i m (by omega) hm with q | ⟨j, n, q1, q2⟩
    · omega
    · rw [← q2]; exact h4 j n q1
end Dm
end
section
set_option linter.unusedVariables false
set_option linter.unusedSimpArgs false
namespace Dm
open Go Go.RowKit

variable {P : Program} {F : Fence} {B : Nat} {w0 w00 : World} {μ μ' μ0 : Mu} {H H' H0 : Heap} {w w' : World} {C : CallF}

def exitOf : Ex → Exit
  | .normal => .normal
  | .exit i => .exit i
  | .ret => .ret
/-- What stands when the code is left. -/
def Fin (P : Program) (B : Nat) (w0 : World) (N : Nat) (μ : Mu) (H : Heap) (w : World) (tm' : Tm) (H' : Heap) (Q : Act → World → Prop) : Prop :=
  ∀ a' w' μ', VRs μ' tm' a'.tmps.toList → Ext P B w0 μ H w μ' H' w' → Marks N μ' a'.defers w' → Q a' w'
theorem Fin.trans {N : Nat} {μ1 : Mu} {H1 : Heap} {w1 : World} {tm' : Tm} {Q : Act → World → Prop} (h : Fin P B w0 N μ H w tm' H' Q) (hw : WR P B w0 μ H w) (hx : Ext P B w0 μ H w μ1 H1 w1) : Fin P B w0 N μ1 H1 w1 tm' H' Q :=
  fun a' w' μ' q1 q2 q3 => h a' w' μ' q1 (hx.trans q2 hw) q3

/-- What the walk through a piece of code shows. -/
def CodeOK (P : Program) (F : Fence) (C : CallF) (n : Nat) (c : MCode) (code : Code) : Prop :=
  ∀ (B : Nat) (w0 : World) (N : Nat) (Q : Exit → Act → World → Prop) (tm : Tm) (H : Heap) (e : Ex) (tm' : Tm) (H' : Heap) (μ : Mu) (a : Act) (w : World), exec C n c tm H = some (e, tm', H') → WR P B w0 μ H w → VRs μ tm a.tmps.toList → Marks N μ a.defers w → N ≤ w.heap.size →
    Fin P B w0 N μ H w tm' H' (Q (exitOf e)) → code.wpIn F 0 P Q a w

theorem loop_ok {n : Nat} {c : MCode} {code : Code} (ih : CodeOK P F C n c code) {N : Nat} {Q : Exit → Act → World → Prop} : ∀ (k : Nat) (tm : Tm) (H : Heap) (e : Ex) (tm' : Tm) (H' : Heap) (μ : Mu) (a : Act) (w : World), iter (exec C n c) k tm H = some (e, tm', H') → WR P B w0 μ H w → VRs μ tm a.tmps.toList → Marks N μ a.defers w → N ≤ w.heap.size →
    Fin P B w0 N μ H w tm' H' (Q (exitOf e)) → Code.roundsIn F 0 P code Q k a w
  | 0, _, _, _, _, _, _, _, _, h, _, _, _, _, _ => by cases h
  | k + 1, tm, H, e, tm', H', μ, a, w, h, hw, ht, hm, hN, hf => by
    rw [Code.roundsIn]
    simp only [iter] at h
    split at h
    · rename_i tm1 H1 h1
      refine ih B w0 N _ tm H .normal tm1 H1 μ a w h1 hw ht hm hN fun a1 w1 μ1 q1 q2 q3 => ?_
      exact loop_ok ih k tm1 H1 e tm' H' μ1 a1 w1 h q2.wr q1 q3 (Nat.le_trans hN q2.size) (hf.trans hw q2)
    · refine ih B w0 N _ tm H e tm' H' μ a w h hw ht hm hN ?_
      rename_i hne
      cases e with
      | normal => exact absurd h (hne _ _)
      | exit i => exact hf
      | ret => exact hf

theorem exec_wp (hF : ∀ f, F.fn f) (hD : F.depth = none) (hC : CallOK P F C) (hmix : P.follows .mixedOrders = true) (n : Nat) : ∀ (c : MCode) (code : Code), chkCode P c code = true → (F.round = none ∨ noRange c = true) → CodeOK P F C n c code := by
  intro c
  induction c with
  | skip =>
    intro code hc hr B w0 N Q tm H e tm' H' μ a w h hw ht hm hN hf
    cases code <;> simp only [chkCode, Bool.false_eq_true] at hc
    simp only [exec, Option.some.injEq, Prod.mk.injEq] at h
    obtain ⟨rfl, rfl, rfl⟩ := h
    exact wpIn_skip (hf a w μ ht (Ext.refl hw) hm)
  | reg ms =>
    intro code hc hr B w0 N Q tm H e tm' H' μ a w h hw ht hm hN hf
    cases code <;> try (simp only [chkCode, Bool.false_eq_true] at hc)
    rename_i id ops d
    cases d <;> simp only [chkCode, Bool.false_eq_true] at hc
    simp only [exec] at h
    obtain ⟨⟨tm1, H1⟩, e1, e2⟩ := optmap h
    simp only [Prod.mk.injEq] at e2
    obtain ⟨rfl, rfl, rfl⟩ := e2
    refine wpIn_region (seq_wp hF hD hC ops.toList ms (List.range ops.size) tm H μ w a tm1 H1 (by simp) ?_ hc e1 hw ht fun a' w' μ' q1 q2 q3 => hf a' w' μ' q2 q3 (q1 ▸ hm.ext q3))
    intro k i hi
    have hk : k < ops.size := by simpa using (List.getElem?_eq_some_iff.1 hi).1
    rw [List.getElem?_range hk] at hi
    cases hi
    simp
  | dreg ord ms =>
    intro code hc hr B w0 N Q tm H e tm' H' μ a w h hw ht hm hN hf
    cases code <;> try (simp only [chkCode, Bool.false_eq_true] at hc)
    rename_i id ops d
    cases d <;> simp only [chkCode, Bool.false_eq_true] at hc
    simp only [exec] at h
    obtain ⟨⟨tm1, H1⟩, e1, e2⟩ := optmap h
    simp only [Prod.mk.injEq] at e2
    obtain ⟨rfl, rfl, rfl⟩ := e2
    exact dreg_wp hF hD hC hmix hc e1 hw ht fun a' w' μ' q1 q2 q3 => hf a' w' μ' q2 q3 (q1 ▸ hm.ext q3)
  | seq x y ihx ihy =>
    intro code hc hr B w0 N Q tm H e tm' H' μ a w h hw ht hm hN hf
    cases code <;> simp only [chkCode, Bool.false_eq_true, Bool.and_eq_true] at hc
    rename_i cx cy
    have r1 : F.round = none ∨ noRange x = true := hr.imp id fun q => by simp only [noRange, Bool.and_eq_true] at q; exact q.1
    have r2 : F.round = none ∨ noRange y = true := hr.imp id fun q => by simp only [noRange, Bool.and_eq_true] at q; exact q.2
    simp only [exec] at h
    refine wpIn_seq ?_
    split at h
    · rename_i tm1 H1 h1
      refine ihx cx hc.1 r1 B w0 N _ tm H .normal tm1 H1 μ a w h1 hw ht hm hN fun a1 w1 μ1 q1 q2 q3 => ?_
      exact ihy cy hc.2 r2 B w0 N Q tm1 H1 e tm' H' μ1 a1 w1 h q2.wr q1 q3 (Nat.le_trans hN q2.size) (hf.trans hw q2)
    · rename_i hne
      refine ihx cx hc.1 r1 B w0 N _ tm H e tm' H' μ a w h hw ht hm hN ?_
      cases e with
      | normal => exact absurd h (hne _ _)
      | exit i => exact hf
      | ret => exact hf
  | ite x c1 c2 ih1 ih2 =>
    intro code hc hr B w0 N Q tm H e tm' H' μ a w h hw ht hm hN hf
    cases code <;> simp only [chkCode, Bool.false_eq_true, Bool.and_eq_true] at hc
    rename_i g d1 d2
    have r1 : F.round = none ∨ noRange c1 = true := hr.imp id fun q => by simp only [noRange, Bool.and_eq_true] at q; exact q.1
    have r2 : F.round = none ∨ noRange c2 = true := hr.imp id fun q => by simp only [noRange, Bool.and_eq_true] at q; exact q.2
    have hx := chkX_vr ht hc.1.1
    simp only [exec] at h
    split at h
    · rename_i hb
      rw [hb] at hx
      have hg : a.eval g = .bool true := by generalize a.eval g = z at hx; cases hx; rfl
      exact wpIn_cond_true hg (ih1 d1 hc.1.2 r1 B w0 N Q tm H e tm' H' μ a w h hw ht hm hN hf)
    · rename_i hb
      rw [hb] at hx
      have hg : a.eval g = .bool false := by generalize a.eval g = z at hx; cases hx; rfl
      exact wpIn_cond_false hg (ih2 d2 hc.2 r2 B w0 N Q tm H e tm' H' μ a w h hw ht hm hN hf)
    · cases h
  | blk id c ih =>
    intro code hc hr B w0 N Q tm H e tm' H' μ a w h hw ht hm hN hf
    cases code <;> simp only [chkCode, Bool.false_eq_true, Bool.and_eq_true, beq_iff_eq] at hc
    rename_i id' d
    obtain ⟨rfl, hc⟩ := hc
    simp only [exec] at h
    refine wpIn_block ?_
    split at h
    · rename_i j tm1 H1 h1
      refine ih d hc hr B w0 N _ tm H (.exit j) tm1 H1 μ a w h1 hw ht hm hN ?_
      split at h
      · rename_i hj
        simp only [Option.some.injEq, Prod.mk.injEq] at h
        obtain ⟨rfl, rfl, rfl⟩ := h
        intro a' w' μ' q1 q2 q3
        show (if j = id then Q .normal a' w' else Q (.exit j) a' w')
        rw [if_pos hj]
        exact hf a' w' μ' q1 q2 q3
      · rename_i hj
        simp only [Option.some.injEq, Prod.mk.injEq] at h
        obtain ⟨rfl, rfl, rfl⟩ := h
        intro a' w' μ' q1 q2 q3
        show (if j = id then Q .normal a' w' else Q (.exit j) a' w')
        rw [if_neg hj]
        exact hf a' w' μ' q1 q2 q3
    · rename_i hne
      refine ih d hc hr B w0 N _ tm H e tm' H' μ a w h hw ht hm hN ?_
      cases e with
      | normal => exact hf
      | exit i => exact absurd h (hne _ _ _)
      | ret => exact hf
  | loop c ih =>
    intro code hc hr B w0 N Q tm H e tm' H' μ a w h hw ht hm hN hf
    cases code <;> simp only [chkCode, Bool.false_eq_true] at hc
    rename_i d
    simp only [exec] at h
    exact wpIn_loop_rounds n (loop_ok (ih d hc hr) n tm H e tm' H' μ a w h hw ht hm hN hf)
  | exit i =>
    intro code hc hr B w0 N Q tm H e tm' H' μ a w h hw ht hm hN hf
    cases code <;> simp only [chkCode, Bool.false_eq_true, beq_iff_eq] at hc
    subst hc
    simp only [exec, Option.some.injEq, Prod.mk.injEq] at h
    obtain ⟨rfl, rfl, rfl⟩ := h
    exact wpIn_exit (hf a w μ ht (Ext.refl hw) hm)
  | ret =>
    intro code hc hr B w0 N Q tm H e tm' H' μ a w h hw ht hm hN hf
    cases code <;> simp only [chkCode, Bool.false_eq_true] at hc
    simp only [exec, Option.some.injEq, Prod.mk.injEq] at h
    obtain ⟨rfl, rfl, rfl⟩ := h
    exact wpIn_ret (hf a w μ ht (Ext.refl hw) hm)
  | rangeF f ps asg body ih1 ih2 =>
    intro code hc hr B w0 N Q tm H e tm' H' μ a w h hw ht hm hN hf
    cases code <;> simp only [chkCode, Bool.false_eq_true, Bool.and_eq_true, decide_eq_true_eq] at hc
    rename_i g qs d1 d2
    obtain ⟨⟨⟨⟨⟨c1, c2⟩, c3⟩, c4⟩, c5⟩, c6⟩ := hc
    have hro : F.round = none := by
      rcases hr with hr | hr
      · exact hr
      · simp [noRange] at hr
    have hx := chkX_vr ht c1
    simp only [exec] at h
    split at h
    · rename_i gid first cap hfv
      rw [hfv] at hx
      split at h
      · rename_i rv H3 hcall
        generalize hgv : a.eval g = gv at hx
        cases hx with
        | @fn _ _ first' _ cap' ha hb k1 k2 =>
          refine wpIn_rangeFunc fun fn _ => ?_
          have hw1 := Ext.hidden hw (.deferred (some []))
          have hw2 := Ext.newLoop (st := .ready) (r := { state := .ready, pending := none, fn, tmps := a.tmps, params := qs, assign := d1, body := d2, defers := w.heap.size }) hw1.wr ht c2 c3 c4 c5 c6 ⟨rfl, rfl⟩
          have hx2 := hw1.trans hw2 hw
          have hsz : (w.alloc (.deferred (some []))).heap.size = w.heap.size + 1 := by simp
          rw [hsz] at hw2 hx2
          have hme : (μ.add H.length ⟨w.heap.size + 1, 0, 0, some 0⟩) H.length = some ⟨w.heap.size + 1, 0, 0, some 0⟩ := Mu.add_same _ _ _
          have hyv : VR (μ.add H.length ⟨w.heap.size + 1, 0, 0, some 0⟩) (.func (.yield H.length) #[] #[]) (.func (.yield (w.heap.size + 1)) #[] #[]) := VR.yield hme
          have hmo := hx2.mono hw
          have hall : VRs (μ.add H.length ⟨w.heap.size + 1, 0, 0, some 0⟩) (first.toList ++ [.func (.yield H.length) #[] #[]] ++ cap.toList) (first'.toList ++ [.func (.yield (w.heap.size + 1)) #[] #[]] ++ cap'.toList) :=
            (((VRs.of_toList ha k1).mono hmo).append (VRs.cons hyv (VRs.nil _))).append ((VRs.of_toList hb k2).mono hmo)
          obtain ⟨⟨fn2, q1, q2, q3⟩, q4⟩ := hC.1 B w0 gid _ _ _ _ _ _ _ hcall hx2.wr hall
          have hin : w.heap[w.heap.size]? = none := by simp
          have hgone : ∀ i m, (μ.add H.length ⟨w.heap.size + 1, 0, 0, some 0⟩) i = some m → m.blk ≠ w.heap.size := by
            intro i m hm'
            unfold Mu.add at hm'
            split at hm'
            · cases hm'; simp
            · have := hw.lt i m hm'; omega
          have hmk0 : Marks N (μ.add H.length ⟨w.heap.size + 1, 0, 0, some 0⟩) ([{ target := .collected w.heap.size, args := #[] }] ++ a.defers)
              ((w.alloc (.deferred (some []))).alloc (.loop { state := .ready, pending := none, fn, tmps := a.tmps, params := qs, assign := d1, body := d2, defers := w.heap.size })) := by
            have hm2 := hm.ext hx2
            refine ⟨?_, ?_⟩
            · intro d hd
              simp only [List.cons_append, List.nil_append, List.mem_cons] at hd
              rcases hd with rfl | hd
              · refine ⟨w.heap.size, rfl, hN, ?_, hgone⟩
                rw [Below.heap_alloc _ _ _ (by simp)]
                exact World.alloc_heap_new w _
              · exact hm2.one d hd
            · rw [List.cons_append, List.nil_append, List.pairwise_cons]
              refine ⟨fun d hd => ?_, hm2.dist⟩
              obtain ⟨b, g1, _, g3, _⟩ := hm.one d hd
              rw [g1]
              have : b < w.heap.size := (Array.getElem?_eq_some_iff.1 g3).1
              intro e
              simp only [Target.collected.injEq] at e
              omega
          refine ⟨w.heap.size + 1, [{ target := .collected w.heap.size, args := #[] }], _, { target := .fn (.func gid) cap', args := first' ++ #[Value.func (.yield (w.heap.size + 1)) #[] #[]] }, ((w.alloc (.deferred (some []))).alloc (.loop { state := .ready, pending := none, fn, tmps := a.tmps, params := qs, assign := d1, body := d2, defers := w.heap.size })), gid, (first'.toList ++ [Value.func (.yield (w.heap.size + 1)) #[] #[]] ++ cap'.toList).toArray, ((w.alloc (.deferred (some []))).alloc (.loop { state := .ready, pending := none, fn, tmps := a.tmps, params := qs, assign := d1, body := d2, defers := w.heap.size })), by rw [hro]; exact run_enterLoop_outer fn a.tmps qs d1 d2, ?_, fun f _ => hF f, ?_, fun hh => (by rw [hD] at hh; cases hh), ?_⟩
          · simp only [rangeCall, resolve, hgv, Deferred.ofValue, Sem.run_pure]
            simp [Act.eval]
          · have harr : first' ++ #[Value.func (.yield (w.heap.size + 1)) #[] #[]] ++ cap' = (first'.toList ++ [Value.func (.yield (w.heap.size + 1)) #[] #[]] ++ cap'.toList).toArray := by simp
            simp only [invoke, callFunc, program, Sem.run, Sem.run_bind, Result.andThen_ok, q1, q2, q3, Bool.false_eq_true, if_false]
            rw [harr]
            rfl
          · refine q4.mono ?_
            rintro en w3 ⟨v', μ3, rfl, p1, p2⟩
            have hm3 : μ3 H.length = some ⟨w.heap.size + 1, 0, 0, some 0⟩ := p2.mono hx2.wr _ _ hme
            have hmk : ∀ {w4 : World}, Ext P B w0 μ H w μ3 (kill H3 H.length) w4 → (∃ o, w4 = w3.putObj (w.heap.size + 1) o) → Marks N μ3 ([{ target := .collected w.heap.size, args := #[] }] ++ a.defers) w4 := by
              intro w4 hx4 ⟨o, ho4⟩
              have hm4 := hmk0.ext p2
              refine ⟨fun d hd => ?_, hm4.dist⟩
              obtain ⟨b, g1, g2, g3, g4⟩ := hm4.one d hd
              refine ⟨b, g1, g2, ?_, g4⟩
              rw [ho4, World.putObj_heap_other (fun e => g4 _ _ hm3 e.symm)]
              exact g3
            split at h
            · rename_i tmx psx ax bx vx ho
              simp only [Option.some.injEq, Prod.mk.injEq] at h
              obtain ⟨rfl, rfl, rfl⟩ := h
              obtain ⟨r, o1, o2, o3, o4, o5, o6, o7, o8, o9, o10⟩ := p2.wr.obj _ _ _ hm3 ho
              have hx4 := (hx2.trans p2 hw).trans (Ext.endLoop p2.wr hm3 ho (.loop { r with state := .exhausted })) hw
              refine ⟨none, w3.putObj (w.heap.size + 1) (.loop { r with state := .exhausted }), ?_, ?_⟩
              · have := run_endLoop (P := P) o1 (by rw [o8.1]; simp)
                rw [this, o8.2]
              refine hf _ _ μ3 ?_ hx4 (hmk hx4 ⟨_, rfl⟩)
              exact ht.mono (hx4.mono hw)
            · rename_i tmx psx ax bx e' vx ho
              split at h
              · cases h
              · rename_i hne
                simp only [Option.some.injEq, Prod.mk.injEq] at h
                obtain ⟨rfl, rfl, rfl⟩ := h
                obtain ⟨r, o1, o2, o3, o4, o5, o6, o7, o8, o9, o10⟩ := p2.wr.obj _ _ _ hm3 ho
                have hx4 := (hx2.trans p2 hw).trans (Ext.endLoop p2.wr hm3 ho (.loop { r with state := .exhausted })) hw
                refine ⟨exCode e', w3.putObj (w.heap.size + 1) (.loop { r with state := .exhausted }), ?_, ?_⟩
                · have := run_endLoop (P := P) o1 (by rw [o8.1]; simp)
                  rw [this, o8.2]
                have hfin := hf { a with defers := [{ target := .collected w.heap.size, args := #[] }] ++ a.defers } _ μ3 (ht.mono (hx4.mono hw)) hx4 (hmk hx4 ⟨_, rfl⟩)
                cases e' with
                | normal => exact absurd rfl hne
                | exit i => exact wpIn_exit hfin
                | ret => exact wpIn_ret hfin
            · cases h
      · cases h
    · cases h

end Dm
end
section
set_option linter.unusedVariables false
set_option linter.unusedSimpArgs false
namespace Dm
open Go Go.RowKit

variable {P : Program} {F : Fence} {B : Nat} {w0 w00 : World} {μ μ' μ0 : Mu} {H H' H0 : Heap} {w w' : World} {C : CallF}

theorem CallOK.inRound (h : CallOK P Fence.wide C) (l : Nat) : CallOK P (Fence.wide.inRound l) C := h

/-! ### Results -/
def resF (a : Array Value) : ResultVar → Sem Value
  | .tmp t => pure (a.getD t undef)
  | .cell b t => do loadVar t (← asAddr (a.getD b undef))
theorem results_eq (fn : Func) (a : Array Value) : results fn a = (do
    let vs ← fn.results.mapM (resF a)
    pure (if h : vs.size = 1 then vs[0] else .tuple vs)) := by
  unfold results
  congr 1
theorem res_run (h : WR P B w0 μ H w) {a : Array Value} {tm : Tm} (ht : VRs μ tm a.toList) {r : ResultVar} {m : MRes} {rs : List ResultVar} {ms : List MRes} (hc : chkRes P (r :: rs) (m :: ms) = true) {v : Value} (hv : resOf tm H m = some v) :
    chkRes P rs ms = true ∧ ∃ v', (resF a r).run P w = .ok v' w ∧ VR μ v v' := by
  have hg : ∀ n, a.getD n undef = a.toList.getD n undef := fun n => by rw [Array.getD_eq_getD_getElem?, List.getD_eq_getElem?_getD]; simp
  cases r with
  | tmp t =>
    cases m with
    | t n =>
      simp only [chkRes, Bool.and_eq_true, beq_iff_eq] at hc
      obtain ⟨rfl, hc⟩ := hc
      simp only [resOf, Option.some.injEq] at hv
      subst hv
      exact ⟨hc, _, rfl, by rw [hg]; exact ht.getD t⟩
    | cell n s => simp [chkRes] at hc
  | cell b t =>
    cases m with
    | t n => simp [chkRes] at hc
    | cell n s =>
      have hb := ht.getD n
      cases s with
      | none =>
        simp only [chkRes, Bool.and_eq_true, beq_iff_eq] at hc
        obtain ⟨⟨rfl, h1⟩, h2⟩ := hc
        refine ⟨h2, ?_⟩
        simp only [resOf] at hv
        simp only [resF]
        rw [hg]
        split at hv
        · rename_i i o hp
          rw [hp] at hb
          generalize a.toList.getD b undef = p' at hb
          cases hb with
          | ptr hm =>
            obtain ⟨q1, q2, q3⟩ := oneT_spec h1
            obtain ⟨d, hd⟩ := Option.isSome_iff_exists.1 q1
            have hag : (isAgg t).run P w = .ok false w := by
              simp only [isAgg, Sem.run_bind, run_und hd, Result.andThen_ok]
              cases d <;> first | rfl | exact absurd hd (q2 _) | exact absurd hd (q3 _ _)
            obtain ⟨v', z1, z2⟩ := h.rd hm hv
            exact ⟨v', by simp [asAddr, loadVar, hag, z2], z1⟩
        · cases hv
      | some k =>
        simp only [chkRes, Bool.and_eq_true, beq_iff_eq] at hc
        obtain ⟨⟨rfl, h1⟩, h2⟩ := hc
        refine ⟨h2, ?_⟩
        simp only [resOf] at hv
        simp only [resF]
        rw [hg]
        split at hv
        · rename_i i o hp
          rw [hp] at hb
          generalize a.toList.getD b undef = p' at hb
          cases hb with
          | ptr hm =>
            obtain ⟨hag, inf, hi, rfl⟩ := manyT_spec (w := w) h1
            obtain ⟨l, e1, e2⟩ := optmap hv
            subst e2
            obtain ⟨l', hl, hl0, hvv, hcc⟩ := h.rds hm e1
            have hload : (loadCells ⟨(‹Img›).blk, (‹Img›).base + o, none⟩ inf.size).run P w = .ok l'.toArray w := by
              rw [← hl]
              refine run_loadCells_list (P := P) w _ l' fun j v hj => ?_
              rw [add_at]
              exact hcc j v hj
            exact ⟨.agg l'.toArray, by simp [asAddr, loadVar, hag, run_size hi, hload], VRs.agg (by simpa using hvv)⟩
        · cases hv
theorem res_all (h : WR P B w0 μ H w) {a : Array Value} {tm : Tm} (ht : VRs μ tm a.toList) : ∀ {rs : List ResultVar} {ms : List MRes} {vs : List Value}, chkRes P rs ms = true → resAll tm H ms = some vs →
    ∃ vs', (rs.mapM (resF a)).run P w = .ok vs' w ∧ VRs μ vs vs'
  | [], [], vs, hc, hv => by
    simp only [resAll, Option.some.injEq] at hv
    subst hv
    exact ⟨[], rfl, VRs.nil μ⟩
  | r :: rs, m :: ms, vs, hc, hv => by
    simp only [resAll] at hv
    split at hv
    · rename_i v vs1 h1 h2
      simp only [Option.some.injEq] at hv
      subst hv
      obtain ⟨c2, v', q1, q2⟩ := res_run h ht hc h1
      obtain ⟨vs', q3, q4⟩ := res_all h ht c2 h2
      refine ⟨v' :: vs', ?_, VRs.cons q2 q4⟩
      rw [List.mapM_cons]
      simp only [Sem.run_bind, q1, Result.andThen_ok, q3, Sem.run_pure]
    · cases hv
  | [], _ :: _, _, hc, _ => by simp [chkRes] at hc
  | _ :: _, [], _, hc, _ => by cases ‹ResultVar› <;> simp [chkRes] at hc
theorem results_run (h : WR P B w0 μ H w) {a : Array Value} {tm : Tm} (ht : VRs μ tm a.toList) {fn : Func} {ms : List MRes} {vs : List Value} (hc : chkRes P fn.results.toList ms = true) (hv : resAll tm H ms = some vs) :
    ∃ v', (results fn a).run P w = .ok v' w ∧ VR μ (one vs) v' := by
  obtain ⟨vs', q1, q2⟩ := res_all h ht hc hv
  refine ⟨if h : vs'.toArray.size = 1 then vs'.toArray[0] else .tuple vs'.toArray, ?_, ?_⟩
  · rw [results_eq, Array.mapM_eq_mapM_toList]
    simp only [Sem.run_bind, map_eq_pure_bind, q1, Result.andThen_ok, Sem.run_pure]
  · obtain ⟨hl, hh⟩ := q2
    rcases vs with _ | ⟨v, _ | ⟨u, vs⟩⟩
    · have : vs' = [] := List.eq_nil_of_length_eq_zero (by simpa using hl.symm)
      subst this
      exact VR.tup rfl (fun i x y h => by simp at h)
    · rcases vs' with _ | ⟨v', _ | ⟨u', vs'⟩⟩
      · simp at hl
      · simp only [List.size_toArray, List.length_singleton, dite_true, one]
        exact hh 0 v v' rfl rfl
      · simp at hl
    · rcases vs' with _ | ⟨v', _ | ⟨u', vs'⟩⟩
      · simp at hl
      · simp at hl
      · simp only [List.size_toArray, List.length_cons, one]
        rw [dif_neg (by omega)]
        exact VR.tup (by simpa using hl) (fun i x y hx hy => hh i x y (by simpa using hx) (by simpa using hy))

theorem Ext.shut (h : Ext P B w0 μ H w μ' H' w') (hw : WR P B w0 μ H w) {b : Nat} (hb : w.heap.size ≤ b) (hn : ∀ i m, μ' i = some m → m.blk ≠ b) (o : Obj) : Ext P B w0 μ H w μ' H' (w'.putObj b o) :=
  ⟨Ext.unseen h.wr (Nat.le_trans hw.B_le hb) hn o, h.len, h.old, h.keep, h.ver, fun k hk hx => (World.putObj_heap_other (by omega)).trans (h.frame k hk hx), by simpa using h.size, h.fresh⟩

/-- A function whose body is left: the marks are come to; the results are read. -/
theorem leaves (hw : WR P B w0 μ H w) {fn : Func} {ms : List MRes} {vs : List Value} {tm : Tm} {a : Array Value} (hc : chkRes P fn.results.toList ms = true) (hv : resAll tm H' ms = some vs) (ht : VRs μ' tm a.toList) :
    ∀ (df : List Deferred) (w' : World), Ext P B w0 μ H w μ' H' w' → Marks w.heap.size μ' df w' → LeavesInM Fence.wide 0 P fn a (Post P B w0 μ H w (one vs) H') df .returning w'
  | [], w', hx, _ => by
    obtain ⟨v', q1, q2⟩ := results_run hx.wr ht hc hv
    exact ⟨v', q1, v', μ', rfl, q2, hx⟩
  | d :: df, w', hx, hm => by
    obtain ⟨b, g1, g2, g3, g4⟩ := hm.one d (by simp)
    have hd := List.pairwise_cons.1 hm.dist
    refine ⟨by simp, .inl ⟨b, w'.putObj b (.deferred none), g1, run_takeDeferred g3, ?_⟩⟩
    refine leaves hw hc hv ht df _ (hx.shut hw g2 g4 _) ⟨fun e he => ?_, hd.2⟩
    obtain ⟨c, k1, k2, k3, k4⟩ := hm.one e (by simp [he])
    refine ⟨c, k1, k2, ?_, k4⟩
    rw [World.putObj_heap_other, k3]
    rintro rfl
    exact hd.1 e he (g1.trans k1.symm)

/-! ### Rounds -/
theorem setAll_vrs : ∀ (ps : List Nat) (args args' : List Value) (tm : Tm) (a : Array Value), VRs μ tm a.toList → VRs μ args args' → VRs μ (setAll tm ps args) ((ps.zip args').foldl (fun tmps (p : Nat × Value) => tmps.setIfInBounds p.1 p.2) a).toList
  | [], _, _, tm, a, ht, _ => by simpa [setAll] using ht
  | p :: ps, [], args', tm, a, ht, hx => by
    have : args' = [] := List.eq_nil_of_length_eq_zero hx.1.symm
    subst this
    simpa [setAll] using ht
  | p :: ps, v :: args, args', tm, a, ht, hx => by
    cases args' with
    | nil => exact absurd hx.1 (by simp)
    | cons v' args' =>
      simp only [setAll, List.zip_cons_cons, List.foldl_cons]
      refine setAll_vrs ps args args' _ _ ?_ ⟨by simpa using hx.1, fun i x y h1 h2 => hx.2 (i + 1) x y (by simpa using h1) (by simpa using h2)⟩
      simpa using ht.set p (hx.2 0 v v' rfl rfl)

theorem round_ok (hmix : P.follows .mixedOrders = true) {C : CallF} (hC : CallOK P Fence.wide C) {n : Nat} {l : Nat} {args : List Value} {r : Value} {args' : List Value} {m : Img}
    (hv : roundM (exec C n) l args H = some (r, H')) (h : WR P B w0 μ H w) (ha : VRs μ args args') (hm : μ l = some m) :
    ∃ fn tmps asg body, (Instr.yield m.blk args'.toArray).run P w = .ok (.round m.blk fn tmps asg body) w ∧ RoundIn Fence.wide 0 P m.blk fn tmps asg body w (Post P B w0 μ H w r H') := by
  unfold roundM at hv
  split at hv
  · rename_i tm ps asg body vr ho
    obtain ⟨r0, o1, o2, o3, o4, o5, o6, o7, o8, o9, o10⟩ := h.obj l m _ hm ho
    split at hv
    · rename_i hlen
      have hsz : args'.toArray.size = r0.params.size := by
        rw [o3] at hlen
        have := ha.1
        simp at hlen ⊢
        omega
      refine ⟨r0.fn, _, r0.assign, r0.body, run_yield o1 hsz, ?_⟩
      refine roundIn_of_wpIn (F := Fence.wide) trivial ?_
      have htm : VRs μ (setAll tm ps args) ((r0.params.zip args'.toArray).foldl (fun tmps (p : Nat × Value) => tmps.setIfInBounds p.1 p.2) r0.tmps).toList := by
        have := setAll_vrs ps args args' tm r0.tmps o2 ha
        rw [o3] at this ⊢
        rw [← Array.foldl_toList]
        simpa using this
      split at hv
      · rename_i tm1 H1 h1
        refine exec_wp (F := Fence.wide.inRound m.blk) (fun f => trivial) rfl (hC.inRound m.blk) hmix n asg r0.assign o4 (.inr o6) B w0 0 _ _ H .normal tm1 H1 μ _ w h1 h htm (Marks.nil _ _ _) (Nat.zero_le _) fun a1 w1 μ1 q1 q2 q3 => ?_
        split at hv
        · rename_i ho1
          have hm1 := q2.mono h l m hm
          obtain ⟨r1, z1, z2, z3, z4, z5, z6, z7, z8, z9, z10⟩ := q2.wr.obj l m _ hm1 ho1
          refine ⟨_, run_beginRound z1 z8.1, ?_⟩
          have x1 := Ext.setLoop (st' := .busy) q2.wr hm1 ho1 z1 (r' := { r1 with state := .busy }) rfl rfl rfl rfl rfl
          split at hv
          · rename_i e tm2 H2 h2
            refine exec_wp (F := Fence.wide.inRound m.blk) (fun f => trivial) rfl (hC.inRound m.blk) hmix n body r0.body o5 (.inr o7) B w0 0 _ _ _ e tm2 H2 μ1 a1 _ h2 x1.wr q1 (q3.ext x1) (Nat.zero_le _) fun a2 w2 μ2 k1 k2 k3 => ?_
            split at hv
            · rename_i ho2
              have hm2 := k2.mono x1.wr l m hm1
              obtain ⟨r2, y1, y2, y3, y4, y5, y6, y7, y8, y9, y10⟩ := k2.wr.obj l m _ hm2 ho2
              have x2 := (q2.trans x1 h).trans k2 h
              split at hv
              · rename_i he
                subst he
                simp only [Option.some.injEq, Prod.mk.injEq] at hv
                obtain ⟨rfl, rfl⟩ := hv
                refine ⟨_, _, run_endRound none y1, _, μ2, rfl, .bool true, x2.trans (Ext.setLoop k2.wr hm2 ho2 y1 rfl rfl rfl rfl ⟨rfl, rfl⟩) h⟩
              · rename_i he
                simp only [Option.some.injEq, Prod.mk.injEq] at hv
                obtain ⟨rfl, rfl⟩ := hv
                cases e with
                | normal => exact absurd rfl he
                | ret => exact ⟨_, _, run_endRound (some .ret) y1, _, μ2, rfl, .bool false, x2.trans (Ext.setLoop k2.wr hm2 ho2 y1 rfl rfl rfl rfl ⟨rfl, rfl⟩) h⟩
                | exit i => exact ⟨_, _, run_endRound (some (.exit i)) y1, _, μ2, rfl, .bool false, x2.trans (Ext.setLoop k2.wr hm2 ho2 y1 rfl rfl rfl rfl ⟨rfl, rfl⟩) h⟩
            · cases hv
          · cases hv
        · cases hv
      · cases hv
    · cases hv
  · cases hv

/-! ### Functions -/
/-- A function that is taken as told: what is told is so. -/
def PrimOK (P : Program) (f : Nat) (g : List Value → Heap → Option (Value × Heap)) : Prop :=
  ∀ (B : Nat) (w0 : World) (args : List Value) (H : Heap) (r : Value) (H' : Heap) (μ : Mu) (w : World) (args' : List Value), g args H = some (r, H') → WR P B w0 μ H w → VRs μ args args' →
    (∃ fn, P.funcs[f]? = some fn ∧ (fn.name == "runtime.NumGoroutine") = false ∧ fn.body.isNone = false) ∧ CallsIn Fence.wide 0 P f args'.toArray w (Post P B w0 μ H w r H')

theorem callM_ok (hmix : P.follows .mixedOrders = true) {T : Tab} {pr : Prims} (hT : ∀ f mf, T f = some mf → chkFun P f mf = true) (hpr : ∀ f g, pr f = some g → PrimOK P f g) : ∀ k, CallOK P Fence.wide (callM T pr k)
  | 0 => ⟨fun B w0 f args H r H' μ w args' h => by simp [callM] at h, fun B w0 l args H r H' μ w args' m h => by simp [callM] at h⟩
  | k + 1 => by
    have ih := callM_ok hmix hT hpr k
    refine ⟨fun B w0 f args H r H' μ w args' h hw ha => ?_, fun B w0 l args H r H' μ w args' m h hw ha hm => round_ok hmix ih h hw ha hm⟩
    simp only [callM] at h
    split at h
    · rename_i g hg
      exact hpr f g hg B w0 args H r H' μ w args' h hw ha
    · split at h
      · rename_i mf hmf
        have hck := hT f mf hmf
        unfold chkFun at hck
        split at hck
        · rename_i fn hfn
          simp only [Bool.and_eq_true, beq_iff_eq] at hck
          obtain ⟨⟨⟨k1, k2⟩, k3⟩, k4⟩ := hck
          split at k1
          · rename_i code hcode
            refine ⟨⟨fn, hfn, by simpa using k4, by rw [hcode]; rfl⟩, ?_⟩
            refine callsIn_of_wp_marks hfn hcode trivial ?_
            have htm : VRs μ (args ++ List.replicate (mf.ntmps - args.length) undefV) (args'.toArray ++ Array.replicate (fn.ntmps - args'.toArray.size) undef).toList := by
              have e : mf.ntmps - args.length = fn.ntmps - args'.toArray.size := by rw [k2, ha.1]; simp
              rw [e]
              simpa using ha.append (VRs.replicate (VR.undef μ) (fn.ntmps - args'.toArray.size))
            split at h
            · rename_i tm1 H1 h1
              obtain ⟨vs, e1, e2⟩ := optmap h
              simp only [Prod.mk.injEq] at e2
              obtain ⟨rfl, rfl⟩ := e2
              exact exec_wp (F := Fence.wide) (fun f => trivial) rfl ih hmix k mf.body code k1 (.inl rfl) B w0 w.heap.size _ _ H .normal tm1 H1 μ _ w h1 hw htm (Marks.nil _ _ _) (Nat.le_refl _) fun a1 w1 μ1 q1 q2 q3 => leaves hw k3 e1 q1 _ w1 q2 q3
            · rename_i tm1 H1 h1
              obtain ⟨vs, e1, e2⟩ := optmap h
              simp only [Prod.mk.injEq] at e2
              obtain ⟨rfl, rfl⟩ := e2
              exact exec_wp (F := Fence.wide) (fun f => trivial) rfl ih hmix k mf.body code k1 (.inl rfl) B w0 w.heap.size _ _ H .ret tm1 H1 μ _ w h1 hw htm (Marks.nil _ _ _) (Nat.le_refl _) fun a1 w1 μ1 q1 q2 q3 => leaves hw k3 e1 q1 _ w1 q2 q3
            · cases h
          · cases k1
        · cases hck
      · cases h

/-- WHAT THE MACHINE ANSWERS, THE MODEL ANSWERS. -/
theorem callM_calls (hmix : P.follows .mixedOrders = true) {T : Tab} {pr : Prims} (hT : ∀ f mf, T f = some mf → chkFun P f mf = true) (hpr : ∀ f g, pr f = some g → PrimOK P f g) {k f : Nat} {args args' : List Value} {r : Value}
    (h : callM T pr k (.fn f) args H = some (r, H')) (hw : WR P B w0 μ H w) (ha : VRs μ args args') : Calls P f args'.toArray w (Post P B w0 μ H w r H') :=
  callsIn_wide.1 ((callM_ok hmix hT hpr k).1 B w0 f args H r H' μ w args' h hw ha).2
#print axioms callM_calls
end Dm
end
