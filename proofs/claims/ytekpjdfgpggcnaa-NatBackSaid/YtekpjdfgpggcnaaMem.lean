/- Memory, told in four words: Upd (only these old blocks have turned), Sl (a slice that reads as a list), Arr (a block that is a row of a function's values), Own (a slice that the call may append to). -/
import Derived.Test.YtekpjdfgpggcnaaBv
import Derived.Test.YtekpjdfgpggcnaaPlan
import Derived.Deep.Draws
import Derived.Deep.AppendLies
import Derived.Maps.AppendAt
import Derived.Laws.OwnMore
import Derived.OwnWalk
import Derived.Deep.MidRow
namespace Go.Proofs.Ytekpjdfgpggcnaa
set_option linter.unusedSimpArgs false
set_option linter.unusedVariables false
open Go.RowKit

theorem hide {p : Prop} (h : p) : Hid p := h

def by8 (x : BitVec 8) : Value := .int .u8 (n8 x)
def by32 (x : BitVec 32) : Value := .int .u32 (n32 x)
def by64 (x : BitVec 64) : Value := .int .u64 (n64 x)

/-- Of the blocks that were there, those of T alone may have turned. -/
structure Upd (T : Nat → Prop) (w w' : World) : Prop where
  os : w'.os = w.os
  tape : w'.tape = w.tape
  output : w'.output = w.output
  size : w.heap.size ≤ w'.heap.size
  block : ∀ k, k < w.heap.size → ¬ T k → w'.heap[k]? = w.heap[k]?
abbrev Ext := Upd (fun _ => False)
def only (g : Nat) : Nat → Prop := fun k => k = g

section upd
variable {T T' : Nat → Prop} {w w' a b c : World}
theorem Upd.refl (T : Nat → Prop) (w : World) : Upd T w w := ⟨rfl, rfl, rfl, Nat.le_refl _, fun _ _ _ => rfl⟩
theorem Upd.trans (h : Upd T a b) (k : Upd T b c) : Upd T a c :=
  ⟨k.os.trans h.os, k.tape.trans h.tape, k.output.trans h.output, Nat.le_trans h.size k.size, fun i hi hn => (k.block i (Nat.lt_of_lt_of_le hi h.size) hn).trans (h.block i hi hn)⟩
theorem Upd.mono (h : Upd T a b) (hT : ∀ k, k < a.heap.size → T k → T' k) : Upd T' a b := ⟨h.os, h.tape, h.output, h.size, fun i hi hn => h.block i hi (fun ht => hn (hT i hi ht))⟩
theorem Upd.trans' (h : Upd T a b) (k : Upd T' b c) (hT : ∀ i, i < a.heap.size → T' i → T i) : Upd T a c :=
  ⟨k.os.trans h.os, k.tape.trans h.tape, k.output.trans h.output, Nat.le_trans h.size k.size, fun i hi hn => (k.block i (Nat.lt_of_lt_of_le hi h.size) (fun ht => hn (hT i hi ht))).trans (h.block i hi hn)⟩
theorem Upd.ext (h : Upd T a b) (k : Ext b c) : Upd T a c := h.trans' k (fun _ _ h => h.elim)
theorem Upd.ofExt (h : Ext a b) : Upd T a b := h.mono fun _ _ h => h.elim
theorem Upd.drew (h : Upd T a w) : Upd T a w.drew := ⟨h.os, h.tape, h.output, h.size, h.block⟩
theorem Upd.undrew (h : Upd T w.drew w') : Upd T w w' := ⟨h.os, h.tape, h.output, h.size, h.block⟩
theorem Upd.drewN (h : Upd T a w) (n : Nat) : Upd T a (w.drewN n) := ⟨h.os, h.tape, h.output, h.size, h.block⟩
theorem Upd.alloc (h : Upd T a w) (o : Obj) : Upd T a (w.alloc o) :=
  ⟨h.os, h.tape, h.output, Nat.le_trans h.size (by simp), fun i hi hn => (Below.heap_alloc w o i (Nat.lt_of_lt_of_le hi h.size)).trans (h.block i hi hn)⟩
theorem Upd.setCell (h : Upd T a w) {p : Addr} (hp : T p.block ∨ a.heap.size ≤ p.block) (u : Value) : Upd T a (w.setCell p u) :=
  ⟨h.os, h.tape, h.output, by simpa [World.setCell] using h.size, fun i hi hn => (Below.heap_setCell w p u i (by
    rintro rfl
    rcases hp with hp | hp
    · exact hn hp
    · omega)).trans (h.block i hi hn)⟩
theorem Upd.grown {row : Option Nat} (h : Upd T a w) (hg : w.grownBy w' row) (hr : ∀ k, row = some k → T k ∨ a.heap.size ≤ k) : Upd T a w' :=
  ⟨hg.os.trans h.os, hg.tape.trans h.tape, hg.output.trans h.output, Nat.le_trans h.size hg.size, fun i hi hn =>
    (hg.block i (Nat.lt_of_lt_of_le hi h.size) (fun e => by
      rcases hr i e.symm with h1 | h1
      · exact hn h1
      · omega)).trans (h.block i hi hn)⟩
theorem Upd.below (h : Ext a b) : Below a.heap.size a b := ⟨h.os, h.tape, h.output, h.size, fun i hi => h.block i hi (fun h => h)⟩
theorem Upd.cell (h : Upd T w w') {p : Addr} (hp : p.block < w.heap.size) (hn : ¬ T p.block) : w'.cell? p = w.cell? p := World.cell?_of_block (w := w) (h.block p.block hp hn)
theorem Upd.frozen (h : Upd T w w') {p : Addr} (hp : p.block < w.heap.size) (hn : ¬ T p.block) : w'.frozen? p = w.frozen? p := World.frozen?_of_block (w := w) (h.block p.block hp hn)
theorem Upd.cellv (h : Ext w w') {p : Addr} {v : Value} (hc : w.cell? p = some v) : w'.cell? p = some v := (h.cell (World.block_lt_of_cell? w p hc) (fun h => h)).trans hc
end upd

/-- The class of worlds in which nothing old has turned. -/
theorem ext_cell {w0 : World} (x : Wd (Ext w0)) (p : Addr) (h : (w0.cell? p).isSome = true) : x.w.cell? p = w0.cell? p := by
  obtain ⟨u, hu⟩ := Option.isSome_iff_exists.1 h
  exact x.ok.cell (World.block_lt_of_cell? w0 p hu) (fun h => h)
def Same (w0 w : World) : Prop := w.heap = w0.heap
theorem same_cell {w0 : World} (x : Wd (Same w0)) (p : Addr) : x.w.cell? p = w0.cell? p := by
  unfold World.cell?; rw [show x.w.heap = w0.heap from x.ok]

instance wd_ext (w : World) : Nonempty (Wd (Ext w)) := ⟨⟨w, Upd.refl _ _⟩⟩
instance wd_same (w : World) : Nonempty (Wd (Same w)) := ⟨⟨w, rfl⟩⟩
theorem cls_narrow {w w' : World} (h : Ext w w') : ∀ v, Cls (Ext w') v → Cls (Ext w) v := by
  rintro _ ⟨x, rfl⟩
  exact ⟨⟨x.w, h.trans x.ok⟩, rfl⟩

section sl
variable {α : Type} [Inhabited α]
def gat (xs : List α) (i : Nat) : α := xs.getD i default
theorem gat_lt {xs : List α} {i : Nat} (h : i < xs.length) : gat xs i = xs[i] := by simp [gat, h]
theorem gat_some {xs : List α} {i : Nat} (h : i < xs.length) : xs[i]? = some (gat xs i) := by simp [gat, h]
theorem gat_drop (xs : List α) (k i : Nat) : gat (xs.drop k) i = gat xs (k + i) := by simp [gat]
theorem gat_take {xs : List α} {k i : Nat} (h : i < k) : gat (xs.take k) i = gat xs i := by simp [gat, List.getElem?_take, h]

/-- The slice at A reads as the list xs. -/
def Sl (f : α → Value) (w : World) (A : Option Addr) (xs : List α) : Prop :=
  ∀ i, i < xs.length → ∃ b o, A = some ⟨b, o, none⟩ ∧ w.cell? ⟨b, o + i, none⟩ = some (f (gat xs i))

variable {f : α → Value} {w w' : World} {A : Option Addr} {xs : List α} {T : Nat → Prop}
theorem Sl.nil : Sl f w A [] := fun i h => absurd h (by simp)
theorem Sl.open_ (h : Sl f w A xs) (hn : 0 < xs.length) : ∃ b o, A = some ⟨b, o, none⟩ ∧ b < w.heap.size ∧ ∀ i, i < xs.length → w.cell? ⟨b, o + i, none⟩ = some (f (gat xs i)) := by
  obtain ⟨b, o, rfl, hc⟩ := h 0 hn
  refine ⟨b, o, rfl, World.block_lt_of_cell? w _ hc, fun i hi => ?_⟩
  obtain ⟨b', o', e, hc'⟩ := h i hi
  cases e
  exact hc'
theorem Sl.cells {b o : Nat} (h : Sl f w (some ⟨b, o, none⟩) xs) : ∀ i, i < xs.length → w.cell? ⟨b, o + i, none⟩ = some (f (gat xs i)) := fun i hi => by
  obtain ⟨b', o', e, hc'⟩ := h i hi
  cases e
  exact hc'
theorem Sl.of_cells {b o : Nat} (h : ∀ i, i < xs.length → w.cell? ⟨b, o + i, none⟩ = some (f (gat xs i))) : Sl f w (some ⟨b, o, none⟩) xs := fun i hi => ⟨b, o, rfl, h i hi⟩
theorem Sl.upd (h : Sl f w A xs) (hu : Upd T w w') (hT : ∀ b o, A = some ⟨b, o, none⟩ → ¬ T b) : Sl f w' A xs := fun i hi => by
  obtain ⟨b, o, e, hc⟩ := h i hi
  exact ⟨b, o, e, (hu.cell (World.block_lt_of_cell? w _ hc) (hT b o e)).trans hc⟩
theorem Sl.ext (h : Sl f w A xs) (hu : Ext w w') : Sl f w' A xs := h.upd hu (fun _ _ _ h => h)
theorem Sl.drop {b o : Nat} (h : Sl f w (some ⟨b, o, none⟩) xs) (k : Nat) : Sl f w (some ⟨b, o + k, none⟩) (xs.drop k) :=
  Sl.of_cells fun i hi => by
    rw [List.length_drop] at hi
    rw [gat_drop, Nat.add_assoc]
    exact h.cells (k + i) (by omega)
theorem Sl.take (h : Sl f w A xs) (k : Nat) : Sl f w A (xs.take k) := fun i hi => by
  rw [List.length_take] at hi
  rw [gat_take (by omega)]
  exact h i (by omega)
theorem Sl.new (f : α → Value) (w : World) (t : TypeId) (xs : List α) : Sl f (w.alloc (.cells (xs.map f).toArray t)) (some ⟨w.heap.size, 0, none⟩) xs :=
  Sl.of_cells fun i hi => by
    rw [Nat.zero_add, cell_of_row _ w.heap.size i _ t (0, 0) (heap_alloc_new w _)]
    simp [gat_some hi]
theorem Sl.news (h : Sl f w A xs) (ad : Addr) (hA : A = some ad) : ∀ j u, (xs.map f)[j]? = some u → w.cell? (ad.add j) = some u := by
  subst hA
  intro j u hu
  rw [List.getElem?_map] at hu
  rcases Nat.lt_or_ge j xs.length with hj | hj
  · obtain ⟨b, o, e, hc⟩ := h j hj
    cases e
    rw [gat_some hj] at hu
    simp only [Option.map_some, Option.some.injEq] at hu
    subst hu
    rw [← hc]
    unfold Addr.add
    split
    · subst_vars; rfl
    · rfl
  · rw [List.getElem?_eq_none hj] at hu; simp at hu

/-- Block g is a row of n cells, the i-th f i. -/
def Arr (w : World) (g : Nat) (t : TypeId) (n : Nat) (f : Nat → Value) : Prop := w.heap[g]? = some (.cells (Array.ofFn fun i : Fin n => f i) t (0, 0))
def put1 {β : Type} (f : Nat → β) (i : Nat) (v : β) : Nat → β := fun j => if j = i then v else f j
end sl

section arr
variable {w w' : World} {g : Nat} {t : TypeId} {n : Nat} {f : Nat → Value} {T : Nat → Prop}
theorem Arr.lt (h : Arr w g t n f) : g < w.heap.size := by
  rcases Nat.lt_or_ge g w.heap.size with hlt | hge
  · exact hlt
  · unfold Arr at h; rw [Array.getElem?_eq_none hge] at h; cases h
theorem Arr.cell (h : Arr w g t n f) {i : Nat} (hi : i < n) : w.cell? ⟨g, i, none⟩ = some (f i) := by
  unfold Arr at h; simp [World.cell?, h, hi]
theorem Arr.frozen (h : Arr w g t n f) (i : Nat) : w.frozen? ⟨g, i, none⟩ = false := by
  unfold Arr at h; simp [World.frozen?, h]
theorem Arr.drew (h : Arr w g t n f) : Arr w.drew g t n f := h
theorem Arr.alloc (h : Arr w g t n f) (o : Obj) : Arr (w.alloc o) g t n f := (Below.heap_alloc w o g h.lt).trans h
theorem Arr.far (h : Arr w g t n f) {p : Addr} (hp : g ≠ p.block) (u : Value) : Arr (w.setCell p u) g t n f := (Below.heap_setCell w p u g hp).trans h
theorem Arr.upd (h : Arr w g t n f) (hu : Upd T w w') (hT : ¬ T g) : Arr w' g t n f := (hu.block g h.lt hT).trans h
theorem Arr.ext (h : Arr w g t n f) (hu : Ext w w') : Arr w' g t n f := h.upd hu (fun h => h)
theorem Arr.set (h : Arr w g t n f) (i : Nat) (u : Value) : Arr (w.setCell ⟨g, i, none⟩ u) g t n (put1 f i u) := by
  unfold Arr at h ⊢
  simp only [World.setCell, Array.getElem?_modify, h, if_true, Option.map_some, Option.isSome_none, Bool.false_eq_true, if_false]
  congr 2
  apply Array.ext
  · simp
  · intro j h1 h2
    simp only [Array.size_setIfInBounds, Array.size_ofFn] at h1
    simp only [Array.getElem_setIfInBounds, Array.getElem_ofFn, put1]
    by_cases hji : i = j
    · subst hji; simp
    · rw [Array.getElem_setIfInBounds_ne (by simpa using h1) hji]
      simp [put1, Ne.symm hji]
theorem Arr.congr {f' : Nat → Value} (h : Arr w g t n f) (e : ∀ i, i < n → f i = f' i) : Arr w g t n f' := by
  unfold Arr at h ⊢
  rw [h]
  congr 3
  funext i
  exact e i i.isLt
theorem Arr.new (w : World) (t : TypeId) (cs : Array Value) (n : Nat) (f : Nat → Value) (hn : cs.size = n) (hf : ∀ i, i < n → cs[i]? = some (f i)) : Arr (w.alloc (.cells cs t)) w.heap.size t n f := by
  unfold Arr
  rw [heap_alloc_new]
  congr 2
  apply Array.ext
  · simp [hn]
  · intro i h1 h2
    have := hf i (by omega)
    rw [Array.getElem?_eq_getElem h1] at this
    simpa using this
end arr

theorem run_storeAt_one {P : Program} (w : World) (T : TypeId) (p : Addr) (v old : Value) (hs : (P.info? T).map (·.size) = some 1) (hv : v.oneCell' = true)
    (hc : w.cell? p = some old) (hf : w.frozen? p = false) : (Instr.storeAt T (.pointer (some p)) v).run P w = .ok () (w.setCell p v) := by
  have hcs : v.cells = #[v] := by cases v <;> first | rfl | (simp [Value.oneCell'] at hv)
  cases hq : P.info? T with
  | none => simp [hq] at hs
  | some i =>
    have h1 : i.size = 1 := by simpa [hq] using hs
    have hr := run_store P w p v .plain hv
    simp only [hc, hf] at hr
    simp [Instr.storeAt, Instr.sureAddr, storeVar, sizeOf, typeInfo, hq, h1, hcs, storeCells, Addr.add, hr]

/-- A store into a row: the world behind it is a name, of which the row and Upd are known. -/
theorem wpList_store_arr {P : Program} {w : World} {ops : Array Oper} {rest : List Oper} {o : Oper} {a : Act} {Q : Exit → Act → World → Prop} (hgd : o.guard = none) {T : TypeId} {p x : Operand}
    (ho : o.op = .store T p x) (hs : (P.info? T).map (·.size) = some 1) {g i : Nat} (hp : a.eval p = .pointer (some ⟨g, i, none⟩)) {v : Value} (hx : a.eval x = v) (hv : v.oneCell' = true) {t : TypeId} {n : Nat} {f : Nat → Value}
    (hA : Arr w g t n f) (hi : i < n) (h : ∀ w', Arr w' g t n (put1 f i v) → Upd (only g) w w' → wpList P ops Q rest (a.put o.dst undef) w') : wpList P ops Q (o :: rest) a w := by
  refine wpList_plain hgd fun K hK => ?_
  unfold Oper.wp execOp
  simp only [ho, hp, hx]
  rw [Sem.run_bind, run_storeAt_one w T _ v _ hs hv (hA.cell hi) (hA.frozen i)]
  exact hK _ _ (h _ (hA.set i v) ((Upd.refl (only g) w).setCell (p := ⟨g, i, none⟩) (.inl rfl) v))
theorem wpList_store_enc {P : Program} {w : World} {ops : Array Oper} {rest : List Oper} {o : Oper} {a : Act} {Q : Exit → Act → World → Prop} {α : Type} (enc : α → Value) (henc : ∀ x, (enc x).oneCell' = true) (v : α)
    (hgd : o.guard = none) {T : TypeId} {p x : Operand}
    (ho : o.op = .store T p x) (hs : (P.info? T).map (·.size) = some 1) {g i : Nat} (hp : a.eval p = .pointer (some ⟨g, i, none⟩)) (hx : a.eval x = enc v) {t : TypeId} {n : Nat} {S : Nat → α}
    (hA : Arr w g t n (fun i => enc (S i))) (hi : i < n) (h : ∀ w', Arr w' g t n (fun j => enc (put1 S i v j)) → Upd (only g) w w' → wpList P ops Q rest (a.put o.dst undef) w') : wpList P ops Q (o :: rest) a w :=
  wpList_store_arr hgd ho hs hp hx (henc v) hA hi fun w' hA' hU => h w' (hA'.congr fun j _ => by unfold put1; split <;> rfl) hU
theorem one8 (x : BitVec 8) : (by8 x).oneCell' = true := rfl
theorem one32 (x : BitVec 32) : (by32 x).oneCell' = true := rfl
theorem one64 (x : BitVec 64) : (by64 x).oneCell' = true := rfl

/-- A whole array is loaded out of its block. -/
theorem wpList_load_arr {P : Program} {w : World} {ops : Array Oper} {rest : List Oper} {o : Oper} {a : Act} {Q : Exit → Act → World → Prop} (hgd : o.guard = none) {ty : TypeId} {x : Operand} (ho : o.op = .load ty x)
    {g : Nat} (hx : a.eval x = .pointer (some ⟨g, 0, none⟩)) {t : TypeId} {n : Nat} {f : Nat → Value} (hA : Arr w g t n f) {e : TypeId} (hu : P.underlying ty = some (.array n e)) (hi : (P.info? ty).map (·.size) = some n)
    (h : wpList P ops Q rest (a.put o.dst (.agg (Array.ofFn fun i : Fin n => f i))) w) : wpList P ops Q (o :: rest) a w :=
  wpList_load_row hgd ty x ho g hx t _ (0, 0) _ hA hu rfl (by simpa using hi) h
/-- A whole array is stored into a block of as many cells. -/
theorem wpList_store_whole {P : Program} {w : World} {ops : Array Oper} {rest : List Oper} {o : Oper} {a : Act} {Q : Exit → Act → World → Prop} (hgd : o.guard = none) {ty : TypeId} {p x : Operand} (ho : o.op = .store ty p x)
    {g : Nat} (hp : a.eval p = .pointer (some ⟨g, 0, none⟩)) {n : Nat} {f : Nat → Value} (hx : a.eval x = .agg (Array.ofFn fun i : Fin n => f i)) (h1 : ∀ i, (f i).oneCell' = true) {t : TypeId} {f' : Nat → Value} (hA : Arr w g t n f') (hi : (P.info? ty).map (·.size) = some n)
    (h : ∀ w', Arr w' g t n f → Upd (only g) w w' → wpList P ops Q rest (a.put o.dst undef) w') : wpList P ops Q (o :: rest) a w := by
  refine wpList_plain hgd fun K hK => ?_
  refine wp_store_row ty p x ho g _ hp hx t _ hA (by simpa using hi) (by simp) ?_ (hK _ _ (h _ ?_ ?_))
  · rw [Array.all_eq_true]; intro i hi; simp [h1]
  · exact setRow_heap w g _ _ t (0, 0) hA
  · exact ⟨rfl, rfl, rfl, by simp, fun k _ hk => setRow_other w g k _ (fun e => hk (by simp [only, e]))⟩

/-- An element of an array value whose elements have one cell each. -/
theorem run_index_arr {P : Program} {T e : TypeId} {n : Nat} (hu : P.underlying T = some (.array n e)) (hs : (P.info? e).map (·.size) = some 1) {de : TypeDesc} (he : P.underlying e = some de) (hde : de.isRow = false)
    (f : Nat → Value) {k : Nat} (hk : k < n) (kd : IntKind) (w : World) :
    (Instr.index T (.agg (Array.ofFn fun i : Fin n => f i)) (.int kd (k : Int))).run P w = .ok (f k) w := by
  have hagg : (isAgg e).run P w = .ok false w := by
    unfold isAgg
    rw [Sem.run_bind, run_underlying he w]
    cases de <;> simp_all [TypeDesc.isRow]
  cases hq : P.info? e with
  | none => simp [hq] at hs
  | some i =>
    have h1 : i.size = 1 := by simpa [hq] using hs
    have hlt : (k : Int) < (n : Int) := by omega
    have h0 : (0 : Int) ≤ (k : Int) := by omega
    simp [Instr.index, asIntOf, run_underlying hu, part, sizeOf, typeInfo, hq, h1, hagg, hlt, hk]

/-- Block g begins with n cells, the i-th f i; what is behind is not told. -/
def Row (w : World) (g : Nat) (t : TypeId) (n : Nat) (f : Nat → Value) : Prop := ∃ cs : Array Value, w.heap[g]? = some (.cells cs t (0, 0)) ∧ n ≤ cs.size ∧ ∀ i, i < n → cs[i]? = some (f i)
section row
variable {w w' : World} {g : Nat} {t : TypeId} {n : Nat} {f : Nat → Value} {T : Nat → Prop}
theorem Row.lt (h : Row w g t n f) : g < w.heap.size := by
  obtain ⟨cs, h, _⟩ := h
  rcases Nat.lt_or_ge g w.heap.size with hlt | hge
  · exact hlt
  · rw [Array.getElem?_eq_none hge] at h; cases h
theorem Row.cell (h : Row w g t n f) {i : Nat} (hi : i < n) : w.cell? ⟨g, i, none⟩ = some (f i) := by
  obtain ⟨cs, h, _, hc⟩ := h
  simp [World.cell?, h, hc i hi]
theorem Row.frozen (h : Row w g t n f) (i : Nat) : w.frozen? ⟨g, i, none⟩ = false := by
  obtain ⟨cs, h, _⟩ := h
  simp [World.frozen?, h]
theorem Row.upd (h : Row w g t n f) (hu : Upd T w w') (hT : ¬ T g) : Row w' g t n f := by
  have hl := h.lt
  obtain ⟨cs, h, r⟩ := h
  exact ⟨cs, (hu.block g hl hT).trans h, r⟩
theorem Row.ext (h : Row w g t n f) (hu : Ext w w') : Row w' g t n f := h.upd hu (fun h => h)
theorem Row.set (h : Row w g t n f) {i : Nat} (hi : i < n) (u : Value) : Row (w.setCell ⟨g, i, none⟩ u) g t n (put1 f i u) := by
  obtain ⟨cs, h, hn, hc⟩ := h
  refine ⟨cs.setIfInBounds i u, ?_, by simpa using hn, fun j hj => ?_⟩
  · simp [World.setCell, Array.getElem?_modify, h]
  · unfold put1
    by_cases hji : j = i
    · subst hji; have : j < cs.size := by omega
      simp [this]
    · rw [if_neg hji, Array.getElem?_setIfInBounds_ne (Ne.symm hji)]; exact hc j hj
theorem Row.congr {f' : Nat → Value} (h : Row w g t n f) (e : ∀ i, i < n → f i = f' i) : Row w g t n f' := by
  obtain ⟨cs, h, hn, hc⟩ := h
  exact ⟨cs, h, hn, fun i hi => by rw [hc i hi, e i hi]⟩
theorem Arr.row (h : Arr w g t n f) : Row w g t n f := ⟨_, h, by simp, fun i hi => by simp [hi]⟩
theorem Row.ne {g' : Nat} {t' : TypeId} {n' : Nat} {f' : Nat → Value} (h : Row w g t n f) (h' : Row w g' t' n' f') (hne : t ≠ t') : g ≠ g' := by
  rintro rfl
  obtain ⟨cs, h, _⟩ := h
  obtain ⟨cs', h', _⟩ := h'
  rw [h] at h'
  injection h' with h'
  injection h' with _ ht
  exact hne ht
theorem Row.sl {α : Type} [Inhabited α] {enc : α → Value} {xs : List α} (h : Row w g t xs.length (fun i => enc (gat xs i))) : Sl enc w (some ⟨g, 0, none⟩) xs :=
  Sl.of_cells fun i hi => by rw [Nat.zero_add]; exact h.cell hi
end row

theorem wpList_store_row {P : Program} {w : World} {ops : Array Oper} {rest : List Oper} {o : Oper} {a : Act} {Q : Exit → Act → World → Prop} {α : Type} (enc : α → Value) (henc : ∀ x, (enc x).oneCell' = true) (v : α)
    (hgd : o.guard = none) {T : TypeId} {p x : Operand}
    (ho : o.op = .store T p x) (hs : (P.info? T).map (·.size) = some 1) {g i : Nat} (hp : a.eval p = .pointer (some ⟨g, i, none⟩)) (hx : a.eval x = enc v) {t : TypeId} {n : Nat} {S : Nat → α}
    (hA : Row w g t n (fun i => enc (S i))) (hi : i < n) (h : ∀ w', Row w' g t n (fun j => enc (put1 S i v j)) → Upd (only g) w w' → wpList P ops Q rest (a.put o.dst undef) w') : wpList P ops Q (o :: rest) a w := by
  refine wpList_plain hgd fun K hK => ?_
  unfold Oper.wp execOp
  simp only [ho, hp, hx]
  rw [Sem.run_bind, run_storeAt_one w T _ (enc v) _ hs (henc v) (hA.cell hi) (hA.frozen i)]
  exact hK _ _ (h _ ((hA.set hi (enc v)).congr fun j _ => by unfold put1; split <;> rfl) ((Upd.refl (only g) w).setCell (p := ⟨g, i, none⟩) (.inl rfl) (enc v)))

/-- What the program's table says of a slice type T over e, one cell an element. -/
structure ElemI (P : Program) (T e : TypeId) (z : Value) (bytes : Nat) : Prop where
  under : P.underlying T = some (.slice e)
  info : (P.info? e).map (fun i => (i.zero, i.size, i.bytes)) = some (some z, 1, bytes)
  one : z.cells.size = 1

def inA (A : Option Addr) : Nat → Prop := fun k => A.map Addr.block = some k
/-- The slice at A, of the elements xs, is the call's own: its block lies from B on, at its head, and may be written and appended to. -/
def Own (w : World) (B : Nat) (e : TypeId) (A : Option Addr) (c : Nat) (xs : List Value) : Prop := w.ownsRow B e 1 (.slice A xs.length c) xs.length xs

section own
variable {w w' : World} {B : Nat} {e : TypeId} {A : Option Addr} {c : Nat} {xs : List Value} {T : Nat → Prop} {α : Type} [Inhabited α] {f : α → Value}
theorem Own.nil : Own w B e none 0 [] := World.ownsRow_nil w B e 1
theorem Own.in_ (h : Own w B e A c xs) {k : Nat} (hk : inA A k) : B ≤ k ∧ k < w.heap.size := by
  refine World.ownsRow.lt h k ?_
  unfold inA at hk
  cases A with
  | none => simp at hk
  | some a => simpa [Value.ownBlock] using hk
theorem Own.upd (h : Own w B e A c xs) (hu : Upd T w w') (hT : ∀ k, inA A k → ¬ T k) : Own w' B e A c xs := by
  obtain ⟨h1, h2⟩ := h
  refine ⟨h1, ?_⟩
  rcases h2 with h2 | ⟨g, cap, cur, hv, hb, hg, r⟩
  · exact .inl h2
  · refine .inr ⟨g, cap, cur, hv, hb, ?_, r⟩
    have hlt : g < w.heap.size := (Array.getElem?_eq_some_iff.1 hg).1
    injection hv with hA
    rw [hu.block g hlt (hT g (by rw [hA]; simp [inA]))]
    exact hg
theorem Own.ext (h : Own w B e A c xs) (hu : Ext w w') : Own w' B e A c xs := h.upd hu (fun _ _ h => h)
theorem Own.mono {B' : Nat} (h : Own w B e A c xs) (hB : B' ≤ B) : Own w B' e A c xs := by
  obtain ⟨h1, h2⟩ := h
  refine ⟨h1, ?_⟩
  rcases h2 with h2 | ⟨g, cap, cur, hv, hb, r⟩
  · exact .inl h2
  · exact .inr ⟨g, cap, cur, hv, by omega, r⟩
theorem Own.sl {ys : List α} (h : Own w B e A c (ys.map f)) : Sl f w A ys := by
  intro i hi
  rcases h.2 with ⟨_, h0⟩ | ⟨g, cap, cur, hv, hb, hg, hn, _, _, htake⟩
  · simp at h0; subst h0; simp at hi
  · injection hv with hA
    subst hA
    refine ⟨g, 0, rfl, ?_⟩
    rw [Nat.zero_add, cell_of_row w g i cur e (0, 0) hg]
    have h2 : (cur.toList.take ((ys.map f).length * 1))[i]? = (ys.map f)[i]? := by rw [htake]
    rw [List.getElem?_take, if_pos (by simpa using hi), List.getElem?_map, gat_some hi] at h2
    simpa using h2
theorem Own.cap (h : Own w B e A c xs) : xs.length ≤ c ∧ c ≤ maxLen := by
  rcases h.2 with ⟨h0, h1⟩ | ⟨g, cap, cur, hv, hb, hg, hn, hm, _⟩
  · injection h0 with _ h2 h3; subst h3; exact ⟨by omega, Nat.zero_le _⟩
  · injection hv with _ _ h3; subst h3; exact ⟨hn, hm⟩
theorem Own.open_ (h : Own w B e A c xs) (hn : 0 < xs.length) : ∃ g, A = some ⟨g, 0, none⟩ ∧ B ≤ g ∧ g < w.heap.size := by
  rcases h.2 with ⟨_, h0⟩ | ⟨g, cap, cur, hv, hb, hg, _⟩
  · omega
  · injection hv with hA
    exact ⟨g, hA, hb, (Array.getElem?_eq_some_iff.1 hg).1⟩
theorem Own.row {g : Nat} {ys : List α} (h : Own w B e (some ⟨g, 0, none⟩) c (ys.map f)) : Row w g e ys.length (fun i => f (gat ys i)) := by
  rcases h.2 with ⟨h0, _⟩ | ⟨g', cap, cur, hv, hb, hg, hn, _, hcs, htake⟩
  · simp at h0
  · injection hv with hA _ hcc
    injection hA with hA
    injection hA with hA
    subst hA
    refine ⟨cur, hg, ?_, fun i hi => ?_⟩
    · simp only [List.length_map] at hn; omega
    · have h2 : (cur.toList.take ((ys.map f).length * 1))[i]? = (ys.map f)[i]? := by rw [htake]
      rw [List.getElem?_take, if_pos (by simpa using hi), List.getElem?_map, gat_some hi] at h2
      simpa using h2
omit [Inhabited α] in
theorem Own.ne_row {g n : Nat} {t : TypeId} {F : Nat → Value} (h : Own w B e A c xs) (hA : Row w g t n F) (hne : e ≠ t) : ¬ inA A g := by
  intro hi
  rcases h.2 with ⟨h0, _⟩ | ⟨g', cap, cur, hv, hb, hg, _⟩
  · injection h0 with h0; subst h0; simp [inA] at hi
  · injection hv with hv; subst hv
    simp [inA] at hi
    subst hi
    obtain ⟨cs, h', _⟩ := hA
    rw [hg] at h'
    injection h' with h'
    injection h' with _ ht
    exact hne ht
omit [Inhabited α] in
theorem Own.ne_arr {g n : Nat} {t : TypeId} {F : Nat → Value} (h : Own w B e A c xs) (hA : Arr w g t n F) (hne : e ≠ t) : ¬ inA A g := h.ne_row hA.row hne
/-- Back: a row that has been written is owned still. -/
theorem Own.of_row {g : Nat} {xs' : List Value} (h : Own w B e (some ⟨g, 0, none⟩) c xs) (hg' : ∃ cs : Array Value, w'.heap[g]? = some (.cells cs e (0, 0)) ∧ cs.size = c ∧ ∀ i, i < xs'.length → cs[i]? = xs'[i]?) (hl : xs'.length = xs.length) : Own w' B e (some ⟨g, 0, none⟩) c xs' := by
  obtain ⟨cs, h1, h2, h3⟩ := hg'
  refine ⟨by simp, .inr ⟨g, c, cs, rfl, ?_, h1, ?_, h.cap.2, by omega, ?_⟩⟩
  · rcases h.2 with ⟨h0, _⟩ | ⟨g', cap, cur, hv, hb, _⟩
    · simp at h0
    · injection hv with hA; injection hA with hA; injection hA with hA; omega
  · rw [hl]; exact h.cap.1
  · apply List.ext_getElem?
    intro i
    rw [List.getElem?_take]
    have hc := h.cap.1
    split
    · rename_i hi
      rw [← h3 i (by omega)]
      simp
    · rename_i hi
      rw [List.getElem?_eq_none (by omega)]
omit [Inhabited α] in
theorem Own.set {g i : Nat} {ys : List α} (h : Own w B e (some ⟨g, 0, none⟩) c (ys.map f)) (hi : i < ys.length) (x : α) (hw : w' = w.setCell ⟨g, i, none⟩ (f x)) : Own w' B e (some ⟨g, 0, none⟩) c ((ys.set i x).map f) := by
  rcases h.2 with ⟨h0, _⟩ | ⟨g', cap, cur, hv, hb, hg, hn, hm, hcs, htake⟩
  · simp at h0
  · injection hv with hA _ hcc
    injection hA with hA
    injection hA with hA
    subst hA hcc
    refine h.of_row ⟨cur.setIfInBounds i (f x), ?_, by simp; omega, fun j hj => ?_⟩ (by simp)
    · subst hw; simp [World.setCell, Array.getElem?_modify, hg]
    · have h2 : (cur.toList.take ((ys.map f).length * 1))[j]? = (ys.map f)[j]? := by rw [htake]
      simp only [List.length_map, List.length_set] at hj
      rw [List.getElem?_take, if_pos (by simpa using hj)] at h2
      rw [List.getElem?_map, List.getElem?_set]
      simp only [List.length_map] at hn
      by_cases hij : i = j
      · subst hij; have : i < cur.size := by omega
        rw [if_pos rfl, if_pos hi]; simp [this]
      · rw [if_neg hij, Array.getElem?_setIfInBounds_ne hij, ← List.getElem?_map, ← h2]; simp
end own

theorem wpList_store_own {P : Program} {w : World} {ops : Array Oper} {rest : List Oper} {o : Oper} {a : Act} {Q : Exit → Act → World → Prop} {α : Type} [Inhabited α] (enc : α → Value) (henc : ∀ x, (enc x).oneCell' = true) (v : α)
    (hgd : o.guard = none) {T : TypeId} {p x : Operand}
    (ho : o.op = .store T p x) (hs : (P.info? T).map (·.size) = some 1) {g i : Nat} (hp : a.eval p = .pointer (some ⟨g, i, none⟩)) (hx : a.eval x = enc v) {B : Nat} {e : TypeId} {c : Nat} {ys : List α}
    (hO : Own w B e (some ⟨g, 0, none⟩) c (ys.map enc)) (hi : i < ys.length) (h : ∀ w', Own w' B e (some ⟨g, 0, none⟩) c ((ys.set i v).map enc) → Upd (only g) w w' → wpList P ops Q rest (a.put o.dst undef) w') : wpList P ops Q (o :: rest) a w := by
  refine wpList_plain hgd fun K hK => ?_
  unfold Oper.wp execOp
  simp only [ho, hp, hx]
  rw [Sem.run_bind, run_storeAt_one w T _ (enc v) _ hs (henc v) (hO.row.cell hi) (hO.row.frozen i)]
  exact hK _ _ (h _ (hO.set hi v rfl) ((Upd.refl (only g) w).setCell (p := ⟨g, i, none⟩) (.inl rfl) (enc v)))

section app
variable {P : Program} (w : World)
theorem run_append_of_nil (base : Nat) (t ty e : TypeId) (i : TypeInfo) (size : Nat) (ht : P.underlying t = some (.slice e)) (hi : P.info? e = some i)
    (v : Value) (n : Nat) (xs : List Value) (hown : w.ownsRow base e size v n xs) (c : Nat) : (Builtin.append_ #[t, t] ty #[v, .slice none 0 c]).run P w = .ok v w := by
  rcases hown.2 with ⟨rfl, rfl⟩ | ⟨g, cap, cur, rfl, _, _, hnc, _⟩
  · simp [Builtin.append_, run_underlying ht, sizeOf, typeInfo, hi, Builtin.lenOf, Builtin.firstCells]
  · simp [Builtin.append_, run_underlying ht, sizeOf, typeInfo, hi, Builtin.lenOf, Builtin.firstCells, hnc, storeCells]

theorem run_app {α : Type} [Inhabited α] (f : α → Value) (hone : ∀ x, (f x).oneCell' = true) {T ty e : TypeId} {z : Value} {bytes : Nat} (E : ElemI P T e z bytes) {B : Nat} {A : Option Addr} {c : Nat} {xs : List α}
    (hown : Own w B e A c (xs.map f)) {A2 : Option Addr} {m c2 : Nat} {ys : List α} (hm : m = ys.length) (hr : Sl f w A2 ys)
    (hbytes : (xs.length + ys.length) * bytes ≤ 140737488355328) (hlen : xs.length + ys.length ≤ maxLen) (hB : B ≤ w.heap.size) :
    ∃ A' c' w', (Builtin.append_ #[T, T] ty #[.slice A xs.length c, .slice A2 m c2]).run P w = .ok (.slice A' (xs.length + ys.length) c') w' ∧ Own w' B e A' c' ((xs ++ ys).map f) ∧ Upd (inA A) w w' ∧
      (∀ k, inA A' k → inA A k ∨ k = w.heap.size) := by
  subst hm
  obtain ⟨i, hi, hz, hs, hb⟩ := info_parts E.info
  have hown' : w.ownsRow B e 1 (.slice A xs.length c) xs.length (xs.map f) := by simpa [Own] using hown
  have key : ∃ v' w', (Builtin.append_ #[T, T] ty #[.slice A xs.length c, .slice A2 ys.length c2]).run P w = .ok v' w' ∧ w'.ownsRow B e 1 v' (xs.length + ys.length) (xs.map f ++ ys.map f) ∧
      w.grownBy w' (Value.ownBlock (.slice A xs.length c)) ∧ (v'.ownBlock = Value.ownBlock (.slice A xs.length c) ∨ v'.ownBlock = some w.heap.size) := by
    rcases Nat.eq_zero_or_pos ys.length with h0 | h0
    · have hy : ys = [] := List.eq_nil_of_length_eq_zero h0
      subst hy
      cases A2 with
      | none => exact ⟨_, w, run_append_of_nil w B T ty e i 1 E.under hi _ _ _ hown' c2, by simpa using hown', World.grownBy.refl w _, .inl rfl⟩
      | some ad =>
        obtain ⟨v', w', hrun, h2, h3, _, h5⟩ := run_append_own_at (P := P) w B T ty e i z 1 bytes E.under hi hz hs hb E.one (by omega) _ _ _ hown' ad 0 c2 [] (by simp) (by simp) (by simp) (by simpa using hlen) (by simpa using hbytes) hB
        exact ⟨v', w', hrun, by simpa using h2, h3, h5⟩
    · obtain ⟨b, o, rfl, _, _⟩ := hr.open_ h0
      obtain ⟨v', w', hrun, h2, h3, _, h5⟩ := run_append_own_at (P := P) w B T ty e i z 1 bytes E.under hi hz hs hb E.one (by omega) _ _ _ hown' ⟨b, o, none⟩ ys.length c2 (ys.map f) (by simp) (hr.news _ rfl)
        (fun u hu => by obtain ⟨x, _, rfl⟩ := List.mem_map.1 hu; exact hone x) hlen hbytes hB
      exact ⟨v', w', hrun, h2, h3, h5⟩
  obtain ⟨v', w', hrun, h2, h3, h5⟩ := key
  have hU : Upd (inA A) w w' := ⟨h3.os, h3.tape, h3.output, h3.size, fun k hk hn => h3.block k hk (fun e => hn (by
    unfold inA
    cases A with
    | none => simp [Value.ownBlock] at e
    | some a => simpa [Value.ownBlock] using e.symm))⟩
  have hform : ∃ A' c', v' = .slice A' (xs.length + ys.length) c' := by
    rcases h2.2 with ⟨h, hn⟩ | ⟨g, cap, cur, h, _⟩
    · exact ⟨none, 0, by rw [h, hn]⟩
    · exact ⟨_, _, h⟩
  obtain ⟨A', c', rfl⟩ := hform
  refine ⟨A', c', w', hrun, ?_, hU, fun k hk => ?_⟩
  · unfold Own; simpa using h2
  · unfold inA at hk ⊢
    cases A' with
    | none => simp at hk
    | some a' =>
      rcases h5 with h5 | h5
      · cases A with
        | none => simp [Value.ownBlock] at h5
        | some a => left; simp [Value.ownBlock] at h5 hk ⊢; omega
      · right; simp [Value.ownBlock] at h5 hk; omega

theorem wpList_app {α : Type} [Inhabited α] (f : α → Value) (hone : ∀ x, (f x).oneCell' = true) {ops : Array Oper} {rest : List Oper} {o : Oper} {a : Act} {Q : Exit → Act → World → Prop} (s x : Operand) {T e : TypeId} {z : Value} {bytes : Nat} (E : ElemI P T e z bytes)
    (hgd : o.guard = none) (ho : o.op = .call { callee := .builtin .append, args := #[s, x], argTypes := #[T, T] }) {B : Nat} {A : Option Addr} {n c : Nat} {xs : List α} (hs : a.eval s = .slice A n c) (hn : n = xs.length)
    (hown : Own w B e A c (xs.map f)) {A2 : Option Addr} {m c2 : Nat} {ys : List α} (hx : a.eval x = .slice A2 m c2) (hm : m = ys.length) (hr : Sl f w A2 ys)
    (hbytes : (xs.length + ys.length) * bytes ≤ 140737488355328) (hlen : xs.length + ys.length ≤ maxLen) (hB : B ≤ w.heap.size)
    (h : ∀ A' c' w', Own w' B e A' c' ((xs ++ ys).map f) → Upd (inA A) w w' → (∀ k, inA A' k → inA A k ∨ k = w.heap.size) → wpList P ops Q rest (a.put o.dst (.slice A' (xs.length + ys.length) c')) w') : wpList P ops Q (o :: rest) a w := by
  refine wpList_plain hgd fun K hK => ?_
  subst hn
  obtain ⟨A', c', w', hr, h2, h3, h4⟩ := run_app (P := P) w f hone (ty := o.type) E hown (c2 := c2) hm hr hbytes hlen hB
  unfold Oper.wp execOp
  simp only [ho, resolve, invoke, builtin, Sem.run_bind, Sem.run_pure, Result.andThen_ok, List.map_toArray, List.map_cons, List.map_nil, hs, hx, hr]
  exact hK _ _ (h A' c' w' h2 h3 h4)

theorem wpList_mk {ops : Array Oper} {rest : List Oper} {o : Oper} {a : Act} {Q : Exit → Act → World → Prop} (l c : Operand) {T e : TypeId} {z : Value} {bytes : Nat} (E : ElemI P T e z bytes)
    (hgd : o.guard = none) (ho : o.op = .makeSlice T l c) (n : Nat) {kl kc : IntKind} {L C : Int} (hl : a.eval l = .int kl L) (hc : a.eval c = .int kc C) (hL : L = (n : Int)) (hC : C = (n : Int)) (b2 : bytes * n ≤ 281474976710656) (b3 : n ≤ maxLen)
    {α : Type} [Inhabited α] (f : α → Value) (hz : f default = z) (hone : z.oneCell' = true) {B : Nat} (hB : B ≤ w.heap.size)
    (h : ∀ g w', Own w' B e (some ⟨g, 0, none⟩) n ((List.replicate n (default : α)).map f) → g = w.heap.size → Ext w w' → wpList P ops Q rest (a.put o.dst (.slice (some ⟨g, 0, none⟩) n n)) w') : wpList P ops Q (o :: rest) a w := by
  obtain ⟨i, hi, hz', hs, hb⟩ := info_parts E.info
  refine wpList_make_full w hgd l c T ho B e i z 1 E.under hi hz' hs kl kc L C n hl hc hL hC (by rw [hb]; exact b2) b3 hB fun w' hown hg => h w.heap.size w' ?_ rfl ⟨hg.os, hg.tape, hg.output, hg.size, fun k hk _ => hg.block k hk (by simp)⟩
  have hzc : z.cells = #[z] := by cases z <;> first | rfl | (simp [Value.oneCell'] at hone)
  have hcells : (madeCells z.cells (n * 1)).toList = (List.replicate n (default : α)).map f := by
    rw [hzc, Nat.mul_one, toList_madeCells_one, List.map_replicate, hz]
  have hl' : ((List.replicate n (default : α)).map f).length = n := by simp
  unfold Own
  rw [hl', ← hcells]
  exact hown
end app
end Go.Proofs.Ytekpjdfgpggcnaa
