/- Tags and keys out of keys, as plain functions; words on memory for them. -/
import Derived.Test.YtoekbomfepedcaaShaI
import Derived.Laws.CopyOwn
import Derived.Lib.SmallJoins
import Derived.Lib.SlBytesConst
namespace Go.Proofs.Ytoekbomfepedcaa
set_option linter.unusedSimpArgs false
set_option linter.unusedVariables false
open Go.RowKit
open Sha

theorem Own.of_arr {α : Type} [Inhabited α] {f : α → Value} {w : World} {B g n : Nat} {e : TypeId} {xs : List α} (h : Arr w g e n (fun i => f (gat xs i))) (hn : xs.length = n) (hB : B ≤ g) (hm : n ≤ maxLen) : Own w B e (some ⟨g, 0, none⟩) n (xs.map f) := by
  subst hn
  refine ⟨by simp, .inr ⟨g, xs.length, _, rfl, hB, h, by simp, hm, by simp, ?_⟩⟩
  apply List.ext_getElem?
  intro i
  rw [List.getElem?_take]
  by_cases hi : i < xs.length
  · rw [if_pos (by simpa using hi), List.getElem?_map, gat_some hi]
    simp [hi]
  · rw [if_neg (by simpa using hi), List.getElem?_eq_none (by simp; omega)]
theorem Own.marr {α : Type} [Inhabited α] {f : α → Value} {w : World} {B g n : Nat} {e : TypeId} {xs : List α} (h : Own w B e (some ⟨g, 0, none⟩) n (xs.map f)) (hn : xs.length = n) : Arr w g e n (fun i => f (gat xs i)) := by
  obtain ⟨cs, h1, h2, h3⟩ := h.row
  rcases h.2 with ⟨h0, _⟩ | ⟨g', cap, cur, hv, hb, hg, hn', _, hcs, htake⟩
  · simp at h0
  · injection hv with hA _ hcc
    injection hA with hA
    injection hA with hA
    subst hA hcc
    rw [hg] at h1
    injection h1 with h1
    injection h1 with h1
    subst h1
    unfold Arr
    rw [hg]
    congr 2
    apply Array.ext
    · simp; omega
    · intro i h4 h5
      simp at h5
      have := h3 i (by omega)
      rw [Array.getElem?_eq_getElem h4] at this
      simpa using this
theorem Ows.cut {α : Type} {f : α → Value} {w : World} {B c : Nat} {e : TypeId} {A : Option Addr} {xs : List α} (h : Ows w B e A c (xs.map f)) {n m : Nat} (hn : n ≤ xs.length) (hm : n ≤ m) (hc : m ≤ c) : Ows w B e A m ((xs.take n).map f) := by
  refine ⟨by simp; omega, by have := h.2.1; omega, ?_⟩
  rcases h.2.2 with ⟨rfl, h0⟩ | ⟨g, o, cur, rfl, hb, hg, hs, hcell⟩
  · exact .inl ⟨rfl, by omega⟩
  · refine .inr ⟨g, o, cur, rfl, hb, hg, by omega, fun i hi => ?_⟩
    simp at hi
    rw [hcell i (by simp; omega), List.getElem?_map, List.getElem?_map, List.getElem?_take, if_pos (by omega)]
/-- A copy into a block, of whatever is there to copy. -/
theorem wpList_copy_any {P : Program} {w : World} {ops : Array Oper} {rest : List Oper} {o : Oper} {a : Act} {Q : Exit → Act → World → Prop} {α : Type} [Inhabited α] (enc : α → Value) (hone : ∀ x, (enc x).oneCell' = true) (xs : List α) (hgd : o.guard = none) {d s : Operand} {dT sT el : TypeId} (ho : o.op = .call { callee := .builtin .copy, args := #[d, s], argTypes := #[dT, sT] })
    (hu : P.underlying dT = some (.slice el)) (hsz : (P.info? el).map (·.size) = some 1) {g p dl dc : Nat} (hd : a.eval d = .slice (some ⟨g, p, none⟩) dl dc) {A : Option Addr} {sl sc : Nat} (hsv : a.eval s = .slice A sl sc)
    (hx : Sl enc w A xs) (hl : xs.length = Nat.min sl dl) {t : TypeId} {n : Nat} {f : Nat → Value} (hA : Arr w g t n f) (hfit : p + xs.length ≤ n)
    (h : ∀ w', Arr w' g t n (fun j => if p ≤ j ∧ j < p + xs.length then enc (gat xs (j - p)) else f j) → Upd (only g) w w' → wpList P ops Q rest (a.put o.dst (goInt xs.length)) w') : wpList P ops Q (o :: rest) a w := by
  rcases Nat.eq_zero_or_pos xs.length with h0 | h0
  · refine wpList_copy_nothing hgd d s dT sT ho el hu hsz _ _ _ _ _ _ hd hsv (by rw [← hl]; exact h0) ?_
    have := h w (hA.congr fun j _ => by rw [if_neg (by omega)]) (Upd.refl _ _)
    rwa [h0] at this
  · exact wpList_copy_arr enc hone xs hgd ho hu hsz hd hsv hx h0 hl hA hfit h
theorem Pts.lit (w : World) (t : TypeId) (ps : List Pt) (h : ∀ p ∈ ps, p.ok w) : Pts (w.alloc (.cells (ps.map Pt.val).toArray t)) (some ⟨w.heap.size, 0, none⟩) ps :=
  ⟨Sl.new Pt.val w t ps, fun i hi => by
    have h1 := h (gat ps i) (by rw [gat_lt hi]; exact List.getElem_mem _)
    exact ⟨h1.1.ext ((Upd.refl _ _).alloc _), h1.2⟩⟩
theorem Pts.one (w : World) (t : TypeId) (p : Pt) (h : p.ok w) : Pts (w.alloc (.cells #[p.val] t)) (some ⟨w.heap.size, 0, none⟩) [p] := Pts.lit w t [p] (by simpa using h)
theorem Pts.two (w : World) (t : TypeId) (p q : Pt) (h : p.ok w) (h' : q.ok w) : Pts (w.alloc (.cells #[p.val, q.val] t)) (some ⟨w.heap.size, 0, none⟩) [p, q] := Pts.lit w t [p, q] (by simpa using ⟨h, h'⟩)
theorem Pts.three (w : World) (t : TypeId) (p q r : Pt) (h : p.ok w) (h' : q.ok w) (h'' : r.ok w) : Pts (w.alloc (.cells #[p.val, q.val, r.val] t)) (some ⟨w.heap.size, 0, none⟩) [p, q, r] := Pts.lit w t [p, q, r] (by simpa using ⟨h, h', h''⟩)
theorem Pt.ok.ext {w w' : World} {p : Pt} (h : p.ok w) (hu : Ext w w') : p.ok w' := ⟨h.1.ext hu, h.2⟩
theorem Own.mpt {w : World} {B c : Nat} {A : Option Addr} {e : TypeId} {bs : List (BitVec 8)} (h : Own w B e A c (bs.map by8)) {n : Nat} (hn : bs.length = n) : Pt.ok w ⟨A, n, c, bs⟩ :=
  ⟨h.sl, hn, by have := h.cap.1; rw [List.length_map, hn] at this; exact this, h.cap.2⟩

theorem gat_out {xs : List (BitVec 8)} {i : Nat} (h : xs.length ≤ i) : gat xs i = 0 := by
  simp [gat, List.getD_eq_getElem?_getD, List.getElem?_eq_none h]; rfl
theorem flat2 (p q : Pt) : flat [p, q] = p.bs ++ q.bs := by simp [flat]
theorem mflat3 (p q r : Pt) : flat [p, q, r] = p.bs ++ q.bs ++ r.bs := by simp [flat]
def lenV : Value → Nat
  | .slice _ l _ => l
  | _ => 0
theorem Sl.mark {α : Type} [Inhabited α] (f : α → Value) (w : World) (t : TypeId) (fr : Nat × Nat) (xs : List α) : Sl f (w.alloc (.cells (xs.map f).toArray t fr)) (some ⟨w.heap.size, 0, none⟩) xs :=
  Sl.of_cells fun i hi => by
    rw [Nat.zero_add, World.cell?_alloc_mark]
    simp [gat_some hi]
namespace Mac
def kb (key : List (BitVec 8)) : List (BitVec 8) := if 64 < key.length then sum key else key
theorem kb_le (key : List (BitVec 8)) : (kb key).length ≤ 64 := by
  unfold kb
  split
  · rw [sum_length]; omega
  · omega
def padk (key : List (BitVec 8)) (x : BitVec 8) : List (BitVec 8) := (List.range 64).map fun i => gat (kb key) i ^^^ x
theorem padk_length (key : List (BitVec 8)) (x : BitVec 8) : (padk key x).length = 64 := by simp [padk]
theorem padk_gat (key : List (BitVec 8)) (x : BitVec 8) (i : Nat) (h : i < 64) : gat (padk key x) i = gat (kb key) i ^^^ x := by simp [padk, gat, h]
def inner (key msg : List (BitVec 8)) : List (BitVec 8) := sum (padk key 0x36 ++ msg)
def tag (key msg : List (BitVec 8)) : List (BitVec 8) := sum (padk key 0x5c ++ inner key msg)
theorem tag_length (key msg : List (BitVec 8)) : (tag key msg).length = 32 := sum_length _
/-- The i-th part of an expansion. -/
def part (key info : List (BitVec 8)) : Nat → List (BitVec 8)
  | 0 => []
  | i + 1 => tag key (part key info i ++ info ++ [BitVec.ofNat 8 (i + 1)])
def plen : Nat → Nat
  | 0 => 0
  | _ + 1 => 32
theorem part_length (key info : List (BitVec 8)) (k : Nat) : (part key info k).length = plen k := by
  cases k with
  | zero => rfl
  | succ k => exact tag_length _ _
def parts (key info : List (BitVec 8)) : Nat → List (BitVec 8)
  | 0 => []
  | i + 1 => parts key info i ++ part key info (i + 1)
theorem parts_length (key info : List (BitVec 8)) (k : Nat) : (parts key info k).length = 32 * k := by
  induction k with
  | zero => rfl
  | succ k ih => rw [parts, List.length_append, ih, part_length]; simp [plen]; omega
def expand (key info : List (BitVec 8)) (n : Nat) : List (BitVec 8) := (parts key info ((n + 31) / 32)).take n
theorem expand_length (key info : List (BitVec 8)) (n : Nat) : (expand key info n).length = n := by rw [expand, List.length_take, parts_length]; omega
theorem parts_take (key info : List (BitVec 8)) (k n : Nat) (h : n ≤ 32 * k) : (parts key info k).take n = expand key info n := by
  have key1 : ∀ m, (n + 31) / 32 ≤ m → (parts key info m).take n = expand key info n := by
    intro m hm
    induction m with
    | zero =>
      have h0 : (n + 31) / 32 = 0 := by omega
      unfold expand; rw [h0]
    | succ m ih =>
      by_cases hm2 : (n + 31) / 32 = m + 1
      · unfold expand; rw [hm2]
      · rw [← ih (by omega), parts, List.take_append_of_le_length (by rw [parts_length]; omega)]
  exact key1 k (by omega)
theorem expand_take (key info : List (BitVec 8)) (n m : Nat) (h : n ≤ m) : (expand key info m).take n = expand key info n := by
  unfold expand
  rw [List.take_take, Nat.min_eq_left h]
  exact parts_take key info _ n (by omega)
theorem kb_pad (key : List (BitVec 8)) (h : key.length < 64) (i : Nat) : gat (kb (key ++ [0])) i = gat (kb key) i := by
  have h1 : kb (key ++ [0]) = key ++ [0] := by unfold kb; rw [if_neg (by simp; omega)]
  have h2 : kb key = key := by unfold kb; rw [if_neg (by omega)]
  rw [h1, h2]
  by_cases hi : i < key.length
  · exact gat_append_left hi
  · rw [gat_append_right (by omega)]
    have e : gat key i = 0 := gat_out (by omega)
    rw [e]
    by_cases h3 : i = key.length
    · rw [h3, Nat.sub_self]; rfl
    · exact gat_out (by simp; omega)
theorem tag_pad (key msg : List (BitVec 8)) (h : key.length < 64) : tag (key ++ [0]) msg = tag key msg := by
  have e : ∀ x, padk (key ++ [0]) x = padk key x := fun x => by
    unfold padk
    exact List.map_congr_left fun i _ => by rw [kb_pad key h]
  unfold tag inner
  rw [e, e]
theorem tag_long (key msg : List (BitVec 8)) (h : 64 < key.length) : tag (sum key) msg = tag key msg := by
  have e : kb (sum key) = kb key := by
    unfold kb
    rw [if_pos h, if_neg (by rw [sum_length]; omega)]
  unfold tag inner padk
  rw [e]
end Mac
end Go.Proofs.Ytoekbomfepedcaa
