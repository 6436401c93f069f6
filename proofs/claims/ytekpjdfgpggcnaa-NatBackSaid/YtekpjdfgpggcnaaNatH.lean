/- slices.Backward over words: what it hands to a loop; Cmp, walked. -/
import Derived.RangeFuncNested
import Derived.RangeFuncBound
import Derived.RangeFuncBox
import Derived.RangeFuncLeaves
import Derived.RangeFuncWrites
import Derived.Shelf.Abstract
import Derived.OwnWalkIn
import Derived.TacticsInMore
import Derived.LoopNIn
import Derived.LoopIn
import Derived.Test.YtekpjdfgpggcnaaNatE
namespace Go.Proofs.Ytekpjdfgpggcnaa
set_option linter.unusedSimpArgs false
set_option linter.unusedVariables false
open Go.RowKit Go.Shelf
open Nt
attribute [local go_sem] Oper.semAt_some by32

/-- what has come when k rounds are over -/
def upto {α : Type} (f : Nat → α) (k : Nat) : List α := (List.range k).map f
theorem upto_succ {α : Type} (f : Nat → α) (k : Nat) : upto f (k + 1) = upto f k ++ [f k] := by simp [upto, List.range_succ]
theorem upto_length {α : Type} (f : Nat → α) (k : Nat) : (upto f k).length = k := by simp [upto]
/-- an index, and what is handed over with it -/
abbrev Ix (len : Nat) := { i : Nat // i < len }
def bkv (xs : List (BitVec 32)) {len : Nat} (x : Ix len) : Array Value := #[.int .i64 (x.1 : Int), by32 (gat xs x.1)]
/-- the first k from behind -/
def Bk {len : Nat} (k : Nat) (pre : List (Ix len)) : Prop := pre.map (·.1) = upto (fun j => len - 1 - j) k
theorem Bk.nil {len : Nat} : Bk (len := len) 0 [] := rfl
theorem Bk.length {len k : Nat} {pre : List (Ix len)} (h : Bk k pre) : pre.length = k := by
  have := congrArg List.length h
  simpa [upto] using this
theorem Bk.snoc {len k : Nat} {pre : List (Ix len)} (h : Bk k pre) {x : Ix len} (hx : x.1 = len - 1 - k) : Bk (k + 1) (pre ++ [x]) := by
  unfold Bk at *
  rw [List.map_append, h, upto_succ, List.map_singleton, hx]
theorem Bk.last {len k : Nat} {ini : List (Ix len)} {x : Ix len} (h : Bk k (ini ++ [x])) : ∃ j, k = j + 1 ∧ Bk j ini ∧ x.1 = len - 1 - j := by
  have hl := h.length
  simp at hl
  subst hl
  unfold Bk at *
  rw [List.map_append, upto_succ, List.map_singleton] at h
  obtain ⟨h1, h2⟩ := List.append_inj' h rfl
  refine ⟨_, rfl, h1, by simpa using h2⟩
theorem Bk.mem {len k : Nat} {pre : List (Ix len)} (h : Bk k pre) {j : Nat} (hj : j < k) (hk : k ≤ len) : ∃ x ∈ pre, x.1 = len - 1 - j := by
  have : len - 1 - j ∈ pre.map (·.1) := by
    rw [h]; simp only [upto, List.mem_map, List.mem_range]; exact ⟨j, hj, rfl⟩
  obtain ⟨x, hx, e⟩ := List.mem_map.1 this
  exact ⟨x, hx, e⟩
/-- these blocks lie as they lay -/
def Kept (R : Nat → Prop) (W W' : World) : Prop := ∀ k, R k → W'.heap[k]? = W.heap[k]?
theorem Kept.refl (R : Nat → Prop) (W : World) : Kept R W W := fun _ _ => rfl
theorem Kept.t {R : Nat → Prop} {A B C : World} (h : Kept R A B) (k : Kept R B C) : Kept R A C := fun i hi => (k i hi).trans (h i hi)
theorem Kept.b {R : Nat → Prop} {w : World} (hn : ∀ i, R i → i < w.heap.size) (W : World) (l : Nat) (o o' : Obj) (hl : w.heap.size ≤ l) (h : W.heap[l]? = some o) (_ : o.isCells = false) (_ : o.isWalk = false) : Kept R W (W.putObj l o') := fun i hi =>
  (grownBy_putObj' W l o').block i (by have := (Array.getElem?_eq_some_iff.1 h).1; have := hn i hi; omega) (fun e => by cases e; have := hn _ hi; omega)
theorem Kept.cell {R : Nat → Prop} {W W' : World} (h : Kept R W W') {p : Addr} (hp : R p.block) : W'.cell? p = W.cell? p := World.cell?_of_block (w := W) (h p.block hp)
theorem Kept.setCell {R : Nat → Prop} {W : World} {p : Addr} (hp : ¬ R p.block) (u : Value) : Kept R W (W.setCell p u) := fun k hk => Below.heap_setCell W p u k (fun e => hp (e ▸ hk))
set_option maxRecDepth 100000 in
set_option maxHeartbeats 2000000 in
theorem back1_in (F : Fence) (n : Nat) (hf : F.fn 66) (hro : F.round = none) (hn : 1 ≤ n) (l Bs b off cap : Nat) (R : Nat → Prop) (xs : List (BitVec 32)) (len : Nat) (hreach : len ≤ 1000000) (h0 : 0 < len) (hb : R b) (J Jx : List (Ix len) → World → Prop)
    (hY : ∀ pre x W, J pre W → pre.length < len → YieldAt F (n - 1) Try.prog l (bkv xs x) W fun e W' =>
      (e = .returned (.bool true) ∧ J (pre ++ [x]) W' ∧ Kept R W W') ∨ (e = .returned (.bool false) ∧ Jx (pre ++ [x]) W'))
    (W : World) (hBs : W.cell? ⟨Bs, 0, none⟩ = some (.slice (some ⟨b, off, none⟩) len cap)) (hBn : R Bs) (hc : ∀ j, j < len → W.cell? ⟨b, off + j, none⟩ = some (by32 (gat xs j))) (hJ0 : J [] W) :
    CallsIn F n Try.prog 66 #[.func (.yield l) #[] #[], .pointer (some ⟨Bs, 0, none⟩)] W fun e W' => (∃ v, e = .returned v) ∧
      ((∃ ys, Bk len ys ∧ J ys W') ∨ (∃ pre, (∃ k, k ≤ len ∧ Bk k pre) ∧ Jx pre W')) := by
  refine callsIn_of_wp Try.func66 rfl hf ?_ hro
  simp only [Try.ntmps66, List.size_toArray, List.length_cons, List.length_nil, Nat.reduceAdd, Nat.reduceSub, Array.replicate_succ, Array.replicate_zero, List.push_toArray, List.append_toArray, List.nil_append, List.cons_append]
  gi_wp2
  gi_loopw [3] (fun i wr => ((∃ (r : Nat) (pre : List (Ix len)), r < len ∧ i = .int .i64 r ∧ Bk (len - 1 - r) pre ∧ J pre wr) ∨ (∃ pre : List (Ix len), i = .int .i64 (-1) ∧ Bk len pre ∧ J pre wr)) ∧ Kept R W wr)
    (fun i _ => (intOf i + 1).toNat)
  case atStart => exact ⟨.inl ⟨len - 1, [], by omega, by rw [show (len : Int) - 1 = ((len - 1 : Nat) : Int) by omega], by rw [Nat.sub_self]; exact Bk.nil, hJ0⟩, Kept.refl _ _⟩
  case round =>
    obtain ⟨hr, hnx⟩ := hrel
    have hBs' : wr.cell? ⟨Bs, 0, none⟩ = some (.slice (some ⟨b, off, none⟩) len cap) := (hnx.cell (p := ⟨Bs, 0, none⟩) hBn).trans hBs
    rcases hr with ⟨r, pre, hr, rfl, hB, hJs⟩ | ⟨pre, rfl, hB, hJs⟩
    · have hcx : wr.cell? ⟨b, off + r, none⟩ = some (by32 (gat xs r)) := (hnx.cell (p := ⟨b, off + r, none⟩) hb).trans (hc r hr)
      have HB := hide (hB.snoc (x := ⟨r, hr⟩) (by show r = _; omega))
      obtain ⟨fn, tmps, assign, body, hy, hR⟩ := hY pre ⟨r, hr⟩ wr hJs (by rw [hB.length]; omega)
      dsimp only [bkv, by32] at hy
      clear hB
      gi_wp2
      refine hR.mono ?_
      rintro e W3 (⟨rfl, hJ3, hk3⟩ | ⟨rfl, hJx3⟩)
      · gi_wp2
        go_roundw
        case rel =>
          refine ⟨?_, hnx.t hk3⟩
          have hB2 := HB.out
          by_cases h0 : r = 0
          · subst h0; exact .inr ⟨_, rfl, by rw [show len - 1 - 0 + 1 = len by omega] at hB2; exact hB2, hJ3⟩
          · exact .inl ⟨r - 1, _, by omega, by rw [show (r : Int) - 1 = ((r - 1 : Nat) : Int) by omega], by rw [show len - 1 - (r - 1) = len - 1 - r + 1 by omega]; exact hB2, hJ3⟩
        case measure => simp [intOf]
      · gi_wp2
        refine bodyPost_ret (results_none rfl _ _ _) rfl ?_
        exact ⟨⟨_, rfl⟩, .inr ⟨_, ⟨len - 1 - r + 1, by omega, HB.out⟩, hJx3⟩⟩
    · gi_wp2
      go_end0
      exact ⟨⟨_, rfl⟩, .inl ⟨_, hB, hJs⟩⟩

set_option maxRecDepth 100000 in
set_option maxHeartbeats 1000000 in
theorem back1_nil_in (F : Fence) (n : Nat) (hf : F.fn 66) (hro : F.round = none) (l Bs : Nat) (A : Option Addr) (cap : Nat) (J : List (Ix 0) → World → Prop) (W : World) (hBs : W.cell? ⟨Bs, 0, none⟩ = some (.slice A 0 cap)) (h0 : J [] W) :
    CallsIn F n Try.prog 66 #[.func (.yield l) #[] #[], .pointer (some ⟨Bs, 0, none⟩)] W fun e W' => (∃ v, e = .returned v) ∧ J [] W' := by
  refine callsIn_of_wp Try.func66 rfl hf ?_ hro
  simp only [Try.ntmps66, List.size_toArray, List.length_cons, List.length_nil, Nat.reduceAdd, Nat.reduceSub, Array.replicate_succ, Array.replicate_zero, List.push_toArray, List.append_toArray, List.nil_append, List.cons_append]
  gi_wp2
  gi_loopw [3] (fun i wr => i = .int .i64 (-1) ∧ J [] wr) (fun _ _ => 0)
  case atStart => exact ⟨rfl, h0⟩
  case round =>
    obtain ⟨rfl, hJs⟩ := hrel
    gi_wp2
    go_end0
    exact ⟨⟨_, rfl⟩, hJs⟩

set_option maxHeartbeats 1000000 in
/-- slices.Backward: the slice is boxed; the function value holds the box. -/
theorem back_in (F : Fence) (n : Nat) (hf : F.fn 57) (hro : F.round = none) (a : Option Addr) (len cap : Nat) (w : World) :
    CallsIn F n Try.prog 57 #[.slice a len cap] w fun e w' => e = .returned (.func (.func 66) #[] #[.pointer (some ⟨w.heap.size, 0, none⟩)]) ∧ w' = w.alloc (.cells #[.slice a len cap] 24) := by
  refine callsIn_of_wp Try.func57 rfl hf ?_ hro
  simp only [Try.ntmps57, List.size_toArray, List.length_cons, List.length_nil, Nat.reduceAdd, Nat.reduceSub, Array.replicate_succ, Array.replicate_zero, List.push_toArray, List.append_toArray, List.nil_append, List.cons_append]
  gi_wp2
  go_ret
  exact ⟨rfl, rfl⟩

theorem back_stops (F : Fence) (n : Nat) (hf : F.fn 66) (hro : F.round = none) (hn : 1 ≤ n) (Bs : Nat) (R : Nat → Prop) (A : Option Addr) (len cap : Nat) (xs : List (BitVec 32)) (hl : xs.length = len) (hreach : len ≤ 1000000) (w : World) (hBs : R Bs) (hBw : Bs < w.heap.size)
    (hc : w.cell? ⟨Bs, 0, none⟩ = some (.slice A len cap)) (hS : Sl by32 w A xs) (hA : 0 < len → ∀ k, inA A k → R k) :
    SeqStopsK F n Try.prog 66 #[.pointer (some ⟨Bs, 0, none⟩)] (bkv xs (len := len)) (Kept R) (Bk len) (fun pre => ∃ k, k ≤ len ∧ Bk k pre) len w := fun l J Jx W hW _ _ hY h0 => by
  have hc' := (hW.cell (p := ⟨Bs, 0, none⟩) hBw).trans hc
  rcases Nat.eq_zero_or_pos len with h | h
  · subst h
    exact (back1_nil_in F n hf hro l Bs A cap J W hc' h0).mono fun e W' ⟨he, hj⟩ => ⟨he, .inl ⟨_, Bk.nil, hj⟩⟩
  · obtain ⟨b, o, rfl, hb, hcs⟩ := hS.open_ (by omega)
    exact back1_in F n hf hro hn l Bs b o cap R xs len hreach h (hA h b (by simp [inA])) J Jx hY W hc' hBs (fun j hj => (hW.cell (p := ⟨b, o + j, none⟩) hb).trans (hcs j (by omega))) h0

theorem Sl.inA_lt {α : Type} [Inhabited α] {f : α → Value} {w : World} {A : Option Addr} {xs : List α} (h : Sl f w A xs) (h0 : 0 < xs.length) {k : Nat} (hk : inA A k) : k < w.heap.size := by
  obtain ⟨b, o, rfl, hb, _⟩ := h.open_ h0
  simp [inA] at hk; omega
theorem ext_of_below {w w' : World} (h : Below w.heap.size w w') : Ext w w' := ⟨h.os, h.tape, h.output, h.size, fun k hk _ => h.block k hk⟩
/-! ### Cmp -/
def cmpI (a b : Nat) : Int := if a < b then -1 else if a = b then 0 else 1
theorem cmp_len {xs ys : List (BitVec 32)} (hy : Trd (dig d32 ys) ys.length) (h : xs.length < ys.length) : numOf W32 d32 xs < numOf W32 d32 ys := hy.len_lt (by decide) (fun i _ => d32_lt _) h
theorem cmp_same {xs ys : List (BitVec 32)} {l : Nat} (hx : xs.length = l) (hy : ys.length = l) (h : ∀ i, i < l → gat ys i = gat xs i) : cmpI (numOf W32 d32 xs) (numOf W32 d32 ys) = 0 := by
  have : numOf W32 d32 xs = numOf W32 d32 ys := by
    unfold numOf; rw [hx, hy]; exact vf_congr fun i hi => by unfold dig; rw [h i hi]
  unfold cmpI; rw [this, if_neg (Nat.lt_irrefl _), if_pos rfl]
theorem cmp_first {xs ys : List (BitVec 32)} {l i : Nat} (hx : xs.length = l) (hy : ys.length = l) (hi : i < l) (h : ∀ j, i < j → j < l → gat ys j = gat xs j) (hne : n32 (gat xs i) ≠ n32 (gat ys i)) :
    cmpI (numOf W32 d32 xs) (numOf W32 d32 ys) = if n32 (gat xs i) < n32 (gat ys i) then -1 else 1 := by
  unfold numOf cmpI
  rw [hx, hy]
  by_cases hlt : n32 (gat xs i) < n32 (gat ys i)
  · have := vf_lt_of_digit (β := W32) (f := dig d32 xs) (g := dig d32 ys) hi (fun _ _ => d32_lt _) (fun j h1 h2 => by unfold dig; rw [h j h1 h2]) (by unfold dig; rw [n32_d, n32_d] at hlt; omega)
    rw [if_pos this, if_pos hlt]
  · have := vf_lt_of_digit (β := W32) (f := dig d32 ys) (g := dig d32 xs) hi (fun _ _ => d32_lt _) (fun j h1 h2 => by unfold dig; rw [h j h1 h2]) (by unfold dig; rw [n32_d, n32_d] at hlt hne; omega)
    rw [if_neg (by omega), if_neg (by omega), if_neg hlt]
/-- a round has found the words unlike -/
def CmpX (xs ys : List (BitVec 32)) {len : Nat} (g : Nat) (c : Code) (pre : List (Ix len)) (W : World) : Prop :=
  c = .ret ∧ ∃ ini last, pre = ini ++ [last] ∧ (∀ p ∈ ini, gat ys p.1 = gat xs p.1) ∧ n32 (gat xs last.1) ≠ n32 (gat ys last.1) ∧ W.cell? ⟨g, 0, none⟩ = some (.int .i64 (if n32 (gat xs last.1) < n32 (gat ys last.1) then -1 else 1))
set_option maxRecDepth 100000 in
set_option maxHeartbeats 2000000 in
theorem cmp_in (F : Fence) (n : Nat) (hfc : F.fn 24) (hfb : F.fn 57) (hf1 : F.fn 66) (hro : F.round = none) (hn : 3 ≤ n) (va vb : Value) (a b k : Nat) (w : World) (hVa : NatV w va a) (hVb : NatV w vb b) (hFa : Fit k a) (hFb : Fit k b) (hk : k ≤ 1000000) :
    CallsIn F n Try.prog 24 #[va, vb] w fun e W' => e = .returned (.int .i64 (cmpI a b)) ∧ Ext w W' := by
  have h1 : 1 ≤ n := by omega
  obtain ⟨A, la, ca, xs, rfl, hlx, hca, hma, hSa, hTa, hna⟩ := hVa.open_
  obtain ⟨B, lb, cb, ys, rfl, hly, hcb, hmb, hSb, hTb, hnb⟩ := hVb.open_
  have hla : la ≤ k := hlx ▸ Fit.len (hlx ▸ hTa) hna hFa
  have hlb : lb ≤ k := hly ▸ Fit.len (hly ▸ hTb) hnb hFb
  clear hVa hVb hFa hFb
  refine callsIn_of_wp_marks Try.func24 rfl hfc ?_ hro
  simp only [Try.ntmps24, List.size_toArray, List.length_cons, List.length_nil, Nat.reduceAdd, Nat.reduceSub, Array.replicate_succ, Array.replicate_zero, List.push_toArray, List.append_toArray, List.nil_append, List.cons_append]
  rcases Nat.lt_trichotomy la lb with h | h | h
  · have hc : cmpI a b = -1 := by
      unfold cmpI; rw [if_pos]; rw [← hna, ← hnb]; exact cmp_len (hly ▸ hTb) (by omega)
    rw [hc]
    clear hc hna hnb hTa hTb hSa hSb hlx hly
    have hne : ((la : Int) != (lb : Int)) = true := by rw [bne_iff_ne]; omega
    have hne' : la ≠ lb := by omega
    gi_wp2
    exact ⟨.int .i64 (-1), (by simp [results, Try.f24, go_sem]), rfl, (by repeat (first | (with_reducible exact Upd.refl _ _) | (with_reducible assumption) | (refine Upd.setCell ?_ (.inr (by first | exact Nat.le_refl _ | (dsimp only; omega) | (simp; done) | (simp; omega))) _) | (with_reducible refine Upd.alloc ?_ _) | (with_reducible refine Upd.drew ?_) | (with_reducible refine Upd.trans ?_ (by with_reducible assumption))))⟩
  · subst h
    have hne : ((la : Int) != (la : Int)) = false := by simp
    have HSa := hide hSa
    have HSb := hide hSb
    have HLa := hide hlx
    have HLb := hide hly
    have Hna := hide hna
    have Hnb := hide hnb
    clear hSa hSb hlx hly hna hnb hTa hTb
    gi_wp2_with (gi_at_call 57; refine (back_in F (n - 1) hfb hro _ _ _ _).mono ?_; rintro e w' ⟨rfl, rfl⟩)
    obtain ⟨R, hR⟩ : ∃ R : Nat → Prop, R = fun k => k = w.heap.size + 1 + 1 + 1 ∨ (0 < la ∧ inA A k) := ⟨_, rfl⟩
    have hRn : ∀ i, R i → i < w.heap.size + 1 + 1 + 1 + 1 := fun i hi => by
      rw [hR] at hi
      rcases hi with hi | hi
      · omega
      · have := HSa.out.inA_lt (by rw [HLa.out]; exact hi.1) hi.2; omega
    have bT := Box.new (((w.alloc (.cells #[.slice A la ca] 26)).alloc (.cells #[.slice B la cb] 26)).alloc (.cells #[.int .i64 0] 3)) 24 (.slice A la ca)
    rw [World.size_alloc, World.size_alloc, World.size_alloc] at bT
    have hB0 : Below w.heap.size w ((((w.alloc (.cells #[.slice A la ca] 26)).alloc (.cells #[.slice B la cb] 26)).alloc (.cells #[.int .i64 0] 3)).alloc (.cells #[.slice A la ca] 24)) := ((((Below.refl _ w).alloc (Nat.le_refl _) _).alloc (by simp) _).alloc (by simp; omega) _).alloc (by simp; omega) _
    refine wpIn_rangeFunc_ownG hro h1 (gf := 66) (lb := #[.pointer (some ⟨w.heap.size + 1 + 1 + 1, 0, none⟩)]) rfl hf1 (enters_of Try.func66 (by kernel_rfl) rfl)
      (back_stops F (n - 1) hf1 hro (by omega) (w.heap.size + 1 + 1 + 1) R A la ca xs HLa.out (by omega) _ (by rw [hR]; exact .inl rfl) (by simp) bT.cell (HSa.out.ext (by repeat (first | (with_reducible exact Upd.refl _ _) | (with_reducible assumption) | (refine Upd.setCell ?_ (.inr (by first | exact Nat.le_refl _ | (dsimp only; omega) | (simp; done) | (simp; omega))) _) | (with_reducible refine Upd.alloc ?_ _) | (with_reducible refine Upd.drew ?_) | (with_reducible refine Upd.trans ?_ (by with_reducible assumption))))) (fun h0 k h => by rw [hR]; exact .inr ⟨h0, h⟩)) Kept.t (Kept.b (fun i hi => by have := hRn i hi; simp; omega)) (Below.refl _ _) (fun _ => rfl)
      (fun pre W => ((∀ p ∈ pre, gat ys p.1 = gat xs p.1) ∧ W.cell? ⟨w.heap.size + 1 + 1, 0, none⟩ = some (.int .i64 0) ∧ W.frozen? ⟨w.heap.size + 1 + 1, 0, none⟩ = false ∧ W.cell? ⟨w.heap.size + 1, 0, none⟩ = some (.slice B la cb)) ∧ Below w.heap.size w W)
      (fun c pre W => CmpX xs ys (len := la) (w.heap.size + 1 + 1) c pre W ∧ Below w.heap.size w W)
      (OwnFrom.and (_root_.Go.Own.from (fun s A B row hs hg hr => ⟨hs.1, cell_kept hs.2.1 hg hr, (frozen_kept hs.2.1 hg hr).trans hs.2.2.1, cell_kept hs.2.2.2 hg hr⟩) _) (ownFrom_below (Nat.le_refl _) (by simp; omega)))
      (fun c => OwnFrom.and (_root_.Go.Own.from (fun s A B row hs hg hr => by obtain ⟨hc, ini, last, e1, e2, e3, e4⟩ := hs; exact ⟨hc, ini, last, e1, e2, e3, cell_kept e4 hg hr⟩) _) (ownFrom_below (Nat.le_refl _) (by simp; omega)))
      ⟨⟨by simp, by go_simp, by go_simp, by go_simp⟩, hB0⟩
      (fun x => { tmps := #[.agg #[.slice A la ca], .agg #[.slice B la cb], .pointer (some ⟨w.heap.size, 0, none⟩), .pointer (some ⟨w.heap.size + 1, 0, none⟩), .pointer (some ⟨w.heap.size + 1 + 1, 0, none⟩), .int .i64 (x.1 : Int), .int .u32 (n32 (gat xs x.1)), .pointer (some ⟨w.heap.size, 0, none⟩), .slice A la ca, .int .i64 la, .pointer (some ⟨w.heap.size + 1, 0, none⟩), .slice B la cb, .int .i64 la, .bool false, undef, undef, undef, undef, undef, undef, undef, .pointer (some ⟨w.heap.size, 0, none⟩), .slice A la ca, .func (.func 66) #[] #[.pointer (some ⟨w.heap.size + 1 + 1 + 1, 0, none⟩)], .int .i64 (x.1 : Int), .int .u32 (n32 (gat xs x.1)), undef, undef, undef, undef, undef, undef, undef, undef, undef, undef, undef, undef, undef, undef], defers := [] }) ?assign ?body ?done ?stop
    case assign =>
      intro l x W K hK
      dsimp only [bkv]
      gi_wp2
      exact hK
    case body =>
      rintro l pre x W ⟨⟨hp, hcr, hfr, hcb2⟩, hBl⟩ _
      obtain ⟨b2, o2, hYe, hbl2, hcells⟩ := HSb.out.open_ (by have := x.2; rw [HLb.out]; omega)
      have hcy : W.cell? ⟨b2, o2 + x.1, none⟩ = some (.int .u32 (n32 (gat ys x.1))) := (hBl.cell (p := ⟨b2, o2 + x.1, none⟩) hbl2).trans (hcells x.1 (by have := x.2; rw [HLb.out]; omega))
      have hxl := x.2
      clear hcells
      subst hYe
      by_cases he : n32 (gat xs x.1) = n32 (gat ys x.1)
      · have he' : (n32 (gat xs x.1) != n32 (gat ys x.1)) = false := by simp [he]
        have HE := hide he
        clear he
        gi_wp2
        exact ⟨KeepsFrom.refl _ _, Kept.refl _ _, ⟨fun p hp' => (List.mem_append.1 hp').elim (hp p) (fun e => by simp at e; subst e; exact (n32_inj.1 HE.out).symm), hcr, hfr, hcb2⟩, hBl⟩
      · have he' : (n32 (gat xs x.1) != n32 (gat ys x.1)) = true := by simp [he]
        by_cases hlt : n32 (gat xs x.1) < n32 (gat ys x.1)
        · gi_wp2
          exact ⟨(KeepsOthers.setCell _ _ _).from _, ⟨rfl, pre, x, rfl, hp, he, by rw [if_pos hlt]; exact World.cell?_setCell_same' _ _ _ (by rw [hcr]; rfl)⟩, hBl.setCell (p := ⟨w.heap.size + 1 + 1, 0, none⟩) (by simp; omega) _⟩
        · gi_wp2
          exact ⟨(KeepsOthers.setCell _ _ _).from _, ⟨rfl, pre, x, rfl, hp, he, by rw [if_neg (by omega)]; exact World.cell?_setCell_same' _ _ _ (by rw [hcr]; rfl)⟩, hBl.setCell (p := ⟨w.heap.size + 1 + 1, 0, none⟩) (by simp; omega) _⟩
    case done =>
      rintro D ys' W hD hBk ⟨⟨hp, hcr, hfr, hcb2⟩, hBl⟩ hK
      have hv : cmpI a b = 0 := by
        rw [← Hna.out, ← Hnb.out]
        exact cmp_same HLa.out HLb.out (fun i hi => by
          obtain ⟨x, hx, e⟩ := hBk.mem (j := la - 1 - i) (by omega) (Nat.le_refl _)
          rw [show la - 1 - (la - 1 - i) = i by omega] at e
          rw [← e]; exact hp x hx)
      have HVv := hide hv
      clear hv
      gi_wp2
      have hK' := (KeepsOthers.setCell W ⟨w.heap.size + 1 + 1, 0, none⟩ (.int .i64 0)).same D _ hK rfl
      refine ⟨by simp, .inl ⟨_, _, rfl, run_takeDeferred hK', ?_⟩⟩
      have hc5 := cell_kept (World.cell?_setCell_same' W ⟨w.heap.size + 1 + 1, 0, none⟩ (.int .i64 0) (by rw [hcr]; rfl)) (grownBy_putObj' _ D (.deferred none)) (fun r e => by cases e; exact ⟨_, hK', rfl⟩)
      refine ⟨.int .i64 0, by simp [results, Try.f24, go_sem, hc5], by rw [HVv.out], ext_of_below ((hBl.setCell (p := ⟨w.heap.size + 1 + 1, 0, none⟩) (by simp; omega) _).trans (belowK_b (w := w) (Nat.le_refl _) _ D _ _ (by simp at hD; omega) hK' rfl rfl))⟩
    case stop =>
      rintro D c pre W hD ⟨k', hk', hBk⟩ ⟨⟨rfl, ini, last, e1, e2, e3, hcr⟩, hBl⟩ hK
      have hv : cmpI a b = if n32 (gat xs last.1) < n32 (gat ys last.1) then -1 else 1 := by
        rw [← Hna.out, ← Hnb.out]
        rw [e1] at hBk
        obtain ⟨j, rfl, hBj, hlast⟩ := hBk.last
        exact cmp_first HLa.out HLb.out last.2 (fun i h1 h2 => by
          obtain ⟨x, hx, e⟩ := hBj.mem (j := la - 1 - i) (by omega) (by omega)
          rw [show la - 1 - (la - 1 - i) = i by omega] at e
          rw [← e]; exact e2 x hx) e3
      have HVv := hide hv
      clear hv
      gi_wp2
      refine ⟨by simp, .inl ⟨_, _, rfl, run_takeDeferred hK, ?_⟩⟩
      have hc5 := cell_kept hcr (grownBy_putObj' _ D (.deferred none)) (fun r e => by cases e; exact ⟨_, hK, rfl⟩)
      exact ⟨.int .i64 (if n32 (gat xs last.1) < n32 (gat ys last.1) then -1 else 1), by simp [results, Try.f24, go_sem, hc5], by rw [HVv.out], ext_of_below (hBl.trans (belowK_b (w := w) (Nat.le_refl _) _ D _ _ (by simp at hD; omega) hK rfl rfl))⟩
  · have hc : cmpI a b = 1 := by
      have := cmp_len (xs := ys) (ys := xs) (hlx ▸ hTa) (by omega)
      unfold cmpI; rw [if_neg (by omega), if_neg (by omega)]
    rw [hc]
    clear hc hna hnb hTa hTb hSa hSb hlx hly
    have hne : ((la : Int) != (lb : Int)) = true := by rw [bne_iff_ne]; omega
    have hne' : la ≠ lb := by omega
    have hle : ¬ la < lb := by omega
    gi_wp2
    exact ⟨.int .i64 1, (by simp [results, Try.f24, go_sem]), rfl, (by repeat (first | (with_reducible exact Upd.refl _ _) | (with_reducible assumption) | (refine Upd.setCell ?_ (.inr (by first | exact Nat.le_refl _ | (dsimp only; omega) | (simp; done) | (simp; omega))) _) | (with_reducible refine Upd.alloc ?_ _) | (with_reducible refine Upd.drew ?_) | (with_reducible refine Upd.trans ?_ (by with_reducible assumption))))⟩
theorem cmp_any (va vb : Value) (a b k : Nat) (w : World) (hVa : NatV w va a) (hVb : NatV w vb b) (hFa : Fit k a) (hFb : Fit k b) (hk : k ≤ 1000000) :
    Calls Try.prog 24 #[va, vb] w fun e W' => e = .returned (.int .i64 (cmpI a b)) ∧ Ext w W' :=
  (callsIn_wide (n := 3)).1 (cmp_in Fence.wide 3 trivial trivial trivial rfl (by omega) va vb a b k w hVa hVb hFa hFb hk)
end Go.Proofs.Ytekpjdfgpggcnaa
