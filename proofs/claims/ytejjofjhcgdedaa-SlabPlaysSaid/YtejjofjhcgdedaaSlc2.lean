/- Both slabs, the code's and the document's, in one memory. -/
import Derived.Test.YtejjofjhcgdedaaSlc1
namespace Go.Proofs.Ytejjofjhcgdedaa
set_option linter.unusedSimpArgs false
set_option linter.unusedVariables false
open Go.RowKit
open Sha
theorem Slb.keepT {w w' : World} {B : Nat} {D T : Nat → Prop} {g gl : Nat} {f : Nat → Value} {x : Slv} (h : Slb w B D g gl f x) (hu : Upd T w w') (h1 : ¬ T g) (h2 : ¬ T gl) (h3 : ∀ k, D k → ¬ T k) : Slb w' B D g gl f x :=
  ⟨h.cells.upd hu h1, h.rows.upd hu h2, fun i hi => (h.burnt i hi).keep hu h3, fun i hi => (h.ink i hi).keep hu h3,
    fun k hk => ⟨(h.data k hk).1, Nat.lt_of_lt_of_le (h.data k hk).2.1 hu.size, (h.data k hk).2.2⟩, h.lg, h.lgl, h.ne, h.len⟩
theorem Slb.rowsB {w : World} {B : Nat} {D : Nat → Prop} {g gl : Nat} {f : Nat → Value} {x : Slv} (h : Slb w B D g gl f x) : Blk w gl 74 (Array.ofFn fun i : Fin (2 * x.secs.length) => f i) := h.rows
theorem DslW.lower {w : World} {B B' g gb : Nat} {A : Option Addr} {c N : Nat} {d : Dsl} (h : DslW w B g gb A c N d) (hB : B' ≤ B) : DslW w B' g gb A c N d :=
  ⟨h.cells, h.burnt, ⟨h.inks.1, h.inks.2.imp id (fun ⟨g', cap, cur, hv, hb, r⟩ => ⟨g', cap, cur, hv, Nat.le_trans hB hb, r⟩)⟩, h.len, h.b64, h.i64, Nat.le_trans hB h.lg, Nat.le_trans hB h.lgb, h.max, h.few, h.sup, h.mad⟩
structure Duo (w0 w : World) (D : Nat → Prop) (g gl : Nat) (f : Nat → Value) (x : Slv) (gd gb : Nat) (A : Option Addr) (c N : Nat) (d : Dsl) : Prop where
  sl : Slb w w0.heap.size D g gl f x
  dl : DslW w w0.heap.size gd gb A c N d
  ap : ∀ k, D k → ¬ DT gd gb A k
  ext : Ext w0 w
section
variable {w0 w w' : World} {D : Nat → Prop} {g gl : Nat} {f : Nat → Value} {x : Slv} {gd gb : Nat} {A : Option Addr} {c N : Nat} {d : Dsl}
theorem Duo.sep (h : Duo w0 w D g gl f x gd gb A c N d) {k : Nat} (hk : DT gd gb A k) : k ≠ g ∧ k ≠ gl ∧ ¬ D k := by
  refine ⟨?_, ?_, fun hD => h.ap k hD hk⟩
  · rcases hk with rfl | rfl | hk
    · exact fun e => blk_ne h.sl.cells h.dl.cells (by decide) e.symm
    · exact fun e => blk_ne h.sl.cells h.dl.burnt (by decide) e.symm
    · rintro rfl
      exact ownK_blk h.dl.inks h.sl.cells (by decide) hk
  · rcases hk with rfl | rfl | hk
    · exact fun e => blk_ne h.sl.rowsB h.dl.cells (by decide) e.symm
    · exact fun e => blk_ne h.sl.rowsB h.dl.burnt (by decide) e.symm
    · rintro rfl
      exact ownK_blk h.dl.inks h.sl.rowsB (by decide) hk
theorem Duo.toC {y : Slv} {D' : Nat → Prop} {f' : Nat → Value} (h : Duo w0 w D g gl f x gd gb A c N d) (hS : Slb w' w0.heap.size D' g gl f' y) (hU : Upd (fun k => k = g ∨ k = gl) w w') (hD : ∀ k, D' k → D k ∨ w.heap.size ≤ k) : Duo w0 w' D' g gl f' y gd gb A c N d :=
  ⟨hS, h.dl.keep hU (fun k hk e => by
    have := h.sep hk
    rcases e with e | e
    · exact this.1 e
    · exact this.2.1 e), fun k hk ht => (hD k hk).elim (fun hd => h.ap k hd ht) (fun hl => by have := (h.dl.old ht).2; omega), upd_new hU h.ext (fun k hk => by rcases hk with rfl | rfl; exact h.sl.lg; exact h.sl.lgl)⟩
theorem Duo.toD {d' : Dsl} {A' : Option Addr} {c' : Nat} (h : Duo w0 w D g gl f x gd gb A c N d) (hS : DslW w' w0.heap.size gd gb A' c' N d') (hU : Upd (DT gd gb A) w w') (hA : ∀ k, inA A' k → inA A k ∨ w.heap.size ≤ k) : Duo w0 w' D g gl f x gd gb A' c' N d' :=
  ⟨h.sl.keepT hU (fun e => (h.sep e).1 rfl) (fun e => (h.sep e).2.1 rfl) (fun k hk e => h.ap k hk e), hS, fun k hk ht => by
    rcases ht with rfl | rfl | ht
    · exact h.ap _ hk (.inl rfl)
    · exact h.ap _ hk (.inr (.inl rfl))
    · rcases hA k ht with h1 | h1
      · exact h.ap _ hk (.inr (.inr h1))
      · have := (h.sl.data k hk).2.1; omega, upd_new hU h.ext (fun k hk => (h.dl.old hk).1)⟩
theorem Duo.keep (h : Duo w0 w D g gl f x gd gb A c N d) (hU : Ext w w') : Duo w0 w' D g gl f x gd gb A c N d :=
  ⟨h.sl.ext hU, h.dl.ext hU, h.ap, h.ext.trans hU⟩
/-- a block of another kind turns -/
theorem Duo.other {k0 : Nat} (h : Duo w0 w D g gl f x gd gb A c N d) (hU : Upd (only k0) w w') (h0 : w0.heap.size ≤ k0) (h1 : k0 ≠ g ∧ k0 ≠ gl) (h2 : ¬ D k0) (h3 : ¬ DT gd gb A k0) : Duo w0 w' D g gl f x gd gb A c N d :=
  ⟨h.sl.keepT hU (fun e => h1.1 (show g = k0 from e).symm) (fun e => h1.2 (show gl = k0 from e).symm) (fun k hk e => h2 (by have e : k = k0 := e; rw [← e]; exact hk)), h.dl.keep hU (fun k hk e => h3 (by have e : k = k0 := e; rw [← e]; exact hk)), h.ap, upd_new hU h.ext (fun k hk => by have hk : k = k0 := hk; omega)⟩
theorem Duo.blkC (h : Duo w0 w D g gl f x gd gb A c N d) {k : Nat} {t : TypeId} {cs : Array Value} (hb : Blk w k t cs) (ht : t ≠ 71 ∧ t ≠ 74) : ¬ (k = g ∨ k = gl) := by
  rintro (rfl | rfl)
  · exact blk_ne hb h.sl.cells ht.1 rfl
  · exact blk_ne hb h.sl.rowsB ht.2 rfl
theorem Duo.blkD (h : Duo w0 w D g gl f x gd gb A c N d) {k : Nat} {t : TypeId} {cs : Array Value} (hb : Blk w k t cs) (ht : t ≠ 52 ∧ t ≠ 83 ∧ 85 ≠ t) : ¬ DT gd gb A k := by
  rintro (rfl | rfl | hk)
  · exact blk_ne hb h.dl.cells ht.1 rfl
  · exact blk_ne hb h.dl.burnt ht.2.1 rfl
  · exact ownK_blk h.dl.inks hb ht.2.2 hk
theorem own8_blk {w : World} {B c k : Nat} {A : Option Addr} {xs : List Value} (h : Own w B 5 A c xs) (hk : inA A k) : ∃ cs, Blk w k 5 cs := by
  rcases h.2 with ⟨h0, _⟩ | ⟨g', cap, cur, hv, hb, hg, _⟩
  · injection h0 with h0; subst h0; simp [inA] at hk
  · injection hv with hA
    rw [hA] at hk
    simp [inA] at hk
    subst hk
    exact ⟨_, hg⟩
theorem Duo.own8C (h : Duo w0 w D g gl f x gd gb A c N d) {B c1 : Nat} {F : Option Addr} {xs : List Value} (hO : Own w B 5 F c1 xs) {k : Nat} (hk : inA F k) : ¬ (k = g ∨ k = gl) := by
  obtain ⟨cs, hb⟩ := own8_blk hO hk
  exact h.blkC hb ⟨by decide, by decide⟩
theorem Duo.own8D (h : Duo w0 w D g gl f x gd gb A c N d) {B c1 : Nat} {F : Option Addr} {xs : List Value} (hO : Own w B 5 F c1 xs) {k : Nat} (hk : inA F k) : ¬ DT gd gb A k := by
  obtain ⟨cs, hb⟩ := own8_blk hO hk
  exact h.blkD hb ⟨by decide, by decide, by decide⟩
def RetC (w0 w : World) (D : Nat → Prop) (g gl : Nat) (v : Value) (y : Slv) (gd gb : Nat) (A : Option Addr) (c N : Nat) (d : Dsl) (e : Ending) (w' : World) : Prop :=
  e = .returned v ∧ ∃ (D' : Nat → Prop) (f' : Nat → Value), Duo w0 w' D' g gl f' y gd gb A c N d ∧ (∀ k, D' k → D k ∨ w.heap.size ≤ k) ∧ Upd (fun k => k = g ∨ k = gl) w w'
def RetD (w0 w : World) (D : Nat → Prop) (g gl : Nat) (f : Nat → Value) (v : Value) (x : Slv) (gd gb : Nat) (A : Option Addr) (N : Nat) (d' : Dsl) (e : Ending) (w' : World) : Prop :=
  e = .returned v ∧ ∃ A' c', Duo w0 w' D g gl f x gd gb A' c' N d' ∧ Upd (DT gd gb A) w w'
theorem duo_ink (h : Duo w0 w D g gl f x gd gb A c N d) (hx : x.fit 1000000) (n : Int) (F : Option Addr) (l cf : Nat) (bs : List B8) (hS : Sl by8 w F bs) (hl : bs.length = l) (hlm : l ≤ 100000000) :
    Calls Try.prog 11 #[.pointer (some ⟨g, 0, none⟩), .int .i64 n, .slice F l cf] w (RetC w0 w D g gl (.int .i64 (x.inkE n l)) (x.inked n bs) gd gb A c N d) := by
  refine (sink_any _ D g gl f x n F l cf bs w h.sl hx hS hl hlm h.ext.size).mono ?_
  rintro e w' ⟨rfl, D', f', hS', hU, hD⟩
  exact ⟨rfl, D', f', h.toC hS' hU hD, hD, hU⟩
theorem duo_burn (h : Duo w0 w D g gl f x gd gb A c N d) (hx : x.fit 900000) :
    Calls Try.prog 13 #[.pointer (some ⟨g, 0, none⟩)] w (RetC w0 w D g gl (.int .i64 x.burnE) x.burnt gd gb A c N d) := by
  refine (sburn_any _ D g gl f x w h.sl hx h.ext.size).mono ?_
  rintro e w' ⟨rfl, f', hS', hU⟩
  exact ⟨rfl, D, f', h.toC hS' hU (fun k hk => .inl hk), fun k hk => .inl hk, hU⟩
theorem duo_supply (h : Duo w0 w D g gl f x gd gb A c N d) (n : Int) :
    Calls Try.prog 9 #[.pointer (some ⟨g, 0, none⟩), .int .i64 n] w (RetC w0 w D g gl (.tuple #[]) (x.supplied n) gd gb A c N d) := by
  refine (ssupply_any _ D g gl f x n w h.sl).mono ?_
  rintro e w' ⟨rfl, hS', hU⟩
  have hU' : Upd (fun k => k = g ∨ k = gl) w w' := hU.mono (fun _ _ h => .inl h)
  exact ⟨rfl, D, f, h.toC hS' hU' (fun k hk => .inl hk), fun k hk => .inl hk, hU'⟩
theorem duo_wake (h : Duo w0 w D g gl f x gd gb A c N d) (F : Option Addr) (n cf : Nat) (ss : List Sca) (hL : ScaL w F ss) (hn : ss.length = n) (hm : n ≤ maxLen) (hsep : ∀ i, i < ss.length → 0 < (gat ss i).l → ∀ k, inA (gat ss i).A k → k ≠ g ∧ k ≠ gl) :
    Calls Try.prog 10 #[.pointer (some ⟨g, 0, none⟩), .slice F n cf] w (RetC w0 w D g gl (.tuple #[]) (x.woken (scaV ss)) gd gb A c N d) := by
  refine (swake_any _ D g gl f x F n cf ss w h.sl hL hn hm hsep h.ext.size).mono ?_
  rintro e w' ⟨rfl, D', f', hS', hU, hD⟩
  exact ⟨rfl, D', f', h.toC hS' hU hD, hD, hU⟩
theorem duo_put (h : Duo w0 w D g gl f x gd gb A c N d) (n : Int) (F : Option Addr) (l cf : Nat) (bs : List B8) (hS : Sl by8 w F bs) (hl : bs.length = l) (hlm : l ≤ 100000000) (hm : d.made < 4611686018427387904) (hf : d.inks.length < 5000) :
    Calls Try.prog 21 #[.pointer (some ⟨gd, 0, none⟩), .int .i64 n, .slice F l cf] w (RetD w0 w D g gl f (.int .i64 (d.putE n l)) x gd gb A N (d.put n bs)) := by
  refine (rsput_any n F l cf bs h.dl hS hl hlm hm hf h.ext.size).mono ?_
  rintro e w' ⟨rfl, A', c', hS', hA, hU⟩
  exact ⟨rfl, A', c', h.toD hS' hU hA, hU⟩
theorem duo_burnD (h : Duo w0 w D g gl f x gd gb A c N d) (hm : d.made + d.inks.length < 4611686018427387904) (hkey : ∀ p ∈ d.inks, 0 ≤ p.1 ∧ p.1 < (N : Int)) :
    Calls Try.prog 23 #[.pointer (some ⟨gd, 0, none⟩)] w (RetD w0 w D g gl f (.int .i64 d.burn.2) x gd gb A N d.burn.1) := by
  refine (rsburn_any h.dl h.ext.size hm hkey).mono ?_
  rintro e w' ⟨rfl, A', c', hS', hA, hU⟩
  exact ⟨rfl, A', c', h.toD hS' hU hA, hU⟩
theorem duo_set (h : Duo w0 w D g gl f x gd gb A c N d) (n : Int) (hn : n ≤ 9223372036854775807) :
    Calls Try.prog 24 #[.pointer (some ⟨gd, 0, none⟩), .int .i64 n] w (RetD w0 w D g gl f (.tuple #[]) x gd gb A N (d.set n)) := by
  refine (rsset_any n hn h.dl).mono ?_
  rintro e w' ⟨rfl, hS', hU⟩
  have hU' : Upd (DT gd gb A) w w' := hU.mono (fun _ _ h => .inl h)
  exact ⟨rfl, A, c, h.toD hS' hU' (fun k hk => .inl hk), hU'⟩
theorem duo_wakeD (h : Duo w0 w D g gl f x gd gb A c N d) (F : Option Addr) (n cf : Nat) (ss : List Sca) (hL : ScaL w F ss) (hn : ss.length = n) (hm : n ≤ maxLen) (hkey : ∀ p ∈ d.inks, 0 ≤ p.1 ∧ p.1 < (N : Int)) (hsF : 0 < n → ¬ inA F gb) (hsA : ∀ i, i < ss.length → 0 < (gat ss i).l → ¬ inA (gat ss i).A gb) :
    Calls Try.prog 25 #[.pointer (some ⟨gd, 0, none⟩), .slice F n cf] w (RetD w0 w D g gl f (.tuple #[]) x gd gb A N (d.woken (scaV ss))) := by
  refine (rswake_any F n cf ss h.dl hL hn hm h.ext.size hkey hsF hsA).mono ?_
  rintro e w' ⟨rfl, hS', hU⟩
  exact ⟨rfl, none, 0, h.toD hS' hU (fun k hk => absurd hk (by simp [inA])), hU⟩
end
end Go.Proofs.Ytejjofjhcgdedaa
