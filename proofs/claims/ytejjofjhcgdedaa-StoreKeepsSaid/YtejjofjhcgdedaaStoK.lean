/- The law StoreKeeps: the last saving, plainly and walked. -/
import Derived.Test.YtejjofjhcgdedaaActF
namespace Go.Proofs.Ytejjofjhcgdedaa
set_option linter.unusedSimpArgs false
set_option linter.unusedVariables false
open Go.RowKit Go.Shelf
open Sha
attribute [local go_sem] steady steadyUpon Cls same_cell anyW str_eq
attribute [local irreducible] wpHead wpTree wpHeadR Sha.sum
theorem Slv.supplied_secs (x : Slv) (n : Int) : (x.supplied n).secs = x.secs := by unfold Slv.supplied; split <;> rfl
theorem Sto.FndS.same_ {x y : Slv} {k : Nat} {st : List B8} (h : Sto.FndS Sha.sum (Sto.faceN x) x.secs.length k st) (hS : 4 ≤ x.secs.length) (hs : Sto.SameS (fun _ => False) x y) : Sto.FndS Sha.sum (Sto.faceN y) x.secs.length k st := by
  by_cases h0 : Sto.faceN x ((k + 1) % 2) = zero64B
  · exact h.write Sha.sum sum_length hS (m := 0) (Nat.zero_le _) (hs.mono (fun _ _ h => h.elim)) h0
  · exact h.flag Sha.sum sum_length hS (hs.mono (fun _ _ h => h.elim)) h0
theorem Sto.FndS.wake {x : Slv} {S k : Nat} {st : List B8} (h : Sto.FndS Sha.sum (Sto.faceN x) S k st) (hl : x.secs.length = S) (hS : 4 ≤ S) (hc : Sto.CleanS x) (L : List (Int × List B8)) : Sto.FndS Sha.sum (Sto.faceN (x.woken L)) S k st := by
  subst hl
  exact h.same_ hS (Sto.woken_same L (fun i hi _ => hc i hi))
/-- how a saving ends, and what then wakes -/
def Sto.LastO (S m : Nat) (st next : List B8) (y : Slv) (er : Int) : Prop :=
  (er = 0 ∧ ∀ L, Sto.FndS Sha.sum (Sto.faceN (y.woken L)) S (m + 1) next) ∨ (er = 4 ∧ ∀ L, Sto.FndS Sha.sum (Sto.faceN (y.woken L)) S m st) ∨
    (er = 12 ∧ ∀ L, Sto.FndS Sha.sum (Sto.faceN (y.woken L)) S m st ∨ Sto.FndS Sha.sum (Sto.faceN (y.woken L)) S (m + 1) next)
theorem stlast_any (w0 : World) (g gl : Nat) (x : Slv) (S s k kk l c : Nat) (A : Option Addr) (st next : List B8) (w : World) (h : SlO w0 w g gl x) (hx : x.fit kk) (hkk : kk ≤ 700000) (hS : x.secs.length = S) (hS4 : 4 ≤ S) (hS2 : S ≤ 4096) (hB : Blk w s 92 (stcs g k false)) (hs : s ≠ g ∧ s ≠ gl ∧ w0.heap.size ≤ s)
    (hcl : Sto.CleanS x) (hf : Sto.FndS Sha.sum (Sto.faceN x) S k st) (hk : k + 1 < 18446744073709551616) (hA : Sl by8 w A next) (hl : next.length = l) (hlc : l ≤ c) (hcm : c ≤ maxLen) (hsep : ∀ b o, A = some ⟨b, o, none⟩ → ¬ (b = g ∨ b = gl)) :
    Calls Try.prog 30 #[.pointer (some ⟨s, 0, none⟩), .slice A l c] w fun e w' => ∃ y er, e = .returned (.int .i64 er) ∧ SlO w0 w' g gl y ∧ y.secs.length = S ∧ Upd (fun q => q = g ∨ q = gl ∨ q = s) w w' ∧ Sto.LastO S k st next y er := by
  by_cases hr : l ≤ 64 * ((S - 2) / 2) - 44
  · refine (stsave_any w0 g gl x S s k kk l c A st next w h hx hkk hS hS4 hS2 hB hs hcl hf hk hA hl hlc hcm hsep hr).mono ?_
    rintro e w' ⟨y, er, rfl, hS', hlen, hU, hfit, hen, ho⟩
    refine ⟨y, er, rfl, hS', hlen, hU, ?_⟩
    rcases ho with ⟨rfl, hc, hf', -⟩ | ⟨rfl, hf'⟩
    · exact .inl ⟨rfl, fun L => hf'.wake hlen hS4 hc L⟩
    · exact .inr (.inr ⟨rfl, hf'⟩)
  · refine (stsave_long w0 g gl x S s k l c A w h hS hS4 hS2 hB (by omega)).mono ?_
    rintro e w' ⟨rfl, rfl⟩
    exact ⟨x, 4, rfl, h, hS, Upd.refl _ _, .inr (.inl ⟨rfl, fun L => hf.wake hS hS4 hcl L⟩)⟩
theorem ScaL.sep {w : World} {A : Option Addr} {ss : List Sca} (h : ScaL w A ss) : ∀ i, i < ss.length → 0 < (gat ss i).l → ∀ k, inA (gat ss i).A k → k < w.heap.size := fun i hi h0 k hk => by
  obtain ⟨b, o, -, -, -, hok⟩ := h i hi
  obtain ⟨b2, o2, hA, hlt, -⟩ := hok.row.open_ (by rw [hok.len]; exact h0)
  rw [hA] at hk
  simp [inA] at hk
  rw [← hk]
  exact hlt
theorem AcL.ext {w w' : World} {A : Option Addr} {ds : List Ac} (h : AcL w A ds) (hE : Ext w w') : AcL w' A ds := fun i hi => by
  obtain ⟨b, o, e, hc, hok⟩ := h i hi
  refine ⟨b, o, e, fun j hj => ?_, ⟨hok.wk, hok.wn, hok.scars.ext hE, hok.len, hok.cap, hok.max⟩⟩
  have hcj := hc j hj
  match j, hj with
  | 0, _ => exact hE.cellv hcj
  | 1, _ => exact hE.cellv hcj
  | 2, _ => exact hE.cellv hcj
  | 3, _ => exact hE.cellv hcj
theorem StO.up {w0 w : World} {g gl s : Nat} {x : Slv} {S k kk kk' : Nat} {st : List B8} (h : StO w0 w g gl s x S k kk st) (hk : kk ≤ kk') : StO w0 w g gl s x S k kk' st :=
  ⟨h.slab, Slv.fit_up h.fit hk, h.clean, h.endless, h.len, h.fnd, h.blk, h.ne⟩
/-- an act of scars alone, in new memory -/
theorem act_new {w : World} {A : Option Addr} {n c : Nat} {ss : List Sca} (hL : ScaL w A ss) (hn : ss.length = n) (hc : n ≤ c) (hm : c ≤ maxLen) :
    AcL (w.alloc (.cells #[.int .i64 0, .int .i64 0, .int .u8 0, .slice A n c] 65)) (some ⟨w.heap.size, 0, none⟩) [⟨0, 0, 0, A, n, c, ss⟩] := fun i hi => by
  obtain rfl : i = 0 := by simpa using hi
  refine ⟨w.heap.size, 0, rfl, fun j hj => ?_, ⟨rfl, rfl, hL.ext ((Upd.refl _ _).alloc _), hn, hc, hm⟩⟩
  match j, hj with
  | 0, _ => simp [gat, Ac.cs]
  | 1, _ => simp [gat, Ac.cs]
  | 2, _ => simp [gat, Ac.cs]; rfl
  | 3, _ => simp [gat, Ac.cs]
end Go.Proofs.Ytejjofjhcgdedaa
