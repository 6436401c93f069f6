/- A slab, walked: Wake. -/
import Derived.Test.YtejjofjhcgdedaaSlbG
import Derived.Test.YtejjofjhcgdedaaScaD
import Derived.Test.YtejjofjhcgdedaaInOp
namespace Go.Proofs.Ytejjofjhcgdedaa
set_option linter.unusedSimpArgs false
set_option linter.unusedVariables false
open Go.RowKit
open Sha
attribute [local go_sem] steady steadyUpon Cls same_cell anyW
attribute [local go_sem] Oper.semAt_some
attribute [local irreducible] wpHead wpTree wpHeadR
/-- what a scar leaves on a sector -/
def scarB (ss : List Sca) (i : Nat) : List B8 := match lastSca ss i with | some s => onto zero64B s.bs | none => zero64B
def scarSec (s : Option (List B8) × Option (List B8)) (come : Bool) (b : List B8) : Option (List B8) × Option (List B8) :=
  match s.2 with
  | some k => if come then (some b, some k) else s
  | none => s
/-- the sectors of these keys bear their scars -/
def Slv.scarred (x : Slv) (ss : List Sca) (pre : List Int) : Slv := ⟨(List.range x.secs.length).map fun i => scarSec (gat x.secs i) (decide ((i : Int) ∈ pre)) (scarB ss i), x.endless, x.supply, x.strokes⟩
theorem Slv.scarred_len (x : Slv) (ss : List Sca) (pre : List Int) : (x.scarred ss pre).secs.length = x.secs.length := by unfold Slv.scarred; simp
theorem Slv.scarred_at (x : Slv) (ss : List Sca) (pre : List Int) {i : Nat} (h : i < x.secs.length) : gat (x.scarred ss pre).secs i = scarSec (gat x.secs i) (decide ((i : Int) ∈ pre)) (scarB ss i) := by
  unfold Slv.scarred
  rw [gat_lt (by simpa using h)]
  simp
theorem secsE {a b : List (Option (List B8) × Option (List B8))} (h : a.length = b.length) (hg : ∀ i, i < a.length → gat a i = gat b i) : a = b := by
  refine List.ext_getElem h fun i h1 h2 => ?_
  have := hg i h1
  rwa [gat_lt h1, gat_lt h2] at this
theorem Slv.scarred_nil (x : Slv) (ss : List Sca) : x.scarred ss [] = x := by
  have : (x.scarred ss []).secs = x.secs := secsE (x.scarred_len ss []) fun i hi => by
    rw [x.scarred_len] at hi
    rw [x.scarred_at ss [] hi]
    unfold scarSec
    split
    · simp
    · rfl
  show (⟨(x.scarred ss []).secs, x.endless, x.supply, x.strokes⟩ : Slv) = x
  rw [this]
theorem Slv.scarred_skip {x : Slv} {ss : List Sca} {pre : List Int} {n : Int} (h : ∀ i : Nat, i < x.secs.length → n = (i : Int) → (gat x.secs i).2 = none) : x.scarred ss (pre ++ [n]) = x.scarred ss pre := by
  have : (x.scarred ss (pre ++ [n])).secs = (x.scarred ss pre).secs := secsE ((x.scarred_len _ _).trans (x.scarred_len _ _).symm) fun i hi => by
    rw [x.scarred_len] at hi
    rw [x.scarred_at _ _ hi, x.scarred_at _ _ hi]
    by_cases hn : n = (i : Int)
    · unfold scarSec
      rw [h i hi hn]
    · have : decide ((i : Int) ∈ pre ++ [n]) = decide ((i : Int) ∈ pre) := by
        have hn' : ¬ (i : Int) = n := fun e => hn e.symm
        simp [hn']
      rw [this]
  show (⟨(x.scarred ss (pre ++ [n])).secs, x.endless, x.supply, x.strokes⟩ : Slv) = ⟨(x.scarred ss pre).secs, x.endless, x.supply, x.strokes⟩
  rw [this]
theorem Slv.scarred_put {x : Slv} {ss : List Sca} {pre : List Int} {i : Nat} (hi : i < x.secs.length) {k : List B8} (hk : (gat x.secs i).2 = some k) : x.scarred ss (pre ++ [(i : Int)]) = ⟨(x.scarred ss pre).secs.set i (some (scarB ss i), (gat (x.scarred ss pre).secs i).2), x.endless, x.supply, x.strokes⟩ := by
  have : (x.scarred ss (pre ++ [(i : Int)])).secs = (x.scarred ss pre).secs.set i (some (scarB ss i), (gat (x.scarred ss pre).secs i).2) := secsE (by rw [List.length_set]; exact (x.scarred_len _ _).trans (x.scarred_len _ _).symm) fun j hj => by
    rw [x.scarred_len] at hj
    rw [gat_setp _ _ _ _ (by rw [x.scarred_len]; exact hj), x.scarred_at _ _ hj]
    by_cases hij : i = j
    · subst hij
      rw [if_pos rfl, x.scarred_at _ _ hi]
      unfold scarSec
      rw [hk]
      dsimp only
      have h1 : decide ((i : Int) ∈ pre ++ [(i : Int)]) = true := by simp
      rw [h1, if_pos rfl]
      split
      · rfl
      · rw [hk]
    · rw [if_neg hij, x.scarred_at _ _ hj]
      have : decide ((j : Int) ∈ pre ++ [(i : Int)]) = decide ((j : Int) ∈ pre) := by
        have hn' : ¬ (j : Int) = (i : Int) := fun e => hij (by omega)
        have hn2 : ¬ j = i := fun e => hij e.symm
        simp [hn', hn2]
      rw [this]
  show (⟨(x.scarred ss (pre ++ [(i : Int)])).secs, x.endless, x.supply, x.strokes⟩ : Slv) = _
  rw [this]
/-- the ink of the first k sectors is gone -/
def Slv.clearK (x : Slv) (k : Nat) : Slv := ⟨(List.range x.secs.length).map fun i => if i < k then ((gat x.secs i).1, none) else gat x.secs i, x.endless, x.supply, x.strokes⟩
theorem Slv.clearK_len (x : Slv) (k : Nat) : (x.clearK k).secs.length = x.secs.length := by unfold Slv.clearK; simp
theorem Slv.clearK_at (x : Slv) (k : Nat) {i : Nat} (h : i < x.secs.length) : gat (x.clearK k).secs i = if i < k then ((gat x.secs i).1, none) else gat x.secs i := by
  unfold Slv.clearK
  rw [gat_lt (by simpa using h)]
  simp
theorem Slv.clearK_zero (x : Slv) : x.clearK 0 = x := by
  have : (x.clearK 0).secs = x.secs := secsE (x.clearK_len 0) fun i hi => by
    rw [x.clearK_len] at hi
    rw [x.clearK_at 0 hi, if_neg (by omega)]
  show (⟨(x.clearK 0).secs, x.endless, x.supply, x.strokes⟩ : Slv) = x
  rw [this]
theorem Slv.clearK_succ {x : Slv} {k : Nat} (hk : k < x.secs.length) : x.clearK (k + 1) = ⟨(x.clearK k).secs.set k ((gat (x.clearK k).secs k).1, none), x.endless, x.supply, x.strokes⟩ := by
  have : (x.clearK (k + 1)).secs = (x.clearK k).secs.set k ((gat (x.clearK k).secs k).1, none) := secsE (by rw [List.length_set]; exact (x.clearK_len _).trans (x.clearK_len _).symm) fun j hj => by
    rw [x.clearK_len] at hj
    rw [gat_setp _ _ _ _ (by rw [x.clearK_len]; exact hj), x.clearK_at _ hj, x.clearK_at _ hk, x.clearK_at _ hj]
    by_cases hkj : k = j
    · subst hkj
      rw [if_pos (by omega), if_pos rfl, if_neg (by omega)]
    · rw [if_neg hkj]
      by_cases h : j < k
      · rw [if_pos h, if_pos (by omega)]
      · rw [if_neg h, if_neg (by omega)]
  show (⟨(x.clearK (k + 1)).secs, x.endless, x.supply, x.strokes⟩ : Slv) = _
  rw [this]
theorem Slv.woken_is {x : Slv} {ss : List Sca} {xs : List Int} (h : ∀ n, n ∈ xs ↔ (lastSca ss n).isSome = true) : (⟨((x.scarred ss xs).clearK x.secs.length).secs, true, 0, x.strokes⟩ : Slv) = x.woken (scaV ss) := by
  have : ((x.scarred ss xs).clearK x.secs.length).secs = (x.woken (scaV ss)).secs := secsE (((x.scarred ss xs).clearK_len _).trans ((x.scarred_len _ _).trans (x.woken_len _).symm)) fun i hi => by
    rw [Slv.clearK_len, x.scarred_len] at hi
    rw [Slv.clearK_at _ _ (by rw [x.scarred_len]; exact hi), if_pos hi, x.scarred_at _ _ hi, x.woken_at _ hi, lastSca_bs]
    unfold scarSec wokeSec scarB
    have hh := h i
    cases (gat x.secs i).2 with
    | none => rfl
    | some k =>
      dsimp only
      cases hl : lastSca ss i with
      | none =>
        rw [hl] at hh
        have : decide ((i : Int) ∈ xs) = false := decide_eq_false (fun hm => by simpa using hh.1 hm)
        rw [this]; rfl
      | some s =>
        rw [hl] at hh
        have : decide ((i : Int) ∈ xs) = true := decide_eq_true (hh.2 rfl)
        rw [this]; rfl
  show _ = (⟨(x.woken (scaV ss)).secs, true, 0, x.strokes⟩ : Slv)
  rw [this]
section
variable {w w' : World} {B : Nat} {D : Nat → Prop} {g gl : Nat} {f : Nat → Value} {x : Slv} {row : Option Nat}
theorem upd_of_grown (hg : w.grownBy w' row) : Upd (fun k => row = some k) w w' := ⟨hg.os, hg.tape, hg.output, hg.size, fun k hk hn => hg.block k hk (fun e => hn e.symm)⟩
theorem not_row {r : Nat} {t : TypeId} {cs : Array Value} {p : Nat × Nat} (hr : ∀ r, row = some r → ∃ o : Obj, w.heap[r]? = some o ∧ o.isCells = false) (h : w.heap[r]? = some (.cells cs t p)) : ¬ row = some r := fun e => by
  obtain ⟨o, h1, h2⟩ := hr r e
  rw [h] at h1
  injection h1 with h1
  subst h1
  cases h2
theorem FaceOk.kept {v : Value} {o : Option (List B8)} (h : FaceOk w D v o) (hg : w.grownBy w' row) (hr : ∀ r, row = some r → ∃ o : Obj, w.heap[r]? = some o ∧ o.isCells = false) : FaceOk w' D v o := by
  cases o with
  | none => exact h
  | some bs =>
    obtain ⟨b, c, h1, h2, h3, h4, h5, h6⟩ := h
    refine ⟨b, c, h1, h2, h3, h4, h5, h6.upd (upd_of_grown hg) (fun b' o e => ?_)⟩
    injection e with e
    injection e with e _
    subst e
    intro er
    obtain ⟨b2, o2, e2, hc⟩ := h6 0 (by omega)
    injection e2 with e2
    injection e2 with e2 _
    subst e2
    obtain ⟨ob, h7, h8⟩ := hr _ er
    unfold World.cell? at hc
    rw [h7] at hc
    cases ob <;> simp [Obj.isCells] at h8 hc
theorem Slb.kept (h : Slb w B D g gl f x) (hg : w.grownBy w' row) (hr : ∀ r, row = some r → ∃ o : Obj, w.heap[r]? = some o ∧ o.isCells = false) : Slb w' B D g gl f x :=
  ⟨h.cells.upd (upd_of_grown hg) (not_row hr h.cells), h.rows.upd (upd_of_grown hg) (not_row hr h.rows), fun i hi => (h.burnt i hi).kept hg hr, fun i hi => (h.ink i hi).kept hg hr,
    fun k hk => ⟨(h.data k hk).1, Nat.lt_of_lt_of_le (h.data k hk).2.1 hg.size, (h.data k hk).2.2⟩, h.lg, h.lgl, h.ne, h.len⟩
theorem keeps_rows {t n : Nat} (hA : Arr w gl t n f) (hu : Upd (only gl) w w') : KeepsOthers w w' := ⟨hu.size, fun k o hk ho => by
  refine (hu.block k (Array.getElem?_eq_some_iff.1 hk).1 (fun e => ?_)).trans hk
  have e' : k = gl := e
  subst e'
  unfold Arr at hA
  rw [hA] at hk
  injection hk with hk
  subst hk
  cases ho⟩
end
def RetWake (w : World) (B : Nat) (D : Nat → Prop) (g gl : Nat) (y : Slv) (e : Ending) (w' : World) : Prop :=
  e = .returned (.tuple #[]) ∧ ∃ (D' : Nat → Prop) (f' : Nat → Value), Slb w' B D' g gl f' y ∧ Upd (fun k => k = g ∨ k = gl) w w' ∧ ∀ k, D' k → D k ∨ w.heap.size ≤ k
/-- what the rounds over the keys keep -/
structure WkI (w : World) (B : Nat) (D : Nat → Prop) (g gl n : Nat) (x : Slv) (ss : List Sca) (pre : List Int) (W : World) : Prop where
  slab : ∃ (D' : Nat → Prop) (f' : Nat → Value), Slb W B D' g gl f' (x.scarred ss pre) ∧ ∀ k, D' k → D k ∨ w.heap.size ≤ k
  upd : Upd (fun k => k = g ∨ k = gl) w W
  self : W.cell? ⟨w.heap.size, 0, none⟩ = some (.pointer (some ⟨g, 0, none⟩))
  last : W.cell? ⟨w.heap.size + 1 + 1, 0, none⟩ = some (.map (some (w.heap.size + 1)))
  map : W.ownsMap Try.prog 3 heldV (w.heap.size + 1) n (scaD ss)
theorem WkI.own {w : World} {B : Nat} {D : Nat → Prop} {g gl n : Nat} {x : Slv} {ss : List Sca} {M : Nat} (hM : w.heap.size + 1 < M) : OwnFrom M (WkI w B D g gl n x ss) := fun pre W W' row h hg hr => by
  have hr' : ∀ r, row = some r → ∃ o : Obj, W.heap[r]? = some o ∧ o.isCells = false := fun r e => (hr r e).2
  obtain ⟨⟨D', f', h1, h2⟩, h3, h4, h5, h6⟩ := h
  exact ⟨⟨D', f', h1.kept hg hr', h2⟩, h3.grown hg (fun k e => .inr (by have := (hr k e).1; omega)), cell_kept h4 hg hr', cell_kept h5 hg hr', h6.kept hg (fun e => by have := (hr _ e.symm).1; omega)⟩
set_option maxRecDepth 100000 in
set_option maxHeartbeats 2000000 in
theorem swake_any (B : Nat) (D : Nat → Prop) (g gl : Nat) (f : Nat → Value) (x : Slv) (A : Option Addr) (n c : Nat) (ss : List Sca) (w : World) (h : Slb w B D g gl f x) (hL : ScaL w A ss) (hn : ss.length = n) (hm : n ≤ maxLen)
    (hsep : ∀ i, i < ss.length → 0 < (gat ss i).l → ∀ k, inA (gat ss i).A k → k ≠ g ∧ k ≠ gl) (hB : B ≤ w.heap.size) :
    Calls Try.prog 10 #[.pointer (some ⟨g, 0, none⟩), .slice A n c] w (RetWake w B D g gl (x.woken (scaV ss))) := by
  have H := hide h
  have HL := hide hL
  have Hn := hide hn
  have Hm := hide hm
  have Hsep := hide hsep
  have HB := hide hB
  have hm9 : n ≤ 9223372036854775807 := by unfold maxLen at hm; omega
  clear h hL hn hm hsep hB
  obtain ⟨N, hN⟩ : ∃ N, N = x.secs.length := ⟨_, rfl⟩
  have hN4 : N ≤ 4096 := by rw [hN]; exact H.out.len
  have HN := hide hN
  clear hN
  have hmm := @run_makeMap Try.prog
  refine (callsIn_wide (n := 3)).1 ?_
  refine callsIn_of_wp_marks Try.func10 rfl trivial ?_ rfl
  refine wpIn_wide.2 ?_
  simp only [Try.ntmps10, List.size_toArray, List.length_cons, List.length_nil, Nat.reduceAdd, Nat.reduceSub, Array.replicate_succ, Array.replicate_zero, List.push_toArray, List.append_toArray, List.nil_append, List.cons_append]
  go_wp2_with fail
  go_loopw [15] (fun i wr => ∃ k : Nat, k ≤ n ∧ i = .int .i64 (k : Int) ∧ wr.cell? ⟨w.heap.size, 0, none⟩ = some (.pointer (some ⟨g, 0, none⟩)) ∧ wr.cell? ⟨w.heap.size + 1 + 1, 0, none⟩ = some (.map (some (w.heap.size + 1))) ∧ w.heap.size + 1 + 1 < wr.heap.size ∧
    wr.ownsMap Try.prog 3 heldV (w.heap.size + 1) k (scaD (ss.take k)) ∧ Ext w wr) (fun i _ => n - (Go.RowKit.intOf i).toNat)
  case atStart =>
    refine ⟨0, Nat.zero_le _, rfl, ?_, ?_, by simp, ?_, (by repeat (first | (with_reducible exact Upd.refl _ _) | (with_reducible assumption) | (refine Upd.setCell ?_ (.inr (by first | exact Nat.le_refl _ | (dsimp only; omega) | (simp; done) | (simp; omega))) _) | (with_reducible refine Upd.alloc ?_ _) | (with_reducible refine Upd.drew ?_) | (with_reducible refine Upd.trans ?_ (by with_reducible assumption))))⟩
    · go_simp
    · go_simp
    · have h1 := (World.ownsMap_made (w.alloc (.cells #[.pointer (some ⟨g, 0, none⟩)] 23)) Try.prog 3 heldV)
      rw [World.size_alloc] at h1
      exact h1.alloc _
  case round =>
    obtain ⟨k, hk, rfl, cS, cL, hsz, hM, hE⟩ := hrel
    have HM := hide hM
    have HE := hide hE
    have Hsz := hide hsz
    clear hM hE hsz
    by_cases hlt : k < n
    case pos =>
      have hltI : (k : Int) < (n : Int) := by omega
      obtain ⟨b, o, rfl, q0, q1, hok⟩ := (HL.out.ext HE.out) k (by rw [Hn.out]; exact hlt)
      obtain ⟨s, hs⟩ : ∃ s, s = gat ss k := ⟨_, rfl⟩
      rw [← hs] at q0 q1 hok
      have hwf := hok.wf
      have hput : Hid (scaD (ss.take (k + 1)) = (scaD (ss.take k)).put (.int .i64 s.n) (.held (.slice s.A s.l s.c))) := hide (by
        have e : ss.take (k + 1) = ss.take k ++ [s] := by
          rw [List.take_succ_eq_append_getElem (by rw [Hn.out]; exact hlt), hs, gat_lt (by rw [Hn.out]; exact hlt)]
        rw [e, scaD_snoc]; rfl)
      obtain ⟨sn, hsn⟩ : ∃ z, z = s.n := ⟨_, rfl⟩
      obtain ⟨sA, hsA⟩ : ∃ z, z = s.A := ⟨_, rfl⟩
      obtain ⟨sl, hsl⟩ : ∃ z, z = s.l := ⟨_, rfl⟩
      obtain ⟨sc, hsc⟩ : ∃ z, z = s.c := ⟨_, rfl⟩
      rw [← hsn, ← hsA, ← hsl, ← hsc] at hput
      rw [← hsn] at q0 hwf
      rw [← hsA, ← hsl, ← hsc] at q1
      clear hs hok hsn hsA hsl hsc
      have hkm : k < maxLen := by have := Hm.out; omega
      have Hkm := hide hkm
      clear hkm
      have cS4 : (wr.alloc (.cells #[.int .i64 sn, .slice sA sl sc] 77)).cell? ⟨w.heap.size, 0, none⟩ = some (.pointer (some ⟨g, 0, none⟩)) := (show Ext wr _ from (Upd.refl _ _).alloc _).cellv cS
      have cL4 : (wr.alloc (.cells #[.int .i64 sn, .slice sA sl sc] 77)).cell? ⟨w.heap.size + 1 + 1, 0, none⟩ = some (.map (some (w.heap.size + 1))) := (show Ext wr _ from (Upd.refl _ _).alloc _).cellv cL
      go_wp2_with (at_mapUpdate; go_must (refine wpList_mapUpdate_own _ rfl _ _ _ 75 rfl 3 26 (Maps.int_keyed Try.kInt) Try.kMap heldV (w.heap.size + 1) k _ rfl (HM.out.alloc _) Hkm.out _ _ (.int .i64 sn) rfl rfl (Maps.keyOf_int_mk Try.kInt hwf) (.held (.slice sA sl sc)) [] rfl ?_); intro w5 hM5 hgr5)
      have cS5 := hgr5.cell (a := ⟨w.heap.size, 0, none⟩) cS4 (by simp)
      have cL5 := hgr5.cell (a := ⟨w.heap.size + 1 + 1, 0, none⟩) cL4 (by simp)
      have hsz5 := hgr5.size
      have hE5 : Ext w w5 := (HE.out.alloc (.cells #[.int .i64 sn, .slice sA sl sc] 77)).grown hgr5 (fun k e => by injection e with e; exact .inr (by omega))
      rw [World.size_alloc] at hsz5
      have HM5 := hide hM5
      have HE5 := hide hE5
      clear hM5 hgr5 hE5
      go_wp2_with fail
      go_roundw
      case rel => exact ⟨k + 1, by omega, by go_num, cS5, cL5, by have := Hsz.out; omega, by rw [hput.out]; exact HM5.out, HE5.out⟩
      case measure => simp [Go.RowKit.intOf]; omega
    case neg =>
      obtain rfl : k = n := by omega
      have hltI : ¬ ((k : Int) < (k : Int)) := by omega
      have hD : Hid (ss.take k = ss) := hide (List.take_of_length_le (by rw [Hn.out]; exact Nat.le_refl _))
      go_wp2_with fail
      refine (keys_any (some (w.heap.size + 1)) wr).mono ?_
      rintro e w2 ⟨rfl, hw2⟩
      have hM0 : w2.ownsMap Try.prog 3 heldV (w.heap.size + 1) k (scaD ss) := by
        have := HM.out
        rw [hD.out] at this
        rw [hw2]; exact this.alloc _
      have cS2 : w2.cell? ⟨w.heap.size, 0, none⟩ = some (.pointer (some ⟨g, 0, none⟩)) := by rw [hw2]; exact (show Ext wr _ from (Upd.refl _ _).alloc _).cellv cS
      have cL2 : w2.cell? ⟨w.heap.size + 1 + 1, 0, none⟩ = some (.map (some (w.heap.size + 1))) := by rw [hw2]; exact (show Ext wr _ from (Upd.refl _ _).alloc _).cellv cL
      have cB : w2.cell? ⟨wr.heap.size, 0, none⟩ = some (.map (some (w.heap.size + 1))) := by rw [hw2]; exact (Blk.new wr _ _).at 0 rfl
      have hE2 : Ext w w2 := by rw [hw2]; exact HE.out.alloc _
      have hz2 : w2.heap.size = wr.heap.size + 1 := by rw [hw2]; simp
      have HM0 := hide hM0
      have HE2 := hide hE2
      have Hz2 := hide hz2
      clear hM0 hE2 hz2 hw2 cS cL HM HE
      go_wp2_with fail
      have hlt2 : wr.heap.size < w2.heap.size := by rw [Hz2.out]; omega
      refine wp_rangeW (fun z : Int => #[encZ z]) (Go.Maps.size (scaD ss)) _ _ rfl (enters_of Try.func51 (by kernel_rfl) rfl)
        (keys_stops Fence.wide 2 trivial rfl (by omega) wr.heap.size (w.heap.size + 1) k (scaD ss) w2 hlt2 cB HM0.out) (fun _ => rfl)
        (WkI w B D g gl k x ss) ?hI ?h0 ?hb ?done
      case hI => exact WkI.own (by rw [Hz2.out]; have := Hsz.out; omega)
      case h0 => exact ⟨⟨D, f, by rw [Slv.scarred_nil]; exact H.out.ext HE2.out, fun k hk => .inl hk⟩, HE2.out.mono (fun _ _ h => h.elim), cS2, cL2, HM0.out⟩
      case hb =>
        apply Exists.intro
        refine And.intro (fun l z W K hK => ?_) (fun l pre z W hi hpl => ?_)
        · dsimp only [encZ]
          gi_wp2
          exact hK
        · obtain ⟨⟨D', f', hS, hD'⟩, hU, c0, c1, hM⟩ := hi
          have hSl : (x.scarred ss pre).secs.length = N := by rw [x.scarred_len]; exact HN.out.symm
          have p0 : W.cell? ⟨g, 0, none⟩ = some (.slice (some ⟨gl, 0, none⟩) N N) := by have h := hS.cells.at 0 rfl; rw [hSl] at h; exact h
          have HS := hide hS
          have HU := hide hU
          have HD' := hide hD'
          have HM := hide hM
          have HSl := hide hSl
          clear hS hU hD' hM hSl hpl
          by_cases hz0 : z < 0
          · have hsk : Hid (x.scarred ss (pre ++ [z]) = x.scarred ss pre) := hide (Slv.scarred_skip (fun i _ e => by omega))
            gi_wp2
            exact ⟨KeepsFrom.refl _ _, KeepsWalks.refl _, ⟨⟨D', f', by rw [hsk.out]; exact HS.out, HD'.out⟩, HU.out, c0, c1, HM.out⟩⟩
          by_cases hzN : (N : Int) ≤ z
          · have hsk : Hid (x.scarred ss (pre ++ [z]) = x.scarred ss pre) := hide (Slv.scarred_skip (fun i hi e => by have := HN.out; omega))
            gi_wp2
            exact ⟨KeepsFrom.refl _ _, KeepsWalks.refl _, ⟨⟨D', f', by rw [hsk.out]; exact HS.out, HD'.out⟩, HU.out, c0, c1, HM.out⟩⟩
          obtain ⟨i, rfl⟩ : ∃ i : Nat, z = (i : Int) := ⟨z.toNat, by omega⟩
          have hiN : i < N := by omega
          have hiI : (i : Int) < (N : Int) := by omega
          have K1 := hide (HS.out.ink i (by rw [HSl.out]; exact hiN))
          have r1 : W.cell? ⟨gl, i * 2 + 1, none⟩ = some (f' (2 * i + 1)) := by rw [Nat.mul_comm i 2]; exact HS.out.rows.cell (by rw [HSl.out]; omega)
          have hik : (gat (x.scarred ss pre).secs i).2 = (gat x.secs i).2 := by
            rw [x.scarred_at _ _ (by rw [← HN.out]; exact hiN)]
            unfold scarSec
            split
            · split
              · rename_i h _; exact h.symm
              · rfl
            · rfl
          have Hik := hide hik
          clear hik
          obtain ⟨ik, hs⟩ : ∃ s, s = (gat x.secs i).2 := ⟨_, rfl⟩
          have Hs := hide hs
          clear hs
          cases ik with
          | none =>
            have k1 : f' (2 * i + 1) = .slice none 0 0 := by have := K1.out; rw [Hik.out, ← Hs.out] at this; exact this
            rw [k1] at r1
            have hsk0 : ∀ j : Nat, j < x.secs.length → (i : Int) = (j : Int) → (gat x.secs j).2 = none := fun j hj e => by
              obtain rfl : i = j := by omega
              exact Hs.out.symm
            have hsk : Hid (x.scarred ss (pre ++ [(i : Int)]) = x.scarred ss pre) := hide (Slv.scarred_skip hsk0)
            clear hsk0
            clear k1
            gi_wp2
            exact ⟨KeepsFrom.refl _ _, KeepsWalks.refl _, ⟨⟨D', f', by rw [hsk.out]; exact HS.out, HD'.out⟩, HU.out, c0, c1, HM.out⟩⟩
          | some b =>
            obtain ⟨bb, bc, k1, -⟩ : ∃ bb c, f' (2 * i + 1) = .slice (some ⟨bb, 0, none⟩) 64 c ∧ b.length = 64 ∧ 64 ≤ c ∧ c ≤ maxLen ∧ D' bb ∧ Sl by8 W (some ⟨bb, 0, none⟩) b := by have := K1.out; rw [Hik.out, ← Hs.out] at this; exact this
            rw [k1] at r1
            clear k1
            obtain ⟨vA, vl, vc, vb, hat, hvb, hvS, hvl⟩ : ∃ (vA : Option Addr) (vl vc : Nat) (vb : List B8), (scaD ss).atKey (.int .i64 (i : Int)) (.held (.slice none 0 0)) = .held (.slice vA vl vc) ∧ scarB ss i = onto zero64B vb ∧ Sl by8 W vA vb ∧ vb.length = vl := by
              have hh := (scaD_at (i : Int) (.held (.slice none 0 0)) ss.length ss rfl).2
              cases hl : lastSca ss (i : Int) with
              | none =>
                rw [hl] at hh
                refine ⟨none, 0, 0, [], hh, ?_, Sl.nil, rfl⟩
                unfold scarB
                rw [hl, onto_nil]
              | some s =>
                rw [hl] at hh
                obtain ⟨j, hj, hsj, -⟩ := lastSca_in hl
                obtain ⟨-, -, -, -, -, hok⟩ := HL.out j hj
                rw [hsj] at hok
                have hsp := Hsep.out j hj
                rw [hsj] at hsp
                refine ⟨s.A, s.l, s.c, s.bs, hh, by unfold scarB; rw [hl], ?_, hok.len⟩
                rcases Nat.eq_zero_or_pos s.l with h0 | h0
                · have : s.bs = [] := List.length_eq_zero_iff.1 (hok.len.trans h0)
                  rw [this]
                  exact fun i hi => absurd hi (by simp)
                · exact (hok.upd HU.out (fun k hk hor => hor.elim (hsp h0 k hk).1 (hsp h0 k hk).2)).row
            have hput := Slv.scarred_put (ss := ss) (pre := pre) (show i < x.secs.length by rw [← HN.out]; exact hiN) Hs.out.symm
            rw [hvb] at hput
            have hwf : (Lit.int .i64 (i : Int)).wf = true := by simp [Lit.wf, IntKind.min, IntKind.max, IntKind.signed, IntKind.bits]; omega
            have Hput := hide hput
            have Hat := hide hat
            have HvS := hide hvS
            have Hvl := hide hvl
            have Hwf := hide hwf
            clear hput hat hvS hvl hwf hvb
            gi_wp2_with (first
              | (gi_at_make; refine wpListIn_mk _ _ Try.el8 rfl rfl 64 rfl rfl rfl rfl (by omega) (by unfold maxLen; omega) by8 rfl rfl (B := W.heap.size) (Nat.le_refl _) ?_
                 rintro g2 W2 hO2 rfl hU2
                 have p2 := hU2.cellv p0
                 have c2 := hU2.cellv c0
                 have d2 := hU2.cellv c1
                 have HM2 := hide (show W2.ownsMap Try.prog 3 heldV (w.heap.size + 1) k (scaD ss) from HM.out.kept (row := none) ⟨hU2.os, hU2.tape, hU2.output, hU2.size, fun k hk _ => hU2.block k hk (fun h => h)⟩ (by simp))
                 have HO2 := hide hO2
                 have HU2 := hide hU2
                 clear hO2 hU2)
              | (gi_at_lookup; refine wpListIn_lookup_held rfl _ _ 75 rfl 3 26 (Maps.int_keyed Try.kInt) Try.kMap (Try.zeroValue26 _) (w.heap.size + 1) k (scaD ss) rfl HM2.out _ (.int .i64 (i : Int)) rfl (Maps.keyOf_int_mk Try.kInt Hwf.out) _ Hat.out ?_)
              | (refine wpListIn_copy_onto by8 one8 zero64B vb rfl rfl Try.under_bs Try.sz8 rfl rfl (HvS.out.ext HU2.out) Hvl.out (show zero64B.length = 64 by kernel_rfl) HO2.out ?_
                 intro W3 hO3 hU3
                 have hE3 : Ext W W3 := upd_new hU3 HU2.out (fun k hk => by have : k = W.heap.size := hk; omega)
                 have p3 := hE3.cellv p0
                 have c3 := hE3.cellv c0
                 have d3 := hE3.cellv c1
                 have hS3 := HS.out.ext hE3
                 have z3 : W3.cell? ⟨gl, i * 2, none⟩ = some (f' (2 * i)) := by rw [Nat.mul_comm i 2]; exact hS3.rows.cell (by rw [HSl.out]; omega)
                 have y3 := hS3.rows.frozen (i * 2)
                 have HS3 := hide hS3
                 have HO3 := hide hO3
                 have HE3 := hide hE3
                 clear hO3 hU3 hE3 hS3))
            have hE3 := HE3.out
            have hsz3 := hE3.size
            have hO3 := HO3.out
            obtain ⟨gq, hgq, hb3, hb3l⟩ := hO3.open_ (by rw [List.length_map, onto_length]; decide)
            have hgg : gq = W.heap.size := by injection hgq with h; injection h with h; exact h.symm
            subst hgg
            have hg3 := HS.out.cells.lt
            have hgl3 := HS.out.rows.lt
            have hBW : B ≤ W.heap.size := Nat.le_trans HB.out HU.out.size
            have hwW := HU.out.size
            have hM1 := HS3.out.moreD (D' := fun q => D' q ∨ q = W.heap.size) (fun q hq => .inl hq) (fun q hq => by
              rcases hq with hq | rfl
              · exact HS3.out.data q hq
              · exact ⟨hBW, hb3l, by omega, by omega⟩)
            obtain ⟨hS5, hU5⟩ := hM1.setB (i := i) (v := .slice (some ⟨W.heap.size, 0, none⟩) 64 64) (o := some (onto zero64B vb)) (by rw [HSl.out]; exact hiN) ⟨W.heap.size, 64, rfl, by rw [onto_length]; decide, Nat.le_refl _, by decide, .inr rfl, hO3.sl⟩
            have hU6 : Upd (only gl) W (W3.setCell ⟨gl, i * 2, none⟩ (.slice (some ⟨W.heap.size, 0, none⟩) 64 64)) := by
              rw [Nat.mul_comm i 2]
              exact (hE3.mono (fun _ _ h => h.elim)).trans hU5
            have hK6 := keeps_rows HS.out.rows hU6
            refine ⟨hK6.from _, hK6.walks, ⟨⟨fun q => D' q ∨ q = W.heap.size, put1 f' (2 * i) (.slice (some ⟨W.heap.size, 0, none⟩) 64 64), ?_, fun q hq => ?_⟩, HU.out.trans' hU6 (fun q _ h => .inr h), ?_, ?_, ?_⟩⟩
            · rw [Hput.out, Nat.mul_comm i 2]
              exact hS5
            · rcases hq with hq | rfl
              · exact HD'.out q hq
              · exact .inr hwW
            · exact (hU6.cell (p := ⟨w.heap.size, 0, none⟩) (World.block_lt_of_cell? W _ c0) (fun e => by have e' : w.heap.size = gl := e; have := H.out.rows.lt; omega)).trans c0
            · exact (hU6.cell (p := ⟨w.heap.size + 1 + 1, 0, none⟩) (World.block_lt_of_cell? W _ c1) (fun e => by have e' : w.heap.size + 1 + 1 = gl := e; have := H.out.rows.lt; omega)).trans c1
            · exact HM.out.kept (row := some gl) ⟨hU6.os, hU6.tape, hU6.output, hU6.size, fun q hq hn => hU6.block q hq (fun e => hn (by have e' : q = gl := e; rw [e']))⟩ (fun e => by injection e with e; have := H.out.rows.lt; omega)
      case done =>
        rintro D1 xs W hD1 ⟨-, hxs⟩ ⟨⟨D', f', hS, hD'⟩, hU, c0, c1, hM⟩ hK
        have hxs' : ∀ q, q ∈ xs ↔ (lastSca ss q).isSome = true := fun q => by rw [hxs q, (scaD_at q (.held (.slice none 0 0)) ss.length ss rfl).1]
        have Hxs := hide hxs'
        have hSl : (x.scarred ss xs).secs.length = N := by rw [x.scarred_len]; exact HN.out.symm
        have p0 : W.cell? ⟨g, 0, none⟩ = some (.slice (some ⟨gl, 0, none⟩) N N) := by have h := hS.cells.at 0 rfl; rw [hSl] at h; exact h
        have HS := hide hS
        have HU := hide hU
        have HD' := hide hD'
        have HSl := hide hSl
        clear hS hU hD' hM hSl hxs hxs' c1
        go_wp2_with fail
        have hwW := HU.out.size
        have hgw := H.out.cells.lt
        have hglw := H.out.rows.lt
        have hW0 : w.heap.size < W.heap.size := World.block_lt_of_cell? W _ c0
        have HK := hide hK
        clear hK p0
        go_loopw [69] (fun i wx => ∃ (j : Nat) (f'' : Nat → Value), j ≤ N ∧ i = .int .i64 (j : Int) ∧ Slb wx B D' g gl f'' ((x.scarred ss xs).clearK j) ∧ Upd (only gl) W wx) (fun i _ => N - (Go.RowKit.intOf i).toNat)
        case atStart => exact ⟨0, f', Nat.zero_le _, rfl, by rw [Slv.clearK_zero]; exact HS.out, Upd.refl _ _⟩
        case round =>
          obtain ⟨j, f'', hj, rfl, hS, hUx⟩ := hrel
          have hl2 : ((x.scarred ss xs).clearK j).secs.length = N := by rw [Slv.clearK_len]; exact HSl.out
          have e0 : wr.cell? ⟨w.heap.size, 0, none⟩ = some (.pointer (some ⟨g, 0, none⟩)) := (hUx.cell (p := ⟨w.heap.size, 0, none⟩) hW0 (fun e => by have e' : w.heap.size = gl := e; omega)).trans c0
          have HS2 := hide hS
          have HUx := hide hUx
          have Hl2 := hide hl2
          clear hS hUx hl2
          by_cases hlt : j < N
          case pos =>
            have hltI : (j : Int) < (N : Int) := by omega
            have p0 : wr.cell? ⟨g, 0, none⟩ = some (.slice (some ⟨gl, 0, none⟩) N N) := by have h := HS2.out.cells.at 0 rfl; rw [Hl2.out] at h; exact h
            have z3 : wr.cell? ⟨gl, j * 2 + 1, none⟩ = some (f'' (2 * j + 1)) := by rw [Nat.mul_comm j 2]; exact HS2.out.rows.cell (by rw [Hl2.out]; omega)
            have y3 := HS2.out.rows.frozen (j * 2 + 1)
            obtain ⟨hS5, hU5⟩ := HS2.out.setI (i := j) (v := .slice none 0 0) (o := none) (by rw [Hl2.out]; exact hlt) (show FaceOk wr D' (.slice none 0 0) none from rfl)
            have hS6 := hS5
            rw [Nat.mul_comm 2 j] at hS6 hU5
            have hcl : Hid ((x.scarred ss xs).clearK (j + 1) = ⟨((x.scarred ss xs).clearK j).secs.set j ((gat ((x.scarred ss xs).clearK j).secs j).1, none), x.endless, x.supply, x.strokes⟩) := hide (Slv.clearK_succ (by rw [HSl.out]; exact hlt))
            have HS6 := hide hS6
            have HU5 := hide hU5
            clear hS5 hS6 hU5
            go_wp2_with fail
            go_roundw
            case rel => exact ⟨j + 1, _, by omega, by go_num, by rw [hcl.out]; exact HS6.out, HUx.out.trans HU5.out⟩
            case measure => simp [Go.RowKit.intOf]; omega
          case neg =>
            obtain rfl : j = N := by omega
            have hltI : ¬ ((j : Int) < (j : Int)) := by omega
            have kq := fun y : Wd (Upd (only g) wr.drew) => (y.ok.cell (p := ⟨w.heap.size, 0, none⟩) (World.block_lt_of_cell? wr _ e0) (fun e => by have e' : w.heap.size = g := e; omega)).trans e0
            have a1 : wr.cell? ⟨g, 1, none⟩ = some (.bool x.endless) := HS2.out.cells.at 1 rfl
            have a2 : wr.cell? ⟨g, 2, none⟩ = some (.int .i64 x.supply) := HS2.out.cells.at 2 rfl
            have f1 := HS2.out.cells.frozen 1
            have f2 := HS2.out.cells.frozen 2
            go_wp2_with fail
            refine wp_region_plan (Upd (only g) _) 7 [(false,0), (false,1), (false,2), (false,3), (true,4), (false,5), (false,6)] (by kernel_rfl) (by kernel_rfl) (Upd.refl _ _) (fun hne => ?_)
            repeat (refine head_q rfl (fun K hK => ?_); have hK2 := hide hK; clear hK; go_simp; refine hK2.out _ ?_; clear hK2 K)
            refine head_l rfl ?_
            go_wp2_with fail
            refine ⟨Cls (Upd (only g) wr.drew), fun _ h => h, ⟨⟨_, (Upd.refl (only g) _).setCell (p := ⟨g, 1, none⟩) (.inl rfl) _⟩, rfl⟩, ?_⟩
            repeat (refine head_q rfl (fun K hK => ?_); have hK2 := hide hK; clear hK; go_simp; refine hK2.out _ ?_; clear hK2 K)
            refine head_nil ?_
            try simp only [List.drop_succ_cons, List.drop_zero]
            go_wp2_with fail
            have hSf : Slb ((wr.drew.setCell ⟨g, 1, none⟩ (.bool true)).setCell ⟨g, 2, none⟩ (.int .i64 0)) B D' g gl f'' (x.woken (scaV ss)) := by
              have h1 := (HS2.out.ext (Upd.refl _ _).drew).set (x' := ⟨((x.scarred ss xs).clearK j).secs, true, 0, x.strokes⟩) rfl (((Upd.refl _ _).setCell (T := only g) (p := ⟨g, 1, none⟩) (.inl rfl) (.bool true)).setCell (T := only g) (p := ⟨g, 2, none⟩) (.inl rfl) (.int .i64 0)) (((HS2.out.ext (Upd.refl _ _).drew).cells.set 1 _).set 2 _)
              rw [HN.out, Slv.woken_is Hxs.out] at h1
              exact h1
            have hUf : Upd (fun k => k = g ∨ k = gl) w ((wr.drew.setCell ⟨g, 1, none⟩ (.bool true)).setCell ⟨g, 2, none⟩ (.int .i64 0)) := (((HU.out.trans' HUx.out (fun q _ h => .inr h)).drew).setCell (p := ⟨g, 1, none⟩) (.inl (.inl rfl)) _).setCell (p := ⟨g, 2, none⟩) (.inl (.inl rfl)) _
            have hne1 : D1 ≠ g := fun e => by have := HS2.out.cells; rw [← e] at this; have hk := HK.out; have h9 := (HUx.out.block D1 (Array.getElem?_eq_some_iff.1 hk).1 (fun e2 => HS.out.ne (e.symm.trans e2))).trans hk; unfold Blk at this; rw [h9] at this; cases this
            have hne2 : D1 ≠ gl := fun e => by have := HS.out.rows; rw [← e] at this; have hk := HK.out; unfold Arr at this; rw [hk] at this; cases this
            have hKf : ((wr.drew.setCell ⟨g, 1, none⟩ (.bool true)).setCell ⟨g, 2, none⟩ (.int .i64 0)).heap[D1]? = some (.deferred (some [])) := by
              have hk := HK.out
              have h1 := (Array.getElem?_eq_some_iff.1 hk).1
              have hU1 : Upd (fun k => k = g ∨ k = gl) W ((wr.drew.setCell ⟨g, 1, none⟩ (.bool true)).setCell ⟨g, 2, none⟩ (.int .i64 0)) := (((HUx.out.mono (fun q _ h => .inr h)).drew).setCell (p := ⟨g, 1, none⟩) (.inl (.inl rfl)) _).setCell (p := ⟨g, 2, none⟩) (.inl (.inl rfl)) _
              exact (hU1.block D1 h1 (fun h => h.elim hne1 hne2)).trans hk
            refine ⟨by simp, .inl ⟨_, _, rfl, run_takeDeferred hKf, ?_⟩⟩
            have hgr := grownBy_putObj' ((wr.drew.setCell ⟨g, 1, none⟩ (.bool true)).setCell ⟨g, 2, none⟩ (.int .i64 0)) D1 (.deferred none)
            have hrow : ∀ r, some D1 = some r → ∃ o : Obj, ((wr.drew.setCell ⟨g, 1, none⟩ (.bool true)).setCell ⟨g, 2, none⟩ (.int .i64 0)).heap[r]? = some o ∧ o.isCells = false := fun r e => by cases e; exact ⟨_, hKf, rfl⟩
            refine ⟨.tuple #[], results_none rfl _ _ _, rfl, D', f'', hSf.kept hgr hrow, hUf.grown hgr (fun q e => .inr (by injection e with e; have := Hz2.out; have := Hsz.out; omega)), HD'.out⟩
end Go.Proofs.Ytejjofjhcgdedaa
