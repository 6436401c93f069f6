/- The document's constants, walked: fits, root, prime. -/
import Derived.Test.YtjdodhooojjldaaShaG
namespace Go.Proofs.Ytjdodhooojjldaa
set_option linter.unusedSimpArgs false
set_option linter.unusedVariables false
open Go.RowKit
open Sha
attribute [local go_sem] steady steadyUpon Cls same_cell
attribute [local irreducible] wpHead wpTree wpHeadR
theorem name_wq {P : Program} {c : Code} {Q : Exit → Act → World → Prop} {a : Act} {W : World} (h : ∀ W', W' = W → c.wp P Q a W') : c.wp P Q a W := h W rfl
def powL (x : Nat) : Nat → List Nat
  | 0 => [1]
  | j + 1 => timesL (powL x j) [x % H32, x / H32]
theorem powL_length (x : Nat) : ∀ j, (powL x j).length = 2 * j + 1
  | 0 => rfl
  | j + 1 => by
    show (timesL (powL x j) _).length = _
    unfold timesL
    rw [tout_length, powL_length x j]
    simp
    omega
def hiL (N : List Nat) : Nat → Nat
  | 0 => 0
  | s + 1 => (hiL N s * H32 % M64 + gat N (N.length - 1 - s)) % M64
def anyL (N : List Nat) : Nat → Bool
  | 0 => false
  | i + 1 => anyL N i || decide (0 < gat N i)
def fitsL (x p e : Nat) : Bool :=
  decide (hiL (powL x e) (e + 1) < p) || (decide (hiL (powL x e) (e + 1) = p) && !anyL (powL x e) e)
set_option maxRecDepth 100000 in
set_option maxHeartbeats 2000000 in
theorem fits_any (x p e : Nat) (w : World) (hx : x < M64) (he : e ≤ 3) :
    Calls Try.prog 107 #[.int .u64 (x : Int), .int .u64 (p : Int), .int .i64 (e : Int)] w fun en w' => en = .returned (.bool (fitsL x p e)) ∧ Ext w w' := by
  obtain ⟨lo, hlo⟩ : ∃ lo, lo = x % H32 := ⟨_, rfl⟩
  obtain ⟨hi, hhi⟩ : ∃ hi, hi = x / H32 := ⟨_, rfl⟩
  have e4 : (x : Int) % (4294967296 : Int) = (lo : Int) := by rw [hlo]; unfold H32; omega
  have e4' : (x : Int).tmod (4294967296 : Int) = (lo : Int) := by rw [hlo]; exact IntWalk.rem_in _ _ (by omega)
  have e5 : (x : Int) / (4294967296 : Int) = (hi : Int) := by rw [hhi]; unfold H32; omega
  have e5' : (x : Int).tdiv (4294967296 : Int) = (hi : Int) := by rw [Int.tdiv_eq_ediv_of_nonneg (by omega)]; exact e5
  have hlb : (lo : Int) ≤ 4294967295 := by rw [hlo]; have := Nat.mod_lt x (show 0 < H32 by decide); unfold H32 at this ⊢; omega
  have hhb : (hi : Int) ≤ 4294967295 := by rw [hhi]; unfold M64 at hx; unfold H32; omega
  obtain ⟨r, hr⟩ : ∃ r, r = fitsL x p e := ⟨_, rfl⟩
  rw [← hr]
  have Hr := hide hr
  have Hlo := hide hlo
  have Hhi := hide hhi
  clear hr hlo hhi hx
  go_enter Try.func107, Try.ntmps107
  go_upto_region 3 with fail
  refine name_wq (fun W hW => ?_)
  have hE : Ext w W := by rw [hW]; exact ((Upd.refl _ _).alloc _).alloc _
  have hO1 : Own W w.heap.size 109 (some ⟨w.heap.size, 0, none⟩) 1 (([1] : List Nat).map u64n) := by rw [hW]; exact (Own.lit u64n w 109 [1] (Nat.le_refl _) (by unfold maxLen; decide)).ext ((Upd.refl _ _).alloc _)
  have hSf : Sl u64n W (some ⟨w.heap.size + 1, 0, none⟩) [lo, hi] := by
    rw [hW]
    have h := Sl.new u64n (w.alloc (.cells #[.int .u64 1] 109)) 109 [lo, hi]
    rw [show (w.alloc (.cells #[.int .u64 1] 109)).heap.size = w.heap.size + 1 by simp] at h
    exact h
  clear hW e4 e4' e5 e5' hlb hhb
  have HO1 := hide hO1
  have HSf := hide hSf
  have HE := hide hE
  clear hO1 hSf hE
  go_wp2_with fail
  go_loopw [7, 9] (fun v i wr => ∃ (j l c : Nat) (A : Option Addr), j ≤ e ∧ i = .int .i64 (j : Int) ∧ v = .slice A l c ∧ (powL x j).length = l ∧ Own wr w.heap.size 109 A c ((powL x j).map u64n) ∧ Ext W wr) (fun _ i _ => e - (intOf i).toNat)
  case atStart => exact ⟨0, 1, 1, _, Nat.zero_le _, rfl, rfl, rfl, HO1.out, Upd.refl _ _⟩
  case round =>
    obtain ⟨j, l, c, A, hj, rfl, rfl, hl, hO, hU⟩ := hrel
    have HO := hide hO
    have Hl := hide hl
    have HU := hide hU
    have hl2 : l ≤ 7 := by rw [← hl, powL_length]; omega
    clear hO hl hU
    by_cases hlt : j < e
    · have hltI : (j : Int) < (e : Int) := by omega
      go_wp2_with fail
      refine (times_any A l c _ 2 2 (powL x j) [lo, hi] wr HO.out.sl Hl.out (HSf.out.ext HU.out) rfl (by omega) (by omega)).mono ?_
      rintro en w2 ⟨A2, l2, c2, rfl, hl2', hO2, hU2⟩
      have hp : timesL (powL x j) [lo, hi] = powL x (j + 1) := by rw [Hlo.out, Hhi.out]; rfl
      rw [hp] at hl2' hO2
      have HO2 := hide (hO2.mono (Nat.le_trans HE.out.size HU.out.size))
      have Hl2 := hide hl2'
      have HU2 := hide (HU.out.trans hU2)
      clear hp hl2' hO2 hU2
      go_wp2_with fail
      go_roundw
      case rel => exact ⟨j + 1, l2, c2, A2, hlt, by go_num, rfl, Hl2.out, HO2.out, HU2.out⟩
      case measure => simp [intOf]; omega
    · obtain rfl : j = e := by omega
      have hltI : ¬ (j : Int) < (j : Int) := by omega
      obtain ⟨N, hN⟩ : ∃ N, N = powL x j := ⟨_, rfl⟩
      have hNl : N.length = 2 * j + 1 := by rw [hN, powL_length]
      obtain rfl : l = 2 * j + 1 := by rw [← Hl.out, powL_length]
      have hO : Own wr w.heap.size 109 A c (N.map u64n) := by rw [hN]; exact HO.out
      have hr2 : r = (decide (hiL N (j + 1) < p) || (decide (hiL N (j + 1) = p) && !anyL N j)) := by rw [Hr.out, hN]; rfl
      have Hr2 := hide hr2
      have HNl := hide hNl
      have HOn := hide hO
      have hEw := hide (HE.out.trans HU.out)
      clear hr2 hNl hO Hr HO Hl HU hlt hj hN
      go_wp2_with fail
      go_loopw [10, 11] (fun hv i wx => ∃ (q h : Nat) (cc : Int), q ≤ j + 1 ∧ cc = 2 * (j : Int) - (q : Int) ∧ i = .int .i64 cc ∧ hv = .int .u64 (h : Int) ∧ h = hiL N q ∧ wx = wr) (fun _ i _ => (intOf i + 1).toNat)
      case atStart => exact ⟨0, 0, _, Nat.zero_le _, rfl, by congr 1, rfl, rfl, rfl⟩
      case round =>
        obtain ⟨q, h, cc, hq, hcc, rfl, rfl, hh, rfl⟩ := hrel
        have Hh := hide hh
        clear hh
        by_cases hqj : q < j + 1
        · obtain ⟨d, hd⟩ : ∃ d, d = 2 * j - q := ⟨_, rfl⟩
          obtain rfl : cc = (d : Int) := by omega
          have hdj : (j : Int) ≤ (d : Int) := by omega
          have Hcc := hide hcc
          clear hcc
          have hdl : d < 2 * j + 1 := by omega
          have hdI : (d : Int) < 2 * (j : Int) + 1 := by omega
          obtain ⟨bb, bo, eA, -, hcA⟩ := HOn.out.sl.open_ (by rw [HNl.out]; omega)
          have ca := hcA d (by rw [HNl.out]; exact hdl)
          obtain ⟨y, hy⟩ : ∃ y, y = gat N d := ⟨_, rfl⟩
          rw [← hy] at ca
          unfold u64n at ca
          subst eA
          obtain ⟨p1, hp1⟩ : ∃ p, p = h * H32 % M64 := ⟨_, rfl⟩
          obtain ⟨h2, hh2⟩ : ∃ h2, h2 = (p1 + y) % M64 := ⟨_, rfl⟩
          have e1 : IntKind.u64.wrap ((h : Int) * 4294967296) = (p1 : Int) := by
            rw [show ((h : Int) * 4294967296) = ((h * H32 : Nat) : Int) from (Int.natCast_mul h 4294967296).symm, u64w, hp1]
          have e2 : IntKind.u64.wrap ((p1 : Int) + (y : Int)) = (h2 : Int) := by rw [← Int.natCast_add, u64w, hh2]
          have hst : h2 = hiL N (q + 1) := by
            show _ = (hiL N q * H32 % M64 + gat N (N.length - 1 - q)) % M64
            rw [HNl.out, show 2 * j + 1 - 1 - q = d by omega, ← hy, ← Hh.out, ← hp1, ← hh2]
          have Hst := hide hst
          have Hd := hide hd
          clear hst hp1 hh2 hy hd hcA
          go_wp2_with fail
          go_roundw
          case rel => exact ⟨q + 1, h2, _, hqj, by have := Hd.out; omega, rfl, rfl, Hst.out, trivial⟩
          case measure => first | (simp [intOf]; done) | (simp [intOf]; omega)
        · obtain rfl : q = j + 1 := by omega
          obtain rfl : cc = (j : Int) - 1 := by omega
          have hdj : ¬ (j : Int) ≤ (j : Int) - 1 := by omega
          clear hqj hcc hq
          go_wp2_with fail
          go_loopw [12, 13] (fun bv i wx => ∃ (k : Nat) (bl : Bool), k ≤ j ∧ i = .int .i64 (k : Int) ∧ bv = .bool bl ∧ bl = anyL N k ∧ wx = wr) (fun _ i _ => j - (intOf i).toNat)
          case atStart => exact ⟨0, false, Nat.zero_le _, rfl, rfl, rfl, rfl⟩
          case round =>
            obtain ⟨k, bl, hk, rfl, rfl, hbl, rfl⟩ := hrel
            have Hbl := hide hbl
            clear hbl
            by_cases hkj : k < j
            · have hkI : (k : Int) < (j : Int) := by omega
              have hkl : k < 2 * j + 1 := by omega
              have hkI2 : (k : Int) < 2 * (j : Int) + 1 := by omega
              obtain ⟨bb, bo, eA, -, hcA⟩ := HOn.out.sl.open_ (by rw [HNl.out]; omega)
              have ca := hcA k (by rw [HNl.out]; omega)
              obtain ⟨y, hy⟩ : ∃ y, y = gat N k := ⟨_, rfl⟩
              rw [← hy] at ca
              unfold u64n at ca
              have hst : (bl || decide (0 < y)) = anyL N (k + 1) := by
                show _ = (anyL N k || decide (0 < gat N k))
                rw [← hy, ← Hbl.out]
              subst eA
              have Hst := hide hst
              clear hst hy hcA
              cases bl with
              | true =>
                go_wp2_with fail
                go_roundw
                case rel => exact ⟨k + 1, true, hkj, by go_num, rfl, Hst.out, trivial⟩
                case measure => simp [intOf]; omega
              | false =>
                by_cases hy0 : 0 < y
                · have hyI : (0 : Int) < (y : Int) := by omega
                  have hd : decide (0 < y) = true := decide_eq_true hy0
                  go_wp2_with fail
                  go_roundw
                  case rel => exact ⟨k + 1, true, hkj, by go_num, rfl, by rw [← Hst.out, hd]; rfl, trivial⟩
                  case measure => simp [intOf]; omega
                · have hyI : ¬ (0 : Int) < (y : Int) := by omega
                  have hd : decide (0 < y) = false := decide_eq_false hy0
                  go_wp2_with fail
                  go_roundw
                  case rel => exact ⟨k + 1, false, hkj, by go_num, rfl, by rw [← Hst.out, hd]; rfl, trivial⟩
                  case measure => simp [intOf]; omega
            · obtain rfl : k = j := by omega
              have hkI : ¬ (k : Int) < (k : Int) := by omega
              have hr3 : r = (decide (h < p) || (decide (h = p) && !bl)) := by rw [Hr2.out, ← Hh.out, ← Hbl.out]
              have Hr3 := hide hr3
              clear hr3 Hh Hbl Hr2 hkj
              by_cases h1 : h < p
              · have h1I : (h : Int) < (p : Int) := by omega
                have e : r = true := by rw [Hr3.out, decide_eq_true h1]; rfl
                subst e
                go_wp2_with fail
                go_ret
                exact ⟨rfl, hEw.out⟩
              · have h1I : ¬ (h : Int) < (p : Int) := by omega
                by_cases h2 : h = p
                · have e : r = !bl := by rw [Hr3.out, decide_eq_false h1, decide_eq_true h2]; cases bl <;> rfl
                  subst h2
                  subst e
                  go_wp2_with fail
                  go_ret
                  exact ⟨rfl, hEw.out⟩
                · have h2b : ((h : Int) == (p : Int)) = false := beq_eq_false_iff_ne.2 (by omega)
                  have e : r = false := by rw [Hr3.out, decide_eq_false h1, decide_eq_false h2]; cases bl <;> rfl
                  subst e
                  go_wp2_with fail
                  go_ret
                  exact ⟨rfl, hEw.out⟩
end Go.Proofs.Ytjdodhooojjldaa
