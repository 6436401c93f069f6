/- The document's constants, walked: times, fits. -/
import Derived.Test.YtjdodhooojjldaaShaU
import Derived.Deep.DeepCutAuto
namespace Go.Proofs.Ytjdodhooojjldaa
set_option linter.unusedSimpArgs false
set_option linter.unusedVariables false
open Go.RowKit
open Sha
attribute [local go_sem] steady steadyUpon Cls same_cell
attribute [local irreducible] wpHead wpTree wpHeadR
/-- a word of 64 bits as a natural number -/
def u64n (x : Nat) : Value := .int .u64 (x : Int)
theorem u64n_one (x : Nat) : (u64n x).oneCell' = true := rfl
def M64 : Nat := 18446744073709551616
def H32 : Nat := 4294967296
/-- one step of the inner loop: what is carried, put in place i + k -/
def tstep (a b : List Nat) (i : Nat) (s : List Nat × Nat) (k : Nat) : List Nat × Nat :=
  (s.1.set (i + k) (((gat a i * gat b k % M64 + gat s.1 (i + k)) % M64 + s.2) % M64 % H32), ((gat a i * gat b k % M64 + gat s.1 (i + k)) % M64 + s.2) % M64 / H32)
def tin (a b : List Nat) (i : Nat) (s : List Nat × Nat) : Nat → List Nat × Nat
  | 0 => s
  | k + 1 => tstep a b i (tin a b i s k) k
def tout (a b : List Nat) : Nat → List Nat
  | 0 => List.replicate (a.length + b.length) 0
  | i + 1 => (tin a b i (tout a b i, 0) b.length).1.set (i + b.length) ((gat (tin a b i (tout a b i, 0) b.length).1 (i + b.length) + (tin a b i (tout a b i, 0) b.length).2) % M64)
def timesL (a b : List Nat) : List Nat := tout a b a.length
theorem tin_length (a b : List Nat) (i : Nat) (s : List Nat × Nat) : ∀ k, (tin a b i s k).1.length = s.1.length
  | 0 => rfl
  | k + 1 => by
    show ((tin a b i s k).1.set _ _).length = _
    rw [List.length_set, tin_length a b i s k]
theorem tout_length (a b : List Nat) : ∀ i, (tout a b i).length = a.length + b.length
  | 0 => List.length_replicate
  | i + 1 => by
    show ((tin a b i (tout a b i, 0) b.length).1.set _ _).length = _
    rw [List.length_set, tin_length]
    exact tout_length a b i
theorem Try.n_el64 : ElemI Try.prog 197 109 (.int .u64 0) 8 := ⟨by kernel_rfl, by kernel_rfl, rfl⟩
theorem u64w (x : Nat) : IntKind.u64.wrap (x : Int) = ((x % M64 : Nat) : Int) := by rw [IntKind.wrap_u64]; unfold M64; omega
/-- words are handed back -/
def RetW (w : World) (xs : List Nat) (e : Ending) (w' : World) : Prop := ∃ A l c, e = .returned (.slice A l c) ∧ xs.length = l ∧ Own w' w.heap.size 109 A c (xs.map u64n) ∧ Ext w w'
set_option maxRecDepth 100000 in
set_option maxHeartbeats 2000000 in
theorem times_any (A : Option Addr) (n c : Nat) (B : Option Addr) (m d : Nat) (a b : List Nat) (w : World) (hA : Sl u64n w A a) (ha : a.length = n) (hB : Sl u64n w B b) (hb : b.length = m) (hn : n ≤ 1000) (hm : m ≤ 1000) :
    Calls Try.prog 124 #[.slice A n c, .slice B m d] w (RetW w (timesL a b)) := by
  have HA := hide hA
  have Ha := hide ha
  have HB := hide hB
  have Hb := hide hb
  obtain ⟨r, hr⟩ : ∃ r, r = timesL a b := ⟨_, rfl⟩
  rw [← hr]
  have Hr := hide hr
  clear hA ha hB hb hr
  go_enter Try.func124, Try.ntmps124
  go_wp2_with (at_make; go_must (refine wpList_mk _ _ _ Try.n_el64 rfl rfl (n + m) rfl rfl (by omega) (by omega) (by omega) (by unfold maxLen; omega) u64n rfl rfl (B := w.heap.size) (by simp) ?_); rintro g w1 hO rfl hU1)
  have hT0 : (List.replicate (n + m) (default : Nat)) = tout a b 0 := by show _ = List.replicate (a.length + b.length) 0; rw [Ha.out, Hb.out]; rfl
  rw [hT0] at hO
  have HO := hide hO
  have HU1 := hide hU1
  clear hT0 hO hU1
  go_wp2_with fail
  go_loopw [18] (fun i wr => ∃ j : Nat, j ≤ n ∧ i = .int .i64 (j : Int) ∧ Own wr w.heap.size 109 (some ⟨w.heap.size, 0, none⟩) (n + m) ((tout a b j).map u64n) ∧ Ext w wr) (fun i _ => n - (intOf i).toNat)
  case atStart => exact ⟨0, Nat.zero_le _, rfl, HO.out, HU1.out⟩
  case round =>
    obtain ⟨j, hj, rfl, hOj, hEj⟩ := hrel
    have HOj := hide hOj
    have HEj := hide hEj
    clear hOj hEj
    by_cases hlt : j < n
    · have hltI : (j : Int) < (n : Int) := by omega
      obtain ⟨Wo, hWo⟩ : ∃ W, W = wr := ⟨_, rfl⟩
      go_wp2_with fail
      go_loopw [7, 23] (fun cv i wx => ∃ (k cr : Nat) (xs : List Nat), k ≤ m ∧ i = .int .i64 (k : Int) ∧ cv = .int .u64 (cr : Int) ∧ (xs, cr) = tin a b j (tout a b j, 0) k ∧ Own wx w.heap.size 109 (some ⟨w.heap.size, 0, none⟩) (n + m) (xs.map u64n) ∧ Ext w wx) (fun _ i _ => m - (intOf i).toNat)
      case atStart => exact ⟨0, 0, tout a b j, Nat.zero_le _, rfl, rfl, rfl, HOj.out, HEj.out⟩
      case round =>
        obtain ⟨k, cr, xs, hk, rfl, rfl, hx, hOk, hEk⟩ := hrel
        have hxl : xs.length = n + m := by
          have h1 := congrArg (fun s => s.1.length) hx
          dsimp only at h1
          rw [h1, tin_length]
          show (tout a b j).length = _
          rw [tout_length, Ha.out, Hb.out]
        have Hx := hide hx
        have Hxl := hide hxl
        clear hx hxl
        by_cases hkm : k < m
        · have hkI : (k : Int) < (m : Int) := by omega
          obtain ⟨ba, oa, eA, -, hca⟩ := (HA.out.ext hEk).open_ (by rw [Ha.out]; omega)
          have ca := hca j (by rw [Ha.out]; exact hlt)
          obtain ⟨bb, ob, eB, -, hcb⟩ := (HB.out.ext hEk).open_ (by rw [Hb.out]; omega)
          have cb := hcb k (by rw [Hb.out]; exact hkm)
          have co := hOk.row.cell (i := j + k) (by rw [Hxl.out]; omega)
          have fo := hOk.row.frozen (j + k)
          unfold u64n at ca cb co
          subst eA eB
          obtain ⟨x, hxe⟩ : ∃ x, x = gat a j := ⟨_, rfl⟩
          obtain ⟨y, hye⟩ : ∃ y, y = gat b k := ⟨_, rfl⟩
          obtain ⟨o, hoe⟩ : ∃ o, o = gat xs (j + k) := ⟨_, rfl⟩
          rw [← hxe] at ca
          rw [← hye] at cb
          rw [← hoe] at co
          obtain ⟨p, hp⟩ : ∃ p, p = x * y % M64 := ⟨_, rfl⟩
          obtain ⟨q, hq⟩ : ∃ q, q = (p + o) % M64 := ⟨_, rfl⟩
          obtain ⟨t, ht⟩ : ∃ t, t = (q + cr) % M64 := ⟨_, rfl⟩
          obtain ⟨lo, hlo⟩ : ∃ lo, lo = t % H32 := ⟨_, rfl⟩
          obtain ⟨hi, hhi⟩ : ∃ hi, hi = t / H32 := ⟨_, rfl⟩
          have htb : t < M64 := by rw [ht]; exact Nat.mod_lt _ (by decide)
          have e1 : IntKind.u64.wrap ((x : Int) * (y : Int)) = (p : Int) := by rw [← Int.natCast_mul, u64w, hp]
          have e2 : IntKind.u64.wrap ((p : Int) + (o : Int)) = (q : Int) := by rw [← Int.natCast_add, u64w, hq]
          have e3 : IntKind.u64.wrap ((q : Int) + (cr : Int)) = (t : Int) := by rw [← Int.natCast_add, u64w, ht]
          have e4 : (t : Int) % (4294967296 : Int) = (lo : Int) := by rw [hlo]; unfold H32; omega
          have e4' : (t : Int).tmod (4294967296 : Int) = (lo : Int) := by rw [hlo]; exact IntWalk.rem_in _ _ (by omega)
          have e5 : (t : Int) / (4294967296 : Int) = (hi : Int) := by rw [hhi]; unfold H32; omega
          have e5' : (t : Int).tdiv (4294967296 : Int) = (hi : Int) := by rw [Int.tdiv_eq_ediv_of_nonneg (by omega)]; exact e5
          have hlb : (lo : Int) ≤ 4294967295 := by rw [hlo]; have := Nat.mod_lt t (show 0 < H32 by decide); unfold H32 at this ⊢; omega
          have hhb : (hi : Int) ≤ 4294967295 := by rw [hhi]; unfold M64 at htb; unfold H32; omega
          have hst : (xs.set (j + k) lo, hi) = tin a b j (tout a b j, 0) (k + 1) := by
            show _ = tstep a b j (tin a b j (tout a b j, 0) k) k
            rw [← Hx.out]
            unfold tstep
            dsimp only
            rw [← hxe, ← hye, ← hoe, ← hp, ← hq, ← ht, ← hlo, ← hhi]
          have hO2 := hOk.set (i := j + k) (by rw [Hxl.out]; omega) lo rfl
          have hE2 := hEk.setCell (p := ⟨w.heap.size, j + k, none⟩) (.inr (Nat.le_refl _)) (u64n lo)
          obtain ⟨jk, hjk⟩ : ∃ jk, jk = j + k := ⟨_, rfl⟩
          have e6 : IntKind.i64.wrap ((j : Int) + (k : Int)) = (jk : Int) := by rw [IntKind.wrap_i64, hjk]; omega
          have hjkI : (jk : Int) < (n : Int) + (m : Int) := by omega
          have hjkN : jk < n + m := by omega
          rw [← hjk] at co fo hO2 hE2 hst
          have Hst := hide hst
          have HO2 := hide hO2
          have HE2 := hide hE2
          clear hst hO2 hE2 hxe hye hoe hp hq ht hlo hhi htb hca hcb hjk
          go_wp2_with fail
          refine wp_region_plan (Same _) 18 [(false,0), (false,1), (false,2), (false,3), (false,4), (false,5), (false,6), (false,7), (false,8), (false,9), (false,10), (false,11), (false,12), (false,13), (false,14), (false,15), (false,16), (false,17)] (by kernel_rfl) (by kernel_rfl) rfl (fun hne => ?_)
          repeat (refine head_q rfl (fun K hK => ?_); have hK2 := hide hK; clear hK; go_simp; refine hK2.out _ ?_; clear hK2 K)
          refine head_nil ?_
          try simp only [List.drop_succ_cons, List.drop_zero]
          go_wp2_with fail
          go_roundw
          case rel => exact ⟨k + 1, hi, _, hkm, by go_num, rfl, Hst.out, HO2.out.ext (Upd.refl _ _).drew, HE2.out.trans (Upd.refl _ _).drew⟩
          case measure => simp [intOf]; omega
        · obtain rfl : k = m := by omega
          have hkI : ¬ (k : Int) < (k : Int) := by omega
          clear hkm
          obtain ⟨o, hoe⟩ : ∃ o, o = gat xs (j + k) := ⟨_, rfl⟩
          have co := hOk.row.cell (i := j + k) (by rw [Hxl.out]; omega)
          have fo := hOk.row.frozen (j + k)
          unfold u64n at co
          rw [← hoe] at co
          obtain ⟨t, ht⟩ : ∃ t, t = (o + cr) % M64 := ⟨_, rfl⟩
          have e2 : IntKind.u64.wrap ((o : Int) + (cr : Int)) = (t : Int) := by rw [← Int.natCast_add, u64w, ht]
          have hst : xs.set (j + k) t = tout a b (j + 1) := by
            show _ = (tin a b j (tout a b j, 0) b.length).1.set (j + b.length) _
            rw [Hb.out, ← Hx.out]
            dsimp only
            rw [← hoe, ← ht]
          have hO2 := hOk.set (i := j + k) (by rw [Hxl.out]; omega) t rfl
          have hE2 := hEk.setCell (p := ⟨w.heap.size, j + k, none⟩) (.inr (Nat.le_refl _)) (u64n t)
          rw [hst] at hO2
          obtain ⟨jk, hjk⟩ : ∃ jk, jk = j + k := ⟨_, rfl⟩
          have e6 : IntKind.i64.wrap ((j : Int) + (k : Int)) = (jk : Int) := by rw [IntKind.wrap_i64, hjk]; omega
          have hjkI : (jk : Int) < (n : Int) + (k : Int) := by omega
          have hjkN : jk < n + k := by omega
          rw [← hjk] at co fo hO2 hE2
          have HO2 := hide hO2
          have HE2 := hide hE2
          clear hO2 hE2 hst hoe ht hjk
          go_wp2_with fail
          go_roundw
          case rel => exact ⟨j + 1, hlt, by go_num, HO2.out, HE2.out⟩
          case measure => simp [intOf]; omega
    · obtain rfl : j = n := by omega
      have hltI : ¬ (j : Int) < (j : Int) := by omega
      go_wp2_with fail
      go_ret
      refine ⟨_, _, _, rfl, ?_, ?_, HEj.out⟩
      · rw [Hr.out]; unfold timesL; rw [tout_length, Ha.out, Hb.out]
      · rw [Hr.out]; unfold timesL; rw [Ha.out]; exact HOj.out
end Go.Proofs.Ytjdodhooojjldaa
