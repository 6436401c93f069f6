/- Scars as the document has them; a slab that is none: walked. -/
import Derived.Test.YtejjofjhcgdedaaSlbM
namespace Go.Proofs.Ytejjofjhcgdedaa
set_option linter.unusedSimpArgs false
set_option linter.unusedVariables false
open Go.RowKit
open Sha
attribute [local go_sem] steady steadyUpon Cls same_cell anyW
attribute [local irreducible] wpHead wpTree wpHeadR
theorem Try.n_elSc : ElemK Try.prog 46 88 (.agg #[.int .i64 0, .slice none 0 0]) 2 32 := ⟨by kernel_rfl, by kernel_rfl, rfl, by decide⟩
def sV (s : Sca) : List Value := [.int .i64 s.n, .slice s.A s.l s.c]
theorem sV_one (s : Sca) : ∀ u ∈ sV s, u.oneCell' = true := fun u hu => by
  unfold sV at hu
  simp at hu
  rcases hu with rfl | rfl <;> rfl
def RetScars (w : World) (n : Nat) (ss : List Sca) (e : Ending) (w' : World) : Prop := ∃ D cD, e = .returned (.slice D n cD) ∧ ScaL w' D ss ∧ (∀ k, inA D k → w.heap.size ≤ k) ∧ Ext w w'
set_option maxRecDepth 100000 in
set_option maxHeartbeats 4000000 in
theorem rscars_any (F : Option Addr) (n c : Nat) (ss : List Sca) (w : World) (hL : ScaL w F ss) (hn : ss.length = n) (hm : n * 32 ≤ 140737488351232) :
    Calls Try.prog 26 #[.slice F n c] w (RetScars w n ss) := by
  have HL := hide hL
  have Hn := hide hn
  clear hL hn
  go_enter Try.func26, Try.ntmps26
  go_wp2_with fail
  go_loopw [8, 3] (fun iv v wr => ∃ (k : Nat) (D : Option Addr) (cD : Nat), k ≤ n ∧ iv = .int .i64 (k : Int) ∧ v = .slice D k cD ∧ OwnK wr w.heap.size 88 2 D k cD ((ss.take k).flatMap sV) ∧ Ext w wr) (fun iv _ _ => n - (Go.RowKit.intOf iv).toNat)
  case atStart => exact ⟨0, none, 0, Nat.zero_le _, rfl, rfl, OwnK.nil, Upd.refl _ _⟩
  case round =>
    obtain ⟨k, D, cD, hk, rfl, rfl, hO, hE⟩ := hrel
    have HO := hide hO
    have HE := hide hE
    have hz := hE.size
    clear hO hE
    by_cases hlt : k < n
    case neg =>
      obtain rfl : k = n := by omega
      have hltI : ¬ (k : Int) < (k : Int) := by omega
      have hfin : ScaL wr D ss := fun i hi => by
        have htk : ss.take k = ss := List.take_of_length_le (by rw [Hn.out]; exact Nat.le_refl _)
        have hO := HO.out
        rw [htk] at hO
        obtain ⟨g, rfl, -, -, hc⟩ := hO.open_ (by rw [← Hn.out]; omega)
        have hl : ∀ s ∈ ss, (sV s).length = 2 := fun s _ => rfl
        have hfl := fm_len sV 2 ss hl
        have hle := Nat.mul_le_mul_right 2 (show i + 1 ≤ ss.length from hi)
        obtain ⟨b0, o0, -, -, -, hok⟩ := HL.out i hi
        refine ⟨g, 0, rfl, ?_, ?_, hok.ext HE.out⟩
        · rw [Nat.zero_add, hc _ (by omega)]
          have := fm_at sV 2 hl hi (j := 0) (by omega)
          rw [Nat.add_zero] at this
          rw [this]; rfl
        · rw [Nat.zero_add, hc _ (by omega), fm_at sV 2 hl hi (j := 1) (by omega)]
          rfl
      have Hfin := hide hfin
      clear hfin
      go_wp2_with fail
      go_ret
      exact ⟨D, cD, rfl, Hfin.out, fun k hk => (HO.out.in_ hk).1, HE.out⟩
    have hltI : (k : Int) < (n : Int) := by omega
    have hkl : k < ss.length := by rw [Hn.out]; exact hlt
    obtain ⟨b0, o0, rfl, c0, c1, -⟩ := HL.out k hkl
    replace c0 := HE.out.cellv c0
    replace c1 := HE.out.cellv c1
    obtain ⟨s, hs⟩ : ∃ s, s = gat ss k := ⟨_, rfl⟩
    have htk : (ss.take (k + 1)).flatMap sV = (ss.take k).flatMap sV ++ sV s := by
      rw [List.take_succ_eq_append_getElem hkl, List.flatMap_append, hs, gat_lt hkl]
      simp
    rw [← hs] at c0 c1
    have Htk := hide htk
    obtain ⟨z, A0, l0, cc0, bs⟩ := s
    dsimp only at c0 c1
    clear hs htk
    go_wp2_with (at_builtin; refine wpList_apk Try.n_elSc ((ss.take k).flatMap sV) (sV ⟨z, A0, l0, cc0, bs⟩) rfl (sV_one _) rfl rfl rfl ((HO.out.ext ((Upd.refl (fun _ => False) _).alloc _)).ext ((Upd.refl (fun _ => False) _).alloc _)) rfl (fun j u hu => by rw [Addr.add_mid, Nat.zero_add]; exact (Blk.new_at (t := 88) (cs := #[.int .i64 z, .slice A0 l0 cc0]) (by simp)).at j (by simpa [sV] using hu)) (by unfold maxLen; omega) (by omega) (by simp; omega) ?_; intro A2 c2 w2 hO2 hU2 hin2)
    have hE2 : Ext w w2 := upd_new hU2 (HE.out.trans (((Upd.refl _ _).alloc _).alloc _)) (fun kk hk => (HO.out.in_ hk).1)
    rw [← Htk.out] at hO2
    clear hU2 hin2
    go_roundw
    case rel => exact ⟨k + 1, A2, c2, by omega, by go_num, rfl, hO2, hE2⟩
    case measure => simp [Go.RowKit.intOf]; omega
/-! ### a slab that is none -/
section
variable (w : World)
theorem slook_nil (n : Int) : Calls Try.prog 35 #[.pointer none, .int .i64 n] w fun e w' => e = .returned (.int .i64 1) ∧ w' = w := by
  -- look the function, $2 its value
  go_enter Try.func35, Try.ntmps35
  go_wp2_with fail
  go_ret
  exact ⟨rfl, rfl⟩
theorem sout_nil : Calls Try.prog 17 #[.pointer none] w fun e w' => e = .returned (.bool false) ∧ w' = w := by
  -- Out the function, $2 its value
  go_enter Try.func17, Try.ntmps17
  go_wp2_with fail
  go_ret
  exact ⟨rfl, rfl⟩
theorem ssectors_nil : Calls Try.prog 14 #[.pointer none] w fun e w' => e = .returned (.int .i64 0) ∧ w' = w := by
  -- Sectors the function, $2 its value
  go_enter Try.func14, Try.ntmps14
  go_wp2_with fail
  go_ret
  exact ⟨rfl, rfl⟩
theorem sstrokes_nil : Calls Try.prog 16 #[.pointer none] w fun e w' => e = .returned (.int .i64 0) ∧ w' = w := by
  -- Strokes the function, $2 its value
  go_enter Try.func16, Try.ntmps16
  go_wp2_with fail
  go_ret
  exact ⟨rfl, rfl⟩
theorem sinked_nil : Calls Try.prog 15 #[.pointer none] w fun e w' => e = .returned (.slice none 0 0) ∧ w' = w := by
  -- Inked the function, $2 its value
  go_enter Try.func15, Try.ntmps15
  go_wp2_with fail
  go_ret
  exact ⟨rfl, rfl⟩
theorem stwin_nil : Calls Try.prog 18 #[.pointer none] w fun e w' => e = .returned (.pointer none) ∧ w' = w := by
  -- Twin the function, $2 its value
  go_enter Try.func18, Try.ntmps18
  go_wp2_with fail
  go_ret
  exact ⟨rfl, rfl⟩
theorem ssupply_nil (n : Int) : Calls Try.prog 9 #[.pointer none, .int .i64 n] w fun e w' => e = .returned (.tuple #[]) ∧ w' = w := by
  go_enter Try.func9, Try.ntmps9
  go_wp2_with fail
  refine bodyPost_ret (results_none rfl _ _ _) rfl ?_
  exact ⟨rfl, rfl⟩
theorem swake_nil (A : Option Addr) (n c : Nat) : Calls Try.prog 10 #[.pointer none, .slice A n c] w fun e w' => e = .returned (.tuple #[]) ∧ Ext w w' := by
  go_enter Try.func10, Try.ntmps10
  go_wp2_with fail
  refine bodyPost_ret (results_none rfl _ _ _) rfl ?_
  exact ⟨rfl, by first | exact Upd.refl _ _ | exact (Upd.refl _ _).alloc _⟩
theorem sburn_nil : Calls Try.prog 13 #[.pointer none] w fun e w' => e = .returned (.int .i64 1) ∧ w' = w := by
  go_enter Try.func13, Try.ntmps13
  go_wp2_with fail
  refine (slook_nil w 0).mono ?_
  rintro e w1 ⟨rfl, rfl⟩
  go_wp2_with fail
  go_ret
  exact ⟨rfl, rfl⟩
theorem sink_nil (n : Int) (A : Option Addr) (l c : Nat) : Calls Try.prog 11 #[.pointer none, .int .i64 n, .slice A l c] w fun e w' => e = .returned (.int .i64 1) ∧ w' = w := by
  go_enter Try.func11, Try.ntmps11
  go_wp2_with fail
  refine (slook_nil w n).mono ?_
  rintro e w1 ⟨rfl, rfl⟩
  go_wp2_with fail
  go_ret
  exact ⟨rfl, rfl⟩
theorem sface_nil (n : Int) : Calls Try.prog 8 #[.pointer none, .int .i64 n] w fun e w' => e = .returned (.tuple #[.slice none 0 0, .int .i64 1]) ∧ w' = w := by
  go_enter Try.func8, Try.ntmps8
  go_wp2_with fail
  refine (slook_nil w n).mono ?_
  rintro e w1 ⟨rfl, rfl⟩
  go_wp2_with fail
  refine bodyPost_ret (v := .tuple #[.slice none 0 0, .int .i64 1]) ?_ rfl ⟨rfl, rfl⟩
  simp [results, Try.results8, go_sem]
end
end Go.Proofs.Ytejjofjhcgdedaa
