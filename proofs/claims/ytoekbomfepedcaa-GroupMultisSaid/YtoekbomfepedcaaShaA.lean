/- Bytes added to a hash, walked. -/
import Derived.Test.YtoekbomfepedcaaShaH
import Derived.Test.YtoekbomfepedcaaBase
namespace Go.Proofs.Ytoekbomfepedcaa
set_option linter.unusedSimpArgs false
set_option linter.unusedVariables false
open Go.RowKit
open Sha
attribute [local go_sem] steady steadyUpon Cls same_cell by8 by32 by64

theorem Try.sz_int : (Try.prog.info? 3).map (·.size) = some 1 := by kernel_rfl
theorem Try.under_bs : Try.prog.underlying 23 = some (.slice 5) := by kernel_rfl
theorem Try.sz_bs : (Try.prog.info? 23).map (·.size) = some 1 := by kernel_rfl
def lenAt (w : World) (g : Nat) : Nat := match w.cell? ⟨g, 8, none⟩ with | some (.slice _ l _) => l | _ => 0
theorem lenAt_eq {w : World} {g t : Nat} {H : Nat → BitVec 32} {A : Option Addr} {l c n : Nat} (h : Arr w g t 10 (hcell H A l c n)) : lenAt w g = l := by
  unfold lenAt
  rw [h.cell (i := 8) (by omega)]
  rfl
theorem hcell_n (H : Nat → BitVec 32) (A : Option Addr) (l c n n' j : Nat) (h : j < 10) : put1 (hcell H A l c n) 9 (.int .i64 n') j = hcell H A l c n' j := by
  unfold put1 hcell
  by_cases h9 : j = 9
  · rw [if_pos h9, if_neg (by omega), if_neg (by omega)]
  · rw [if_neg h9]
    by_cases h8 : j < 8
    · rw [if_pos h8, if_pos h8]
    · rw [if_neg h8, if_neg h8, if_pos (by omega), if_pos (by omega)]
theorem hcell_rest (H : Nat → BitVec 32) (A A' : Option Addr) (l l' c c' n j : Nat) : put1 (hcell H A l c n) 8 (.slice A' l' c') j = hcell H A' l' c' n j := by
  unfold put1 hcell
  by_cases h8 : j = 8
  · rw [if_pos h8, if_neg (by omega), if_pos h8]
  · rw [if_neg h8, if_neg h8, if_neg h8]
theorem hcell_state (H H' : Nat → BitVec 32) (A : Option Addr) (l c n j : Nat) : (if j < 8 then by32 (H' j) else hcell H A l c n j) = hcell H' A l c n j := by
  unfold hcell
  by_cases h8 : j < 8
  · rw [if_pos h8, if_pos h8]
  · rw [if_neg h8, if_neg h8, if_neg h8]

theorem hcell_ne8 (H : Nat → BitVec 32) (A : Option Addr) (l c n j : Nat) (x : BitVec 8) : hcell H A l c n j ≠ by8 x := by
  unfold hcell by8 by32
  split
  · intro h; injection h with h; cases h
  · split
    · intro h; cases h
    · intro h; injection h with h; cases h
theorem Sl.far_hash {w w' : World} {g t : Nat} {H : Nat → BitVec 32} {A0 A : Option Addr} {l c n : Nat} {ys : List (BitVec 8)} (h : Sl by8 w A ys) (hA : Arr w g t 10 (hcell H A0 l c n)) (hu : Upd (only g) w w') : Sl by8 w' A ys := fun i hi => by
  obtain ⟨b, o, e, hc⟩ := h i hi
  refine ⟨b, o, e, (hu.cell (World.block_lt_of_cell? w _ hc) (fun hb => ?_)).trans hc⟩
  have hb' : b = g := hb
  subst hb'
  unfold Arr at hA
  rcases Nat.lt_or_ge (o + i) 10 with h10 | h10
  · simp only [World.cell?, hA] at hc
    simp [h10] at hc
    exact hcell_ne8 _ _ _ _ _ _ _ hc
  · simp only [World.cell?, hA] at hc
    rw [Array.getElem?_eq_none (by simpa using h10)] at hc
    cases hc
def AddPost (w : World) (B : Nat) (T : Nat → Prop) (g : Nat) (msg : List (BitVec 8)) (e : Ending) (w' : World) : Prop :=
  ∃ T', e = .returned (.tuple #[]) ∧ Hsh w' B T' g msg ∧ Upd T w w' ∧ ∀ k, T' k → T k ∨ w.heap.size ≤ k
def AddInv (B g N : Nat) (T : Nat → Prop) (full : List (BitVec 8)) (w wx : World) : Prop :=
  ∃ k A c, 64 * k ≤ N ∧ Arr wx g 168 10 (hcell (hs full k) A (N - 64 * k) c N) ∧ Ows wx B 5 A c ((full.drop (64 * k)).map by8) ∧ Upd T w wx ∧ (∀ k, inA A k → T k ∨ w.heap.size ≤ k)
set_option maxRecDepth 100000 in
set_option maxHeartbeats 1000000 in
theorem hadd_any (B g : Nat) (T : Nat → Prop) (msg ys full : List (BitVec 8)) (A2 : Option Addr) (m c2 : Nat) (w : World) (hH : Hsh w B T g msg) (hB : B ≤ w.heap.size) (hy : Sl by8 w A2 ys) (hm : ys.length = m) (hf : msg ++ ys = full) (hl : full.length ≤ 1000000000) :
    Calls Try.prog 81 #[.pointer (some ⟨g, 0, none⟩), .slice A2 m c2] w (AddPost w B T g full) := by
  obtain ⟨A, c, hA, hO, hT⟩ := hH.ex
  have hBg := hH.old
  obtain ⟨n0, hn0⟩ : ∃ n0, n0 = msg.length := ⟨_, rfl⟩
  obtain ⟨k0, hk0⟩ : ∃ k0, k0 = n0 / 64 := ⟨_, rfl⟩
  rw [← hn0, ← hk0] at hA
  rw [← hn0, ← hk0] at hO
  obtain ⟨N, hN⟩ : ∃ N, N = full.length := ⟨_, rfl⟩
  have hNn : n0 + m = N := by rw [hN, ← hf, List.length_append, hn0, hm]
  have hl' : N ≤ 1000000000 := by omega
  have hfd : full.drop (64 * k0) = msg.drop (64 * k0) ++ ys := by rw [← hf, List.drop_append_of_le_length (by omega)]
  have hhs : hs full k0 = hs msg k0 := by rw [← hf]; exact hs_append msg ys k0 (by omega)
  rw [← hhs] at hA
  have hdl : (msg.drop (64 * k0)).length = n0 % 64 := by rw [List.length_drop]; omega
  have hdf : (full.drop (64 * k0)).length = N - 64 * k0 := by rw [List.length_drop, hN]
  have hr : n0 % 64 + m = N - 64 * k0 := by omega
  have hTO : ∀ k, inA A k → T k := fun k hk => (hT k).2 (.inr hk)
  have hTg : T g := (hT g).2 (.inl rfl)
  have e1 : IntKind.i64.wrap ((n0 : Int) + (m : Int)) = (N : Int) := by rw [IntWalk.i64_in _ (by omega)]; omega
  have c9 : w.cell? ⟨g, 9, none⟩ = some (.int .i64 n0) := hA.cell (i := 9) (by omega)
  have Hfd := hide hfd
  have HdL := hide hdl
  have HdF := hide hdf
  have Hm := hide hm
  have HN := hide hN
  have Hr := hide hr
  have hlb : 64 * k0 ≤ N := by omega
  have Hlb := hide hlb
  have Hl := hide hl'
  clear hfd hdl hdf hm hN hr hlb hf hhs hl hl' hNn hn0 hk0 hH hT
  have hA' := hide hA
  have hO' := hide hO
  have hy' := hide hy
  clear hA hO hy
  go_enter Try.func81, Try.ntmps81
  have hne0 : ¬ inA A g := hO'.out.ne_arr hA'.out (by decide)
  go_wp2_with (first
    | (refine wpList_store_arr rfl rfl Try.sz_int rfl (v := .int .i64 (N : Int)) rfl rfl hA'.out (by omega) ?_; intro w1 hA1 hU1; have c8 : w1.cell? ⟨g, 8, none⟩ = some (.slice A (n0 % 64) c) := hA1.cell (i := 8) (by omega))
    | (at_builtin; go_must (refine wpList_apo _ by8 one8 Try.el8 (msg.drop (64 * k0)) ys (full.drop (64 * k0)) (N - 64 * k0) Hfd.out.symm HdF.out (by have := Hl.out; omega) (by have := Hl.out; unfold maxLen; omega) rfl rfl rfl HdL.out (hO'.out.upd hU1 (fun k hk h => hne0 (by unfold only at h; subst h; exact hk))) rfl Hm.out (hy'.out.far_hash hA'.out hU1) (Nat.le_trans hB hU1.size) ?_); intro A1 c1 w2 hO2 hU2 hin2)
    | (refine wpList_store_arr rfl rfl Try.sz_bs rfl (v := .slice A1 (N - 64 * k0) c1) rfl rfl (hA1.upd hU2 hne0) (by omega) ?_; intro w3 hA3 hU3))
  have hA4 := hA3.congr (f' := hcell (hs full k0) A1 (N - 64 * k0) c1 N) (fun j hj => by
    rw [← hcell_rest (hs full k0) A A1 (n0 % 64) (N - 64 * k0) c c1 N j]
    unfold put1
    by_cases h : j = 8
    · rw [if_pos h, if_pos h]
    · rw [if_neg h, if_neg h]; exact hcell_n (hs full k0) A (n0 % 64) c n0 N j hj)
  have hne1 : ¬ inA A1 g := hO2.ne_arr (hA1.upd hU2 hne0) (by decide)
  have hO3 := hO2.upd hU3 (fun k hk h => hne1 (by unfold only at h; subst h; exact hk))
  have hU4 : Upd T w w3 := ((hU1.mono (fun k _ h => by unfold only at h; subst h; exact hTg)).trans' hU2 (fun k _ h => hTO k h)).trans' hU3 (fun k _ h => by unfold only at h; subst h; exact hTg)
  have hin4 : ∀ k, inA A1 k → T k ∨ w.heap.size ≤ k := fun k hk => by
    rcases hin2 k hk with h | h
    · exact .inl (hTO k h)
    · have := hU1.size; exact .inr (by omega)
  clear hA1 hU1 c8 hO2 hU2 hin2 hA3 hU3 hne0 hne1 hA' hO' hy' c9 e1 hTO
  simp only [Act.put]
  go_loopw [] (fun wx => AddInv B g N T full w wx) (fun wx => lenAt wx g)
  case atStart => exact ⟨k0, A1, c1, Hlb.out, hA4, hO3, hU4, hin4⟩
  case round =>
    clear hA4 hO3 hU4 hin4
    obtain ⟨k, A, c, hk, hA, hO, hU, hin⟩ := hrel
    have c8 : wr.cell? ⟨g, 8, none⟩ = some (.slice A (N - 64 * k) c) := hA.cell (i := 8) (by omega)
    have HLe := hide (lenAt_eq hA)
    obtain ⟨L, hL⟩ : ∃ L, L = N - 64 * k := ⟨_, rfl⟩
    rw [← hL] at c8 hA HLe
    have hxl : (full.drop (64 * k)).length = L := by have := HN.out; rw [List.length_drop]; omega
    have hcap := hO.1
    rw [List.length_map, hxl] at hcap
    have HL := hide hL
    have Hxl := hide hxl
    clear hL hxl
    have hne0 : ¬ inA A g := hO.ne_arr hA (by decide)
    by_cases hlt : 64 ≤ L
    · have d1 : decide ((64 : Int) ≤ (L : Int)) = true := decide_eq_true (by omega)
      obtain ⟨sb, so, rfl⟩ := hO.form (by rw [List.length_map, Hxl.out]; omega)
      have hc64 : (64 : Int) ≤ (c : Int) := by omega
      have hcells : ∀ j, j < 64 → wr.cell? ⟨sb, so + j, none⟩ = some (by8 (gat (full.drop (64 * k)) j)) := fun j hj => hO.sl.cells j (by rw [Hxl.out]; omega)
      have Hcl := hide hcells
      clear hcells
      have hA' := hide hA
      have hO' := hide hO
      clear hA hO
      go_wp2_with fail
      refine wp_region_plan (Same _) 8 [(false,0), (false,1), (false,2), (false,3), (false,4), (false,5), (false,6), (false,7)] (by kernel_rfl) (by kernel_rfl) rfl (fun hne => ?_)
      repeat (refine head_q rfl (fun K hK => ?_); have hK2 := hide hK; clear hK; go_simp; refine hK2.out _ ?_; clear hK2 K)
      refine head_nil ?_
      try simp only [List.drop_succ_cons, List.drop_zero]
      clear hne hc64
      go_wp2_with fail
      refine (block_any g _ 10 sb so c (gat (full.drop (64 * k))) (hs full k) _ wr.drew (by omega) hA'.out.drew (fun j hj => if_pos hj) Hcl.out).mono ?_
      rintro e w2 ⟨rfl, hA2, hU2⟩
      have hA3 := hA2.congr (f' := hcell (hs full (k + 1)) (some ⟨sb, so, none⟩) L c N) (fun j _ => by
        rw [hcell_state, hs_succ]
        unfold hcell
        by_cases h8 : j < 8
        · rw [if_pos h8, if_pos h8]
          exact congrArg by32 (congrFun (compress_congr (fun i _ => gat_drop full (64 * k) i) _) j)
        · rw [if_neg h8, if_neg h8])
      have hU3 := hU2.undrew
      have hO3 := hO'.out.upd hU3 (fun k hk h => hne0 (by unfold only at h; subst h; exact hk))
      have hU4 := hU.trans' hU3 (fun k _ h => by unfold only at h; subst h; exact hTg)
      have c8' : w2.cell? ⟨g, 8, none⟩ = some (.slice (some ⟨sb, so, none⟩) L c) := hA3.cell (i := 8) (by omega)
      have hA3' := hide hA3
      have hs2 := run_cut_l (P := Try.prog) Try.under_bs Try.sz8 (some ⟨sb, so, none⟩) L c 64 .i64 hlt
      clear c8 hA2 hA3 hU2 hU3 hU hA' hO'
      go_wp2_with (refine wpList_store_arr rfl rfl Try.sz_bs rfl (v := .slice (shA (some ⟨sb, so, none⟩) c 64) (L - 64) (c - 64)) rfl rfl hA3'.out (by omega) ?_; intro w3 hA4 hU5)
      all_goals
        have hL2 : L - 64 = N - 64 * (k + 1) := by have := HL.out; omega
        have hA5 := hA4.congr (f' := hcell (hs full (k + 1)) (shA (some ⟨sb, so, none⟩) c 64) (L - 64) (c - 64) N) (fun j _ => hcell_rest _ _ _ _ _ _ _ _ _)
        have hO4 := hO3.upd hU5 (fun k hk h => hne0 (by unfold only at h; subst h; exact hk))
        have hO5 := hO4.shA (k := 64) (by rw [List.length_map, Hxl.out]; exact hlt)
        rw [← List.map_drop, List.drop_drop] at hO5
        refine ⟨⟨k + 1, _, _, by have := HL.out; omega, by rw [← hL2]; exact hA5, hO5, hU4.trans' hU5 (fun k _ h => by unfold only at h; subst h; exact hTg), fun i hi => hin i (inA_shA.1 hi)⟩, ?_⟩
        rw [HLe.out, lenAt_eq hA5]
        omega
    · have d1 : decide ((64 : Int) ≤ (L : Int)) = false := decide_eq_false (by omega)
      have hNk : N / 64 = k := by have := HL.out; omega
      have hLm : L = N % 64 := by have := HL.out; omega
      have HNk := hide hNk
      have HLm := hide hLm
      clear hNk hLm
      have hA' := hide hA
      have hO' := hide hO
      clear hA hO
      go_wp2_with fail
      go_end0
      refine ⟨fun i => i = g ∨ inA A i, rfl, ⟨⟨A, c, ?_, ?_, fun _ => Iff.rfl⟩, hBg⟩, hU, ?_⟩
      · rw [← HN.out, HNk.out, ← HLm.out]; exact hA'.out
      · rw [← HN.out, HNk.out]; exact hO'.out
      · rintro i (rfl | hi)
        · exact .inl hTg
        · exact hin i hi
end Go.Proofs.Ytoekbomfepedcaa
