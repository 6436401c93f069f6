/- slices.Chunk at 64 bytes: the library's iterator, for every loop's body. -/
import Derived.Test.YtejjofjhcgdedaaKeys
namespace Go.Proofs.Ytejjofjhcgdedaa
set_option linter.unusedSimpArgs false
set_option linter.unusedVariables false
open Go.RowKit Go.Shelf
attribute [local go_sem] Oper.semAt_some
/-- the two boxes that the iterator reads stay -/
def Kc (Bs Bn : Nat) (W W' : World) : Prop := (∀ v, W.cell? ⟨Bs, 0, none⟩ = some v → W'.cell? ⟨Bs, 0, none⟩ = some v) ∧ ∀ v, W.cell? ⟨Bn, 0, none⟩ = some v → W'.cell? ⟨Bn, 0, none⟩ = some v
theorem Kc.trans {Bs Bn : Nat} {A B C : World} (h : Kc Bs Bn A B) (k : Kc Bs Bn B C) : Kc Bs Bn A C := ⟨fun v hv => k.1 v (h.1 v hv), fun v hv => k.2 v (h.2 v hv)⟩
theorem Kc.refl (Bs Bn : Nat) (A : World) : Kc Bs Bn A A := ⟨fun _ h => h, fun _ h => h⟩
theorem Kc.put {Bs Bn : Nat} {w : World} (hs : Bs < w.heap.size) (hn : Bn < w.heap.size) (W : World) (l : Nat) (o o' : Obj) (hl : w.heap.size ≤ l) (_ : W.heap[l]? = some o) : Kc Bs Bn W (W.putObj l o') :=
  ⟨fun v hv => ((grownBy_putObj' W l o').cell (a := ⟨Bs, 0, none⟩) hv (by simp; omega)), fun v hv => ((grownBy_putObj' W l o').cell (a := ⟨Bn, 0, none⟩) hv (by simp; omega))⟩
set_option maxRecDepth 100000 in
set_option maxHeartbeats 2000000 in
theorem chunk1_in (F : Fence) (n : Nat) (hf : F.fn 60) (hro : F.round = none) (hn : 1 ≤ n) (l Bs Bn gA oA m c : Nat) (hm : 64 * m ≤ 100000000) (hc : 64 * m ≤ c) (J Jx : List (Fin m) → World → Prop)
    (hY : ∀ pre x W, J pre W → pre.length < m → YieldAt F (n - 1) Try.prog l #[.slice (some ⟨gA, oA + 64 * x.1, none⟩) 64 64] W fun e W' =>
      (e = .returned (.bool true) ∧ J (pre ++ [x]) W' ∧ Kc Bs Bn W W') ∨ (e = .returned (.bool false) ∧ Jx (pre ++ [x]) W'))
    (W : World) (hJ : AbidesFrom W.heap.size J) (cs : W.cell? ⟨Bs, 0, none⟩ = some (.slice (some ⟨gA, oA, none⟩) (64 * m) c)) (cn : W.cell? ⟨Bn, 0, none⟩ = some (.int .i64 64)) (h0 : J [] W) :
    CallsIn F n Try.prog 60 #[.func (.yield l) #[] #[], .pointer (some ⟨Bs, 0, none⟩), .pointer (some ⟨Bn, 0, none⟩)] W fun e W' => (∃ v, e = .returned v) ∧
      ((∃ ss : List (Fin m), ss = List.finRange m ∧ J ss W') ∨ (∃ pre : List (Fin m), True ∧ Jx pre W')) := by
  refine callsIn_of_wp Try.func60 rfl hf ?_ hro
  simp only [Try.ntmps60, List.size_toArray, List.length_cons, List.length_nil, Nat.reduceAdd, Nat.reduceSub, Array.replicate_succ, Array.replicate_zero, List.push_toArray, List.append_toArray, List.nil_append, List.cons_append]
  gi_wp2
  gi_loopw [4] (fun i wr => ∃ k : Nat, k ≤ m ∧ i = .int .i64 ((64 * k : Nat) : Int) ∧ wr.cell? ⟨Bs, 0, none⟩ = some (.slice (some ⟨gA, oA, none⟩) (64 * m) c) ∧ wr.cell? ⟨Bn, 0, none⟩ = some (.int .i64 64) ∧ J ((List.finRange m).take k) wr)
    (fun i _ => 64 * m - (Go.RowKit.intOf i).toNat)
  case atStart => exact ⟨0, Nat.zero_le _, rfl, cs, cn, h0⟩
  case round =>
    obtain ⟨k, hk, rfl, cs, cn, hJs⟩ := hrel
    obtain ⟨p, hp⟩ : ∃ p, p = 64 * k := ⟨_, rfl⟩
    obtain ⟨N, hN⟩ : ∃ N, N = 64 * m := ⟨_, rfl⟩
    rw [← hN] at cs
    rw [← hp]
    by_cases hlt : k < m
    · have hlti : (p : Int) < (N : Int) := by omega
      have hle : p ≤ N := by omega
      have hle2 : (p : Int) ≤ (N : Int) := by omega
      have hmin : ¬ (((N - p : Nat) : Int) < 64) := by omega
      have hp64 : p + 64 ≤ N := by omega
      have hNc : N ≤ c := by omega
      have hb : p + 64 < 100000000 + 64 := by omega
      have hJd : J ((List.finRange m).take k) wr.drew := hJ _ wr wr.drew none hJs ⟨rfl, rfl, rfl, Nat.le_refl _, fun _ _ _ => rfl⟩ (fun r e => by cases e)
      obtain ⟨fn, tmps, assign, body, hy, hR⟩ := hY ((List.finRange m).take k) ⟨k, hlt⟩ wr.drew hJd (by rw [List.length_take, List.length_finRange]; omega)
      dsimp only at hy
      rw [← hp] at hy
      have htk : (List.finRange m).take (k + 1) = (List.finRange m).take k ++ [⟨k, hlt⟩] := by rw [List.take_succ_eq_append_getElem (by rw [List.length_finRange]; exact hlt), List.getElem_finRange]; rfl
      have Htk := hide htk
      clear htk
      have Hp := hide hp
      have HN := hide hN
      clear hp hN hJs hJd hY hm
      gi_wp2
      gi_region
      all_goals gi_wp2
      all_goals
        refine hR.mono ?_
        rintro e W3 (⟨rfl, hJ3, hk3⟩ | ⟨rfl, hJx3⟩)
        · have cs3 := hk3.1 _ (show wr.drew.cell? ⟨Bs, 0, none⟩ = _ from cs)
          have cn3 := hk3.2 _ (show wr.drew.cell? ⟨Bn, 0, none⟩ = _ from cn)
          rw [← Htk.out] at hJ3
          have HJ3 := hide hJ3
          clear hJ3 hk3 hR hy
          gi_wp2
          go_roundw
          case rel => exact ⟨k + 1, by have := Hp.out; have := HN.out; omega, by rw [Hp.out]; congr 1 <;> omega, by rw [HN.out] at cs3; exact cs3, cn3, HJ3.out⟩
          case measure => simp [Go.RowKit.intOf] <;> (have := HN.out; omega)
        · have HJx3 := hide hJx3
          clear hJx3 hR hy
          gi_wp2
          refine bodyPost_ret (results_none rfl _ _ _) rfl ?_
          exact ⟨⟨_, rfl⟩, .inr ⟨_, trivial, HJx3.out⟩⟩
    · obtain rfl : k = m := by omega
      obtain rfl : p = N := by omega
      have hlti : ¬ (p : Int) < (p : Int) := by omega
      gi_wp2
      go_end0
      rw [List.take_of_length_le (by rw [List.length_finRange]; exact Nat.le_refl _)] at hJs
      exact ⟨⟨_, rfl⟩, .inl hJs⟩
/-- what the library's Chunk hands back stops -/
theorem chunk_stops (F : Fence) (n : Nat) (hf : F.fn 60) (hro : F.round = none) (hn : 1 ≤ n) (Bs Bn gA oA m c : Nat) (hm : 64 * m ≤ 100000000) (hc : 64 * m ≤ c) (w : World) (hBs : Bs < w.heap.size) (hBn : Bn < w.heap.size)
    (cs : w.cell? ⟨Bs, 0, none⟩ = some (.slice (some ⟨gA, oA, none⟩) (64 * m) c)) (cn : w.cell? ⟨Bn, 0, none⟩ = some (.int .i64 64)) :
    SeqStopsK F n Try.prog 60 #[.pointer (some ⟨Bs, 0, none⟩), .pointer (some ⟨Bn, 0, none⟩)] (fun x : Fin m => #[.slice (some ⟨gA, oA + 64 * x.1, none⟩) 64 64]) (Kc Bs Bn) (fun ss => ss = List.finRange m) (fun _ => True) m w := fun l J Jx W hW hJ _ hY h0 =>
  chunk1_in F n hf hro hn l Bs Bn gA oA m c hm hc J Jx hY W hJ ((hW.cell (p := ⟨Bs, 0, none⟩) hBs).trans cs) ((hW.cell (p := ⟨Bn, 0, none⟩) hBn).trans cn) h0
set_option maxRecDepth 100000 in
theorem chunk_any (A : Option Addr) (l c : Nat) (w : World) : Calls Try.prog 56 #[.slice A l c, .int .i64 64] w fun e w' =>
    e = .returned (.func (.func 60) #[] #[.pointer (some ⟨w.heap.size, 0, none⟩), .pointer (some ⟨w.heap.size + 1, 0, none⟩)]) ∧ w' = (w.alloc (.cells #[.slice A l c] 26)).alloc (.cells #[.int .i64 64] 3) := by
  go_enter Try.func56, Try.ntmps56
  go_wp2_with fail
  go_ret
  exact ⟨rfl, rfl⟩
end Go.Proofs.Ytejjofjhcgdedaa
