/- Keys out of keys, walked. -/
import Derived.Test.YtoekbomfepedcaaMac
namespace Go.Proofs.Ytoekbomfepedcaa
set_option linter.unusedSimpArgs false
set_option linter.unusedVariables false
open Go.RowKit
open Sha
open Mac
attribute [local go_sem] steady steadyUpon Cls same_cell by8 by32 by64

/-- A slice of bytes and a number. -/
def MRetE (w : World) (n : Nat) (bs : List (BitVec 8)) (e : Ending) (w' : World) : Prop :=
  ∃ A c, e = .returned (.tuple #[.slice A n c, .int .i64 0]) ∧ Ows w' w.heap.size 5 A c (bs.map by8) ∧ Ext w w'

theorem expand_no (A : Option Addr) (n c : Nat) (D : Option Addr) (m d : Nat) (N : Int) (w : World) (h : N < 0) :
    Calls Try.prog 88 #[.slice A n c, .slice D m d, .int .i64 N] w fun e w' => e = .returned (.tuple #[.slice none 0 0, .int .i64 1]) ∧ w = w' := by
  go_enter Try.func88, Try.ntmps88
  go_wp2
  go_ret2
  exact ⟨rfl, rfl⟩
theorem expand_long (A : Option Addr) (n c : Nat) (D : Option Addr) (m d : Nat) (N : Int) (w : World) (h : 8160 < N) :
    Calls Try.prog 88 #[.slice A n c, .slice D m d, .int .i64 N] w fun e w' => e = .returned (.tuple #[.slice none 0 0, .int .i64 4]) ∧ w = w' := by
  have h0 : ¬ N < 0 := by omega
  go_enter Try.func88, Try.ntmps88
  go_wp2
  go_ret2
  exact ⟨rfl, rfl⟩
theorem n8_k (k : Nat) : (n8 (BitVec.ofNat 8 k) + 1) % 256 = n8 (BitVec.ofNat 8 (k + 1)) := by
  unfold n8
  rw [BitVec.toNat_ofNat, BitVec.toNat_ofNat]
  omega

set_option maxRecDepth 100000 in
set_option maxHeartbeats 2000000 in
theorem expand_any (A : Option Addr) (n c : Nat) (key : List (BitVec 8)) (D : Option Addr) (m d : Nat) (info : List (BitVec 8)) (N : Nat) (w : World) (hS : Sl by8 w A key) (hn : key.length = n) (hc : n ≤ c) (hm : c ≤ maxLen) (hl : n ≤ 10000000)
    (hS' : Sl by8 w D info) (hn' : info.length = m) (hd : m ≤ d) (hd' : d ≤ maxLen) (hl' : m ≤ 1000000) (hN : N ≤ 8160) :
    Calls Try.prog 88 #[.slice A n c, .slice D m d, .int .i64 N] w (MRetE w N (expand key info N)) := by
  have HS := hide hS
  have Hn := hide hn
  have Hm := hide hm
  have HS' := hide hS'
  have Hn' := hide hn'
  have Hd' := hide hd'
  clear hS hn hm hS' hn' hd'
  have h0 : ¬ (N : Int) < 0 := by omega
  have h1 : ¬ (8160 : Int) < (N : Int) := by omega
  go_enter Try.func88, Try.ntmps88
  go_wp2_with fail
  go_loopw [8, 9, 10] (fun v u i wx => ∃ k A1 c1 A2 c2, 32 * k ≤ N + 31 ∧ v = .slice A1 (32 * k) c1 ∧ u = .slice A2 (plen k) c2 ∧ i = .int .u8 (n8 (BitVec.ofNat 8 (k + 1))) ∧ Own wx w.heap.size 5 A1 c1 ((parts key info k).map by8) ∧ Own wx w.heap.size 5 A2 c2 ((Mac.part key info k).map by8) ∧ (∀ i, inA A2 i → ¬ inA A1 i) ∧ Ext w wx) (fun v _ _ _ => N + 32 - lenV v)
  case atStart => exact ⟨0, none, 0, none, 0, by omega, rfl, rfl, rfl, Own.nil, Own.nil, fun i hi => by simp [inA] at hi, Upd.refl _ _⟩
  case round =>
    obtain ⟨k, A1, c1, A2, c2, hk, rfl, rfl, rfl, hO1, hO2, hdis, hU⟩ := hrel
    have hO1' := hide hO1
    have hO2' := hide hO2
    have Hdis := hide hdis
    clear hO1 hO2 hdis
    by_cases hlt : 32 * k < N
    · have hd1 : decide (32 * (k : Int) < N) = true := decide_eq_true (by omega)
      have hparts := Pts.three (wr.alloc (.cells #[.int .u8 (n8 (BitVec.ofNat 8 (k + 1)))] 5)) 23 ⟨A2, plen k, c2, Mac.part key info k⟩ ⟨D, m, d, info⟩ ⟨some ⟨wr.heap.size, 0, none⟩, 1, 1, [BitVec.ofNat 8 (k + 1)]⟩
        ((hO2'.out.mpt (part_length key info k)).ext ((Upd.refl _ _).alloc _)) ⟨HS'.out.ext (hU.alloc _), Hn'.out, hd, Hd'.out⟩ ⟨Sl.new by8 wr 5 [BitVec.ofNat 8 (k + 1)], rfl, Nat.le_refl _, by simp [maxLen]⟩
      rw [show (wr.alloc (.cells #[.int .u8 (n8 (BitVec.ofNat 8 (k + 1)))] 5)).heap.size = wr.heap.size + 1 by simp] at hparts
      have Hparts := hide hparts
      clear hparts
      have hpl2 : plen k ≤ 32 := by cases k <;> simp [plen]
      go_wp2_with fail
      refine (tag_any A n c key _ 3 3 [⟨A2, plen k, c2, Mac.part key info k⟩, ⟨D, m, d, info⟩, ⟨some ⟨wr.heap.size, 0, none⟩, 1, 1, [BitVec.ofNat 8 (k + 1)]⟩] _ (HS.out.ext ((hU.alloc _).alloc _)) Hn.out hc Hm.out hl Hparts.out rfl (by rw [mflat3]; simp only; rw [List.length_append, List.length_append, part_length, Hn'.out]; simp; omega) (by simp [maxLen])).mono ?_
      rintro e w3 ⟨A3, c3, rfl, hO3, hU3⟩
      rw [mflat3] at hO3
      have hO3' : Hid (Own w3 wr.heap.size 5 A3 c3 ((Mac.part key info (k + 1)).map by8)) := hide (Own.mono (xs := (Mac.part key info (k + 1)).map by8) hO3 (by simp; omega))
      have hU3' : Ext wr w3 := (((Upd.refl _ _).alloc _).alloc _).trans hU3
      clear hO3 Hparts
      go_wp2_with (at_builtin; go_must (refine wpList_apd by8 one8 Try.el8 (parts key info k) (Mac.part key info (k + 1)) (parts key info (k + 1)) (32 * (k + 1)) rfl (parts_length key info (k + 1)) (by omega) (by unfold maxLen; omega) rfl rfl rfl (parts_length key info k) (hO1'.out.ext hU3') rfl (part_length key info (k + 1)) hO3'.out.sl (Nat.le_trans hU.size hU3'.size) ?_); intro A4 c4 w4 hO4 hU4 hin4)
      have hn31 : ∀ i, inA A3 i → ¬ inA A1 i := fun i h3 h1 => by have := (hO3'.out.in_ h3).1; have := (hO1'.out.in_ h1).2; omega
      have hO5 := hO3'.out.upd hU4 hn31
      have hU5 := upd_new hU4 (hU.trans hU3') (fun i hi => (hO1'.out.in_ hi).1)
      have hd5 : ∀ i, inA A3 i → ¬ inA A4 i := fun i h3 h4 => by
        rcases hin4 i h4 with h | h
        · exact hn31 i h3 h
        · have := (hO3'.out.in_ h3).2; omega
      exact ⟨⟨k + 1, A4, c4, A3, c3, by omega, rfl, rfl, congrArg (Value.int .u8) (n8_k (k + 1)), hO4, hO5.mono hU.size, hd5, hU5⟩, by simp only [lenV]; omega⟩
    · have hd1 : decide (32 * (k : Int) < N) = false := decide_eq_false (by omega)
      have hs1 : ∀ w' : World, (Instr.sliceAt 23 (.slice A1 (32 * k) c1) none (some (.int .i64 (N : Int))) (some (.int .i64 (N : Int)))).run Try.prog w' = .ok (.slice A1 N N) w' := fun w' =>
        run_cut_hm (P := Try.prog) Try.under_bs Try.sz8 A1 (32 * k) c1 N N .i64 .i64 (Nat.le_refl _) (by have := hO1'.out.cap.1; rw [List.length_map, parts_length] at this; omega) w'
      have hcN : N ≤ c1 := by have := hO1'.out.cap.1; rw [List.length_map, parts_length] at this; omega
      go_wp2_with fail
      go_ret2
      refine ⟨A1, N, rfl, ?_, hU⟩
      have := hO1'.out.ows.cut (n := N) (m := N) (by rw [parts_length]; omega) (Nat.le_refl _) hcN
      rwa [parts_take key info k N (by omega)] at this
end Go.Proofs.Ytoekbomfepedcaa
