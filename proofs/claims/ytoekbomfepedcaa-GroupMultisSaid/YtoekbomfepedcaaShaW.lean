/- The document's sum, walked. -/
import Derived.Test.YtoekbomfepedcaaShaV
namespace Go.Proofs.Ytoekbomfepedcaa
set_option linter.unusedSimpArgs false
set_option linter.unusedVariables false
open Go.RowKit
open Sha
attribute [local go_sem] steady steadyUpon Cls same_cell by8 by32 by64
attribute [local go_sem] conv_u32_u8 shr8_u32 shr16_u32 shr24_u32

def prez (n k : Nat) : List (BitVec 8) := 0x80 :: List.replicate k 0
theorem lens_msg (msg : List (BitVec 8)) (n z k : Nat) : (msg ++ prez n z ++ lens n k) ++ [len1 n (7 - k)] = msg ++ prez n z ++ lens n (k + 1) := by simp [lens]
/-- A quiet load of a whole array. -/
theorem head_load_ext {P : Program} {ops : Array Oper} {w0 w : World} {L : Act → World → Prop} {i : Nat} {r : List (Bool × Nat)} {o : Oper} {a : Act} (ho : ops[i]? = some o) (hgd : o.guard = none) {ty : TypeId} {x : Operand} (hop : o.op = .load ty x)
    {g : Nat} (hx : a.eval x = .pointer (some ⟨g, 0, none⟩)) {t e : TypeId} {n N : Nat} {f : Nat → Value} (hA : Arr w0 g t N f) (hn : n ≤ N) (hu : P.underlying ty = some (.array n e)) (hi : (P.info? ty).map (·.size) = some n)
    (h : ∀ K : Act → Prop, (∀ a, wpHead P ops L r (Cls (Ext w0)) a w → K a) → K (a.put o.dst (.agg (Array.ofFn fun i : Fin n => f i)))) : wpHead P ops L ((false, i) :: r) (Cls (Ext w0)) a w := by
  refine head_q ho fun K hK => ?_
  have hw : Region.wanted o (yielded ops a.tmps) = true := by unfold Region.wanted; rw [hgd]
  rw [if_pos hw]
  refine ⟨_, ?_, h K hK⟩
  rintro _ ⟨y, rfl⟩
  simp only [execOp, hop, hx, Instr.loadAt, Instr.sureAddr, Sem.run_bind, Sem.run_pure, Result.andThen_ok, run_loadVar_head (hA.ext y.ok) hn hu hi]
  exact ⟨rfl, rfl⟩
theorem prez_succ (msg : List (BitVec 8)) (n k : Nat) : (msg ++ prez n k) ++ [0] = msg ++ prez n (k + 1) := by simp [prez, List.replicate_succ']
def lenOfV : Value → Nat
  | .slice _ l _ => l
  | _ => 0
theorem rem_noteq (y : Int) (x : Nat) (hy : y = x) (b : Bool) (h : b = !decide (x % 64 = 56)) : (y % 64 != 56) = b := by
  subst h hy
  by_cases h : x % 64 = 56
  · rw [decide_eq_true h]
    have : ((x : Nat) : Int) % 64 = 56 := by omega
    rw [this]; rfl
  · rw [decide_eq_false h]
    have : ¬ ((x : Nat) : Int) % 64 = 56 := by omega
    simpa using this
theorem zeros_least (n k : Nat) (hk : k ≤ zeros n) : (n + 1 + k) % 64 = 56 ↔ k = zeros n := by unfold zeros at *; omega

set_option maxRecDepth 100000 in
set_option maxHeartbeats 2000000 in
theorem rsum_any (A : Option Addr) (n c : Nat) (msg : List (BitVec 8)) (w : World) (hS : Sl by8 w A msg) (hn : msg.length = n) (hl : n ≤ 100000000) :
    Calls Try.prog 86 #[.slice A n c] w (RetS w 32 (sum msg)) := by
  have Hn := hide hn
  have HS := hide hS
  clear hn hS
  have hz2 := zeros_lt n
  go_enter Try.func86, Try.ntmps86
  go_wp2_with fail
  refine (table_any w).mono ?_
  rintro e w1 ⟨rfl, hU1⟩
  obtain ⟨B, hB⟩ : ∃ B, B = w1.heap.size + 1 + 1 := ⟨_, rfl⟩
  have HB := hide hB
  clear hB
  go_wp2_with (first
    | (refine wpList_store_whole (o := ⟨none, .store 169 _ _, _, _, _, _⟩) (n := 64) (f := fun i => by32 (kk i)) rfl rfl rfl rfl (fun _ => rfl) ((Arr.new w1 _ _ 64 (fun _ => by32 0) rfl zero64).alloc _) Try.sz_64 ?_; intro w2 hA2 hU2)
    | (refine wpList_store_whole (o := ⟨none, .store 164 _ _, _, _, _, _⟩) (n := 8) (f := fun i => by32 (first i)) rfl rfl rfl rfl (fun _ => rfl) ((Arr.new1 w1 _ _ _ 8 (fun _ => by32 0) rfl zero8).upd hU2 (ne_succ _)) Try.sz_t8 ?_; intro w3 hA3 hU3; have hsz : B ≤ w3.heap.size := (by rw [HB.out]; exact Nat.le_trans (by simp) (Nat.le_trans hU2.size hU3.size)))
    | (at_builtin; refine wpList_apd (o := ⟨some 18, _, _, _, _, _⟩) by8 one8 Try.el8 [] msg msg n rfl Hn.out (by omega) (by unfold maxLen; omega) rfl rfl rfl rfl (Own.lit by8 _ (B := w3.heap.size) 5 [] (Nat.le_refl _) (Nat.zero_le _)) rfl Hn.out (HS.out.ext ((hU1.trans (upd_new hU3 (upd_new hU2 (((Upd.refl _ _).alloc _).alloc _) (fun i hi => Nat.le_of_eq hi.symm)) (fun i hi => by unfold only at hi; omega))).alloc _)) (by simp) ?_; intro A4 c4 w4 hO4 hU4 hin4; have hU4' : Ext w3 w4 := upd_new hU4 ((Upd.refl _ _).alloc _) (fun i hi => by simp [inA] at hi; omega))
    | (at_builtin; go_must (refine wpList_apd (o := ⟨some 25, _, _, _, _, _⟩) by8 one8 Try.el8 msg [0x80] (msg ++ prez n 0) (n + 1) rfl (by have := Hn.out; simp [prez]; omega) (by omega) (by unfold maxLen; omega) rfl rfl rfl Hn.out (hO4.ext ((Upd.refl _ _).alloc _)) rfl rfl (Sl.new by8 _ _ [0x80]) (Nat.le_trans hU4'.size (by simp)) ?_); intro A5 c5 w5 hO5 hU5 hin5; have hU5' : Ext w3 w5 := upd_new hU5 (hU4'.alloc _) (fun i hi => (hO4.in_ hi).1)))
  have hU3w : Ext w w3 := hU1.trans (upd_new hU3 (upd_new hU2 (((Upd.refl _ _).alloc _).alloc _) (fun i hi => Nat.le_of_eq hi.symm)) (fun i hi => by unfold only at hi; omega))
  have HAK : Hid (Arr w3 w1.heap.size 169 64 (fun i => by32 (kk i))) := hA2.upd hU3 (fun h => by unfold only at h; omega)
  have HAH : Hid (Arr w3 (w1.heap.size + 1) 164 8 (fun i => by32 (first i))) := hA3
  have hO5' := hide hO5
  have hsz1 : w1.heap.size + 1 < w3.heap.size := by have := HB.out; omega
  clear hA2 hU2 hA3 hU3 hsz hO4 hU4 hin4 hU4' hO5 hU5 hin5 HB
  go_loopw [5] (fun v wx => ∃ k A c, k ≤ zeros n ∧ v = .slice A (n + 1 + k) c ∧ Own wx w3.heap.size 5 A c ((msg ++ prez n k).map by8) ∧ Ext w3 wx) (fun v _ => n + 1 + zeros n - lenOfV v)
  case atStart => exact ⟨0, A5, c5, by omega, rfl, hO5'.out, hU5'⟩
  case round =>
    clear hO5' hU5'
    obtain ⟨k, A, c, hk, rfl, hO, hU⟩ := hrel
    have hO' := hide hO
    clear hO
    have hpl : ∀ k, (msg ++ prez n k).length = n + 1 + k := fun k => by have := Hn.out; simp [prez]; omega
    have Hpl := hide hpl
    clear hpl
    by_cases hlt : k < zeros n
    · have ht : (((n : Int) + 1 + k) % 64 != 56) = true := rem_noteq _ (n + 1 + k) (by omega) _ (by rw [decide_eq_false (fun h => by have := (zeros_least n k hk).1 h; omega)]; rfl)
      go_wp2_with (at_builtin; go_must (refine wpList_apd by8 one8 Try.el8 (msg ++ prez n k) [0] (msg ++ prez n (k + 1)) (n + 1 + (k + 1)) (prez_succ msg n k) (Hpl.out _) (by omega) (by unfold maxLen; omega) rfl rfl rfl (Hpl.out _) (hO'.out.ext ((Upd.refl _ _).alloc _)) rfl rfl (Sl.new by8 _ _ [0]) (Nat.le_trans hU.size (by simp)) ?_); intro A2 c2 w2 hO2 hU2 hin2)
      exact ⟨⟨k + 1, A2, c2, by omega, rfl, hO2, upd_new hU2 (hU.alloc _) (fun i hi => (hO'.out.in_ hi).1)⟩, by simp only [lenOfV]; omega⟩
    · obtain rfl : k = zeros n := by omega
      have ht : (((n : Int) + 1 + (zeros n : Nat)) % 64 != 56) = false := rem_noteq _ (n + 1 + zeros n) (by omega) _ (by rw [decide_eq_true ((zeros_least n _ hk).2 rfl)]; rfl)
      clear hk hlt
      go_wp2_with fail
      clear ht
      have hO1 := hO'.out
      have hU1' := hU
      have hM : msg ++ prez n (zeros n) = msg ++ prez n (zeros n) ++ lens n 0 := by simp [lens]
      rw [hM] at hO1
      have HO1 := hide hO1
      clear hO1 hM hO' hU
      go_loopw [5, 7] (fun v i wx => ∃ k A c, k ≤ 8 ∧ v = .slice A (n + 1 + zeros n + k) c ∧ i = .int .i64 (7 - (k : Int)) ∧ Own wx w3.heap.size 5 A c ((msg ++ prez n (zeros n) ++ lens n k).map by8) ∧ Ext w3 wx) (fun _ i _ => (intOf i + 1).toNat)
      case atStart => exact ⟨0, _, _, by omega, rfl, rfl, HO1.out, hU1'⟩
      case round =>
        clear HO1 hU1'
        obtain ⟨k, A, c, hk, rfl, rfl, hO, hU⟩ := hrel
        have hO' := hide hO
        clear hO
        have hpl : ∀ k, (msg ++ prez n (zeros n) ++ lens n k).length = n + 1 + zeros n + k := fun k => by rw [List.length_append, Hpl.out, lens_length]
        have Hql := hide hpl
        clear hpl
        by_cases hlt : k < 8
        · have hd : decide (0 ≤ 7 - (k : Int)) = true := decide_eq_true (by omega)
          have hval := len1_n8 n (7 - k) hl
          go_wp2_with (at_builtin; go_must (refine wpList_apd by8 one8 Try.el8 (msg ++ prez n (zeros n) ++ lens n k) [len1 n (7 - k)] (msg ++ prez n (zeros n) ++ lens n (k + 1)) (n + 1 + zeros n + (k + 1)) (lens_msg msg n (zeros n) k) (Hql.out _) (by omega) (by unfold maxLen; omega) rfl rfl rfl (Hql.out _) (hO'.out.ext ((Upd.refl _ _).alloc _)) rfl rfl (Sl.new by8 _ _ [len1 n (7 - k)]) (Nat.le_trans hU.size (by simp)) ?_); intro A2 c2 w2 hO2 hU2 hin2)
          go_roundw
          case rel => exact ⟨k + 1, A2, c2, by omega, rfl, by go_num, hO2, upd_new hU2 (hU.alloc _) (fun i hi => (hO'.out.in_ hi).1)⟩
          case measure => simp [intOf]; omega
        · obtain rfl : k = 8 := by omega
          clear hk hlt
          obtain ⟨full, hfull⟩ : ∃ full, full = msg ++ prez n (zeros n) ++ lens n 8 := ⟨_, rfl⟩
          obtain ⟨N, hN⟩ : ∃ N, N = n + 1 + zeros n + 8 := ⟨_, rfl⟩
          have hN64 : N % 64 = 0 := by have := zeros_fit n; omega
          have hNs : N ≤ 100000100 := by omega
          rw [← hfull] at hO'
          rw [← hN]
          have HNl : Hid (full.length = N) := hide (by rw [hfull, Hql.out, hN])
          have Hfull := hide hfull
          have HN := hide hN
          clear hfull hN
          obtain ⟨ab, rfl, hab, _⟩ := hO'.out.open_ (by have := HN.out; rw [List.length_map, HNl.out]; omega)
          have hS := hide hO'.out.sl
          have hcap := hO'.out.cap
          rw [List.length_map, HNl.out] at hcap
          unfold maxLen at hcap
          clear hO' Hql
          go_wp2_with fail
          rw [show (7 : Int) - ((8 : Nat) : Int) = -1 from rfl]
          go_loopw [8] (fun i wx => ∃ k, 64 * k ≤ N ∧ i = .int .i64 (64 * (k : Int)) ∧ Arr wx (w1.heap.size + 1) 164 8 (fun i => by32 (hs full k i)) ∧ Upd (only (w1.heap.size + 1)) wr wx) (fun i _ => N - (intOf i).toNat)
          case atStart => exact ⟨0, by omega, rfl, HAH.out.ext hU, Upd.refl _ _⟩
          case round =>
            obtain ⟨k, hk, rfl, hA, hU2⟩ := hrel
            by_cases hlt : 64 * k < N
            · have hlti : 64 * (k : Int) < N := by omega
              have hd : decide (64 * (k : Int) < N) = true := decide_eq_true hlti
              have e1 : IntKind.i64.wrap (64 * (k : Int) + 64) = 64 * (k : Int) + 64 := by rw [IntWalk.i64_in _ (by omega)]
              have hs1 : ∀ w' : World, (Instr.sliceAt 23 (.slice (some ⟨ab, 0, none⟩) N c) (some (.int .i64 (64 * (k : Int)))) (some (.int .i64 (64 * (k : Int) + 64))) none).run Try.prog w' = .ok (.slice (some ⟨ab, 64 * k, none⟩) 64 (c - 64 * k)) w' := fun w' => by
                have := run_cut_lh (P := Try.prog) Try.under_bs Try.sz8 (some ⟨ab, 0, none⟩) N c (64 * k) (64 * k + 64) .i64 .i64 (by omega) (by omega) w'
                rw [shA_some, if_neg (by omega), show 64 * k + 64 - 64 * k = 64 by omega] at this
                simpa using this
              have hK := ((HAK.out.ext hU).upd hU2 (fun h => by unfold only at h; omega)).drew
              have hcell : ∀ j, j < 64 → wr.drew.cell? ⟨ab, 64 * k + j, none⟩ = some (by8 (blk full k j)) := fun j hj => by
                have h1 := (hS.out.upd hU2 (fun b o e h => by injection e with e; injection e with e; unfold only at h; omega)).cells (64 * k + j) (by rw [HNl.out]; omega)
                rw [Nat.zero_add] at h1
                exact h1
              have Hcell := hide hcell
              have hA' := hide hA.drew
              have hK' := hide hK
              clear hA hK hcell
              go_wp2_with fail
              refine wp_region_plan (Ext _) 8 [(false,0), (false,1), (false,2), (false,3), (false,4), (false,5), (false,6), (true,7)] (by kernel_rfl) (by kernel_rfl) (Upd.refl _ _) (fun hne => ?_)
              repeat (refine head_q rfl (fun K hK => ?_); have hK2 := hide hK; clear hK; go_simp; refine hK2.out _ ?_; clear hK2 K)
              refine head_load_ext rfl rfl rfl rfl hA'.out (Nat.le_refl _) Try.under_t8 Try.sz_t8 (fun K hK => ?_)
              go_simp
              refine hK _ ?_
              clear hK K
              repeat (refine head_q rfl (fun K hK => ?_); have hK2 := hide hK; clear hK; go_simp; refine hK2.out _ ?_; clear hK2 K)
              refine head_load_ext rfl rfl rfl rfl hK'.out (Nat.le_refl _) Try.under_64 Try.sz_64 (fun K hK => ?_)
              go_simp
              refine hK _ ?_
              clear hK K
              refine head_l rfl ?_
              go_wp2_with (go_at_call 120; go_must (refine (rblock_any ab (64 * k) _ (blk full k) (hs full k) _ Hcell.out).mono ?_); rintro e w6 ⟨rfl, hU6⟩)
              refine ⟨Cls (Ext _), cls_narrow hU6, ⟨⟨_, Upd.refl _ _⟩, rfl⟩, ?_⟩
              refine head_nil ?_
              try simp only [List.drop_succ_cons, List.drop_zero]
              go_must (refine wpList_store_whole (n := 8) (f := fun i => by32 (compress (blk full k) (hs full k) i)) rfl rfl rfl rfl (fun _ => rfl) (hA'.out.ext hU6) Try.sz_t8 ?_); intro w7 hA7 hU7
              have hU8 := hU2.trans ((Upd.ofExt (T := only (w1.heap.size + 1)) hU6).trans hU7).undrew
              clear hne hs1 hA' hK' e1 hU6 hU7
              go_wp2
              go_roundw
              case rel => exact ⟨k + 1, by omega, congrArg (Value.int .i64) (by omega), hA7, hU8⟩
              case measure => simp [intOf]; omega
            · obtain ⟨H, hHe⟩ : ∃ H, H = hs full k := ⟨_, rfl⟩
              rw [← hHe] at hA
              have hkN : k = N / 64 := by omega
              have HHe : Hid (H = hs full (full.length / 64)) := hide (by rw [hHe, HNl.out, hkN])
              have hU6 : Ext w wr := upd_new hU2 (hU3w.trans hU) (fun i hi => by unfold only at hi; have := hU3w.size; have := hU1.size; omega)
              have hd : decide (64 * (k : Int) < N) = false := decide_eq_false (by omega)
              clear hHe hkN hk hlt hU2
              go_wp2_with (first
                | (refine wpList_load_arr rfl rfl rfl (hA.alloc _) Try.under_t8 Try.sz_t8 ?_; clear hA))
              go_loopw [62, 9, 11] (fun i v _ wx => ∃ k A c, k ≤ 8 ∧ i = .int .i64 (k : Nat) ∧ v = .slice A (4 * k) c ∧ Own wx w.heap.size 5 A c ((out H k).map by8) ∧ Ext w wx) (fun i _ _ _ => 8 - (intOf i).toNat)
              case atStart => exact ⟨0, _, _, by omega, rfl, rfl, Own.lit by8 _ 5 [] hU6.size (Nat.zero_le _), hU6.alloc _⟩
              case round =>
                clear hU6
                obtain ⟨k, A, c', hk, rfl, rfl, hO, hU⟩ := hrel
                have hO' := hide hO
                clear hO
                by_cases hlt : k < 8
                · have hlti : (k : Int) < 8 := by omega
                  have hd : decide ((k : Int) < 8) = true := decide_eq_true (by omega)
                  have hix := fun (w : World) => run_index_arr (P := Try.prog) Try.under_t8 Try.sz32 Try.under32 rfl (fun j => .int .u32 (n32 (H j))) hlt .i64 w
                  go_wp2_with (at_builtin; go_must (refine wpList_apd by8 one8 Try.el8 (out H k) (be32 (H k)) (out H (k + 1)) (4 * (k + 1)) rfl (out_length H (k + 1)) (by omega) (by unfold maxLen; omega) rfl rfl rfl (out_length H k) (Own.ext hO'.out ((Upd.refl _ _).alloc _)) rfl rfl (Sl.new by8 _ _ (be32 (H k))) (Nat.le_trans hU.size (by simp)) ?_); intro A2 c2 w2 hO2 hU2 hin2)
                  go_roundw
                  case rel => exact ⟨k + 1, A2, c2, by omega, by go_num, rfl, hO2, upd_new hU2 (hU.alloc _) (fun i hi => (hO'.out.in_ hi).1)⟩
                  case measure => simp [intOf]; omega
                · obtain rfl : k = 8 := by omega
                  clear hk hlt
                  go_wp2_with fail
                  go_ret
                  refine ⟨A, c', rfl, ?_, hU⟩
                  have e : out H 8 = sum msg := by
                    have hf : full = msg ++ pad msg.length := by rw [Hfull.out, Hn.out, List.append_assoc]; rfl
                    rw [HHe.out, hf, List.length_append]
                    rfl
                  rw [← e]
                  exact hO'.out
end Go.Proofs.Ytoekbomfepedcaa
