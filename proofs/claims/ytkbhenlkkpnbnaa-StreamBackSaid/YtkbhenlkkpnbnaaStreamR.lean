/- The document's stream: small functions and its quarter round, walked. -/
import Derived.Test.YtkbhenlkkpnbnaaStreamB
import Derived.Test.YtkbhenlkkpnbnaaStreamN
namespace Go.Proofs.Ytkbhenlkkpnbnaa
open Go.RowKit
open Strm
attribute [local go_sem] steady steadyUpon Cls same_cell by8 by32 by64
attribute [local go_sem] add_u32 xor_u32 or_u32 and_u32 shl_u32 shr_u32 conv_u8_u32 conv_u32_u8 shr_u32' mulc_u32

theorem Try.el32 : ElemI Try.prog 40 23 (.int .u32 0) 4 := ⟨by kernel_rfl, by kernel_rfl, rfl⟩

set_option maxHeartbeats 400000 in
theorem turn_any (x : BitVec 32) (s : Nat) (h : s ≤ 31) (w : World) :
    Calls Try.prog 19 #[.int .u32 (n32 x), .int .u64 (s : Int)] w fun e w' => e = .returned (.int .u32 (n32 (rotl x s))) ∧ w = w' := by
  have h2 : IntKind.u64.wrap (32 - (s : Int)) = ((32 - s : Nat) : Int) := by rw [IntWalk.u64_in _ (by omega)]; omega
  unfold rotl
  go_enter Try.func19, Try.ntmps19
  go_wp2
  go_ret
  exact ⟨rfl, rfl⟩
theorem turn_at (x : BitVec 32) (n : Int) (s : Nat) (hs : n = (s : Int)) (h : s ≤ 31) (w : World) :
    Calls Try.prog 19 #[.int .u32 (n32 x), .int .u64 n] w fun e w' => e = .returned (.int .u32 (n32 (rotl x s))) ∧ w = w' := by
  subst hs; exact turn_any x s h w

set_option maxHeartbeats 400000 in
theorem refword_any (b o n c : Nat) (bs : List (BitVec 8)) (i : Nat) (w : World) (hn : 4 ≤ n) (h0 : w.cell? ⟨b, o, none⟩ = some (by8 (gat bs i))) (h1 : w.cell? ⟨b, o + 1, none⟩ = some (by8 (gat bs (i + 1)))) (h2 : w.cell? ⟨b, o + 2, none⟩ = some (by8 (gat bs (i + 2))))
    (h3 : w.cell? ⟨b, o + 3, none⟩ = some (by8 (gat bs (i + 3)))) :
    Calls Try.prog 16 #[.slice (some ⟨b, o, none⟩) n c] w fun e w' => e = .returned (.int .u32 (n32 (wordAt bs i))) ∧ Ext w w' := by
  have i0 : (0 : Int) < n := by omega
  have i1 : (1 : Int) < n := by omega
  have i2 : (2 : Int) < n := by omega
  have i3 : (3 : Int) < n := by omega
  unfold wordAt
  rw [← refword]
  go_enter Try.func16, Try.ntmps16
  go_wp2
  go_quiet (fail)
  go_wp2
  go_ret
  exact ⟨rfl, (Upd.refl _ _).drewN _⟩

def rightB (n m : Nat) : Bool := n == 32 && m == 12
set_option maxHeartbeats 400000 in
theorem right_any (A B : Option Addr) (n m c d : Nat) (w : World) :
    Calls Try.prog 9 #[.slice A n c, .slice B m d] w fun e w' => e = .returned (.bool (rightB n m)) ∧ w = w' := by
  by_cases h1 : n = 32
  · subst h1
    by_cases h2 : m = 12
    · subst h2
      go_enter Try.func9, Try.ntmps9
      go_wp2
      go_ret
      exact ⟨rfl, rfl⟩
    · have h3 : ((m : Int) == 12) = false := by rw [beq_eq_false_iff_ne]; omega
      have h4 : rightB 32 m = false := by simp [rightB, h2]
      rw [h4]
      clear h4 h2
      go_enter Try.func9, Try.ntmps9
      go_wp2
      go_ret
      exact ⟨rfl, rfl⟩
  · have h3 : ((n : Int) == 32) = false := by rw [beq_eq_false_iff_ne]; omega
    have h4 : rightB n m = false := by simp [rightB, h1]
    rw [h4]
    clear h4 h1
    go_enter Try.func9, Try.ntmps9
    go_wp2
    go_ret
    exact ⟨rfl, rfl⟩

set_option maxRecDepth 100000 in
set_option maxHeartbeats 2000000 in
theorem refquarter_any (g cc a b c d : Nat) (ai bi ci di : Int) (ha : ai = a) (hb : bi = b) (hcc : ci = c) (hdd : di = d) (S : Nat → BitVec 32) (w : World) (hab : a < b) (hbc : b < c) (hcd : c < d) (hd : d < 16) (hA : Row w g 23 16 (fun i => by32 (S i))) :
    Calls Try.prog 17 #[.slice (some ⟨g, 0, none⟩) 16 cc, .int .i64 ai, .int .i64 bi, .int .i64 ci, .int .i64 di] w fun e w' =>
      e = .returned (.tuple #[]) ∧ Row w' g 23 16 (fun i => by32 (quarter S a b c d i)) ∧ Upd (only g) w w' := by
  subst ha hb hcc hdd
  have ia : (a : Int) < 16 := by omega
  have ib : (b : Int) < 16 := by omega
  have ic : (c : Int) < 16 := by omega
  have id : (d : Int) < 16 := by omega
  have ja : a < 16 := by omega
  have jb : b < 16 := by omega
  have jc : c < 16 := by omega
  go_enter Try.func17, Try.ntmps17
  go_wp2
  have hc := fun i (h : i < 16) => hA.cell (i := i) h
  refine wp_region_plan (Same _) 12 [(false,0), (false,1), (false,2), (false,3), (false,4), (false,5), (false,6), (false,7), (false,8), (false,9), (false,10), (false,11)] (by kernel_rfl) (by kernel_rfl) rfl (fun hne => ?_)
  repeat (refine head_q rfl (fun K hK => ?_); go_simp; refine hK _ ?_; clear hK K)
  refine head_nil ?_
  simp only [List.drop_succ_cons, List.drop_zero]
  refine wpList_store_row by32 one32 (_) rfl rfl Try.sz32 rfl rfl hA (by omega) ?_
  clear hc hne hA
  intro w1 hA U1
  go_wp2
  have hc := fun i (h : i < 16) => hA.cell (i := i) h
  refine wp_region_plan (Same _) 13 [(false,0), (false,1), (false,2), (false,3), (false,4), (false,5), (false,6), (false,7), (false,8), (false,9), (false,10), (true,11), (false,12)] (by kernel_rfl) (by kernel_rfl) rfl (fun hne => ?_)
  repeat (refine head_q rfl (fun K hK => ?_); go_simp; refine hK _ ?_; clear hK K)
  refine head_l rfl ?_
  go_wp2_with (go_at_call 19; refine (turn_at _ _ 16 rfl (by omega) _).mono ?_; rintro e w' ⟨rfl, rfl⟩)
  refine ⟨_, fun _ h => h, ⟨⟨_, rfl⟩, rfl⟩, ?_⟩
  repeat (refine head_q rfl (fun K hK => ?_); go_simp; refine hK _ ?_; clear hK K)
  refine head_nil ?_
  simp only [List.drop_succ_cons, List.drop_zero]
  refine wpList_store_row by32 one32 (_) rfl rfl Try.sz32 rfl rfl hA (by omega) ?_
  clear hc hne hA
  intro w2 hA U2
  go_wp2
  have hc := fun i (h : i < 16) => hA.cell (i := i) h
  refine wp_region_plan (Same _) 12 [(false,0), (false,1), (false,2), (false,3), (false,4), (false,5), (false,6), (false,7), (false,8), (false,9), (false,10), (false,11)] (by kernel_rfl) (by kernel_rfl) rfl (fun hne => ?_)
  repeat (refine head_q rfl (fun K hK => ?_); go_simp; refine hK _ ?_; clear hK K)
  refine head_nil ?_
  simp only [List.drop_succ_cons, List.drop_zero]
  refine wpList_store_row by32 one32 (_) rfl rfl Try.sz32 rfl rfl hA (by omega) ?_
  clear hc hne hA
  intro w3 hA U3
  go_wp2
  have hc := fun i (h : i < 16) => hA.cell (i := i) h
  refine wp_region_plan (Same _) 13 [(false,0), (false,1), (false,2), (false,3), (false,4), (false,5), (false,6), (false,7), (false,8), (false,9), (false,10), (true,11), (false,12)] (by kernel_rfl) (by kernel_rfl) rfl (fun hne => ?_)
  repeat (refine head_q rfl (fun K hK => ?_); go_simp; refine hK _ ?_; clear hK K)
  refine head_l rfl ?_
  go_wp2_with (go_at_call 19; refine (turn_at _ _ 12 rfl (by omega) _).mono ?_; rintro e w' ⟨rfl, rfl⟩)
  refine ⟨_, fun _ h => h, ⟨⟨_, rfl⟩, rfl⟩, ?_⟩
  repeat (refine head_q rfl (fun K hK => ?_); go_simp; refine hK _ ?_; clear hK K)
  refine head_nil ?_
  simp only [List.drop_succ_cons, List.drop_zero]
  refine wpList_store_row by32 one32 (_) rfl rfl Try.sz32 rfl rfl hA (by omega) ?_
  clear hc hne hA
  intro w4 hA U4
  go_wp2
  have hc := fun i (h : i < 16) => hA.cell (i := i) h
  refine wp_region_plan (Same _) 12 [(false,0), (false,1), (false,2), (false,3), (false,4), (false,5), (false,6), (false,7), (false,8), (false,9), (false,10), (false,11)] (by kernel_rfl) (by kernel_rfl) rfl (fun hne => ?_)
  repeat (refine head_q rfl (fun K hK => ?_); go_simp; refine hK _ ?_; clear hK K)
  refine head_nil ?_
  simp only [List.drop_succ_cons, List.drop_zero]
  refine wpList_store_row by32 one32 (_) rfl rfl Try.sz32 rfl rfl hA (by omega) ?_
  clear hc hne hA
  intro w5 hA U5
  go_wp2
  have hc := fun i (h : i < 16) => hA.cell (i := i) h
  refine wp_region_plan (Same _) 13 [(false,0), (false,1), (false,2), (false,3), (false,4), (false,5), (false,6), (false,7), (false,8), (false,9), (false,10), (true,11), (false,12)] (by kernel_rfl) (by kernel_rfl) rfl (fun hne => ?_)
  repeat (refine head_q rfl (fun K hK => ?_); go_simp; refine hK _ ?_; clear hK K)
  refine head_l rfl ?_
  go_wp2_with (go_at_call 19; refine (turn_at _ _ 8 rfl (by omega) _).mono ?_; rintro e w' ⟨rfl, rfl⟩)
  refine ⟨_, fun _ h => h, ⟨⟨_, rfl⟩, rfl⟩, ?_⟩
  repeat (refine head_q rfl (fun K hK => ?_); go_simp; refine hK _ ?_; clear hK K)
  refine head_nil ?_
  simp only [List.drop_succ_cons, List.drop_zero]
  refine wpList_store_row by32 one32 (_) rfl rfl Try.sz32 rfl rfl hA (by omega) ?_
  clear hc hne hA
  intro w6 hA U6
  go_wp2
  have hc := fun i (h : i < 16) => hA.cell (i := i) h
  refine wp_region_plan (Same _) 12 [(false,0), (false,1), (false,2), (false,3), (false,4), (false,5), (false,6), (false,7), (false,8), (false,9), (false,10), (false,11)] (by kernel_rfl) (by kernel_rfl) rfl (fun hne => ?_)
  repeat (refine head_q rfl (fun K hK => ?_); go_simp; refine hK _ ?_; clear hK K)
  refine head_nil ?_
  simp only [List.drop_succ_cons, List.drop_zero]
  refine wpList_store_row by32 one32 (_) rfl rfl Try.sz32 rfl rfl hA (by omega) ?_
  clear hc hne hA
  intro w7 hA U7
  go_wp2
  have hc := fun i (h : i < 16) => hA.cell (i := i) h
  refine wp_region_plan (Same _) 13 [(false,0), (false,1), (false,2), (false,3), (false,4), (false,5), (false,6), (false,7), (false,8), (false,9), (false,10), (true,11), (false,12)] (by kernel_rfl) (by kernel_rfl) rfl (fun hne => ?_)
  repeat (refine head_q rfl (fun K hK => ?_); go_simp; refine hK _ ?_; clear hK K)
  refine head_l rfl ?_
  go_wp2_with (go_at_call 19; refine (turn_at _ _ 7 rfl (by omega) _).mono ?_; rintro e w' ⟨rfl, rfl⟩)
  refine ⟨_, fun _ h => h, ⟨⟨_, rfl⟩, rfl⟩, ?_⟩
  repeat (refine head_q rfl (fun K hK => ?_); go_simp; refine hK _ ?_; clear hK K)
  refine head_nil ?_
  simp only [List.drop_succ_cons, List.drop_zero]
  refine wpList_store_row by32 one32 (_) rfl rfl Try.sz32 rfl rfl hA (by omega) ?_
  clear hc hne hA
  intro w8 hA U8
  go_wp2
  go_end0
  exact ⟨rfl, hA, ((((((U1.undrew.trans U2.undrew).trans U3.undrew).trans U4.undrew).trans U5.undrew).trans U6.undrew).trans U7.undrew).trans U8.undrew⟩
end Go.Proofs.Ytkbhenlkkpnbnaa
