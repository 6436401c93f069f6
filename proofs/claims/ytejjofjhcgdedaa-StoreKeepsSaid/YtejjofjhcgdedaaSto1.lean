/- The store's bytes, walked: put, get. -/
import Derived.Test.YtejjofjhcgdedaaStoP
import Derived.Test.YtejjofjhcgdedaaSlbU
namespace Go.Proofs.Ytejjofjhcgdedaa
set_option linter.unusedSimpArgs false
set_option linter.unusedVariables false
open Go.RowKit
open Sha
attribute [local go_sem] steady steadyUpon Cls same_cell anyW
attribute [local irreducible] wpHead wpTree wpHeadR Sha.sum
theorem Sto.numB_at (n : Nat) : ∀ (k j : Nat), j < k → (Sto.numB n k)[j]? = some (BitVec.ofNat 8 (n / 256 ^ (k - 1 - j)))
  | 0, j, h => absurd h (by omega)
  | k + 1, 0, _ => by unfold Sto.numB; simp
  | k + 1, j + 1, h => by
    unfold Sto.numB
    rw [List.getElem?_cons_succ, Sto.numB_at n k j (by omega)]
    congr 4
    omega
theorem Sto.numB_take (n k j : Nat) (h : j < k) : (Sto.numB n k).take (j + 1) = (Sto.numB n k).take j ++ [BitVec.ofNat 8 (n / 256 ^ (k - 1 - j))] := by
  rw [List.take_add_one, Sto.numB_at n k j h]
  rfl
theorem Sl.new_at {α : Type} [Inhabited α] (f : α → Value) {w : World} {t : TypeId} (xs : List α) {b : Nat} (hb : w.heap.size = b) {cs : Array Value} (hc : (xs.map f).toArray = cs) : Sl f (w.alloc (.cells cs t)) (some ⟨b, 0, none⟩) xs := by
  subst hb hc; exact Sl.new f w t xs
def RetPutB (w0 : World) (l : Nat) (bs : List B8) (e : Ending) (w' : World) : Prop := ∃ A c, e = .returned (.slice A l c) ∧ Own w' w0.heap.size 5 A c (bs.map by8) ∧ Ext w0 w'
set_option maxRecDepth 100000 in
set_option maxHeartbeats 4000000 in
theorem sput_any (w0 : World) (A : Option Addr) (l c n s N : Nat) (bs : List B8) (w : World) (hO : Own w w0.heap.size 5 A c (bs.map by8)) (hl : bs.length = l) (hn : n < 18446744073709551616) (hs : s ≤ 8) (hN : l + s = N) (hN2 : N ≤ 1000000) (hE : Ext w0 w) :
    Calls Try.prog 57 #[.slice A l c, .int .u64 (n : Int), .int .i64 (s : Int)] w (RetPutB w0 N (bs ++ Sto.numB n s)) := by
  have HO := hide hO
  have Hl := hide hl
  have HE := hide hE
  have Hn := hide hn
  clear hO hl hE hn
  go_enter Try.func57, Try.ntmps57
  go_wp2_with fail
  go_loopw [0, 7] (fun bv iv wr => ∃ (j m : Nat) (D : Option Addr) (cD : Nat) (z : Int), j ≤ s ∧ m + j = N ∧ iv = .int .i64 z ∧ z = (j : Int) - 1 ∧ bv = .slice D m cD ∧ Own wr w0.heap.size 5 D cD ((bs ++ (Sto.numB n s).take (s - j)).map by8) ∧ Ext w0 wr) (fun _ iv _ => (Go.RowKit.intOf iv + 1).toNat)
  case atStart => exact ⟨s, l, A, c, _, Nat.le_refl _, hN, rfl, rfl, rfl, by rw [Nat.sub_self, List.take_zero, List.append_nil]; exact HO.out, HE.out⟩
  case round =>
    obtain ⟨j, m, D, cD, z, hj, hm, rfl, hz, rfl, hO, hE⟩ := hrel
    have HO := hide hO
    have HE := hide hE
    clear hO hE
    by_cases hj0 : j = 0
    · subst hj0
      obtain ⟨y, hy⟩ : ∃ y : Int, y = -1 := ⟨_, rfl⟩
      obtain rfl : y = z := by omega
      obtain rfl : m = N := by omega
      clear hz hm
      subst hy
      have hfin : Own wr w0.heap.size 5 D cD ((bs ++ Sto.numB n s).map by8) := by
        have := HO.out
        rw [Nat.sub_zero, List.take_of_length_le (by rw [Sto.numB_length]; exact Nat.le_refl _)] at this
        exact this
      have Hfin := hide hfin
      clear hfin
      go_wp2_with fail
      refine bodyPost_ret (v := .slice D m cD) ?_ rfl ⟨D, cD, rfl, Hfin.out, HE.out⟩
      simp [results, Try.results57, go_sem]
    · obtain ⟨q, rfl⟩ : ∃ q, j = q + 1 := ⟨j - 1, by omega⟩
      have hq8 : q < 8 := by omega
      have htk : (Sto.numB n s).take (s - q) = (Sto.numB n s).take (s - (q + 1)) ++ [BitVec.ofNat 8 (n / 256 ^ q)] := by
        have := Sto.numB_take n s (s - (q + 1)) (by omega)
        rw [show s - (q + 1) + 1 = s - q by omega, show s - 1 - (s - (q + 1)) = q by omega] at this
        exact this
      have hlen1 : (bs ++ (Sto.numB n s).take (s - (q + 1))).length = m := by
        rw [List.length_append, Hl.out, List.length_take, Sto.numB_length]; omega
      have hlen2 : (bs ++ (Sto.numB n s).take (s - q)).length = m + 1 := by
        rw [List.length_append, Hl.out, List.length_take, Sto.numB_length]; omega
      have Htk := hide htk
      have Hlen1 := hide hlen1
      have Hlen2 := hide hlen2
      clear htk hlen1 hlen2
      have hq : q = 0 ∨ q = 1 ∨ q = 2 ∨ q = 3 ∨ q = 4 ∨ q = 5 ∨ q = 6 ∨ q = 7 := by omega
      rcases hq with rfl | rfl | rfl | rfl | rfl | rfl | rfl | rfl
      · skip
        -- 0 the place from below, (n : Int) % 256 what the walk says, 1 its power
        obtain ⟨y, hy⟩ : ∃ y : Int, y = 0 := ⟨_, rfl⟩
        obtain rfl : y = z := by omega
        clear hz
        subst hy
        obtain ⟨x, hx⟩ : ∃ x : B8, x = BitVec.ofNat 8 (n / 256 ^ 0) := ⟨_, rfl⟩
        have hby : ((n : Int) % 256 : Int) = n8 x := by
          rw [hx]
          unfold n8
          rw [BitVec.toNat_ofNat]
          try rw [show (256 : Nat) ^ 0 = 1 from rfl]
          try rw [show (2 : Nat) ^ 8 = 256 from rfl]
          omega
        have Hby := hide hby
        clear hby
        have Htk2 : Hid ((Sto.numB n s).take (s - 0) = (Sto.numB n s).take (s - (0 + 1)) ++ [x]) := by
          rw [hx]
          exact Htk
        clear hx Htk
        go_wp2_with (at_builtin; go_must (rw [Hby.out]; refine wpList_apd by8 one8 Try.el8 (bs ++ (Sto.numB n s).take (s - (0 + 1))) [x] (bs ++ (Sto.numB n s).take (s - 0)) (m + 1) (by rw [List.append_assoc, ← Htk2.out]) Hlen2.out (by omega) (by unfold maxLen; omega) rfl rfl rfl Hlen1.out (HO.out.ext ((Upd.refl (fun _ => False) _).alloc _)) rfl rfl (Sl.new_at by8 [x] rfl rfl) (Nat.le_trans HE.out.size ((Upd.refl (fun _ => False) _).alloc _).size) ?_); intro D2 c2 w2 hO2 hU2 hin2)
        have hE2 : Ext w0 w2 := upd_new hU2 (HE.out.trans ((Upd.refl _ _).alloc _)) (fun k hk => (HO.out.in_ hk).1)
        go_roundw
        case rel => exact ⟨0, m + 1, D2, c2, _, by omega, by omega, rfl, by omega, by first | rfl | rw [show m + 1 = N by omega], hO2, hE2⟩
        case measure => simp [Go.RowKit.intOf] <;> omega
      · skip
        -- 1 the place from below, (n : Int) / 256 % 256 what the walk says, 256 its power
        obtain ⟨y, hy⟩ : ∃ y : Int, y = 1 := ⟨_, rfl⟩
        obtain rfl : y = z := by omega
        clear hz
        subst hy
        obtain ⟨x, hx⟩ : ∃ x : B8, x = BitVec.ofNat 8 (n / 256 ^ 1) := ⟨_, rfl⟩
        have hby : ((n : Int) / 256 % 256 : Int) = n8 x := by
          rw [hx]
          unfold n8
          rw [BitVec.toNat_ofNat]
          try rw [show (256 : Nat) ^ 1 = 256 from rfl]
          try rw [show (2 : Nat) ^ 8 = 256 from rfl]
          omega
        have Hby := hide hby
        clear hby
        have Htk2 : Hid ((Sto.numB n s).take (s - 1) = (Sto.numB n s).take (s - (1 + 1)) ++ [x]) := by
          rw [hx]
          exact Htk
        clear hx Htk
        go_wp2_with (at_builtin; go_must (rw [Hby.out]; refine wpList_apd by8 one8 Try.el8 (bs ++ (Sto.numB n s).take (s - (1 + 1))) [x] (bs ++ (Sto.numB n s).take (s - 1)) (m + 1) (by rw [List.append_assoc, ← Htk2.out]) Hlen2.out (by omega) (by unfold maxLen; omega) rfl rfl rfl Hlen1.out (HO.out.ext ((Upd.refl (fun _ => False) _).alloc _)) rfl rfl (Sl.new_at by8 [x] rfl rfl) (Nat.le_trans HE.out.size ((Upd.refl (fun _ => False) _).alloc _).size) ?_); intro D2 c2 w2 hO2 hU2 hin2)
        have hE2 : Ext w0 w2 := upd_new hU2 (HE.out.trans ((Upd.refl _ _).alloc _)) (fun k hk => (HO.out.in_ hk).1)
        go_roundw
        case rel => exact ⟨1, m + 1, D2, c2, _, by omega, by omega, rfl, by omega, by first | rfl | rw [show m + 1 = N by omega], hO2, hE2⟩
        case measure => simp [Go.RowKit.intOf] <;> omega
      · skip
        -- 2 the place from below, (n : Int) / 65536 % 256 what the walk says, 65536 its power
        obtain ⟨y, hy⟩ : ∃ y : Int, y = 2 := ⟨_, rfl⟩
        obtain rfl : y = z := by omega
        clear hz
        subst hy
        obtain ⟨x, hx⟩ : ∃ x : B8, x = BitVec.ofNat 8 (n / 256 ^ 2) := ⟨_, rfl⟩
        have hby : ((n : Int) / 65536 % 256 : Int) = n8 x := by
          rw [hx]
          unfold n8
          rw [BitVec.toNat_ofNat]
          try rw [show (256 : Nat) ^ 2 = 65536 from rfl]
          try rw [show (2 : Nat) ^ 8 = 256 from rfl]
          omega
        have Hby := hide hby
        clear hby
        have Htk2 : Hid ((Sto.numB n s).take (s - 2) = (Sto.numB n s).take (s - (2 + 1)) ++ [x]) := by
          rw [hx]
          exact Htk
        clear hx Htk
        go_wp2_with (at_builtin; go_must (rw [Hby.out]; refine wpList_apd by8 one8 Try.el8 (bs ++ (Sto.numB n s).take (s - (2 + 1))) [x] (bs ++ (Sto.numB n s).take (s - 2)) (m + 1) (by rw [List.append_assoc, ← Htk2.out]) Hlen2.out (by omega) (by unfold maxLen; omega) rfl rfl rfl Hlen1.out (HO.out.ext ((Upd.refl (fun _ => False) _).alloc _)) rfl rfl (Sl.new_at by8 [x] rfl rfl) (Nat.le_trans HE.out.size ((Upd.refl (fun _ => False) _).alloc _).size) ?_); intro D2 c2 w2 hO2 hU2 hin2)
        have hE2 : Ext w0 w2 := upd_new hU2 (HE.out.trans ((Upd.refl _ _).alloc _)) (fun k hk => (HO.out.in_ hk).1)
        go_roundw
        case rel => exact ⟨2, m + 1, D2, c2, _, by omega, by omega, rfl, by omega, by first | rfl | rw [show m + 1 = N by omega], hO2, hE2⟩
        case measure => simp [Go.RowKit.intOf] <;> omega
      · skip
        -- 3 the place from below, (n : Int) / 16777216 % 256 what the walk says, 16777216 its power
        obtain ⟨y, hy⟩ : ∃ y : Int, y = 3 := ⟨_, rfl⟩
        obtain rfl : y = z := by omega
        clear hz
        subst hy
        obtain ⟨x, hx⟩ : ∃ x : B8, x = BitVec.ofNat 8 (n / 256 ^ 3) := ⟨_, rfl⟩
        have hby : ((n : Int) / 16777216 % 256 : Int) = n8 x := by
          rw [hx]
          unfold n8
          rw [BitVec.toNat_ofNat]
          try rw [show (256 : Nat) ^ 3 = 16777216 from rfl]
          try rw [show (2 : Nat) ^ 8 = 256 from rfl]
          omega
        have Hby := hide hby
        clear hby
        have Htk2 : Hid ((Sto.numB n s).take (s - 3) = (Sto.numB n s).take (s - (3 + 1)) ++ [x]) := by
          rw [hx]
          exact Htk
        clear hx Htk
        go_wp2_with (at_builtin; go_must (rw [Hby.out]; refine wpList_apd by8 one8 Try.el8 (bs ++ (Sto.numB n s).take (s - (3 + 1))) [x] (bs ++ (Sto.numB n s).take (s - 3)) (m + 1) (by rw [List.append_assoc, ← Htk2.out]) Hlen2.out (by omega) (by unfold maxLen; omega) rfl rfl rfl Hlen1.out (HO.out.ext ((Upd.refl (fun _ => False) _).alloc _)) rfl rfl (Sl.new_at by8 [x] rfl rfl) (Nat.le_trans HE.out.size ((Upd.refl (fun _ => False) _).alloc _).size) ?_); intro D2 c2 w2 hO2 hU2 hin2)
        have hE2 : Ext w0 w2 := upd_new hU2 (HE.out.trans ((Upd.refl _ _).alloc _)) (fun k hk => (HO.out.in_ hk).1)
        go_roundw
        case rel => exact ⟨3, m + 1, D2, c2, _, by omega, by omega, rfl, by omega, by first | rfl | rw [show m + 1 = N by omega], hO2, hE2⟩
        case measure => simp [Go.RowKit.intOf] <;> omega
      · skip
        -- 4 the place from below, (n : Int) / 4294967296 % 256 what the walk says, 4294967296 its power
        obtain ⟨y, hy⟩ : ∃ y : Int, y = 4 := ⟨_, rfl⟩
        obtain rfl : y = z := by omega
        clear hz
        subst hy
        obtain ⟨x, hx⟩ : ∃ x : B8, x = BitVec.ofNat 8 (n / 256 ^ 4) := ⟨_, rfl⟩
        have hby : ((n : Int) / 4294967296 % 256 : Int) = n8 x := by
          rw [hx]
          unfold n8
          rw [BitVec.toNat_ofNat]
          try rw [show (256 : Nat) ^ 4 = 4294967296 from rfl]
          try rw [show (2 : Nat) ^ 8 = 256 from rfl]
          omega
        have Hby := hide hby
        clear hby
        have Htk2 : Hid ((Sto.numB n s).take (s - 4) = (Sto.numB n s).take (s - (4 + 1)) ++ [x]) := by
          rw [hx]
          exact Htk
        clear hx Htk
        go_wp2_with (at_builtin; go_must (rw [Hby.out]; refine wpList_apd by8 one8 Try.el8 (bs ++ (Sto.numB n s).take (s - (4 + 1))) [x] (bs ++ (Sto.numB n s).take (s - 4)) (m + 1) (by rw [List.append_assoc, ← Htk2.out]) Hlen2.out (by omega) (by unfold maxLen; omega) rfl rfl rfl Hlen1.out (HO.out.ext ((Upd.refl (fun _ => False) _).alloc _)) rfl rfl (Sl.new_at by8 [x] rfl rfl) (Nat.le_trans HE.out.size ((Upd.refl (fun _ => False) _).alloc _).size) ?_); intro D2 c2 w2 hO2 hU2 hin2)
        have hE2 : Ext w0 w2 := upd_new hU2 (HE.out.trans ((Upd.refl _ _).alloc _)) (fun k hk => (HO.out.in_ hk).1)
        go_roundw
        case rel => exact ⟨4, m + 1, D2, c2, _, by omega, by omega, rfl, by omega, by first | rfl | rw [show m + 1 = N by omega], hO2, hE2⟩
        case measure => simp [Go.RowKit.intOf] <;> omega
      · skip
        -- 5 the place from below, (n : Int) / 1099511627776 % 256 what the walk says, 1099511627776 its power
        obtain ⟨y, hy⟩ : ∃ y : Int, y = 5 := ⟨_, rfl⟩
        obtain rfl : y = z := by omega
        clear hz
        subst hy
        obtain ⟨x, hx⟩ : ∃ x : B8, x = BitVec.ofNat 8 (n / 256 ^ 5) := ⟨_, rfl⟩
        have hby : ((n : Int) / 1099511627776 % 256 : Int) = n8 x := by
          rw [hx]
          unfold n8
          rw [BitVec.toNat_ofNat]
          try rw [show (256 : Nat) ^ 5 = 1099511627776 from rfl]
          try rw [show (2 : Nat) ^ 8 = 256 from rfl]
          omega
        have Hby := hide hby
        clear hby
        have Htk2 : Hid ((Sto.numB n s).take (s - 5) = (Sto.numB n s).take (s - (5 + 1)) ++ [x]) := by
          rw [hx]
          exact Htk
        clear hx Htk
        go_wp2_with (at_builtin; go_must (rw [Hby.out]; refine wpList_apd by8 one8 Try.el8 (bs ++ (Sto.numB n s).take (s - (5 + 1))) [x] (bs ++ (Sto.numB n s).take (s - 5)) (m + 1) (by rw [List.append_assoc, ← Htk2.out]) Hlen2.out (by omega) (by unfold maxLen; omega) rfl rfl rfl Hlen1.out (HO.out.ext ((Upd.refl (fun _ => False) _).alloc _)) rfl rfl (Sl.new_at by8 [x] rfl rfl) (Nat.le_trans HE.out.size ((Upd.refl (fun _ => False) _).alloc _).size) ?_); intro D2 c2 w2 hO2 hU2 hin2)
        have hE2 : Ext w0 w2 := upd_new hU2 (HE.out.trans ((Upd.refl _ _).alloc _)) (fun k hk => (HO.out.in_ hk).1)
        go_roundw
        case rel => exact ⟨5, m + 1, D2, c2, _, by omega, by omega, rfl, by omega, by first | rfl | rw [show m + 1 = N by omega], hO2, hE2⟩
        case measure => simp [Go.RowKit.intOf] <;> omega
      · skip
        -- 6 the place from below, (n : Int) / 281474976710656 % 256 what the walk says, 281474976710656 its power
        obtain ⟨y, hy⟩ : ∃ y : Int, y = 6 := ⟨_, rfl⟩
        obtain rfl : y = z := by omega
        clear hz
        subst hy
        obtain ⟨x, hx⟩ : ∃ x : B8, x = BitVec.ofNat 8 (n / 256 ^ 6) := ⟨_, rfl⟩
        have hby : ((n : Int) / 281474976710656 % 256 : Int) = n8 x := by
          rw [hx]
          unfold n8
          rw [BitVec.toNat_ofNat]
          try rw [show (256 : Nat) ^ 6 = 281474976710656 from rfl]
          try rw [show (2 : Nat) ^ 8 = 256 from rfl]
          omega
        have Hby := hide hby
        clear hby
        have Htk2 : Hid ((Sto.numB n s).take (s - 6) = (Sto.numB n s).take (s - (6 + 1)) ++ [x]) := by
          rw [hx]
          exact Htk
        clear hx Htk
        go_wp2_with (at_builtin; go_must (rw [Hby.out]; refine wpList_apd by8 one8 Try.el8 (bs ++ (Sto.numB n s).take (s - (6 + 1))) [x] (bs ++ (Sto.numB n s).take (s - 6)) (m + 1) (by rw [List.append_assoc, ← Htk2.out]) Hlen2.out (by omega) (by unfold maxLen; omega) rfl rfl rfl Hlen1.out (HO.out.ext ((Upd.refl (fun _ => False) _).alloc _)) rfl rfl (Sl.new_at by8 [x] rfl rfl) (Nat.le_trans HE.out.size ((Upd.refl (fun _ => False) _).alloc _).size) ?_); intro D2 c2 w2 hO2 hU2 hin2)
        have hE2 : Ext w0 w2 := upd_new hU2 (HE.out.trans ((Upd.refl _ _).alloc _)) (fun k hk => (HO.out.in_ hk).1)
        go_roundw
        case rel => exact ⟨6, m + 1, D2, c2, _, by omega, by omega, rfl, by omega, by first | rfl | rw [show m + 1 = N by omega], hO2, hE2⟩
        case measure => simp [Go.RowKit.intOf] <;> omega
      · skip
        -- 7 the place from below, (n : Int) / 72057594037927936 % 256 what the walk says, 72057594037927936 its power
        obtain ⟨y, hy⟩ : ∃ y : Int, y = 7 := ⟨_, rfl⟩
        obtain rfl : y = z := by omega
        clear hz
        subst hy
        obtain ⟨x, hx⟩ : ∃ x : B8, x = BitVec.ofNat 8 (n / 256 ^ 7) := ⟨_, rfl⟩
        have hby : ((n : Int) / 72057594037927936 % 256 : Int) = n8 x := by
          rw [hx]
          unfold n8
          rw [BitVec.toNat_ofNat]
          try rw [show (256 : Nat) ^ 7 = 72057594037927936 from rfl]
          try rw [show (2 : Nat) ^ 8 = 256 from rfl]
          omega
        have Hby := hide hby
        clear hby
        have Htk2 : Hid ((Sto.numB n s).take (s - 7) = (Sto.numB n s).take (s - (7 + 1)) ++ [x]) := by
          rw [hx]
          exact Htk
        clear hx Htk
        go_wp2_with (at_builtin; go_must (rw [Hby.out]; refine wpList_apd by8 one8 Try.el8 (bs ++ (Sto.numB n s).take (s - (7 + 1))) [x] (bs ++ (Sto.numB n s).take (s - 7)) (m + 1) (by rw [List.append_assoc, ← Htk2.out]) Hlen2.out (by omega) (by unfold maxLen; omega) rfl rfl rfl Hlen1.out (HO.out.ext ((Upd.refl (fun _ => False) _).alloc _)) rfl rfl (Sl.new_at by8 [x] rfl rfl) (Nat.le_trans HE.out.size ((Upd.refl (fun _ => False) _).alloc _).size) ?_); intro D2 c2 w2 hO2 hU2 hin2)
        have hE2 : Ext w0 w2 := upd_new hU2 (HE.out.trans ((Upd.refl _ _).alloc _)) (fun k hk => (HO.out.in_ hk).1)
        go_roundw
        case rel => exact ⟨7, m + 1, D2, c2, _, by omega, by omega, rfl, by omega, by first | rfl | rw [show m + 1 = N by omega], hO2, hE2⟩
        case measure => simp [Go.RowKit.intOf] <;> omega
end Go.Proofs.Ytejjofjhcgdedaa
