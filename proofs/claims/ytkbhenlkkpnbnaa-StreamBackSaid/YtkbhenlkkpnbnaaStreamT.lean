/- The document's bytes with the stream, walked. -/
import Derived.Test.YtkbhenlkkpnbnaaStreamS
namespace Go.Proofs.Ytkbhenlkkpnbnaa
open Go.RowKit
open Strm
attribute [local go_sem] steady steadyUpon Cls same_cell by8 by32 by64
attribute [local go_sem] add_u32 xor_u8

theorem take_succ_gat {α : Type} [Inhabited α] (l : List α) (i : Nat) (h : i < l.length) : l.take i ++ [gat l i] = l.take (i + 1) := by
  rw [List.take_succ_eq_append_getElem h, gat_lt h]
theorem Own.at_ {α : Type} [Inhabited α] {f : α → Value} {w : World} {B g c : Nat} {e : TypeId} {ys : List α} (h : Own w B e (some ⟨g, 0, none⟩) c (ys.map f)) {i : Nat} (hi : i < ys.length) : w.cell? ⟨g, i, none⟩ = some (f (gat ys i)) := h.row.cell hi
theorem n32_ofNat (k : Nat) (i : Int) (h : i = k) (hk : k < 4294967296) : IntKind.u32.wrap i = n32 (BitVec.ofNat 32 k) := by
  subst h
  rw [IntWalk.u32_in _ (by omega)]
  unfold n32
  rw [BitVec.toNat_ofNat, Nat.mod_eq_of_lt hk]

set_option maxRecDepth 100000 in
set_option maxHeartbeats 1000000 in
theorem refxor_any (A B D : Option Addr) (c d n f : Nat) (key nonce b : List (BitVec 8)) (ctr : BitVec 32) (w : World) (hkl : key.length = 32) (hnl : nonce.length = 12) (hc : 32 ≤ c) (hd : 12 ≤ d)
    (hK : Sl by8 w A key) (hN : Sl by8 w B nonce) (hn : n = b.length) (hn2 : n ≤ 100000000) (hS : Sl by8 w D b) :
    Calls Try.prog 12 #[.slice A 32 c, .int .u32 (n32 ctr), .slice B 12 d, .slice D n f] w (RetB w n (xors key ctr nonce b)) := by
  have hK' := hide hK
  clear hK
  have hN' := hide hN
  clear hN
  have hS' := hide hS
  clear hS
  have Hkl := hide hkl
  clear hkl
  have Hnl := hide hnl
  clear hnl
  have Hn := hide hn
  clear hn
  go_enter Try.func12, Try.ntmps12
  go_wp2_with fail
  go_loopw [17, 9, 10] (fun i v k wx => ∃ (j : Nat) (A : Option Addr) (c : Nat) (Ak : Option Addr) (nk ck : Nat), j ≤ n ∧ i = .int .i64 j ∧ v = .slice A j c ∧ k = .slice Ak nk ck ∧ Own wx w.heap.size 5 A c (((xors key ctr nonce b).take j).map by8) ∧
    (j % 64 ≠ 0 → nk = 64 ∧ Sl by8 wx Ak (block key (ctr + BitVec.ofNat 32 (j / 64)) nonce)) ∧ (∀ b, inA Ak b → b < wx.heap.size ∧ ¬ inA A b) ∧ Ext w wx) (fun i _ _ _ => n - (intOf i).toNat)
  case atStart =>
    refine ⟨0, _, _, _, _, _, by omega, rfl, rfl, rfl, ?_, fun h => absurd rfl h, ?_, ((Upd.refl _ _).alloc _).alloc _⟩
    · exact (Own.lit by8 w _ [] (Nat.le_refl _) (by simp [maxLen])).ext ((Upd.refl _ _).alloc _)
    · intro b hb
      simp [inA] at hb ⊢
      omega
  case round =>
    obtain ⟨j, A, ca, Ak, nk, ck, hj, rfl, rfl, rfl, hO, hk, hne, hU⟩ := hrel
    have hO' := hide hO
    have hk' := hide hk
    have hne' := hide hne
    clear hO hk hne
    have hlen : ∀ j, j ≤ n → ((xors key ctr nonce b).take j).length = j := fun j hj => by have := Hn.out; rw [List.length_take, xors_length]; omega
    have Hlen := hide hlen
    clear hlen
    by_cases hlt : j < n
    · have hd1 : decide ((j : Int) < (n : Int)) = true := decide_eq_true (by omega)
      have hlti : (j : Int) < (n : Int) := by omega
      obtain ⟨sb, so, rfl, _, hsc⟩ := (hS'.out.ext hU).open_ (by have := Hn.out; omega)
      have cb := hsc j (by have := Hn.out; omega)
      clear hsc
      by_cases hm : j % 64 = 0
      · have h64 : ((j : Int) % 64 == 0) = true := by rw [beq_iff_eq]; omega
        have Hm := hide hm
        clear hm
        have hq := n32_ofNat (j / 64) ((j : Int) / 64) (by omega) (by omega)
        go_wp2_with (first
          | (go_at_call 10; go_must (refine (refblock_any _ _ _ _ key nonce _ _ Hkl.out Hnl.out hc hd (hK'.out.ext hU) (hN'.out.ext hU)).mono ?_); rintro e w1 ⟨A1, c1, rfl, -, hO1, hU1⟩; obtain ⟨gk, rfl, hgk1, hgk2⟩ := hO1.open_ (by simp [block_length]); have ck1 := Own.at_ hO1 (i := j % 64) (by rw [block_length]; omega); have hO1' := hide hO1; clear hO1)
          | (at_builtin; go_must (refine wpList_apd by8 one8 Try.el8 ((xors key ctr nonce b).take j) [gat b j ^^^ gat (block key (ctr + BitVec.ofNat 32 (j / 64)) nonce) (j % 64)] ((xors key ctr nonce b).take (j + 1)) (j + 1) (by rw [← take_succ_gat _ j (by have := Hn.out; rw [xors_length]; omega), gat_xors (by have := Hn.out; omega)]; rfl) (Hlen.out (j + 1) (by omega)) (by omega) (by unfold maxLen; omega) rfl rfl rfl (Hlen.out j (by omega)) (Own.ext hO'.out (hU1.alloc _)) rfl rfl (Sl.new by8 _ _ [gat b j ^^^ gat (block key (ctr + BitVec.ofNat 32 (j / 64)) nonce) (j % 64)]) (Nat.le_trans (hU.trans hU1).size (by simp)) ?_); intro A2 c2 w2 hO2 hU2 hin2))
        clear ck1 cb h64 hq
        go_roundw
        case rel =>
          have hne2 : ¬ inA A gk := fun h => by have := hO'.out.in_ h; omega
          refine ⟨j + 1, A2, c2, _, _, _, by omega, by go_num, rfl, rfl, hO2, fun h => ⟨rfl, ?_⟩, ?_, upd_new hU2 ((hU.trans hU1).alloc _) (fun i hi => (hO'.out.in_ hi).1)⟩
          · rw [show (j + 1) / 64 = j / 64 by have := Hm.out; omega]
            exact (hO1'.out.sl.ext ((Upd.refl _ _).alloc _)).upd hU2 (fun b o e => by injection e with e; injection e with e; subst e; exact hne2)
          · intro b hb
            simp [inA] at hb
            subst hb
            refine ⟨Nat.lt_of_lt_of_le hgk2 (Nat.le_trans (by simp) hU2.size), fun h2 => ?_⟩
            rcases hin2 gk h2 with h3 | h3
            · exact hne2 h3
            · simp at h3; omega
        case measure => simp [intOf]; omega
      · have h64 : ((j : Int) % 64 == 0) = false := by rw [beq_eq_false_iff_ne]; omega
        obtain ⟨rfl, hks⟩ := hk'.out hm
        obtain ⟨kb, ko, rfl, hkb, hkc⟩ := hks.open_ (by rw [block_length]; omega)
        have ck1 := hkc (j % 64) (by rw [block_length]; omega)
        have Hm := hide hm
        clear hkc hm
        go_wp2_with (at_builtin; go_must (refine wpList_apd by8 one8 Try.el8 ((xors key ctr nonce b).take j) [gat b j ^^^ gat (block key (ctr + BitVec.ofNat 32 (j / 64)) nonce) (j % 64)] ((xors key ctr nonce b).take (j + 1)) (j + 1) (by rw [← take_succ_gat _ j (by have := Hn.out; rw [xors_length]; omega), gat_xors (by have := Hn.out; omega)]; rfl) (Hlen.out (j + 1) (by omega)) (by omega) (by unfold maxLen; omega) rfl rfl rfl (Hlen.out j (by omega)) (Own.ext hO'.out ((Upd.refl _ _).alloc _)) rfl rfl (Sl.new by8 _ _ [gat b j ^^^ gat (block key (ctr + BitVec.ofNat 32 (j / 64)) nonce) (j % 64)]) (Nat.le_trans hU.size (by simp)) ?_); intro A2 c2 w2 hO2 hU2 hin2)
        have hks' := hide hks
        clear hks ck1 cb h64
        go_roundw
        case rel =>
          refine ⟨j + 1, A2, c2, _, _, _, by omega, by go_num, rfl, rfl, hO2, fun h => ⟨rfl, ?_⟩, ?_, upd_new hU2 (hU.alloc _) (fun i hi => (hO'.out.in_ hi).1)⟩
          · rw [show (j + 1) / 64 = j / 64 by omega]
            exact (hks'.out.ext ((Upd.refl _ _).alloc _)).upd hU2 (fun b o e => by injection e with e; injection e with e; subst e; exact (hne'.out kb rfl).2)
          · intro b hb
            have h1 := hne'.out b hb
            refine ⟨Nat.lt_of_lt_of_le h1.1 (Nat.le_trans (by simp) hU2.size), fun h2 => ?_⟩
            rcases hin2 b h2 with h3 | h3
            · exact h1.2 h3
            · simp at h3; omega
        case measure => simp [intOf]; omega
    · obtain rfl : j = n := by omega
      clear hj hlt
      go_wp2
      go_ret
      refine ⟨A, ca, rfl, ?_, ?_, hU⟩
      · rw [xors_length]; exact Hn.out
      · have h := hO'.out
        rw [List.take_of_length_le (by rw [xors_length]; exact Nat.le_of_eq Hn.out.symm)] at h
        exact h
end Go.Proofs.Ytkbhenlkkpnbnaa
