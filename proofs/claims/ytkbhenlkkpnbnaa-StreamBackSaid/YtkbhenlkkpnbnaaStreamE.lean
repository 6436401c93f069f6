/- The chapter's example of the stream, reckoned by the kernel. -/
import Derived.Test.YtkbhenlkkpnbnaaStreamM
import Derived.Test.YtkbhenlkkpnbnaaStreamN
import Derived.Test.YtkbhenlkkpnbnaaForce
namespace Go.Proofs.Ytkbhenlkkpnbnaa
namespace Strm

def M : Nat := 4294967296
def rotN (x s : Nat) : Nat := ((x <<< s) % M) ||| (x >>> (32 - s))
theorem rotl_toNat (x : BitVec 32) (s : Nat) : (rotl x s).toNat = rotN x.toNat s := by
  simp [rotl, rotN, BitVec.toNat_or, BitVec.toNat_shiftLeft, BitVec.toNat_ushiftRight, M]
def St (S : Nat → BitVec 32) (l : List Nat) : Prop := l.length = 16 ∧ ∀ j, j < 16 → (S j).toNat = l.getD j 0
def qK {α : Type} (l : List Nat) (a b c d : Nat) (f : List Nat → α) : α :=
  force ((l.getD a 0 + l.getD b 0) % M) fun xa => force (rotN (l.getD d 0 ^^^ xa) 16) fun xd => force ((l.getD c 0 + xd) % M) fun xc => force (rotN (l.getD b 0 ^^^ xc) 12) fun xb =>
  force ((xa + xb) % M) fun xa => force (rotN (xd ^^^ xa) 8) fun xd => force ((xc + xd) % M) fun xc => force (rotN (xb ^^^ xc) 7) fun xb =>
  forceL ((((l.set a xa).set b xb).set c xc).set d xd) f
def qL (l : List Nat) (a b c d : Nat) : List Nat := qK l a b c d id
theorem qK_eq {α : Type} (l : List Nat) (a b c d : Nat) (f : List Nat → α) : qK l a b c d f = f (qL l a b c d) := by
  simp only [qL, qK, force_eq, forceL_eq, id]
theorem getD_set4 (l : List Nat) (a b c d xa xb xc xd j : Nat) (hl : l.length = 16) (hab : a < b) (hbc : b < c) (hcd : c < d) (hd : d < 16) :
    ((((l.set a xa).set b xb).set c xc).set d xd).getD j 0 = if j = a then xa else if j = b then xb else if j = c then xc else if j = d then xd else l.getD j 0 := by
  have ha : a < l.length := by omega
  have hb : b < l.length := by omega
  have hc : c < l.length := by omega
  have hdl : d < l.length := by omega
  simp only [List.getD_eq_getElem?_getD, List.getElem?_set, List.length_set]
  by_cases h1 : j = a
  · subst h1
    rw [if_neg (by omega), if_neg (by omega), if_neg (by omega), if_pos rfl, if_pos ha, if_pos rfl]; rfl
  · by_cases h2 : j = b
    · subst h2
      rw [if_neg (by omega), if_neg (by omega), if_pos rfl, if_pos hb, if_neg h1, if_pos rfl]; rfl
    · by_cases h3 : j = c
      · subst h3
        rw [if_neg (by omega), if_pos rfl, if_pos hc, if_neg h1, if_neg h2, if_pos rfl]; rfl
      · by_cases h4 : j = d
        · subst h4
          rw [if_pos rfl, if_pos hdl, if_neg h1, if_neg h2, if_neg h3, if_pos rfl]; rfl
        · rw [if_neg (Ne.symm h4), if_neg (Ne.symm h3), if_neg (Ne.symm h2), if_neg (Ne.symm h1), if_neg h1, if_neg h2, if_neg h3, if_neg h4]
theorem St.q {S : Nat → BitVec 32} {l : List Nat} (h : St S l) (a b c d : Nat) (hab : a < b) (hbc : b < c) (hcd : c < d) (hd : d < 16) : St (quarter S a b c d) (qL l a b c d) := by
  obtain ⟨hl, hv⟩ := h
  have ea := hv a (by omega)
  have eb := hv b (by omega)
  have ec := hv c (by omega)
  have ed := hv d (by omega)
  refine ⟨by simp [qL, qK, force_eq, forceL_eq, hl], fun j hj => ?_⟩
  have ej := hv j hj
  simp only [qL, qK, force_eq, forceL_eq, id]
  rw [getD_set4 l a b c d _ _ _ _ j hl hab hbc hcd hd]
  have n1 : a ≠ b := by omega
  have n2 : a ≠ c := by omega
  have n3 : a ≠ d := by omega
  have n4 : b ≠ c := by omega
  have n5 : b ≠ d := by omega
  have n6 : c ≠ d := by omega
  by_cases h1 : j = a
  · subst h1
    simp [quarter, put1, n1, n2, n3, n4, n5, n6, n1.symm, n2.symm, n3.symm, n4.symm, n5.symm, n6.symm, BitVec.toNat_add, BitVec.toNat_xor, rotl_toNat, ea, eb, ec, ed, M]
  · by_cases h2 : j = b
    · subst h2
      simp [quarter, put1, n1, n2, n3, n4, n5, n6, n1.symm, n2.symm, n3.symm, n4.symm, n5.symm, n6.symm, BitVec.toNat_add, BitVec.toNat_xor, rotl_toNat, ea, eb, ec, ed, M]
    · by_cases h3 : j = c
      · subst h3
        simp [quarter, put1, n1, n2, n3, n4, n5, n6, n1.symm, n2.symm, n3.symm, n4.symm, n5.symm, n6.symm, BitVec.toNat_add, BitVec.toNat_xor, rotl_toNat, ea, eb, ec, ed, M]
      · by_cases h4 : j = d
        · subst h4
          simp [quarter, put1, n1, n2, n3, n4, n5, n6, n1.symm, n2.symm, n3.symm, n4.symm, n5.symm, n6.symm, BitVec.toNat_add, BitVec.toNat_xor, rotl_toNat, ea, eb, ec, ed, M]
        · rw [if_neg h1, if_neg h2, if_neg h3, if_neg h4, quarter_ge S a b c d j h1 h2 h3 h4]; exact ej
def rK {α : Type} (l : List Nat) (f : List Nat → α) : α :=
  qK l 0 4 8 12 fun l => qK l 1 5 9 13 fun l => qK l 2 6 10 14 fun l => qK l 3 7 11 15 fun l => qK l 0 5 10 15 fun l => qK l 1 6 11 12 fun l => qK l 2 7 8 13 fun l => qK l 3 4 9 14 f
def rL (l : List Nat) : List Nat := rK l id
theorem rK_eq {α : Type} (l : List Nat) (f : List Nat → α) : rK l f = f (rL l) := by simp only [rL, rK, qK_eq, id]
theorem St.r {S : Nat → BitVec 32} {l : List Nat} (h : St S l) (k : Nat) : St (dround S k) (rL l) := by
  rw [dround_eq]
  simp only [rL, rK, qK_eq, id]
  refine St.q (St.q (St.q (St.q (St.q (St.q (St.q (St.q h _ _ _ _ ?_ ?_ ?_ ?_) _ _ _ _ ?_ ?_ ?_ ?_) _ _ _ _ ?_ ?_ ?_ ?_) _ _ _ _ ?_ ?_ ?_ ?_) _ _ _ _ ?_ ?_ ?_ ?_) _ _ _ _ ?_ ?_ ?_ ?_) _ _ _ _ ?_ ?_ ?_ ?_) _ _ _ _ ?_ ?_ ?_ ?_ <;> omega
def rsK {α : Type} : Nat → List Nat → (List Nat → α) → α
  | 0, l, f => f l
  | n + 1, l, f => rsK n l fun l => rK l f
theorem St.rs {S : Nat → BitVec 32} {l : List Nat} (h : St S l) : ∀ (n : Nat), ∃ l', St (steps dround S n) l' ∧ ∀ {α : Type} (f : List Nat → α), rsK n l f = f l'
  | 0 => ⟨l, h, fun _ => rfl⟩
  | n + 1 => by
    obtain ⟨l', h1, h2⟩ := St.rs h n
    exact ⟨rL l', h1.r n, fun f => by simp only [rsK, h2, rK_eq]⟩

def exKey : List (BitVec 8) := (List.range 32).map (BitVec.ofNat 8)
def exNonce : List (BitVec 8) := [0, 0, 0, 9, 0, 0, 0, 0x4a, 0, 0, 0, 0]
def exStart : List Nat := [0x61707865, 0x3320646e, 0x79622d32, 0x6b206574, 0x03020100, 0x07060504, 0x0b0a0908, 0x0f0e0d0c, 0x13121110, 0x17161514, 0x1b1a1918, 0x1f1e1d1c, 1, 0x09000000, 0x4a000000, 0]
theorem ex_start : St (start exKey 1 exNonce) exStart := by
  refine ⟨rfl, fun j hj => ?_⟩
  rw [← refB_start exKey 1 exNonce j hj]
  match j, hj with
  | 0, _ | 1, _ | 2, _ | 3, _ | 4, _ | 5, _ | 6, _ | 7, _ | 8, _ | 9, _ | 10, _ | 11, _ | 12, _ | 13, _ | 14, _ | 15, _ => decide +kernel
  | n + 16, h => exact absurd h (by omega)
theorem ex_words : rsK 10 exStart (fun l => ((l.getD 0 0 + 0x61707865) % M, (l.getD 1 0 + 0x3320646e) % M)) = (0xe4e7f110, 0x15593bd1) := by decide +kernel
theorem gat_block (key : List (BitVec 8)) (ctr : BitVec 32) (nonce : List (BitVec 8)) (k i : Nat) (hk : k < 16) (hi : i < 4) :
    gat (block key ctr nonce) (4 * k + i) = gat (bytes4 (steps dround (start key ctr nonce) 10 k + start key ctr nonce k)) i := by
  have key1 : ∀ (R S : Nat → BitVec 32) (n k i : Nat), k < n → i < 4 → gat (outs R S n) (4 * k + i) = gat (bytes4 (R k + S k)) i := by
    intro R S n
    induction n with
    | zero => intro k i h; omega
    | succ n ih =>
      intro k i hk hi
      unfold outs
      by_cases h : k < n
      · rw [gat_append_left (by rw [outs_length]; omega)]
        exact ih k i h hi
      · obtain rfl : k = n := by omega
        rw [gat_append_right (by rw [outs_length]; omega), outs_length]
        congr 1; omega
  exact key1 _ _ 16 k i hk hi
theorem ex_bytes : gat (block exKey 1 exNonce) 0 = 0x10 ∧ gat (block exKey 1 exNonce) 1 = 0xf1 ∧ gat (block exKey 1 exNonce) 7 = 0x15 := by
  obtain ⟨l', h1, h2⟩ := St.rs ex_start 10
  have hw := ex_words
  rw [h2] at hw
  have e0 : steps dround (start exKey 1 exNonce) 10 0 + start exKey 1 exNonce 0 = 0xe4e7f110 := by
    apply BitVec.eq_of_toNat_eq
    rw [BitVec.toNat_add, h1.2 0 (by omega), ex_start.2 0 (by omega)]
    exact (Prod.mk.inj hw).1
  have e1 : steps dround (start exKey 1 exNonce) 10 1 + start exKey 1 exNonce 1 = 0x15593bd1 := by
    apply BitVec.eq_of_toNat_eq
    rw [BitVec.toNat_add, h1.2 1 (by omega), ex_start.2 1 (by omega)]
    exact (Prod.mk.inj hw).2
  refine ⟨?_, ?_, ?_⟩
  · rw [show (0 : Nat) = 4 * 0 + 0 from rfl, gat_block _ _ _ 0 0 (by omega) (by omega), e0]; decide
  · rw [show (1 : Nat) = 4 * 0 + 1 from rfl, gat_block _ _ _ 0 1 (by omega) (by omega), e0]; decide
  · rw [show (7 : Nat) = 4 * 1 + 3 from rfl, gat_block _ _ _ 1 3 (by omega) (by omega), e1]; decide
end Strm
end Go.Proofs.Ytkbhenlkkpnbnaa
