/- The store, plainly: what is found whenever a saving was cut off. -/
import Derived.Test.YtejjofjhcgdedaaSlbP
namespace Go.Proofs.Ytejjofjhcgdedaa
set_option linter.unusedSimpArgs false
set_option linter.unusedVariables false
open Go.RowKit
namespace Sto
/-! ### the store, plainly -/
/-- a number in k bytes, the highest first -/
def numB (n : Nat) : Nat → List B8
  | 0 => []
  | k + 1 => BitVec.ofNat 8 (n / 256 ^ k) :: numB n k
def getB (l : List B8) : Nat := l.foldl (fun n x => n * 256 + x.toNat) 0
theorem numB_length (n : Nat) : ∀ k, (numB n k).length = k
  | 0 => rfl
  | k + 1 => by unfold numB; rw [List.length_cons, numB_length n k]
theorem foldl_numB (n : Nat) : ∀ k a, (numB n k).foldl (fun n (x : B8) => n * 256 + x.toNat) a = a * 256 ^ k + n % 256 ^ k
  | 0, a => by simp [numB, Nat.mod_one]
  | k + 1, a => by
    unfold numB
    rw [List.foldl_cons, foldl_numB n k, BitVec.toNat_ofNat, show (2 : Nat) ^ 8 = 256 from rfl]
    have h1 : n % 256 ^ (k + 1) = n / 256 ^ k % 256 * 256 ^ k + n % 256 ^ k := by
      rw [Nat.pow_succ, Nat.mod_mul, Nat.mul_comm (n / 256 ^ k % 256), Nat.add_comm]
    rw [h1, Nat.pow_succ, Nat.add_mul, Nat.mul_assoc, Nat.mul_comm 256 (256 ^ k), Nat.add_assoc]
theorem getB_numB {n k : Nat} (h : n < 256 ^ k) : getB (numB n k) = n := by
  unfold getB
  rw [foldl_numB, Nat.zero_mul, Nat.zero_add, Nat.mod_eq_of_lt h]
section
variable (sum : List B8 → List B8) (hsum : ∀ l, (sum l).length = 32)
def padTo (n : Nat) : Nat := (n + 63) / 64 * 64 - n
def headB (n : Nat) (st : List B8) : List B8 := numB n 8 ++ numB st.length 4 ++ sum st ++ st
def wholeB (n : Nat) (st : List B8) : List B8 := headB sum n st ++ List.replicate (padTo (44 + st.length)) 0
def chunkB (b : List B8) (j : Nat) : List B8 := (b.drop (64 * j)).take 64
include hsum
theorem headB_length (n : Nat) (st : List B8) : (headB sum n st).length = 44 + st.length := by
  unfold headB
  simp only [List.length_append, numB_length, hsum]
theorem wholeB_length (n : Nat) (st : List B8) : (wholeB sum n st).length = (44 + st.length + 63) / 64 * 64 := by
  unfold wholeB padTo
  rw [List.length_append, headB_length sum hsum, List.length_replicate]
  omega
omit hsum in
theorem chunks_take (b : List B8) : ∀ m, (List.range m).flatMap (fun j => chunkB b j) = b.take (64 * m)
  | 0 => by simp
  | m + 1 => by
    rw [List.range_succ, List.flatMap_append, chunks_take b m]
    simp only [List.flatMap_cons, List.flatMap_nil, List.append_nil]
    unfold chunkB
    rw [Nat.mul_add, Nat.mul_one, List.take_add]
omit hsum in
theorem whole_take8 (n : Nat) (st : List B8) : (wholeB sum n st).take 8 = numB n 8 := by
  unfold wholeB headB
  rw [List.append_assoc, List.append_assoc, List.append_assoc, List.take_left' (numB_length n 8)]
omit hsum in
theorem whole_size (n : Nat) (st : List B8) : ((wholeB sum n st).drop 8).take 4 = numB st.length 4 := by
  unfold wholeB headB
  rw [List.append_assoc, List.append_assoc, List.append_assoc, List.drop_left' (numB_length n 8), List.take_left' (numB_length _ 4)]
theorem whole_sum (n : Nat) (st : List B8) : ((wholeB sum n st).drop 12).take 32 = sum st := by
  unfold wholeB headB
  rw [List.append_assoc, List.append_assoc, List.drop_left' (by rw [List.length_append, numB_length, numB_length]), List.take_left' (hsum st)]
theorem whole_state (n : Nat) (st : List B8) : ((wholeB sum n st).drop 44).take st.length = st := by
  unfold wholeB headB
  rw [List.append_assoc, List.drop_left' (by rw [List.length_append, List.length_append, numB_length, numB_length, hsum]), List.take_left' rfl]
/-- what is read at a place -/
def lookF (F : Nat → List B8) (first place room : Nat) : Option (Nat × List B8) :=
  if F place = zero64B then none
  else if getB ((F first).take 8) % 2 ≠ place ∨ room < getB (((F first).drop 8).take 4) then none
  else if sum ((((List.range ((44 + getB (((F first).drop 8).take 4) + 63) / 64)).flatMap fun j => F (first + j)).drop 44).take (getB (((F first).drop 8).take 4))) = (((List.range ((44 + getB (((F first).drop 8).take 4) + 63) / 64)).flatMap fun j => F (first + j)).drop 12).take 32 then
    some (getB ((F first).take 8), (((List.range ((44 + getB (((F first).drop 8).take 4) + 63) / 64)).flatMap fun j => F (first + j)).drop 44).take (getB (((F first).drop 8).take 4)))
  else none
/-- an area holds these bytes -/
def HasB (F : Nat → List B8) (first : Nat) (b : List B8) : Prop := ∀ j, 64 * j < b.length → F (first + j) = chunkB b j
theorem lookF_whole {F : Nat → List B8} {first place room n : Nat} {st : List B8} (hu : F place ≠ zero64B) (ha : HasB F first (wholeB sum n st)) (hp : n % 2 = place) (hn : n < 256 ^ 8) (hr : st.length ≤ room) (hr2 : room < 256 ^ 4) :
    lookF sum F first place room = some (n, st) := by
  have hl := wholeB_length sum hsum n st
  have h0 : F first = (wholeB sum n st).take 64 := by
    have := ha 0 (by rw [hl]; omega)
    rw [Nat.add_zero] at this
    rw [this]
    unfold chunkB
    rw [Nat.mul_zero, List.drop_zero]
  have hnum : getB ((F first).take 8) = n := by
    rw [h0, List.take_take, show min 8 64 = 8 from rfl, whole_take8 sum, getB_numB hn]
  have hsz : getB (((F first).drop 8).take 4) = st.length := by
    have : ((F first).drop 8).take 4 = ((wholeB sum n st).drop 8).take 4 := by
      rw [h0, List.drop_take, List.take_take]
      rfl
    rw [this, whole_size sum, getB_numB (by omega)]
  have hcat : ((List.range ((44 + st.length + 63) / 64)).flatMap fun j => F (first + j)) = wholeB sum n st := by
    have h1 : ((List.range ((44 + st.length + 63) / 64)).flatMap fun j => F (first + j)) = (List.range ((44 + st.length + 63) / 64)).flatMap fun j => chunkB (wholeB sum n st) j := by
      rw [List.flatMap_def, List.flatMap_def]
      congr 1
      refine List.map_congr_left fun j hj => ?_
      rw [List.mem_range] at hj
      exact ha j (by rw [hl]; omega)
    rw [h1, chunks_take, List.take_of_length_le (by rw [hl]; omega)]
  unfold lookF
  rw [if_neg hu, hnum, hsz, if_neg (by omega), hcat, whole_state sum hsum, whole_sum sum hsum, if_pos rfl]
/-- what is found: the greater number that counts -/
def openF (F : Nat → List B8) (S : Nat) : Option (Nat × List B8) :=
  match lookF sum F 2 0 (64 * ((S - 2) / 2) - 44), lookF sum F (2 + (S - 2) / 2) 1 (64 * ((S - 2) / 2) - 44) with
  | none, r => r
  | some a, none => some a
  | some a, some b => if a.1 < b.1 then some b else some a
/-- where a number's area begins -/
def areaF (S n : Nat) : Nat := 2 + n % 2 * ((S - 2) / 2)
/-- state k, st is the one to be found -/
structure FndS (F : Nat → List B8) (S k : Nat) (st : List B8) : Prop where
  up : F (k % 2) ≠ zero64B
  area : HasB F (areaF S k) (wholeB sum k st)
  room : st.length ≤ 64 * ((S - 2) / 2) - 44
  other : F ((k + 1) % 2) = zero64B ∨ ∃ k' st', k' < k ∧ k' % 2 = (k + 1) % 2 ∧ st'.length ≤ 64 * ((S - 2) / 2) - 44 ∧ HasB F (areaF S (k + 1)) (wholeB sum k' st')
theorem FndS.open_ {F : Nat → List B8} {S k : Nat} {st : List B8} (h : FndS sum F S k st) (hS : S ≤ 4096) (hk : k < 256 ^ 8) : openF sum F S = some (k, st) := by
  have hroom : 64 * ((S - 2) / 2) - 44 < 256 ^ 4 := by omega
  have hl : ∀ {p : Nat}, k % 2 = p → lookF sum F (2 + p * ((S - 2) / 2)) p (64 * ((S - 2) / 2) - 44) = some (k, st) := by
    rintro p rfl
    exact lookF_whole sum hsum h.up h.area rfl hk h.room hroom
  have ho : ∀ {p : Nat}, (k + 1) % 2 = p → lookF sum F (2 + p * ((S - 2) / 2)) p (64 * ((S - 2) / 2) - 44) = none ∨ ∃ k' st', k' < k ∧ lookF sum F (2 + p * ((S - 2) / 2)) p (64 * ((S - 2) / 2) - 44) = some (k', st') := by
    rintro p rfl
    by_cases hz : F ((k + 1) % 2) = zero64B
    · left; unfold lookF; rw [if_pos hz]
    · right
      rcases h.other with h0 | ⟨k', st', h1, h2, h3, h4⟩
      · exact absurd h0 hz
      · exact ⟨k', st', h1, lookF_whole sum hsum hz h4 h2 (by omega) h3 hroom⟩
  unfold openF
  rcases Nat.mod_two_eq_zero_or_one k with h0 | h0
  · have e1 := hl h0
    have e2 := ho (show (k + 1) % 2 = 1 by omega)
    rw [Nat.zero_mul, Nat.add_zero] at e1
    rw [Nat.one_mul] at e2
    rw [e1]
    rcases e2 with e2 | ⟨k', st', hlt, e2⟩
    · rw [e2]
    · rw [e2]
      dsimp only
      rw [if_neg (by omega)]
  · have e1 := hl h0
    have e2 := ho (show (k + 1) % 2 = 0 by omega)
    rw [Nat.one_mul] at e1
    rw [Nat.zero_mul, Nat.add_zero] at e2
    rw [e1]
    rcases e2 with e2 | ⟨k', st', hlt, e2⟩
    · rw [e2]
    · rw [e2]
      dsimp only
      rw [if_pos hlt]
/-! ### a saving, cut off wherever -/
omit hsum
def faceN (x : Slv) (i : Nat) : List B8 := faceOf (gat x.secs i)
/-- no ink -/
def CleanS (x : Slv) : Prop := ∀ i, i < x.secs.length → (gat x.secs i).2 = none
/-- outside T nothing has turned -/
def SameS (T : Nat → Prop) (x y : Slv) : Prop := y.secs.length = x.secs.length ∧ ∀ i, i < x.secs.length → ¬ T i → gat y.secs i = gat x.secs i
/-- sectors from one on are inked with these bytes and burnt: how it may end -/
structure Brn (x : Slv) (first : Nat) (b : List B8) (y : Slv) (e : Int) : Prop where
  same : SameS (fun i => first ≤ i ∧ i < first + (b.length + 63) / 64) x y
  ok : e = 0 → CleanS y ∧ ∀ j, 64 * j < b.length → gat y.secs (first + j) = (some (chunkB b j), none)
  err : e = 0 ∨ e = 12
theorem SameS.face {T : Nat → Prop} {x y : Slv} (h : SameS T x y) {i : Nat} (hi : i < x.secs.length) (hT : ¬ T i) : faceN y i = faceN x i := by
  unfold faceN; rw [h.2 i hi hT]
theorem woken_same {x : Slv} (l : List (Int × List B8)) {T : Nat → Prop} (h : ∀ i, i < x.secs.length → ¬ T i → (gat x.secs i).2 = none) : SameS T x (x.woken l) :=
  ⟨x.woken_len l, fun i hi hT => by
    rw [x.woken_at l hi]
    have h1 := h i hi hT
    generalize gat x.secs i = s at h1
    obtain ⟨a, c⟩ := s
    dsimp only at h1
    subst h1
    rfl⟩
theorem SameS.trans {T : Nat → Prop} {x y z : Slv} (h : SameS T x y) (k : SameS T y z) : SameS T x z := ⟨k.1.trans h.1, fun i hi hT => (k.2 i (by rw [h.1]; exact hi) hT).trans (h.2 i hi hT)⟩
theorem SameS.clean {T : Nat → Prop} {x y : Slv} (h : SameS T x y) (hc : CleanS x) {i : Nat} (hi : i < x.secs.length) (hT : ¬ T i) : (gat y.secs i).2 = none := by
  rw [h.2 i hi hT]
  exact hc i hi
/-- what is cut off, and wakes -/
theorem SameS.woke {T : Nat → Prop} {x y : Slv} (h : SameS T x y) (hc : CleanS x) (l : List (Int × List B8)) : SameS T x (y.woken l) :=
  h.trans (woken_same l (fun i hi hT => h.clean hc (by rw [← h.1]; exact hi) hT))
theorem SameS.has {T : Nat → Prop} {x y : Slv} (h : SameS T x y) {first : Nat} {b : List B8} (hb : HasB (faceN x) first b) (hT : ∀ j, 64 * j < b.length → first + j < x.secs.length ∧ ¬ T (first + j)) : HasB (faceN y) first b :=
  fun j hj => (h.face (hT j hj).1 (hT j hj).2).trans (hb j hj)
theorem area_in {S n : Nat} {m j : Nat} (hS : 4 ≤ S) (hm : m ≤ 64 * ((S - 2) / 2) - 44) (hj : 64 * j < (44 + m + 63) / 64 * 64) : areaF S n + j < S ∧ 2 ≤ areaF S n + j ∧ areaF S n ≤ areaF S n + j ∧ areaF S n + j < areaF S n + (S - 2) / 2 ∧ j < (S - 2) / 2 := by
  have h1 : j < (S - 2) / 2 := by omega
  unfold areaF
  rcases Nat.mod_two_eq_zero_or_one n with h0 | h0
  · rw [h0, Nat.zero_mul]; omega
  · rw [h0, Nat.one_mul]; omega
theorem areas_apart {S k : Nat} : areaF S k + (S - 2) / 2 ≤ areaF S (k + 1) ∨ areaF S (k + 1) + (S - 2) / 2 ≤ areaF S k := by
  unfold areaF
  rcases Nat.mod_two_eq_zero_or_one k with h0 | h0
  · rw [h0, show (k + 1) % 2 = 1 by omega, Nat.zero_mul, Nat.one_mul]; omega
  · rw [h0, show (k + 1) % 2 = 0 by omega, Nat.zero_mul, Nat.one_mul]; omega
theorem areaF_two (S k : Nat) : areaF S (k + 1 + 1) = areaF S k := by
  unfold areaF
  rw [show (k + 1 + 1) % 2 = k % 2 by omega]
include hsum
/-- a flag may turn as it will, if its area holds an older state -/
theorem FndS.flag {x y : Slv} {k : Nat} {st : List B8} (h : FndS sum (faceN x) x.secs.length k st) (hS : 4 ≤ x.secs.length) (hs : SameS (fun i => i = (k + 1) % 2) x y) (ho : faceN x ((k + 1) % 2) ≠ zero64B) : FndS sum (faceN y) x.secs.length k st := by
  have hp : k % 2 ≠ (k + 1) % 2 := by omega
  refine ⟨by rw [hs.face (by omega) hp]; exact h.up, hs.has h.area (fun j hj => ?_), h.room, ?_⟩
  · rw [wholeB_length sum hsum] at hj
    have := area_in (n := k) hS h.room hj
    exact ⟨this.1, by omega⟩
  · rcases h.other with h0 | ⟨k', st', h1, h2, h3, h4⟩
    · exact absurd h0 ho
    · refine .inr ⟨k', st', h1, h2, h3, hs.has h4 (fun j hj => ?_)⟩
      rw [wholeB_length sum hsum] at hj
      have := area_in (n := k + 1) hS h3 hj
      exact ⟨this.1, by omega⟩
/-- the other area may turn as it will, if its flag is down -/
theorem FndS.write {x y : Slv} {k m : Nat} {st : List B8} (h : FndS sum (faceN x) x.secs.length k st) (hS : 4 ≤ x.secs.length) (hm : m ≤ (x.secs.length - 2) / 2) (hs : SameS (fun i => areaF x.secs.length (k + 1) ≤ i ∧ i < areaF x.secs.length (k + 1) + m) x y) (ho : faceN x ((k + 1) % 2) = zero64B) : FndS sum (faceN y) x.secs.length k st := by
  have ha : ∀ n, 2 ≤ areaF x.secs.length n := fun n => by unfold areaF; omega
  refine ⟨by rw [hs.face (by omega) (by have := ha (k + 1); omega)]; exact h.up, hs.has h.area (fun j hj => ?_), h.room, .inl ?_⟩
  · rw [wholeB_length sum hsum] at hj
    have h1 := area_in (n := k) hS h.room hj
    have h2 := areas_apart (S := x.secs.length) (k := k)
    exact ⟨h1.1, by omega⟩
  · rw [hs.face (by omega) (by have := ha (k + 1); omega)]
    exact ho
/-- the area is written: as the flag turns out, so it is -/
theorem FndS.turn {x y : Slv} {k : Nat} {st next : List B8} (h : FndS sum (faceN x) x.secs.length k st) (hS : 4 ≤ x.secs.length) (hn : next.length ≤ 64 * ((x.secs.length - 2) / 2) - 44) (ha : HasB (faceN x) (areaF x.secs.length (k + 1)) (wholeB sum (k + 1) next)) (hs : SameS (fun i => i = (k + 1) % 2) x y) :
    (faceN y ((k + 1) % 2) = zero64B → FndS sum (faceN y) x.secs.length k st) ∧ (faceN y ((k + 1) % 2) ≠ zero64B → FndS sum (faceN y) x.secs.length (k + 1) next) := by
  have hp : k % 2 ≠ (k + 1) % 2 := by omega
  have hk : HasB (faceN y) (areaF x.secs.length k) (wholeB sum k st) := hs.has h.area (fun j hj => by
    rw [wholeB_length sum hsum] at hj
    have := area_in (n := k) hS h.room hj
    exact ⟨this.1, by omega⟩)
  have hk1 : HasB (faceN y) (areaF x.secs.length (k + 1)) (wholeB sum (k + 1) next) := hs.has ha (fun j hj => by
    rw [wholeB_length sum hsum] at hj
    have := area_in (n := k + 1) hS hn hj
    exact ⟨this.1, by omega⟩)
  have hu : faceN y (k % 2) ≠ zero64B := by rw [hs.face (by omega) hp]; exact h.up
  refine ⟨fun h0 => ⟨hu, hk, h.room, .inl h0⟩, fun h0 => ⟨h0, hk1, hn, .inr ⟨k, st, by omega, by omega, h.room, ?_⟩⟩⟩
  rw [areaF_two]
  exact hk
end
end Sto
end Go.Proofs.Ytejjofjhcgdedaa
