/- Bytes as strings, and bytes that come in as arguments. -/
import Derived.Test.YtekpjdfgpggcnaaMem2
import Derived.Laws.BytesArg
import Derived.Lib.Strings
namespace Go.Proofs.Ytekpjdfgpggcnaa
set_option linter.unusedSimpArgs false
set_option linter.unusedVariables false
open Go.RowKit

def str (bs : List (BitVec 8)) : ByteArray := ⟨(bs.map fun b => UInt8.ofBitVec b).toArray⟩
theorem str_inj {a b : List (BitVec 8)} (h : str a = str b) : a = b := by
  unfold str at h
  injection h with h
  have h := congrArg Array.toList h
  simp only [List.map_inj_right (f := fun b : BitVec 8 => UInt8.ofBitVec b) (fun x y e => by injection e)] at h
  exact h
theorem str_eq (a b : List (BitVec 8)) : ((str a).toList == (str b).toList) = decide (a = b) := by
  by_cases h : a = b
  · subst h; simp
  · rw [decide_eq_false h]
    apply beq_eq_false_iff_ne.2
    intro e
    rw [ByteArray.toList_eq, ByteArray.toList_eq] at e
    refine h (str_inj ?_)
    have : (str a).data = (str b).data := Array.toList_inj.1 e
    cases ha : str a; cases hb : str b
    rw [ha, hb] at this
    simp only at this
    rw [this]

theorem run_str {P : Program} {T e S : TypeId} (hT : P.underlying T = some (.slice e)) (he : P.underlying e = some (.int .u8)) (hd : P.underlying S = some .string) {w : World} {A : Option Addr} {n c : Nat} {bs : List (BitVec 8)}
    (hS : Sl by8 w A bs) (hn : bs.length = n) : (convert T S (.slice A n c)).run P w = .ok (.string (str bs)) w := by
  subst hn
  rw [run_convert_bytes_string w T S e A bs.length c hT he hd]
  have hmap : bs.map by8 = (bs.map n8).map (Value.int .u8) := by rw [List.map_map]; rfl
  have hfin : (bs.map n8).foldl (fun r n => r.push (UInt8.ofNat n.toNat)) ByteArray.empty = str bs := by
    rw [foldl_push_bytes, show ByteArray.empty.data = #[] from rfl, Array.empty_append, List.map_map]
    unfold str
    congr 2
    apply List.map_congr_left
    intro b _
    show UInt8.ofNat (n8 b).toNat = _
    unfold n8
    rw [Int.toNat_natCast]
    apply UInt8.eq_of_toBitVec_eq
    simp
  rcases Nat.eq_zero_or_pos bs.length with h0 | h0
  · have hb : bs = [] := List.eq_nil_of_length_eq_zero h0
    subst hb
    cases A with
    | none => simp [Conv.bytesToString, str]; rfl
    | some a =>
      rw [run_bytesToString w a _ c [] (by simp [loadCells, loadCellsFrom, Sem.run_pure])]
      simp [str, ByteArray.empty, ByteArray.emptyWithCapacity]; rfl
  · obtain ⟨b, o, rfl, _, _⟩ := hS.open_ h0
    rw [run_bytesToString w ⟨b, o, none⟩ _ c (bs.map n8) ?_, hfin]
    have h := run_loadCells_list (P := P) w ⟨b, o, none⟩ (bs.map by8) (hS.news _ rfl)
    rw [List.length_map] at h
    rw [h, hmap]

/-- A slice of bytes that came in, as bytes. -/
theorem bytes_in {w : World} {a : Option Addr} {len cap : Nat} {zs : List Int}
    (h : (a = none ∧ len = 0 ∧ cap = 0 ∧ zs = []) ∨ ∃ x, a = some x ∧ len ≤ cap ∧ cap ≤ maxLen ∧ zs.length = cap ∧ (∀ i, i < zs.length → w.cell? (x.add i) = some (.int .u8 (zs.getD i 0))) ∧ ∀ n ∈ zs, (Lit.int .u8 n).wf = true) :
    ∃ bs : List (BitVec 8), bs.length = len ∧ len ≤ cap ∧ cap ≤ maxLen ∧ Sl by8 w a bs := by
  rcases h with ⟨rfl, rfl, rfl, rfl⟩ | ⟨x, rfl, hl, hm, hz, hc, hw⟩
  · exact ⟨[], rfl, Nat.le_refl _, Nat.zero_le _, Sl.nil⟩
  · refine ⟨(zs.take len).map (BitVec.ofInt 8), by simp; omega, hl, hm, fun i hi => ?_⟩
    simp only [List.length_map, List.length_take] at hi
    have h0 := hc i (by omega)
    have hx : x.spot = none := by
      have h1 := hc 0 (by omega)
      cases hs : x.spot with
      | none => rfl
      | some s =>
        simp only [Addr.add, if_true] at h1
        unfold World.cell? at h1
        rw [hs] at h1
        split at h1 <;> simp at h1
    obtain ⟨b, o, s⟩ := x
    simp only at hx
    subst hx
    refine ⟨b, o, rfl, ?_⟩
    have e1 : (⟨b, o, none⟩ : Addr).add i = ⟨b, o + i, none⟩ := by unfold Addr.add; split <;> simp_all
    rw [e1] at h0
    rw [h0]
    have hmem : zs.getD i 0 ∈ zs := by
      rw [List.getD_eq_getElem?_getD, List.getElem?_eq_getElem (by omega)]
      exact List.getElem_mem _
    have hb := hw _ hmem
    have hbd : 0 ≤ zs.getD i 0 ∧ zs.getD i 0 ≤ 255 := by
      simp [Lit.wf, IntKind.min, IntKind.max, IntKind.signed, IntKind.bits] at hb
      simpa using hb
    have hg : gat ((zs.take len).map (BitVec.ofInt 8)) i = BitVec.ofInt 8 (zs.getD i 0) := by
      simp only [gat, List.getD_eq_getElem?_getD, List.getElem?_map, List.getElem?_take]
      rw [if_pos (by omega), List.getElem?_eq_getElem (by omega)]
      rfl
    rw [hg]
    obtain ⟨k, hk⟩ := Int.eq_ofNat_of_zero_le hbd.1
    rw [hk]
    unfold by8 n8
    rw [BitVec.ofInt_natCast, BitVec.toNat_ofNat, Nat.mod_eq_of_lt (by omega)]

/-- A word that came in. -/
theorem u32_in {x : Int} (h : (Lit.int .u32 x).wf = true) : ∃ b : BitVec 32, x = n32 b := by
  have hb : 0 ≤ x ∧ x ≤ 4294967295 := by
    simpa [Lit.wf, IntKind.min, IntKind.max, IntKind.signed, IntKind.bits] using h
  obtain ⟨k, rfl⟩ := Int.eq_ofNat_of_zero_le hb.1
  exact ⟨BitVec.ofNat 32 k, by unfold n32; rw [BitVec.toNat_ofNat, Nat.mod_eq_of_lt (by omega)]⟩
theorem u8_in {x : Int} (h : (Lit.int .u8 x).wf = true) : ∃ b : BitVec 8, x = n8 b := by
  have hb : 0 ≤ x ∧ x ≤ 255 := by
    simpa [Lit.wf, IntKind.min, IntKind.max, IntKind.signed, IntKind.bits] using h
  obtain ⟨k, rfl⟩ := Int.eq_ofNat_of_zero_le hb.1
  exact ⟨BitVec.ofNat 8 k, by unfold n8; rw [BitVec.toNat_ofNat, Nat.mod_eq_of_lt (by omega)]⟩
end Go.Proofs.Ytekpjdfgpggcnaa
