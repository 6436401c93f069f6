/- The store's Open, walked. -/
import Derived.Test.YtejjofjhcgdedaaSto8
namespace Go.Proofs.Ytejjofjhcgdedaa
set_option linter.unusedSimpArgs false
set_option linter.unusedVariables false
open Go.RowKit Go.Shelf
open Sha
attribute [local go_sem] steady steadyUpon Cls same_cell anyW
attribute [local irreducible] wpHead wpTree wpHeadR Sha.sum
/-- the store's cells -/
def stcs (g n : Nat) (dead : Bool) : Array Value := #[.pointer (some ⟨g, 0, none⟩), .int .u64 (n : Int), .bool dead]
def Sto.merge : Option (Nat × List B8) → Option (Nat × List B8) → Option (Nat × List B8)
  | none, r => r
  | some a, none => some a
  | some a, some b => if a.1 < b.1 then some b else some a
def Sto.pick (l : Nat → Option (Nat × List B8)) : Nat → Option (Nat × List B8)
  | 0 => none
  | i + 1 => Sto.merge (Sto.pick l i) (l i)
theorem Sto.openF_pick (F : Nat → List B8) (S : Nat) : Sto.openF Sha.sum F S = Sto.pick (fun i => Sto.lookF Sha.sum F (Sto.areaF S i) i (64 * ((S - 2) / 2) - 44)) 2 := by
  unfold Sto.openF Sto.pick Sto.pick Sto.pick
  have h0 : Sto.areaF S 0 = 2 := by unfold Sto.areaF; omega
  have h1 : Sto.areaF S (0 + 1) = 2 + (S - 2) / 2 := by unfold Sto.areaF; omega
  rw [h0, h1]
  show _ = Sto.merge (Sto.lookF Sha.sum F 2 0 (64 * ((S - 2) / 2) - 44)) _
  generalize Sto.lookF Sha.sum F 2 0 (64 * ((S - 2) / 2) - 44) = a
  generalize Sto.lookF Sha.sum F (2 + (S - 2) / 2) 1 (64 * ((S - 2) / 2) - 44) = b
  cases a <;> cases b <;> rfl
/-- what is there so far -/
def OpS (w w' : World) (g : Nat) (r : Option (Nat × List B8)) (out st : Value) : Prop :=
  match r with
  | none => out = .pointer none ∧ st = .slice none 0 0
  | some (n, bs) => ∃ s A c, out = .pointer (some ⟨s, 0, none⟩) ∧ st = .slice A bs.length c ∧ w.heap.size ≤ s ∧ Blk w' s 92 (stcs g n false) ∧ Own w' w.heap.size 5 A c (bs.map by8)
theorem OpS.ext {w w' w2 : World} {g : Nat} {r : Option (Nat × List B8)} {out st : Value} (h : OpS w w' g r out st) (hE : Ext w' w2) : OpS w w2 g r out st := by
  cases r with
  | none => exact h
  | some p => obtain ⟨n, bs⟩ := p; obtain ⟨s, A, c, h1, h2, h3, h4, h5⟩ := h; exact ⟨s, A, c, h1, h2, h3, h4.ext hE, h5.ext hE⟩
def RetOpn2 (w : World) (g n : Nat) (bs : List B8) (e : Ending) (w' : World) : Prop :=
  ∃ s A c, e = .returned (.tuple #[.pointer (some ⟨s, 0, none⟩), .slice A bs.length c, .int .i64 0]) ∧ w.heap.size ≤ s ∧ Blk w' s 92 (stcs g n false) ∧ Own w' w.heap.size 5 A c (bs.map by8) ∧ Ext w w'
theorem Sto.lookF_lt {F : Nat → List B8} {a p room n : Nat} {st : List B8} (h : Sto.lookF Sha.sum F a p room = some (n, st)) : n < 18446744073709551616 := by
  unfold Sto.lookF at h
  split at h
  · cases h
  · split at h
    · cases h
    · split at h
      · injection h with h
        injection h with h1 h2
        have := Sto.getB_lt ((F a).take 8)
        rw [h1] at this
        refine Nat.lt_of_lt_of_le this ?_
        exact Nat.le_trans (Nat.pow_le_pow_right (by decide) (by rw [List.length_take]; exact Nat.min_le_left _ _)) (show 256 ^ 8 ≤ 18446744073709551616 by decide)
      · cases h
set_option maxRecDepth 100000 in
set_option maxHeartbeats 4000000 in
theorem stopen_any (w0 : World) (g gl : Nat) (x : Slv) (S n : Nat) (bs : List B8) (w : World) (h : SlO w0 w g gl x) (hS : x.secs.length = S) (hS4 : 4 ≤ S) (hS2 : S ≤ 4096) (ho : x.out = false) (hf : Sto.openF Sha.sum (Sto.faceN x) S = some (n, bs)) :
    Calls Try.prog 32 #[.pointer (some ⟨g, 0, none⟩)] w (RetOpn2 w g n bs) := by
  rw [Sto.openF_pick] at hf
  obtain ⟨l, hl⟩ : ∃ l, l = fun i => Sto.lookF Sha.sum (Sto.faceN x) (Sto.areaF S i) i (64 * ((S - 2) / 2) - 44) := ⟨_, rfl⟩
  rw [← hl] at hf
  have hlook : ∀ (i : Nat) (w1 : World), i < 2 → SlO w0 w1 g gl x → Calls Try.prog 50 #[.pointer (some ⟨g, 0, none⟩), .int .u64 (i : Int)] w1 (RetLok w1 (l i)) := fun i w1 hi h1 => by
    rw [hl]; exact stlook_any w0 g gl x S i w1 h1 hS hS4 hS2 ho hi
  have hlt : ∀ i n st, l i = some (n, st) → n < 18446744073709551616 := fun i n st he => by rw [hl] at he; exact Sto.lookF_lt he
  have hface := fun w1 (h1 : SlO w0 w1 g gl x) => sfc_any w0 g gl x 0 w1 h1 ho (by omega)
  have H := hide h
  have HF := hide hf
  have Hface := hide hface
  have Hlook := hide hlook
  have Hlt := hide hlt
  clear h hl hf hlook hlt hface ho hS hS4 hS2
  go_enter Try.func32, Try.ntmps32
  go_wp2_with fail
  refine (Hface.out w H.out).mono ?_
  rintro e w1 ⟨A1, c1, rfl, -, hE1⟩
  have HE1 := hide hE1
  clear hE1
  go_wp2_with fail
  go_loopw [5, 6, 25] (fun ov sv pv wr => ∃ i : Nat, i ≤ 2 ∧ pv = .int .u64 (i : Int) ∧ OpS w wr g (Sto.pick l i) ov sv ∧ Ext w wr) (fun _ _ pv _ => 2 - (Go.RowKit.intOf pv).toNat)
  case atStart => exact ⟨0, by omega, rfl, ⟨rfl, rfl⟩, HE1.out⟩
  case round =>
    obtain ⟨i, hi, rfl, hO, hE⟩ := hrel
    have HO := hide hO
    have HE := hide hE
    clear hO hE
    by_cases hi2 : i < 2
    · have hii : (i : Int) < 2 := by omega
      have hi3 : i + 1 ≤ 2 := hi2
      go_wp2_with fail
      refine (Hlook.out i wr hi2 (H.out.keep HE.out)).mono ?_
      rintro e w2 ⟨hE2, hr⟩
      have HO2 := hide (HO.out.ext hE2)
      have HE2 := hide (HE.out.trans hE2)
      have hszr : w.heap.size ≤ wr.heap.size := HE.out.size
      clear hE2 HO HE
      cases hli : l i with
      | none =>
        rw [hli] at hr
        dsimp only at hr
        subst hr
        have hpk : Sto.pick l (i + 1) = Sto.pick l i := by
          show Sto.merge (Sto.pick l i) (l i) = _
          rw [hli]
          cases Sto.pick l i <;> rfl
        have Hpk := hide hpk
        clear hpk hli
        go_wp2_with fail
        go_roundw
        case rel => exact ⟨i + 1, hi3, by go_num, by rw [Hpk.out]; exact HO2.out, HE2.out⟩
        case measure => simp [Go.RowKit.intOf]; omega
      | some p =>
        obtain ⟨n2, bs2⟩ := p
        rw [hli] at hr
        obtain ⟨A3, c3, rfl, hO3⟩ := hr
        have hn2 := Hlt.out i n2 bs2 hli
        have hpk : Sto.pick l (i + 1) = Sto.merge (Sto.pick l i) (some (n2, bs2)) := by
          show Sto.merge (Sto.pick l i) (l i) = _
          rw [hli]
        have Hpk := hide hpk
        have HO3 := hide (hO3.mono hszr)
        clear hpk hli hO3
        cases hpi : Sto.pick l i with
        | none =>
          have hO2 := HO2.out
          rw [hpi] at hO2
          obtain ⟨rfl, rfl⟩ := hO2
          have Hpi := hide hpi
          clear hpi
          go_wp2_with fail
          have hEn : Ext w (w2.alloc (.cells #[.pointer (some ⟨g, 0, none⟩), .int .u64 (n2 : Int), .bool false] 92)) := HE2.out.alloc _
          go_roundw
          case rel => exact ⟨i + 1, hi3, by go_num, by rw [Hpk.out, Hpi.out]; exact ⟨w2.heap.size, A3, c3, rfl, rfl, HE2.out.size, Blk.new _ _ _, HO3.out.ext ((Upd.refl _ _).alloc _)⟩, hEn⟩
          case measure => simp [Go.RowKit.intOf]; omega
        | some q =>
          obtain ⟨n4, bs4⟩ := q
          have hO2 := HO2.out
          rw [hpi] at hO2
          obtain ⟨s4, A4, c4, rfl, rfl, hs4, hB4, hO4⟩ := hO2
          have d1 : w2.cell? ⟨s4, 1, none⟩ = some (.int .u64 (n4 : Int)) := hB4.at 1 rfl
          have Hpi := hide hpi
          have HB4 := hide hB4
          have HO4 := hide hO4
          clear hpi hB4 hO4
          by_cases hlt : n4 < n2
          · have hlti : (n4 : Int) < (n2 : Int) := by omega
            go_wp2_with fail
            have hEn : Ext w (w2.alloc (.cells #[.pointer (some ⟨g, 0, none⟩), .int .u64 (n2 : Int), .bool false] 92)) := HE2.out.alloc _
            go_roundw
            case rel => exact ⟨i + 1, hi3, by go_num, by rw [Hpk.out, Hpi.out]; show OpS _ _ _ (if n4 < n2 then _ else _) _ _; rw [if_pos hlt]; exact ⟨w2.heap.size, A3, c3, rfl, rfl, HE2.out.size, Blk.new _ _ _, HO3.out.ext ((Upd.refl _ _).alloc _)⟩, hEn⟩
            case measure => simp [Go.RowKit.intOf]; omega
          · have hlti : ¬ (n4 : Int) < (n2 : Int) := by omega
            go_wp2_with fail
            go_roundw
            case rel => exact ⟨i + 1, hi3, by go_num, by rw [Hpk.out, Hpi.out]; show OpS _ _ _ (if n4 < n2 then _ else _) _ _; rw [if_neg hlt]; exact ⟨s4, A4, c4, rfl, rfl, hs4, HB4.out, HO4.out⟩, HE2.out⟩
            case measure => simp [Go.RowKit.intOf]; omega
    · obtain rfl : i = 2 := by omega
      have hO := HO.out
      rw [HF.out] at hO
      obtain ⟨s, A, c, rfl, rfl, hs, hB, hOw⟩ := hO
      have HB := hide hB
      have HOw := hide hOw
      clear hB hOw
      go_wp2_with fail
      refine bodyPost_ret (v := .tuple #[.pointer (some ⟨s, 0, none⟩), .slice A bs.length c, .int .i64 0]) ?_ rfl ⟨s, A, c, rfl, hs, HB.out, HOw.out, HE.out⟩
      simp [results, Try.results32, go_sem]
end Go.Proofs.Ytejjofjhcgdedaa
