/- Merged: GrpN GrpQ GrpO. -/
import Derived.Test.YtoekbomfepedcaaDbGrpe
import Derived.Test.YtoekbomfepedcaaDbRefs
import Derived.Test.YtoekbomfepedcaaDbGrps
import Derived.Test.YtoekbomfepedcaaDbMacR
import Derived.Test.YtoekbomfepedcaaDbShas
namespace Go.Proofs.Ytoekbomfepedcaa
set_option linter.unusedSimpArgs false
set_option linter.unusedVariables false
/- A group, walked: its bases, its size, bytes and members of bytes; what none answers; the document's group of a group. -/
section
open Go.RowKit
open Nt
attribute [local go_sem] steady steadyUpon Cls same_cell
attribute [local irreducible] wpHead wpTree wpHeadR
section
variable (gr P Q G H k : Nat) (w : World)
set_option maxRecDepth 100000 in
set_option maxHeartbeats 1000000 in
theorem gG_any (h : GrpV w gr P Q G H) : Calls Try.prog 18 #[.pointer (some ⟨gr, 0, none⟩)] w (RetN w G) := by
  obtain ⟨gp, gq, A1, l1, c1, A2, l2, c2, h1, h2, h3, h4, h5⟩ := h
  go_enter Try.func18, Try.ntmps18
  have b1 : Box (w.alloc (.cells #[.slice none 0 0] 33)) w.heap.size 33 (.slice none 0 0) := Box.new _ _ _
  have hE : Ext w (w.alloc (.cells #[.slice none 0 0] 33)) := (by repeat (first | (with_reducible exact Upd.refl _ _) | (with_reducible assumption) | (refine Upd.setCell ?_ (.inr (by first | exact Nat.le_refl _ | (dsimp only; omega) | (simp; done) | (simp; omega))) _) | (with_reducible refine Upd.alloc ?_ _) | (with_reducible refine Upd.drew ?_) | (with_reducible refine Upd.trans ?_ (by with_reducible assumption))))
  have c0 : (w.alloc (.cells #[.slice none 0 0] 33)).cell? ⟨gr, 2, none⟩ = some (.slice A1 l1 c1) := (h1.ext hE).at 2 rfl
  have q2 := b1.cell
  have q3 := b1.frozen
  go_wp2_with fail
  have q := (Box.new w 33 (.slice A1 l1 c1)).cell
  exact bodyPost_ret (v := .agg #[.slice A1 l1 c1]) (by simp [results, Try.results18, go_sem, q]) rfl ⟨_, _, _, rfl, h4.ext ((Upd.refl _ _).alloc _), (Upd.refl _ _).alloc _⟩
set_option maxRecDepth 100000 in
set_option maxHeartbeats 1000000 in
theorem gH_any (h : GrpV w gr P Q G H) : Calls Try.prog 17 #[.pointer (some ⟨gr, 0, none⟩)] w (RetN w H) := by
  obtain ⟨gp, gq, A1, l1, c1, A2, l2, c2, h1, h2, h3, h4, h5⟩ := h
  go_enter Try.func17, Try.ntmps17
  have b1 : Box (w.alloc (.cells #[.slice none 0 0] 33)) w.heap.size 33 (.slice none 0 0) := Box.new _ _ _
  have hE : Ext w (w.alloc (.cells #[.slice none 0 0] 33)) := (by repeat (first | (with_reducible exact Upd.refl _ _) | (with_reducible assumption) | (refine Upd.setCell ?_ (.inr (by first | exact Nat.le_refl _ | (dsimp only; omega) | (simp; done) | (simp; omega))) _) | (with_reducible refine Upd.alloc ?_ _) | (with_reducible refine Upd.drew ?_) | (with_reducible refine Upd.trans ?_ (by with_reducible assumption))))
  have c0 : (w.alloc (.cells #[.slice none 0 0] 33)).cell? ⟨gr, 3, none⟩ = some (.slice A2 l2 c2) := (h1.ext hE).at 3 rfl
  have q2 := b1.cell
  have q3 := b1.frozen
  go_wp2_with fail
  have q := (Box.new w 33 (.slice A2 l2 c2)).cell
  exact bodyPost_ret (v := .agg #[.slice A2 l2 c2]) (by simp [results, Try.results17, go_sem, q]) rfl ⟨_, _, _, rfl, h5.ext ((Upd.refl _ _).alloc _), (Upd.refl _ _).alloc _⟩
end
/-! ### numbers as the document's -/
/-- a group of the document's -/
def RGrpV (w : World) (v : Value) (P Q G H : Nat) : Prop := ∃ A1 l1 c1 A2 l2 c2 A3 l3 c3 A4 l4 c4, v = .agg #[.slice A1 l1 c1, .slice A2 l2 c2, .slice A3 l3 c3, .slice A4 l4 c4] ∧ RefV w (.slice A1 l1 c1) P ∧ RefV w (.slice A2 l2 c2) Q ∧ RefV w (.slice A3 l3 c3) G ∧ RefV w (.slice A4 l4 c4) H
theorem RGrpV.ext {w w' : World} {v : Value} {P Q G H : Nat} (h : RGrpV w v P Q G H) (hu : Ext w w') : RGrpV w' v P Q G H := by
  obtain ⟨A1, l1, c1, A2, l2, c2, A3, l3, c3, A4, l4, c4, e, h1, h2, h3, h4⟩ := h
  exact ⟨A1, l1, c1, A2, l2, c2, A3, l3, c3, A4, l4, c4, e, h1.ext hu, h2.ext hu, h3.ext hu, h4.ext hu⟩
theorem RefV.far {w : World} {s : Value} {n : Nat} {p : Addr} {A : Option Addr} {l c : Nat} {v : Value} (h : RefV w s n) (hc : w.cell? p = some (.slice A l c)) : RefV (w.setCell p v) s n :=
  NumS.far h hc (fun x e => by cases e)
end
/- A group, walked: Challenge. -/
section
open Go.RowKit
open Nt Sha
attribute [local go_sem] steady steadyUpon Cls same_cell anyW
attribute [local irreducible] wpHead wpTree wpHeadR
/-- byte k of a number -/
def byteAt (n k : Nat) : BitVec 8 := BitVec.ofNat 8 (n / 2 ^ (8 * k))
def leK (n : Nat) : Nat → List (BitVec 8)
  | 0 => []
  | k + 1 => leK n k ++ [byteAt n k]
theorem leK_length (n : Nat) : ∀ k, (leK n k).length = k
  | 0 => rfl
  | k + 1 => by unfold leK; rw [List.length_append, leK_length n k]; rfl
/-- what is challenged: each part with its length ahead -/
def chalB (ps : List Pt) : List (BitVec 8) := ps.flatMap fun p => leK p.n 8 ++ p.bs
theorem chalB_take {ps : List Pt} {k : Nat} (h : k < ps.length) : chalB (ps.take k) ++ (leK (gat ps k).n 8 ++ (gat ps k).bs) = chalB (ps.take (k + 1)) := by
  unfold chalB
  rw [List.take_succ_eq_append_getElem h, List.flatMap_append, gat_lt h]
  simp
theorem chalB_le (ps : List Pt) (k : Nat) : (chalB (ps.take k)).length ≤ (chalB ps).length := by
  have e : chalB ps = chalB (ps.take k) ++ chalB (ps.drop k) := by unfold chalB; rw [← List.flatMap_append, List.take_append_drop]
  rw [e, List.length_append]; omega
theorem byteAt_n8 (n i : Nat) : (n : Int) / 2 ^ (8 * i) % 256 = n8 (byteAt n i) := by
  unfold byteAt n8
  rw [BitVec.toNat_ofNat]
  simp
theorem leK_set (n k : Nat) (h : k < 8) : (leK n k ++ List.replicate (8 - k) (default : BitVec 8)).set k (byteAt n k) = leK n (k + 1) ++ List.replicate (8 - (k + 1)) default := by
  obtain ⟨j, hj⟩ : ∃ j, 8 - k = j + 1 := ⟨7 - k, by omega⟩
  have hj2 : 8 - (k + 1) = j := by omega
  rw [hj, hj2, List.replicate_succ, List.set_append, if_neg (by rw [leK_length]; omega), leK_length, Nat.sub_self]
  simp [leK]
def chalN (ps : List Pt) (Q : Nat) : Nat := ofB (sum (chalB ps)) % Q
theorem fit_sum (bs : List (BitVec 8)) : Fit 8 (ofB (sum bs)) := by
  have h1 := ofB_lt (sum bs)
  rw [sum_length] at h1
  unfold Fit
  exact Nat.lt_of_lt_of_le h1 (by decide)
set_option maxRecDepth 100000 in
set_option maxHeartbeats 4000000 in
theorem gChal_any (gr P Q G H k9 : Nat) (A : Option Addr) (n c : Nat) (ps : List Pt) (w : World) (h : GrpV w gr P Q G H) (hP : Pts w A ps) (hn : ps.length = n) (hnm : n ≤ 1000) (hl : (chalB ps).length ≤ 100000000) (hFQ : Fit k9 Q) (hk8 : 8 ≤ k9) (hk9 : k9 ≤ 1000000) :
    Calls Try.prog 28 #[.pointer (some ⟨gr, 0, none⟩), .slice A n c] w (RetN w (chalN ps Q)) := by
  have HG := hide h
  have HP := hide hP
  have Hn := hide hn
  have Hl := hide hl
  clear h hP hn hl
  go_enter Try.func28, Try.ntmps28
  go_wp2_with fail
  refine name_c (fun W hW => ?_)
  have b4 : Box W w.heap.size 33 (.slice none 0 0) := by rw [hW]; exact Box.new _ _ _
  have hE : Ext w W := by rw [hW]; exact (Upd.refl _ _).alloc _
  clear hW
  have hBW : w.heap.size < W.heap.size := b4.lt
  refine (hnew_any W).mono ?_
  rintro e w1 ⟨g, T1, rfl, hH1, hU1⟩
  have hH1' := hide hH1
  clear hH1
  go_wp2_with fail
  go_loopw [18] (fun i wx => ∃ k T, k ≤ n ∧ i = .int .i64 (k : Nat) ∧ Hsh wx W.heap.size T g (chalB (ps.take k)) ∧ Ext W wx) (fun i _ => n - (intOf i).toNat)
  case atStart => exact ⟨0, T1, by omega, rfl, hH1'.out, hU1⟩
  case round =>
    obtain ⟨k, T, hk, rfl, hH, hU⟩ := hrel
    have hH' := hide hH
    have HU := hide hU
    clear hH hU1 hH1' hU
    by_cases hlt : k < n
    case neg =>
      obtain rfl : n = k := by omega
      have hlti : ¬ ((n : Int) < (n : Int)) := by omega
      have hfull : ps.take n = ps := List.take_of_length_le (by have := Hn.out; omega)
      have hH2 : Hid (Hsh wr W.heap.size T g (chalB ps)) := hide (by have := hH'.out; rwa [hfull] at this)
      have hb4 := b4.ext HU.out
      have hEw := hE.trans HU.out
      clear hfull hH' HU b4 hE
      go_wp2_with fail
      refine (hsum_any W.heap.size g T (chalB ps) _ hH2.out Hl.out).mono ?_
      rintro e w2 ⟨A2, c2, rfl, hO2, hU2⟩
      have hS2 := hO2.sl
      clear hO2 hH2
      go_wp2_with fail
      refine (from_any A2 32 c2 (sum (chalB ps)) _ (sum_length _) (by omega) hS2).mono ?_
      rintro e w3 ⟨A3, l3, c3, rfl, hV3, hU3⟩
      have hb5 := hb4.ext (hU2.trans hU3)
      have hE3 := hEw.trans (hU2.trans hU3)
      clear hS2 hU2 hU3 hb4 hEw
      go_wp2_with fail
      refine name_w (fun X hX => ?_)
      have b10 : Box X w3.heap.size 33 (.slice A3 l3 c3) := by rw [hX]; exact Box.new _ _ _
      have b4 : Box X w.heap.size 33 (.slice none 0 0) := by rw [hX]; exact hb5.alloc _
      have hEX : Ext w X := by rw [hX]; exact hE3.alloc _
      have hVX : NatV X (.agg #[.slice A3 l3 c3]) (ofB (sum (chalB ps))) := by rw [hX]; exact hV3.ext ((Upd.refl _ _).alloc _)
      obtain ⟨x, hx⟩ : ∃ x, x = ofB (sum (chalB ps)) := ⟨_, rfl⟩
      rw [← hx] at hVX
      have hFx : Fit k9 x := by rw [hx]; exact (fit_sum _).mono hk8
      have hch : chalN ps Q = x % Q := by rw [hx]; rfl
      have Hch := hide hch
      have Hx := hide hx
      clear hX hV3 hb5 hE3 hx hch
      obtain ⟨gp, gq, B1, m1, d1, B2, m2, d2, h1, -, h3, -, -⟩ := HG.out.ext hEX
      have q0 := fun y : Wd (Ext X.drew) => y.ok.cellv (show X.drew.cell? ⟨gr, 1, none⟩ = some (.pointer (some ⟨gq, 0, none⟩)) from (h1.ext (Upd.refl _ _).drew).at 1 rfl)
      have q1 := fun y : Wd (Ext X.drew) => y.ok.cellv b10.drew.cell
      refine wp_region_plan (Ext _) 6 [(false,0), (false,1), (false,2), (false,3), (false,4), (true,5)] (by kernel_rfl) (by kernel_rfl) (Upd.refl _ _) (fun hne => ?_)
      repeat (refine head_q rfl (fun K hK => ?_); have hK2 := hide hK; clear hK; go_simp; refine hK2.out _ ?_; clear hK2 K)
      refine head_l rfl ?_
      go_wp2_with (go_at_call 37; go_must (refine (mof_any _ gq x Q k9 _ (h3.ext (Upd.refl _ _).drew) (hVX.ext (Upd.refl _ _).drew) hFx hFQ hk9).mono ?_); rintro e w9 ⟨A9, l9, c9, rfl, hV9, hU9⟩)
      refine ⟨Cls (Ext _), fun _ h => h, ⟨⟨_, hU9⟩, rfl⟩, ?_⟩
      repeat (refine head_q rfl (fun K hK => ?_); have hK2 := hide hK; clear hK; go_simp; refine hK2.out _ ?_; clear hK2 K)
      have b4' := b4.ext hU9.undrew
      have z2 := b4'.cell
      have z3 := b4'.frozen
      have hG := hEX.trans hU9.undrew
      clear q0 q1
      refine head_nil ?_
      try simp only [List.drop_succ_cons, List.drop_zero]
      go_wp2_with fail
      have q := (b4'.set (.slice A9 l9 c9)).cell
      have hVf : NatV (w9.setCell ⟨w.heap.size, 0, none⟩ (.slice A9 l9 c9)) (.agg #[.slice A9 l9 c9]) (chalN ps Q) := by rw [Hch.out]; exact hV9.far z2
      exact bodyPost_ret (v := .agg #[.slice A9 l9 c9]) (by simp [results, Try.results28, go_sem, q]) rfl ⟨_, _, _, rfl, hVf, hG.setCell (p := ⟨w.heap.size, 0, none⟩) (.inr (Nat.le_refl _)) _⟩
    case pos =>
      have hlti : (k : Int) < n := by omega
      have hEw := hE.trans HU.out
      obtain ⟨b, o, rfl, _, hc⟩ := (HP.out.ext hEw).1.open_ (by have := Hn.out; omega)
      have hck := hc k (by have := Hn.out; omega)
      unfold Pt.val at hck
      have Hok := hide ((HP.out.ext hEw).2 k (by have := Hn.out; omega))
      obtain ⟨p, hp⟩ : ∃ p, p = gat ps k := ⟨_, rfl⟩
      rw [← hp] at hck Hok
      have Htk : Hid (chalB (ps.take k) ++ (leK p.n 8 ++ p.bs) = chalB (ps.take (k + 1))) := hide (by rw [hp]; exact chalB_take (by rw [Hn.out]; exact hlt))
      obtain ⟨L, hL⟩ : ∃ L, L = p.n := ⟨_, rfl⟩
      have hLm : L ≤ 9223372036854775807 := by have := Hok.out.2.2; unfold maxLen at this; omega
      rw [← hL] at hck Htk
      have HL := hide hL
      have Hp := hide hp
      clear hc hp hL
      refine name_w (fun Z hZ => ?_)
      subst hZ
      go_wp2_with (first
       | (at_make; go_must (refine wpList_mk _ _ _ Try.el8 rfl rfl 8 rfl rfl rfl rfl (by omega) (by unfold maxLen; omega) by8 rfl rfl (Nat.le_refl _) ?_); rintro g2 w2 hO2 rfl hU2))
      have hO2' := hide hO2
      clear hO2
      go_loopw [25] (fun v wx => ∃ i, i ≤ 8 ∧ v = .int .i64 (i : Nat) ∧ Own wx Z.heap.size 5 (some ⟨Z.heap.size, 0, none⟩) 8 ((leK L i ++ List.replicate (8 - i) (default : BitVec 8)).map by8) ∧ Ext Z wx) (fun v _ => 8 - (intOf v).toNat)
      case atStart => exact ⟨0, by omega, rfl, hO2'.out, hU2⟩
      case round =>
        clear hO2' hU2
        obtain ⟨i, hi, rfl, hO, hU⟩ := hrel
        by_cases hi8 : i < 8
        case neg =>
          obtain rfl : i = 8 := by omega
          have hsz : W.heap.size ≤ wr.heap.size := Nat.le_trans HU.out.size hU.size
          have hS8 : Sl by8 wr (some ⟨Z.heap.size, 0, none⟩) (leK L 8) := by simpa using hO.sl
          have hHx := hH'.out.ext hU
          have hEz := hEw.trans hU
          have hEW := HU.out.trans hU
          have hft : chalB (ps.take k) ++ leK L 8 ++ p.bs = chalB (ps.take (k + 1)) := by rw [List.append_assoc]; exact Htk.out
          have hle : (chalB (ps.take (k + 1))).length ≤ 100000000 := Nat.le_trans (chalB_le ps (k + 1)) Hl.out
          have hle8 : (chalB (ps.take k) ++ leK L 8).length ≤ 100000000 := by have h1 := congrArg List.length hft; rw [List.length_append] at h1; omega
          obtain ⟨mid, hmid⟩ : ∃ mid, mid = chalB (ps.take k) ++ leK L 8 := ⟨_, rfl⟩
          rw [← hmid] at hft hle8
          have Hft := hide hft
          have Hle := hide hle
          have Hle8 := hide hle8
          have Hmid := hide hmid
          clear hO hft hle hle8 hmid hU
          go_wp2_with fail
          refine (hadd_any W.heap.size g T (chalB (ps.take k)) (leK L 8) mid _ 8 8 _ hHx hsz hS8 (leK_length _ _) Hmid.out.symm (by have := Hle8.out; omega)).mono ?_
          rintro e w2 ⟨T2, rfl, hH2, hU2, -⟩
          have hEz2 := upd_new hU2 hEz (fun q hq => Nat.le_trans (Nat.le_of_lt (Nat.lt_of_lt_of_le hBW (Nat.le_refl _)) |> fun _ => hE.size) (hHx.in_ hq).1)
          have hEW2 := upd_new hU2 hEW (fun q hq => (hHx.in_ hq).1)
          have hSp := ((HP.out.ext hEz2).2 k (by have := Hn.out; omega)).1
          rw [← Hp.out] at hSp
          clear hHx hS8 hEz hEW hU2 hsz
          go_wp2_with fail
          refine (hadd_any W.heap.size g T2 mid p.bs (chalB (ps.take (k + 1))) _ L p.c _ hH2 hEW2.size hSp (by rw [Hok.out.2.1, HL.out]) Hft.out (by have := Hle.out; omega)).mono ?_
          rintro e w3 ⟨T3, rfl, hH3, hU3, -⟩
          have hEW3 := upd_new hU3 hEW2 (fun q hq => (hH2.in_ hq).1)
          clear hSp hEz2 hEW2 hH2 hU3
          go_wp2_with fail
          go_roundw
          case rel => exact ⟨k + 1, T3, by omega, by go_num, hH3, hEW3⟩
          case measure => simp [intOf]; omega
        case pos =>
          have hiI : (i : Int) < 8 := by omega
          have hval := byteAt_n8 L i
          have hOf := hide hO
          clear hO
          go_wp2_with (refine wpList_store_own by8 one8 (byteAt L i) rfl rfl Try.sz8 rfl rfl hOf.out (by simp [leK_length]; omega) ?_; intro w4 hO4 hU4)
          go_roundw
          case rel => exact ⟨i + 1, by omega, by go_num, by rw [leK_set L i hi8] at hO4; exact hO4, upd_new hU4 hU (fun q hq => Nat.le_of_eq hq.symm)⟩
          case measure => simp [intOf]; omega
end
/- The document's challenge, walked. -/
section
open Go.RowKit
open Nt Sha
attribute [local go_sem] steady steadyUpon Cls same_cell anyW
attribute [local irreducible] wpHead wpTree wpHeadR
end
end Go.Proofs.Ytoekbomfepedcaa
