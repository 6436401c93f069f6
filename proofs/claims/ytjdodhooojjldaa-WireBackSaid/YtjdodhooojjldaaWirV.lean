/- Votes as bytes, walked: the program's and the document's EncodeVote. -/
import Derived.Test.YtjdodhooojjldaaWirD
import Derived.Test.YtjdodhooojjldaaWirR
namespace Go.Proofs.Ytjdodhooojjldaa
set_option linter.unusedSimpArgs false
set_option linter.unusedVariables false
open Go.RowKit
open Nt Sha
attribute [local go_sem] steady steadyUpon Cls same_cell anyW
attribute [local irreducible] wpHead wpTree wpHeadR
structure Vo where
  K : Int
  from_ : Int
  slot : Int
  view : Int
  valid : Int
  P : Option Addr
  lp : Nat
  c : Nat
  pr : List B8
def Vo.cs (x : Vo) : Array Value := #[.int .i64 x.K, .int .i64 x.from_, .int .i64 x.slot, .int .i64 x.view, .int .i64 x.valid, .slice x.P x.lp x.c]
structure VoOk (w : World) (x : Vo) : Prop where
  val : Sl by8 w x.P x.pr
  len : x.pr.length = x.lp
  cap : x.lp ≤ x.c
  max : x.c ≤ maxLen
theorem VoOk.ext {w w' : World} {x : Vo} (h : VoOk w x) (hu : Ext w w') : VoOk w' x := ⟨h.val.ext hu, h.len, h.cap, h.max⟩
def Vo.bad (x : Vo) : Bool := off x.K 1 5 || (off x.from_ 1 64 || (off x.slot 0 256 || (off x.view 0 1048576 || (off x.valid (-1) 1048576 || decide (4096 < x.lp)))))
def Vo.bytes (x : Vo) : List B8 := [86#8] ++ be x.K 1 ++ be x.from_ 1 ++ be x.slot 4 ++ be x.view 4 ++ be (x.valid + 1) 4 ++ txt x.pr
def Vo.ok (x : Vo) : Bool := !x.bad
set_option maxRecDepth 100000 in
set_option maxHeartbeats 4000000 in
theorem encV_any (x : Vo) (w : World) (hx : VoOk w x) :
    Calls Try.prog 48 #[.agg x.cs] w (RetEnc w x.ok x.bytes) := by
  obtain ⟨ok, hok⟩ : ∃ ok, ok = x.ok := ⟨_, rfl⟩
  rw [← hok]
  have Hok := hide hok
  obtain ⟨bts, hbts⟩ : ∃ bts, bts = x.bytes := ⟨_, rfl⟩
  rw [← hbts]
  have Hbts := hide hbts
  have HX := hide hx
  clear hx hok hbts
  unfold Vo.cs
  go_enter Try.func48, Try.ntmps48
  go_upto_region 2 with fail
  refine name_w (fun W hW => ?_)
  have hb0 : Blk W w.heap.size 78 x.cs := by rw [hW]; exact ((Blk.new _ _ _).ext ((Upd.refl _ _).alloc _)).ext ((Upd.refl _ _).alloc _)
  have hE0 : Ext w W := by rw [hW]; exact (((Upd.refl _ _).alloc _).alloc _).alloc _
  obtain ⟨g, hg0⟩ : ∃ g, g = w.heap.size + 1 + 1 := ⟨_, rfl⟩
  have hW0 : WrA W w.heap.size g (some ⟨w.heap.size + 1, 0, none⟩) 1 1 [86#8] false := by
    rw [hW, hg0]
    exact ⟨Two.mk_at (by simp), (Own.lit_at' by8 5 [86#8] (by simp) (by unfold maxLen; decide) (by simp)).ext ((Upd.refl _ _).alloc _), rfl⟩
  have hg : w.heap.size ≤ g := by omega
  have hge : ¬ w.heap.size = g := by omega
  clear hW
  rw [← hg0]
  clear hg0
  have q := hb0.at 0 rfl
  obtain ⟨A0, hA0⟩ : ∃ A0 : Option Addr, A0 = some ⟨w.heap.size + 1, 0, none⟩ := ⟨_, rfl⟩
  rw [← hA0] at hW0
  obtain ⟨l0, hl0⟩ : ∃ l0, l0 = 1 := ⟨_, rfl⟩
  obtain ⟨k0, hk0⟩ : ∃ k0, k0 = 1 := ⟨_, rfl⟩
  have hW0 : WrA W w.heap.size g A0 l0 k0 [86#8] false := by rw [hl0, hk0]; exact hW0
  clear hl0 hk0
  go_wp2_with fail
  -- 0 old number, 1 new number, x.K field, 1 least, 5 most, 1 size, [86#8] bytes, false bad, 1 index of the next cell
  refine (wnum_any w.heap.size g A0 l0 k0 (x.K) 1 5 1 ([86#8]) false _ hW0 (hE0).size (by omega) (by simp only [List.length_append, be_length, List.length_cons, List.length_nil]; omega)).mono ?_
  rintro e w1 ⟨⟨v1, rfl⟩, A1, l1, k1, hW1, hU1, hn1⟩
  obtain ⟨d1, hd1⟩ : ∃ d, d = (false || decide (x.K < 1) || decide (5 < x.K)) := ⟨_, rfl⟩
  rw [← hd1] at hW1
  have Hd1 := hide hd1
  have hE1 := wu_ext hW0 hg hE0 hU1
  have hb1 := hb0.upd hU1 (fun h => h.elim hge (own_blk hW0.own hb0 (by decide)))
  clear hW0 hU1 hn1 hE0 hb0 hd1 q
  have q := hb1.at 1 rfl
  go_wp2_with fail
  -- 1 old number, 2 new number, x.from_ field, 1 least, 64 most, 1 size, [86#8] ++ be x.K 1 bytes, d1 bad, 2 index of the next cell
  refine (wnum_any w.heap.size g A1 l1 k1 (x.from_) 1 64 1 ([86#8] ++ be x.K 1) d1 _ hW1 (hE1).size (by omega) (by simp only [List.length_append, be_length, List.length_cons, List.length_nil]; omega)).mono ?_
  rintro e w2 ⟨⟨v2, rfl⟩, A2, l2, k2, hW2, hU2, hn2⟩
  obtain ⟨d2, hd2⟩ : ∃ d, d = (d1 || decide (x.from_ < 1) || decide (64 < x.from_)) := ⟨_, rfl⟩
  rw [← hd2] at hW2
  have Hd2 := hide hd2
  have hE2 := wu_ext hW1 hg hE1 hU2
  have hb2 := hb1.upd hU2 (fun h => h.elim hge (own_blk hW1.own hb1 (by decide)))
  clear hW1 hU2 hn2 hE1 hb1 hd2 q
  have q := hb2.at 2 rfl
  go_wp2_with fail
  -- 2 old number, 3 new number, x.slot field, 0 least, 256 most, 4 size, [86#8] ++ be x.K 1 ++ be x.from_ 1 bytes, d2 bad, 3 index of the next cell
  refine (wnum_any w.heap.size g A2 l2 k2 (x.slot) 0 256 4 ([86#8] ++ be x.K 1 ++ be x.from_ 1) d2 _ hW2 (hE2).size (by omega) (by simp only [List.length_append, be_length, List.length_cons, List.length_nil]; omega)).mono ?_
  rintro e w3 ⟨⟨v3, rfl⟩, A3, l3, k3, hW3, hU3, hn3⟩
  obtain ⟨d3, hd3⟩ : ∃ d, d = (d2 || decide (x.slot < 0) || decide (256 < x.slot)) := ⟨_, rfl⟩
  rw [← hd3] at hW3
  have Hd3 := hide hd3
  have hE3 := wu_ext hW2 hg hE2 hU3
  have hb3 := hb2.upd hU3 (fun h => h.elim hge (own_blk hW2.own hb2 (by decide)))
  clear hW2 hU3 hn3 hE2 hb2 hd3 q
  have q := hb3.at 3 rfl
  go_wp2_with fail
  -- 3 old number, 4 new number, x.view field, 0 least, 1048576 most, 4 size, [86#8] ++ be x.K 1 ++ be x.from_ 1 ++ be x.slot 4 bytes, d3 bad, 4 index of the next cell
  refine (wnum_any w.heap.size g A3 l3 k3 (x.view) 0 1048576 4 ([86#8] ++ be x.K 1 ++ be x.from_ 1 ++ be x.slot 4) d3 _ hW3 (hE3).size (by omega) (by simp only [List.length_append, be_length, List.length_cons, List.length_nil]; omega)).mono ?_
  rintro e w4 ⟨⟨v4, rfl⟩, A4, l4, k4, hW4, hU4, hn4⟩
  obtain ⟨d4, hd4⟩ : ∃ d, d = (d3 || decide (x.view < 0) || decide (1048576 < x.view)) := ⟨_, rfl⟩
  rw [← hd4] at hW4
  have Hd4 := hide hd4
  have hE4 := wu_ext hW3 hg hE3 hU4
  have hb4 := hb3.upd hU4 (fun h => h.elim hge (own_blk hW3.own hb3 (by decide)))
  clear hW3 hU4 hn4 hE3 hb3 hd4 q
  have q := hb4.at 4 rfl
  have q' : w4.cell? ⟨w.heap.size, 4, none⟩ = some (.int .i64 x.valid) := q
  clear q
  have q := q'
  clear q'
  by_cases h1 : x.valid < -1
  · obtain rfl : ok = false := Hok.out.trans (by unfold Vo.ok Vo.bad off; rw [decide_eq_true h1]; simp)
    go_wp2_with fail
    refine bodyPost_ret (v := .tuple #[.slice none 0 0, .int .i64 3]) ?_ rfl ⟨none, 0, 0, 3, rfl, hE4, fun h => (by cases h), fun _ => ⟨rfl, rfl, rfl⟩⟩
    simp [results, Try.results48, go_sem]
  by_cases h2 : 1048576 < x.valid
  · obtain rfl : ok = false := Hok.out.trans (by unfold Vo.ok Vo.bad off; rw [decide_eq_true h2]; simp)
    have h1d : decide (x.valid < -1) = false := decide_eq_false h1
    go_wp2_with fail
    refine bodyPost_ret (v := .tuple #[.slice none 0 0, .int .i64 3]) ?_ rfl ⟨none, 0, 0, 3, rfl, hE4, fun h => (by cases h), fun _ => ⟨rfl, rfl, rfl⟩⟩
    simp [results, Try.results48, go_sem]
  have h1d : decide (x.valid < -1) = false := decide_eq_false h1
  have h2d : decide (1048576 < x.valid) = false := decide_eq_false h2
  go_wp2_with fail
  clear h1d h2d
  -- 4 old number, 5 new number, x.valid + 1 field, 0 least, 1048577 most, 4 size, [86#8] ++ be x.K 1 ++ be x.from_ 1 ++ be x.slot 4 ++ be x.view 4 bytes, d4 bad, 5 index of the next cell
  refine (wnum_any w.heap.size g A4 l4 k4 (x.valid + 1) 0 1048577 4 ([86#8] ++ be x.K 1 ++ be x.from_ 1 ++ be x.slot 4 ++ be x.view 4) d4 _ hW4 (hE4).size (by omega) (by simp only [List.length_append, be_length, List.length_cons, List.length_nil]; omega)).mono ?_
  rintro e w5 ⟨⟨v5, rfl⟩, A5, l5, k5, hW5, hU5, hn5⟩
  obtain ⟨d5, hd5⟩ : ∃ d, d = (d4 || decide (x.valid + 1 < 0) || decide (1048577 < x.valid + 1)) := ⟨_, rfl⟩
  rw [← hd5] at hW5
  have Hd5 := hide hd5
  have hE5 := wu_ext hW4 hg hE4 hU5
  have hb5 := hb4.upd hU5 (fun h => h.elim hge (own_blk hW4.own hb4 (by decide)))
  clear hW4 hU5 hn5 hE4 hb4 hd5 q
  have q := hb5.at 5 rfl
  go_wp2_with fail
  have hwo := fun k (hk : WU g A5 k) => wu_old hW5 hg hk
  refine (wtext_any w.heap.size g A5 l5 k5 x.P x.lp x.c 4096 x.pr ([86#8] ++ be x.K 1 ++ be x.from_ 1 ++ be x.slot 4 ++ be x.view 4 ++ be (x.valid + 1) 4) d5 _ hW5 hE5.size (HX.out.val.ext hE5) HX.out.len (by omega) (by have := HX.out.cap; have := HX.out.max; unfold maxLen at this; omega) (fun h0 k hk hk2 => by
    obtain ⟨b3, o3, e3, hlt3, -⟩ := HX.out.val.open_ (by rw [HX.out.len]; exact h0)
    rw [e3] at hk
    simp [inA] at hk
    subst hk
    have := hwo _ hk2
    omega) (by simp only [List.length_append, be_length, List.length_cons, List.length_nil]; omega)).mono ?_
  rintro e w9 ⟨⟨v9, rfl⟩, A9, l9, k9, hW9, hU9, hn9⟩
  obtain ⟨d9, hd9⟩ : ∃ d, d = (d5 || decide (4096 < x.lp)) := ⟨_, rfl⟩
  rw [← hd9] at hW9
  have hE9 := wu_ext hW5 hg hE5 hU9
  have hbad : d9 = x.bad := by
    rw [hd9, Hd5.out, Hd4.out, Hd3.out, Hd2.out, Hd1.out, decide_eq_false (show ¬ x.valid + 1 < 0 by omega), decide_eq_false (show ¬ (1048577 : Int) < x.valid + 1 by omega)]
    unfold Vo.bad off
    rw [decide_eq_false (show ¬ x.valid < -1 by omega), decide_eq_false (show ¬ (1048576 : Int) < x.valid by omega)]
    simp only [Bool.or_assoc, Bool.false_or]
  have hbytes : d9 = false → putT ([86#8] ++ be x.K 1 ++ be x.from_ 1 ++ be x.slot 4 ++ be x.view 4 ++ be (x.valid + 1) 4) x.pr 4096 = bts := fun h => by
    rw [hd9, Bool.or_eq_false_iff] at h
    rw [putT_yes (by rw [HX.out.len]; exact decide_eq_false_iff_not.1 h.2), Hbts.out]
    rfl
  have Hbad := hide hbad
  have HB9 := hide hbytes
  have p0 := hW9.cells.cell0
  have p1 := hW9.cells.cell1
  have HW9 := hide hW9
  clear hW5 hW9 hU9 hn9 hE5 hb5 hd9 q hbad hbytes hwo Hd1 Hd2 Hd3 Hd4 Hd5
  cases d9 with
  | true =>
    obtain rfl : ok = false := Hok.out.trans (by unfold Vo.ok; rw [← Hbad.out]; rfl)
    go_wp2_with fail
    refine bodyPost_ret (v := .tuple #[.slice none 0 0, .int .i64 3]) ?_ rfl ⟨none, 0, 0, 3, rfl, hE9, fun h => (by cases h), fun _ => ⟨rfl, rfl, rfl⟩⟩
    simp [results, Try.results48, go_sem]
  | false =>
    obtain rfl : ok = true := Hok.out.trans (by unfold Vo.ok; rw [← Hbad.out]; rfl)
    have hlen : bts.length = l9 := by rw [← HB9.out rfl]; exact HW9.out.len
    have hO : Own w9 w.heap.size 5 A9 k9 (bts.map by8) := by rw [← HB9.out rfl]; exact HW9.out.own
    have HO := hide hO
    have Hlen := hide hlen
    clear hO hlen
    go_wp2_with fail
    refine bodyPost_ret (v := .tuple #[.slice A9 l9 k9, .int .i64 0]) ?_ rfl ⟨A9, l9, k9, 0, rfl, hE9, fun _ => ⟨rfl, Hlen.out, HO.out⟩, fun h => (by cases h)⟩
    simp [results, Try.results48, go_sem]
/-- bytes of the document's, or none -/
def RetEncR (w : World) (ok : Bool) (bs : List B8) (e : Ending) (w' : World) : Prop :=
  ∃ A l c, e = .returned (.tuple #[.slice A l c, .bool ok]) ∧ Ext w w' ∧ (ok = true → bs.length = l ∧ Sl by8 w' A bs)
theorem off_no {n a b : Int} (h : off n a b = false) : a ≤ n ∧ n ≤ b := by
  unfold off at h
  rw [Bool.or_eq_false_iff, decide_eq_false_iff_not, decide_eq_false_iff_not] at h
  omega
/-- five rows -/
theorem pts_five {w : World} {g : Nat} {t : TypeId} {p q r s u : Pt} (hb : ∃ z : World, w = z.alloc (.cells #[p.val, q.val, r.val, s.val, u.val] t) ∧ z.heap.size = g) (hp : p.ok w) (hq : q.ok w) (hr : r.ok w) (hs : s.ok w) (hu : u.ok w) : Pts w (some ⟨g, 0, none⟩) [p, q, r, s, u] := by
  obtain ⟨z, hz, hg⟩ := hb
  refine ⟨by rw [hz]; exact Sl.new_at Pt.val [p, q, r, s, u] hg rfl, fun i hi => ?_⟩
  match i, hi with
  | 0, _ => exact hp
  | 1, _ => exact hq
  | 2, _ => exact hr
  | 3, _ => exact hs
  | 4, _ => exact hu
theorem Pt.ok.ext {w w' : World} {p : Pt} (h : p.ok w) (hu : Ext w w') : p.ok w' := ⟨h.1.ext hu, h.2⟩
theorem pt_get {w : World} {A : Option Addr} {n c : Nat} {bs : List B8} (h1 : bs.length = n) (h2 : n ≤ c) (h3 : c ≤ maxLen) (h : Sl by8 w A bs) : Pt.ok w ⟨A, n, c, bs⟩ := ⟨h, h1, h2, h3⟩
set_option maxRecDepth 100000 in
set_option maxHeartbeats 4000000 in
theorem rencV_any (x : Vo) (w : World) (hx : VoOk w x) :
    Calls Try.prog 49 #[.agg x.cs] w (RetEncR w x.ok x.bytes) := by
  obtain ⟨ok, hok⟩ : ∃ ok, ok = x.ok := ⟨_, rfl⟩
  rw [← hok]
  have Hok := hide hok
  obtain ⟨bts, hbts⟩ : ∃ bts, bts = x.bytes := ⟨_, rfl⟩
  rw [← hbts]
  have Hbts := hide hbts
  have HX := hide hx
  clear hx hok hbts
  unfold Vo.cs
  go_enter Try.func49, Try.ntmps49
  go_upto_region 1 with fail
  refine name_w (fun W hW => ?_)
  have hb : Blk W w.heap.size 82 x.cs := by rw [hW]; exact Blk.new _ _ _
  have hE : Ext w W := by rw [hW]; exact (Upd.refl _ _).alloc _
  clear hW
  have q0 : W.cell? ⟨w.heap.size, 0, none⟩ = some (.int .i64 x.K) := hb.at 0 rfl
  have q1 : W.cell? ⟨w.heap.size, 1, none⟩ = some (.int .i64 x.from_) := hb.at 1 rfl
  have q2 : W.cell? ⟨w.heap.size, 2, none⟩ = some (.int .i64 x.slot) := hb.at 2 rfl
  have q3 : W.cell? ⟨w.heap.size, 3, none⟩ = some (.int .i64 x.view) := hb.at 3 rfl
  have q4 : W.cell? ⟨w.heap.size, 4, none⟩ = some (.int .i64 x.valid) := hb.at 4 rfl
  have q5 : W.cell? ⟨w.heap.size, 5, none⟩ = some (.slice x.P x.lp x.c) := hb.at 5 rfl
  go_cut [37] (fun t37 wx => t37 = .bool x.bad ∧ Ext W wx)
  case first =>
    go_wp2_with fail
    -- 1 number, K field, 1 least, 5 most, o1 the facts so far
    refine (rin_any x.K 1 5 _).mono ?_
    rintro e w1 ⟨rfl, rfl⟩
    cases o1 : off x.K 1 5
    case true =>
      go_wp2_with fail
      go_meet
      exact ⟨by unfold Vo.bad; rw [o1]; simp, Upd.refl _ _⟩
    have O1 := hide o1
    clear o1
    go_wp2_with fail
    -- 2 number, from_ field, 1 least, 64 most, O1.out, o2 the facts so far
    refine (rin_any x.from_ 1 64 _).mono ?_
    rintro e w2 ⟨rfl, rfl⟩
    cases o2 : off x.from_ 1 64
    case true =>
      go_wp2_with fail
      go_meet
      exact ⟨by unfold Vo.bad; rw [O1.out, o2]; simp, Upd.refl _ _⟩
    have O2 := hide o2
    clear o2
    go_wp2_with fail
    -- 3 number, slot field, 0 least, 256 most, O1.out, O2.out, o3 the facts so far
    refine (rin_any x.slot 0 256 _).mono ?_
    rintro e w3 ⟨rfl, rfl⟩
    cases o3 : off x.slot 0 256
    case true =>
      go_wp2_with fail
      go_meet
      exact ⟨by unfold Vo.bad; rw [O1.out, O2.out, o3]; simp, Upd.refl _ _⟩
    have O3 := hide o3
    clear o3
    go_wp2_with fail
    -- 4 number, view field, 0 least, 1048576 most, O1.out, O2.out, O3.out, o4 the facts so far
    refine (rin_any x.view 0 1048576 _).mono ?_
    rintro e w4 ⟨rfl, rfl⟩
    cases o4 : off x.view 0 1048576
    case true =>
      go_wp2_with fail
      go_meet
      exact ⟨by unfold Vo.bad; rw [O1.out, O2.out, O3.out, o4]; simp, Upd.refl _ _⟩
    have O4 := hide o4
    clear o4
    go_wp2_with fail
    -- 5 number, valid field, (-1) least, 1048576 most, O1.out, O2.out, O3.out, O4.out, o5 the facts so far
    refine (rin_any x.valid (-1) 1048576 _).mono ?_
    rintro e w5 ⟨rfl, rfl⟩
    cases o5 : off x.valid (-1) 1048576
    case true =>
      go_wp2_with fail
      go_meet
      exact ⟨by unfold Vo.bad; rw [O1.out, O2.out, O3.out, O4.out, o5]; simp, Upd.refl _ _⟩
    have O5 := hide o5
    clear o5
    go_wp2_with fail
    go_meet
    refine ⟨congrArg Value.bool ?_, Upd.refl _ _⟩
    unfold Vo.bad
    rw [O1.out, O2.out, O3.out, O4.out, O5.out]
    simp only [Bool.false_or]
    exact decide_eq_decide.2 (by omega)
  case rest =>
    obtain ⟨rfl, hU⟩ := hcut
    have hEc := hE.trans hU
    replace q0 := hU.cellv q0
    replace q1 := hU.cellv q1
    replace q2 := hU.cellv q2
    replace q3 := hU.cellv q3
    replace q4 := hU.cellv q4
    replace q5 := hU.cellv q5
    obtain ⟨bd, hbd⟩ : ∃ bd, bd = x.bad := ⟨_, rfl⟩
    rw [← hbd]
    cases bd with
    | true =>
      obtain rfl : ok = false := Hok.out.trans (by unfold Vo.ok; rw [← hbd]; rfl)
      clear hbd
      go_wp2_with fail
      refine bodyPost_ret (v := .tuple #[.slice none 0 0, .bool false]) ?_ rfl ⟨none, 0, 0, rfl, hEc, fun h => (by cases h)⟩
      simp [results, Try.results49, go_sem]
    | false =>
      obtain rfl : ok = true := Hok.out.trans (by unfold Vo.ok; rw [← hbd]; rfl)
      have hb1 := hbd.symm
      unfold Vo.bad at hb1
      simp only [Bool.or_eq_false_iff] at hb1
      obtain ⟨g1, g2, g3, g4, g5, g6⟩ := hb1
      have g1 := off_no g1
      have g2 := off_no g2
      have g3 := off_no g3
      have g4 := off_no g4
      have g5 := off_no g5
      have g6 := decide_eq_false_iff_not.1 g6
      obtain ⟨y, hy⟩ : ∃ y, y = ([86#8] ++ be x.K 1 ++ be x.from_ 1 : List B8) := ⟨_, rfl⟩
      have hyc : ∀ z : World, Sl by8 (z.alloc (.cells #[.int .u8 86, .int .u8 x.K, .int .u8 x.from_] 5)) (some ⟨z.heap.size, 0, none⟩) y := fun z => by
        rw [hy]
        exact Sl.new_at by8 _ rfl (by
          show #[by8 86#8, by8 (wby x.K 0), by8 (wby x.from_ 0)] = _
          rw [by8_small x.K (by omega) (by omega), by8_small x.from_ (by omega) (by omega)]
          rfl)
      have hyl : y.length = 3 := by rw [hy]; rfl
      obtain ⟨NN, hNN⟩ : ∃ NN, NN = bts.length := ⟨_, rfl⟩
      have HNN := hide hNN
      clear hNN
      have Hy := hide hy
      have Hyc := hide hyc
      have Hyl := hide hyl
      clear hbd hb hy hyc hyl
      go_wp2_with fail
      refine wp_region_mono 23 (fun i => ([MF.eq (.pointer (some ⟨w.heap.size, 0, none⟩)), MF.eq (.int .i64 x.K), MF.eq (.int .u8 x.K), MF.eq (.pointer (some ⟨w.heap.size, 1, none⟩)), MF.eq (.int .i64 x.from_), MF.eq (.int .u8 x.from_), bytesM (3) (y), MF.eq (.pointer (some ⟨w.heap.size, 2, none⟩)), MF.eq (.int .i64 x.slot), bytesM (4) (be x.slot 4), MF.eq (.pointer (some ⟨w.heap.size, 3, none⟩)), MF.eq (.int .i64 x.view), bytesM (4) (be x.view 4), MF.eq (.pointer (some ⟨w.heap.size, 4, none⟩)), MF.eq (.int .i64 x.valid), MF.eq (.int .i64 (x.valid + 1)), bytesM (4) (be (x.valid + 1) 4), MF.eq (.pointer (some ⟨w.heap.size, 5, none⟩)), MF.eq (.slice x.P x.lp x.c), bytesM (x.lp + 2) (txt x.pr), partsM (5) (bts), bytesM (NN) (bts), bytesM (NN) (bts)] : List MF).getD i (MF.eq undef)) (by kernel_rfl) (by kernel_rfl) ?_ ?_
      · intro i hi
        match i, hi with
        | 0, _ =>
          intro u wx o ho hE hw
          injection (ho : some _ = some o) with ho
          subst ho
          have hEx : Ext wc wx := hE.undrew
          simp only [fr, dstOf]
          go_simp
          go_wp2
          first | exact Upd.refl _ _ | exact ⟨_, rfl, Upd.refl _ _, rfl⟩ | exact ⟨Upd.refl _ _, rfl⟩
        | 1, _ =>
          intro u wx o ho hE hw
          injection (ho : some _ = some o) with ho
          subst ho
          have hEx : Ext wc wx := hE.undrew
          have f0 : u 0 = .pointer (some ⟨w.heap.size, 0, none⟩) := hw 0 (by omega) (by kernel_rfl)
          have cx := hEx.cellv q0
          simp only [fr, dstOf]
          go_simp
          go_wp2
          first | exact Upd.refl _ _ | exact ⟨_, rfl, Upd.refl _ _, rfl⟩ | exact ⟨Upd.refl _ _, rfl⟩
        | 2, _ =>
          intro u wx o ho hE hw
          injection (ho : some _ = some o) with ho
          subst ho
          have hEx : Ext wc wx := hE.undrew
          have f1 : u 1 = .int .i64 x.K := hw 1 (by omega) (by kernel_rfl)
          simp only [fr, dstOf]
          go_simp
          go_wp2
          first | exact Upd.refl _ _ | exact ⟨_, rfl, Upd.refl _ _, rfl⟩ | exact ⟨Upd.refl _ _, rfl⟩
        | 3, _ =>
          intro u wx o ho hE hw
          injection (ho : some _ = some o) with ho
          subst ho
          have hEx : Ext wc wx := hE.undrew
          simp only [fr, dstOf]
          go_simp
          go_wp2
          first | exact Upd.refl _ _ | exact ⟨_, rfl, Upd.refl _ _, rfl⟩ | exact ⟨Upd.refl _ _, rfl⟩
        | 4, _ =>
          intro u wx o ho hE hw
          injection (ho : some _ = some o) with ho
          subst ho
          have hEx : Ext wc wx := hE.undrew
          have f3 : u 3 = .pointer (some ⟨w.heap.size, 1, none⟩) := hw 3 (by omega) (by kernel_rfl)
          have cx := hEx.cellv q1
          simp only [fr, dstOf]
          go_simp
          go_wp2
          first | exact Upd.refl _ _ | exact ⟨_, rfl, Upd.refl _ _, rfl⟩ | exact ⟨Upd.refl _ _, rfl⟩
        | 5, _ =>
          intro u wx o ho hE hw
          injection (ho : some _ = some o) with ho
          subst ho
          have hEx : Ext wc wx := hE.undrew
          have f4 : u 4 = .int .i64 x.from_ := hw 4 (by omega) (by kernel_rfl)
          simp only [fr, dstOf]
          go_simp
          go_wp2
          first | exact Upd.refl _ _ | exact ⟨_, rfl, Upd.refl _ _, rfl⟩ | exact ⟨Upd.refl _ _, rfl⟩
        | 6, _ =>
          intro u wx o ho hE hw
          injection (ho : some _ = some o) with ho
          subst ho
          have hEx : Ext wc wx := hE.undrew
          have f2 : u 2 = .int .u8 x.K := hw 2 (by omega) (by kernel_rfl)
          have f5 : u 5 = .int .u8 x.from_ := hw 5 (by omega) (by kernel_rfl)
          simp only [fr, dstOf]
          go_simp
          go_wp2
          first | exact ⟨_, rfl, (Upd.refl _ _).alloc _, bytesM_mk ⟨_, _, rfl, Hyl.out, Nat.le_refl _, (show (3 : Nat) ≤ maxLen by unfold maxLen; decide), Hyc.out wx⟩⟩ | exact ⟨(Upd.refl _ _).alloc _, bytesM_mk ⟨_, _, rfl, Hyl.out, Nat.le_refl _, (show (3 : Nat) ≤ maxLen by unfold maxLen; decide), Hyc.out wx⟩⟩
        | 7, _ =>
          intro u wx o ho hE hw
          injection (ho : some _ = some o) with ho
          subst ho
          have hEx : Ext wc wx := hE.undrew
          simp only [fr, dstOf]
          go_simp
          go_wp2
          first | exact Upd.refl _ _ | exact ⟨_, rfl, Upd.refl _ _, rfl⟩ | exact ⟨Upd.refl _ _, rfl⟩
        | 8, _ =>
          intro u wx o ho hE hw
          injection (ho : some _ = some o) with ho
          subst ho
          have hEx : Ext wc wx := hE.undrew
          have f7 : u 7 = .pointer (some ⟨w.heap.size, 2, none⟩) := hw 7 (by omega) (by kernel_rfl)
          have cx := hEx.cellv q2
          simp only [fr, dstOf]
          go_simp
          go_wp2
          first | exact Upd.refl _ _ | exact ⟨_, rfl, Upd.refl _ _, rfl⟩ | exact ⟨Upd.refl _ _, rfl⟩
        | 9, _ =>
          intro u wx o ho hE hw
          injection (ho : some _ = some o) with ho
          subst ho
          have hEx : Ext wc wx := hE.undrew
          have f8 : u 8 = .int .i64 x.slot := hw 8 (by omega) (by kernel_rfl)
          simp only [fr, dstOf]
          go_simp
          go_wp2_with fail
          refine (rfourI_any x.slot _ (by omega) (by omega)).mono ?_
          rintro e wn ⟨A2, c2, rfl, hO, hU⟩
          go_wp2_with fail
          first | exact ⟨_, rfl, hU, bytesM_mk ⟨A2, c2, rfl, Own.pt hO (be_length _ _)⟩⟩ | exact ⟨hU, bytesM_mk ⟨A2, c2, rfl, Own.pt hO (be_length _ _)⟩⟩
        | 10, _ =>
          intro u wx o ho hE hw
          injection (ho : some _ = some o) with ho
          subst ho
          have hEx : Ext wc wx := hE.undrew
          simp only [fr, dstOf]
          go_simp
          go_wp2
          first | exact Upd.refl _ _ | exact ⟨_, rfl, Upd.refl _ _, rfl⟩ | exact ⟨Upd.refl _ _, rfl⟩
        | 11, _ =>
          intro u wx o ho hE hw
          injection (ho : some _ = some o) with ho
          subst ho
          have hEx : Ext wc wx := hE.undrew
          have f10 : u 10 = .pointer (some ⟨w.heap.size, 3, none⟩) := hw 10 (by omega) (by kernel_rfl)
          have cx := hEx.cellv q3
          simp only [fr, dstOf]
          go_simp
          go_wp2
          first | exact Upd.refl _ _ | exact ⟨_, rfl, Upd.refl _ _, rfl⟩ | exact ⟨Upd.refl _ _, rfl⟩
        | 12, _ =>
          intro u wx o ho hE hw
          injection (ho : some _ = some o) with ho
          subst ho
          have hEx : Ext wc wx := hE.undrew
          have f11 : u 11 = .int .i64 x.view := hw 11 (by omega) (by kernel_rfl)
          simp only [fr, dstOf]
          go_simp
          go_wp2_with fail
          refine (rfourI_any x.view _ (by omega) (by omega)).mono ?_
          rintro e wn ⟨A2, c2, rfl, hO, hU⟩
          go_wp2_with fail
          first | exact ⟨_, rfl, hU, bytesM_mk ⟨A2, c2, rfl, Own.pt hO (be_length _ _)⟩⟩ | exact ⟨hU, bytesM_mk ⟨A2, c2, rfl, Own.pt hO (be_length _ _)⟩⟩
        | 13, _ =>
          intro u wx o ho hE hw
          injection (ho : some _ = some o) with ho
          subst ho
          have hEx : Ext wc wx := hE.undrew
          simp only [fr, dstOf]
          go_simp
          go_wp2
          first | exact Upd.refl _ _ | exact ⟨_, rfl, Upd.refl _ _, rfl⟩ | exact ⟨Upd.refl _ _, rfl⟩
        | 14, _ =>
          intro u wx o ho hE hw
          injection (ho : some _ = some o) with ho
          subst ho
          have hEx : Ext wc wx := hE.undrew
          have f13 : u 13 = .pointer (some ⟨w.heap.size, 4, none⟩) := hw 13 (by omega) (by kernel_rfl)
          have cx := hEx.cellv q4
          simp only [fr, dstOf]
          go_simp
          go_wp2
          first | exact Upd.refl _ _ | exact ⟨_, rfl, Upd.refl _ _, rfl⟩ | exact ⟨Upd.refl _ _, rfl⟩
        | 15, _ =>
          intro u wx o ho hE hw
          injection (ho : some _ = some o) with ho
          subst ho
          have hEx : Ext wc wx := hE.undrew
          have f14 : u 14 = .int .i64 x.valid := hw 14 (by omega) (by kernel_rfl)
          simp only [fr, dstOf]
          go_simp
          go_wp2
          first | exact Upd.refl _ _ | exact ⟨_, rfl, Upd.refl _ _, rfl⟩ | exact ⟨Upd.refl _ _, rfl⟩
        | 16, _ =>
          intro u wx o ho hE hw
          injection (ho : some _ = some o) with ho
          subst ho
          have hEx : Ext wc wx := hE.undrew
          have f15 : u 15 = .int .i64 (x.valid + 1) := hw 15 (by omega) (by kernel_rfl)
          simp only [fr, dstOf]
          go_simp
          go_wp2_with fail
          refine (rfourI_any (x.valid + 1) _ (by omega) (by omega)).mono ?_
          rintro e wn ⟨A2, c2, rfl, hO, hU⟩
          go_wp2_with fail
          first | exact ⟨_, rfl, hU, bytesM_mk ⟨A2, c2, rfl, Own.pt hO (be_length _ _)⟩⟩ | exact ⟨hU, bytesM_mk ⟨A2, c2, rfl, Own.pt hO (be_length _ _)⟩⟩
        | 17, _ =>
          intro u wx o ho hE hw
          injection (ho : some _ = some o) with ho
          subst ho
          have hEx : Ext wc wx := hE.undrew
          simp only [fr, dstOf]
          go_simp
          go_wp2
          first | exact Upd.refl _ _ | exact ⟨_, rfl, Upd.refl _ _, rfl⟩ | exact ⟨Upd.refl _ _, rfl⟩
        | 18, _ =>
          intro u wx o ho hE hw
          injection (ho : some _ = some o) with ho
          subst ho
          have hEx : Ext wc wx := hE.undrew
          have f17 : u 17 = .pointer (some ⟨w.heap.size, 5, none⟩) := hw 17 (by omega) (by kernel_rfl)
          have cx := hEx.cellv q5
          simp only [fr, dstOf]
          go_simp
          go_wp2
          first | exact Upd.refl _ _ | exact ⟨_, rfl, Upd.refl _ _, rfl⟩ | exact ⟨Upd.refl _ _, rfl⟩
        | 19, _ =>
          intro u wx o ho hE hw
          injection (ho : some _ = some o) with ho
          subst ho
          have hEx : Ext wc wx := hE.undrew
          have f18 : u 18 = .slice x.P x.lp x.c := hw 18 (by omega) (by kernel_rfl)
          simp only [fr, dstOf]
          go_simp
          go_wp2_with fail
          refine (rtext_any x.P x.lp x.c (x.lp + 2) x.pr _ (HX.out.val.ext (hEc.trans hEx)) HX.out.len HX.out.cap HX.out.max (by omega) rfl).mono ?_
          rintro e wn ⟨A2, c2, rfl, hO, hU⟩
          go_wp2_with fail
          first | exact ⟨_, rfl, hU, bytesM_mk ⟨A2, c2, rfl, Own.pt hO (by unfold txt; rw [List.length_append, be_length, HX.out.len]; omega)⟩⟩ | exact ⟨hU, bytesM_mk ⟨A2, c2, rfl, Own.pt hO (by unfold txt; rw [List.length_append, be_length, HX.out.len]; omega)⟩⟩
        | 20, _ =>
          intro u wx o ho hE hw
          injection (ho : some _ = some o) with ho
          subst ho
          have hEx : Ext wc wx := hE.undrew
          obtain ⟨aA6, aC6, f6, aN6, aX6, aM6, hV6⟩ := bytesM_out (hw 6 (by omega) (by kernel_rfl))
          obtain ⟨aA9, aC9, f9, aN9, aX9, aM9, hV9⟩ := bytesM_out (hw 9 (by omega) (by kernel_rfl))
          obtain ⟨aA12, aC12, f12, aN12, aX12, aM12, hV12⟩ := bytesM_out (hw 12 (by omega) (by kernel_rfl))
          obtain ⟨aA16, aC16, f16, aN16, aX16, aM16, hV16⟩ := bytesM_out (hw 16 (by omega) (by kernel_rfl))
          obtain ⟨aA19, aC19, f19, aN19, aX19, aM19, hV19⟩ := bytesM_out (hw 19 (by omega) (by kernel_rfl))
          simp only [fr, dstOf]
          go_simp
          go_wp2
          first | exact ⟨_, rfl, (Upd.refl _ _).alloc _, partsM_mk ⟨_, _, _, rfl, rfl, (by rw [Hbts.out, Hy.out]; unfold flat Vo.bytes; simp), pts_five ⟨_, rfl, rfl⟩ ((pt_get aN6 aX6 aM6 hV6).ext ((Upd.refl _ _).alloc _)) ((pt_get aN9 aX9 aM9 hV9).ext ((Upd.refl _ _).alloc _)) ((pt_get aN12 aX12 aM12 hV12).ext ((Upd.refl _ _).alloc _)) ((pt_get aN16 aX16 aM16 hV16).ext ((Upd.refl _ _).alloc _)) ((pt_get aN19 aX19 aM19 hV19).ext ((Upd.refl _ _).alloc _))⟩⟩ | exact ⟨(Upd.refl _ _).alloc _, partsM_mk ⟨_, _, _, rfl, rfl, (by rw [Hbts.out, Hy.out]; unfold flat Vo.bytes; simp), pts_five ⟨_, rfl, rfl⟩ ((pt_get aN6 aX6 aM6 hV6).ext ((Upd.refl _ _).alloc _)) ((pt_get aN9 aX9 aM9 hV9).ext ((Upd.refl _ _).alloc _)) ((pt_get aN12 aX12 aM12 hV12).ext ((Upd.refl _ _).alloc _)) ((pt_get aN16 aX16 aM16 hV16).ext ((Upd.refl _ _).alloc _)) ((pt_get aN19 aX19 aM19 hV19).ext ((Upd.refl _ _).alloc _))⟩⟩
        | 21, _ =>
          intro u wx o ho hE hw
          injection (ho : some _ = some o) with ho
          subst ho
          have hEx : Ext wc wx := hE.undrew
          obtain ⟨aA20, aC20, aP20, f20, aN20, aF20, hV20⟩ := partsM_out (hw 20 (by omega) (by kernel_rfl))
          simp only [fr, dstOf]
          go_simp
          go_wp2_with fail
          refine (joinW_any aA20 5 aC20 aP20 NN _ hV20 aN20 (by rw [aF20, HNN.out]) (by rw [HNN.out, Hbts.out]; unfold Vo.bytes txt; simp only [List.length_append, be_length, List.length_cons, List.length_nil, HX.out.len]; omega) (by unfold maxLen; decide)).mono ?_
          rintro e wn ⟨A2, c2, rfl, hO, hU⟩
          go_wp2_with fail
          first | exact ⟨_, rfl, hU, bytesM_mk ⟨A2, c2, rfl, Own.pt (by rw [aF20] at hO; exact hO) HNN.out.symm⟩⟩ | exact ⟨hU, bytesM_mk ⟨A2, c2, rfl, Own.pt (by rw [aF20] at hO; exact hO) HNN.out.symm⟩⟩
        | 22, _ =>
          intro u wx o ho hE hw
          injection (ho : some _ = some o) with ho
          subst ho
          have hEx : Ext wc wx := hE.undrew
          obtain ⟨aA21, aC21, f21, aN21, aX21, aM21, hV21⟩ := bytesM_out (hw 21 (by omega) (by kernel_rfl))
          simp only [fr, dstOf]
          go_simp
          go_wp2
          first | exact ⟨_, rfl, Upd.refl _ _, bytesM_mk ⟨aA21, aC21, rfl, aN21, aX21, aM21, hV21⟩⟩ | exact ⟨Upd.refl _ _, bytesM_mk ⟨aA21, aC21, rfl, aN21, aX21, aM21, hV21⟩⟩
        | k + 23, h => exact absurd h (by omega)
      · intro u wx hE hJ
        have hEx : Ext wc wx := hE.undrew
        have f0 : u 0 = .pointer (some ⟨w.heap.size, 0, none⟩) := hJ 0 (by omega)
        have f1 : u 1 = .int .i64 x.K := hJ 1 (by omega)
        have f2 : u 2 = .int .u8 x.K := hJ 2 (by omega)
        have f3 : u 3 = .pointer (some ⟨w.heap.size, 1, none⟩) := hJ 3 (by omega)
        have f4 : u 4 = .int .i64 x.from_ := hJ 4 (by omega)
        have f5 : u 5 = .int .u8 x.from_ := hJ 5 (by omega)
        obtain ⟨aA6, aC6, f6, aN6, aX6, aM6, hV6⟩ := bytesM_out (hJ 6 (by omega))
        have f7 : u 7 = .pointer (some ⟨w.heap.size, 2, none⟩) := hJ 7 (by omega)
        have f8 : u 8 = .int .i64 x.slot := hJ 8 (by omega)
        obtain ⟨aA9, aC9, f9, aN9, aX9, aM9, hV9⟩ := bytesM_out (hJ 9 (by omega))
        have f10 : u 10 = .pointer (some ⟨w.heap.size, 3, none⟩) := hJ 10 (by omega)
        have f11 : u 11 = .int .i64 x.view := hJ 11 (by omega)
        obtain ⟨aA12, aC12, f12, aN12, aX12, aM12, hV12⟩ := bytesM_out (hJ 12 (by omega))
        have f13 : u 13 = .pointer (some ⟨w.heap.size, 4, none⟩) := hJ 13 (by omega)
        have f14 : u 14 = .int .i64 x.valid := hJ 14 (by omega)
        have f15 : u 15 = .int .i64 (x.valid + 1) := hJ 15 (by omega)
        obtain ⟨aA16, aC16, f16, aN16, aX16, aM16, hV16⟩ := bytesM_out (hJ 16 (by omega))
        have f17 : u 17 = .pointer (some ⟨w.heap.size, 5, none⟩) := hJ 17 (by omega)
        have f18 : u 18 = .slice x.P x.lp x.c := hJ 18 (by omega)
        obtain ⟨aA19, aC19, f19, aN19, aX19, aM19, hV19⟩ := bytesM_out (hJ 19 (by omega))
        obtain ⟨aA20, aC20, aP20, f20, aN20, aF20, hV20⟩ := partsM_out (hJ 20 (by omega))
        obtain ⟨aA21, aC21, f21, aN21, aX21, aM21, hV21⟩ := bytesM_out (hJ 21 (by omega))
        obtain ⟨aA22, aC22, f22, aN22, aX22, aM22, hV22⟩ := bytesM_out (hJ 22 (by omega))
        clear hJ
        simp only [fr, dstOf]
        go_simp
        try simp only [List.drop_succ_cons, List.drop_zero]
        go_wp2_with fail
        refine bodyPost_ret (v := .tuple #[.slice aA22 NN aC22, .bool true]) ?_ rfl ⟨_, _, _, rfl, hEc.trans hEx, fun _ => ⟨HNN.out.symm, hV22⟩⟩
        simp [results, Try.results49, go_sem]
end Go.Proofs.Ytjdodhooojjldaa
