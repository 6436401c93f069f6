/- The document's entries as bytes, walked: used, EncodeEntry. -/
import Derived.Test.YtjdodhooojjldaaWirS
import Derived.Test.YtjdodhooojjldaaWirL
namespace Go.Proofs.Ytjdodhooojjldaa
set_option linter.unusedSimpArgs false
set_option linter.unusedVariables false
open Go.RowKit
open Nt Sha
attribute [local go_sem] steady steadyUpon Cls same_cell anyW
attribute [local irreducible] wpHead wpTree wpHeadR
def usedV (K : Int) : List Value := [.bool (uMode K), .bool (uPeer K), .bool (uPhase K), .bool (uNums K), .bool (uTexts K), .bool (uProof K)]
set_option maxRecDepth 100000 in
set_option maxHeartbeats 4000000 in
theorem rused_any (K : Int) (w : World) : Calls Try.prog 90 #[.int .i64 K] w fun e w' => e = .returned (.agg (usedV K).toArray) ∧ Ext w w' := by
  go_enter Try.func90, Try.ntmps90
  by_cases h1 : K = 1
  · subst h1
    go_wp2_with fail
    refine name_b' (fun V hV => ?_)
    have hu : usedV 1 = [.bool true, .bool true, .bool false, .bool false, .bool false, .bool false] := rfl
    have hb : Blk V w.heap.size 160 (usedV 1).toArray := by rw [hu, hV]; exact Blk.new _ _ _
    have hE : Ext w V := by rw [hV]; exact (Upd.refl _ _).alloc _
    rw [hu] at hb ⊢
    clear hV hu
    have q0 := hb.at 0 rfl
    have q1 := hb.at 1 rfl
    have q2 := hb.at 2 rfl
    have q3 := hb.at 3 rfl
    have q4 := hb.at 4 rfl
    have q5 := hb.at 5 rfl
    refine bodyPost_ret (v := .agg #[.bool true, .bool true, .bool false, .bool false, .bool false, .bool false]) ?_ rfl ⟨rfl, hE⟩
    simp [results, Try.results90, go_sem, q0, q1, q2, q3, q4, q5]
  by_cases h2 : K = 2
  · subst h2
    go_wp2_with fail
    refine name_b' (fun V hV => ?_)
    have hu : usedV 2 = [.bool false, .bool false, .bool false, .bool true, .bool true, .bool false] := rfl
    have hb : Blk V w.heap.size 160 (usedV 2).toArray := by rw [hu, hV]; exact Blk.new _ _ _
    have hE : Ext w V := by rw [hV]; exact (Upd.refl _ _).alloc _
    rw [hu] at hb ⊢
    clear hV hu
    have q0 := hb.at 0 rfl
    have q1 := hb.at 1 rfl
    have q2 := hb.at 2 rfl
    have q3 := hb.at 3 rfl
    have q4 := hb.at 4 rfl
    have q5 := hb.at 5 rfl
    refine bodyPost_ret (v := .agg #[.bool false, .bool false, .bool false, .bool true, .bool true, .bool false]) ?_ rfl ⟨rfl, hE⟩
    simp [results, Try.results90, go_sem, q0, q1, q2, q3, q4, q5]
  by_cases h3 : K = 3
  · subst h3
    go_wp2_with fail
    refine name_b' (fun V hV => ?_)
    have hu : usedV 3 = [.bool false, .bool true, .bool false, .bool true, .bool false, .bool true] := rfl
    have hb : Blk V w.heap.size 160 (usedV 3).toArray := by rw [hu, hV]; exact Blk.new _ _ _
    have hE : Ext w V := by rw [hV]; exact (Upd.refl _ _).alloc _
    rw [hu] at hb ⊢
    clear hV hu
    have q0 := hb.at 0 rfl
    have q1 := hb.at 1 rfl
    have q2 := hb.at 2 rfl
    have q3 := hb.at 3 rfl
    have q4 := hb.at 4 rfl
    have q5 := hb.at 5 rfl
    refine bodyPost_ret (v := .agg #[.bool false, .bool true, .bool false, .bool true, .bool false, .bool true]) ?_ rfl ⟨rfl, hE⟩
    simp [results, Try.results90, go_sem, q0, q1, q2, q3, q4, q5]
  by_cases h4 : K = 4
  · subst h4
    go_wp2_with fail
    refine name_b' (fun V hV => ?_)
    have hu : usedV 4 = [.bool false, .bool false, .bool true, .bool false, .bool false, .bool false] := rfl
    have hb : Blk V w.heap.size 160 (usedV 4).toArray := by rw [hu, hV]; exact Blk.new _ _ _
    have hE : Ext w V := by rw [hV]; exact (Upd.refl _ _).alloc _
    rw [hu] at hb ⊢
    clear hV hu
    have q0 := hb.at 0 rfl
    have q1 := hb.at 1 rfl
    have q2 := hb.at 2 rfl
    have q3 := hb.at 3 rfl
    have q4 := hb.at 4 rfl
    have q5 := hb.at 5 rfl
    refine bodyPost_ret (v := .agg #[.bool false, .bool false, .bool true, .bool false, .bool false, .bool false]) ?_ rfl ⟨rfl, hE⟩
    simp [results, Try.results90, go_sem, q0, q1, q2, q3, q4, q5]
  by_cases h5 : K = 5
  · subst h5
    go_wp2_with fail
    refine name_b' (fun V hV => ?_)
    have hu : usedV 5 = [.bool false, .bool false, .bool false, .bool true, .bool false, .bool false] := rfl
    have hb : Blk V w.heap.size 160 (usedV 5).toArray := by rw [hu, hV]; exact Blk.new _ _ _
    have hE : Ext w V := by rw [hV]; exact (Upd.refl _ _).alloc _
    rw [hu] at hb ⊢
    clear hV hu
    have q0 := hb.at 0 rfl
    have q1 := hb.at 1 rfl
    have q2 := hb.at 2 rfl
    have q3 := hb.at 3 rfl
    have q4 := hb.at 4 rfl
    have q5 := hb.at 5 rfl
    refine bodyPost_ret (v := .agg #[.bool false, .bool false, .bool false, .bool true, .bool false, .bool false]) ?_ rfl ⟨rfl, hE⟩
    simp [results, Try.results90, go_sem, q0, q1, q2, q3, q4, q5]
  by_cases h6 : K = 6
  · subst h6
    go_wp2_with fail
    refine name_b' (fun V hV => ?_)
    have hu : usedV 6 = [.bool false, .bool true, .bool false, .bool true, .bool false, .bool true] := rfl
    have hb : Blk V w.heap.size 160 (usedV 6).toArray := by rw [hu, hV]; exact Blk.new _ _ _
    have hE : Ext w V := by rw [hV]; exact (Upd.refl _ _).alloc _
    rw [hu] at hb ⊢
    clear hV hu
    have q0 := hb.at 0 rfl
    have q1 := hb.at 1 rfl
    have q2 := hb.at 2 rfl
    have q3 := hb.at 3 rfl
    have q4 := hb.at 4 rfl
    have q5 := hb.at 5 rfl
    refine bodyPost_ret (v := .agg #[.bool false, .bool true, .bool false, .bool true, .bool false, .bool true]) ?_ rfl ⟨rfl, hE⟩
    simp [results, Try.results90, go_sem, q0, q1, q2, q3, q4, q5]
  by_cases h7 : K = 7
  · subst h7
    go_wp2_with fail
    refine name_b' (fun V hV => ?_)
    have hu : usedV 7 = [.bool false, .bool false, .bool false, .bool true, .bool true, .bool false] := rfl
    have hb : Blk V w.heap.size 160 (usedV 7).toArray := by rw [hu, hV]; exact Blk.new _ _ _
    have hE : Ext w V := by rw [hV]; exact (Upd.refl _ _).alloc _
    rw [hu] at hb ⊢
    clear hV hu
    have q0 := hb.at 0 rfl
    have q1 := hb.at 1 rfl
    have q2 := hb.at 2 rfl
    have q3 := hb.at 3 rfl
    have q4 := hb.at 4 rfl
    have q5 := hb.at 5 rfl
    refine bodyPost_ret (v := .agg #[.bool false, .bool false, .bool false, .bool true, .bool true, .bool false]) ?_ rfl ⟨rfl, hE⟩
    simp [results, Try.results90, go_sem, q0, q1, q2, q3, q4, q5]
  have e1 : (K == 1) = false := beq_eq_false_iff_ne.2 h1
  have e2 : (K == 2) = false := beq_eq_false_iff_ne.2 h2
  have e3 : (K == 3) = false := beq_eq_false_iff_ne.2 h3
  have e4 : (K == 4) = false := beq_eq_false_iff_ne.2 h4
  have e5 : (K == 5) = false := beq_eq_false_iff_ne.2 h5
  have e6 : (K == 6) = false := beq_eq_false_iff_ne.2 h6
  have e7 : (K == 7) = false := beq_eq_false_iff_ne.2 h7
  clear h1 h2 h3 h4 h5 h6 h7
  go_wp2_with fail
  refine name_b' (fun V hV => ?_)
  have hu : usedV K = [.bool false, .bool false, .bool false, .bool false, .bool false, .bool false] := (by unfold usedV uMode uPeer uPhase uNums uTexts uProof; simp [e1, e2, e3, e4, e5, e6, e7])
  have hb : Blk V w.heap.size 160 (usedV K).toArray := by rw [hu, hV]; exact Blk.new _ _ _
  have hE : Ext w V := by rw [hV]; exact (Upd.refl _ _).alloc _
  rw [hu] at hb ⊢
  clear hV hu
  have q0 := hb.at 0 rfl
  have q1 := hb.at 1 rfl
  have q2 := hb.at 2 rfl
  have q3 := hb.at 3 rfl
  have q4 := hb.at 4 rfl
  have q5 := hb.at 5 rfl
  refine bodyPost_ret (v := .agg #[.bool false, .bool false, .bool false, .bool false, .bool false, .bool false]) ?_ rfl ⟨rfl, hE⟩
  simp [results, Try.results90, go_sem, q0, q1, q2, q3, q4, q5]
def En.pre (x : En) : Bool := off x.K 1 7 || (off x.au 1 64 || (off x.ep 0 1048576 || (off x.mode 0 255 || (off x.peer 0 255 || (off x.phase 0 255 || decide (1024 < x.lp))))))
theorem En.pre_bad {x : En} (h : x.pre = true) : x.bad = true := by
  unfold En.pre at h
  unfold En.bad
  simp only [Bool.or_eq_true] at h ⊢
  rcases h with h | h | h | h | h | h | h <;> simp [h]
theorem uses_eq (K mode peer phase : Int) (ln lt lp : Nat) : usesB K mode peer phase ln lt lp = ((uMode K || !(mode != 0)) && ((uPeer K || !(peer != 0)) && ((uPhase K || !(phase != 0)) && ((uNums K || !decide (0 < ln)) && ((uTexts K || !decide (0 < lt)) && (uProof K || !decide (0 < lp))))))) := by
  have h : ∀ n : Nat, ((n : Int) == 0) = !decide (0 < n) := fun n => by
    by_cases hn : n = 0
    · subst hn; rfl
    · rw [decide_eq_true (by omega : 0 < n)]
      exact beq_eq_false_iff_ne.2 (by omega)
  have h2 : ∀ z : Int, (!(z != 0)) = (z == 0) := fun z => by simp [bne]
  unfold usesB
  rw [h2, h2, h2, h ln, h lt, h lp]
theorem all_succ (f : Nat → Bool) (j : Nat) : (List.range (j + 1)).all f = ((List.range j).all f && f j) := by
  rw [List.range_succ, List.all_append]
  simp
theorem flat_len {α : Type} (f : α → List B8) (k : Nat) : ∀ xs : List α, (∀ x, x ∈ xs → (f x).length ≤ k) → (xs.flatMap f).length ≤ xs.length * k
  | [], _ => Nat.zero_le _
  | x :: xs, h => by
    rw [List.flatMap_cons, List.length_append, List.length_cons, Nat.add_mul, Nat.one_mul]
    have h1 := h x (by simp)
    have h2 := flat_len f k xs (fun y hy => h y (by simp [hy]))
    omega
theorem natsB_le {ns : List Nat} (h : natsBad ns = false) : (natsB ns).length ≤ 10000 := by
  unfold natsBad at h
  rw [Bool.or_eq_false_iff, decide_eq_false_iff_not, List.any_eq_false] at h
  unfold natsB
  rw [List.length_append, be_length]
  have h1 := flat_len natB 130 ns (fun n hn => by
    have := h.2 n hn
    unfold nLong at this
    rw [decide_eq_true_iff] at this
    unfold natB txt
    rw [List.length_append, be_length, toB_length]
    omega)
  have h2 := Nat.mul_le_mul_right 130 (Nat.le_of_not_lt h.1)
  omega
theorem textsB_le {ps : List Pt} (hp : ∀ p, p ∈ ps → p.bs.length = p.n) (h : textsBad ps = false) : (textsB ps).length ≤ 100000 := by
  unfold textsBad at h
  rw [Bool.or_eq_false_iff, decide_eq_false_iff_not, List.any_eq_false] at h
  unfold textsB
  rw [List.length_append, be_length]
  have h1 := flat_len (fun p : Pt => txt p.bs) 1026 ps (fun p hm => by
    have h3 := h.2 p hm
    unfold tLong at h3
    rw [decide_eq_true_iff] at h3
    unfold txt
    rw [List.length_append, be_length, hp p hm]
    omega)
  have h2 := Nat.mul_le_mul_right 1026 (Nat.le_of_not_lt h.1)
  omega
theorem pts_six {w : World} {g : Nat} {t : TypeId} {p q r s u v : Pt} (hb : ∃ z : World, w = z.alloc (.cells #[p.val, q.val, r.val, s.val, u.val, v.val] t) ∧ z.heap.size = g) (hp : p.ok w) (hq : q.ok w) (hr : r.ok w) (hs : s.ok w) (hu : u.ok w) (hv : v.ok w) : Pts w (some ⟨g, 0, none⟩) [p, q, r, s, u, v] := by
  obtain ⟨z, hz, hg⟩ := hb
  refine ⟨by rw [hz]; exact Sl.new_at Pt.val [p, q, r, s, u, v] hg rfl, fun i hi => ?_⟩
  match i, hi with
  | 0, _ => exact hp
  | 1, _ => exact hq
  | 2, _ => exact hr
  | 3, _ => exact hs
  | 4, _ => exact hu
  | 5, _ => exact hv
structure RnOk (w : World) (x : En) (K : Nat) : Prop where
  nums : RefL w x.L1 x.ns
  nlen : x.ns.length = x.ln
  nmax : x.ln ≤ 9223372036854775807
  nfit : FitL K x.ns
  kle : K ≤ 1000
  texts : Pts w x.L2 x.ps
  tlen : x.ps.length = x.lt
  tmax : x.lt ≤ 9223372036854775807
  proof : Sl by8 w x.P x.pr
  plen : x.pr.length = x.lp
  pcap : x.lp ≤ x.c3
  pmax : x.c3 ≤ maxLen
set_option maxRecDepth 100000 in
set_option maxHeartbeats 8000000 in
theorem rencE_any (x : En) (Kf : Nat) (w : World) (hx : RnOk w x Kf) :
    Calls Try.prog 54 #[.agg x.cs] w (RetEncR w x.ok x.bytes) := by
  obtain ⟨ok, hok⟩ : ∃ ok, ok = x.ok := ⟨_, rfl⟩
  rw [← hok]
  have Hok := hide hok
  obtain ⟨bts, hbts⟩ : ∃ bts, bts = x.bytes := ⟨_, rfl⟩
  rw [← hbts]
  have Hbts := hide hbts
  have HX := hide hx
  clear hx hok hbts
  unfold En.cs
  go_enter Try.func54, Try.ntmps54
  go_upto_region 1 with fail
  refine name_w (fun W hW => ?_)
  have hb : Blk W w.heap.size 93 x.cs := by rw [hW]; exact Blk.new _ _ _
  have hE : Ext w W := by rw [hW]; exact (Upd.refl _ _).alloc _
  clear hW
  have q0 : W.cell? ⟨w.heap.size, 0, none⟩ = some (.int .i64 x.K) := hb.at 0 rfl
  have q1 : W.cell? ⟨w.heap.size, 1, none⟩ = some (.int .i64 x.au) := hb.at 1 rfl
  have q2 : W.cell? ⟨w.heap.size, 2, none⟩ = some (.int .i64 x.ep) := hb.at 2 rfl
  have q3 : W.cell? ⟨w.heap.size, 3, none⟩ = some (.int .i64 x.mode) := hb.at 3 rfl
  have q4 : W.cell? ⟨w.heap.size, 4, none⟩ = some (.int .i64 x.peer) := hb.at 4 rfl
  have q5 : W.cell? ⟨w.heap.size, 5, none⟩ = some (.int .i64 x.phase) := hb.at 5 rfl
  have q6 : W.cell? ⟨w.heap.size, 6, none⟩ = some (.slice x.L1 x.ln x.c1) := hb.at 6 rfl
  have q7 : W.cell? ⟨w.heap.size, 7, none⟩ = some (.slice x.L2 x.lt x.c2) := hb.at 7 rfl
  have q8 : W.cell? ⟨w.heap.size, 8, none⟩ = some (.slice x.P x.lp x.c3) := hb.at 8 rfl
  go_cut [51] (fun t51 wx => t51 = .bool x.pre ∧ Ext W wx)
  case first =>
    go_wp2_with fail
    -- 1 number, K field, 1 least, 7 most, o1 the facts so far
    refine (rin_any x.K 1 7 _).mono ?_
    rintro e w1 ⟨rfl, rfl⟩
    cases o1 : off x.K 1 7
    case true =>
      go_wp2_with fail
      go_meet
      exact ⟨by unfold En.pre; rw [o1]; simp, Upd.refl _ _⟩
    have O1 := hide o1
    clear o1
    go_wp2_with fail
    -- 2 number, au field, 1 least, 64 most, O1.out, o2 the facts so far
    refine (rin_any x.au 1 64 _).mono ?_
    rintro e w2 ⟨rfl, rfl⟩
    cases o2 : off x.au 1 64
    case true =>
      go_wp2_with fail
      go_meet
      exact ⟨by unfold En.pre; rw [O1.out, o2]; simp, Upd.refl _ _⟩
    have O2 := hide o2
    clear o2
    go_wp2_with fail
    -- 3 number, ep field, 0 least, 1048576 most, O1.out, O2.out, o3 the facts so far
    refine (rin_any x.ep 0 1048576 _).mono ?_
    rintro e w3 ⟨rfl, rfl⟩
    cases o3 : off x.ep 0 1048576
    case true =>
      go_wp2_with fail
      go_meet
      exact ⟨by unfold En.pre; rw [O1.out, O2.out, o3]; simp, Upd.refl _ _⟩
    have O3 := hide o3
    clear o3
    go_wp2_with fail
    -- 4 number, mode field, 0 least, 255 most, O1.out, O2.out, O3.out, o4 the facts so far
    refine (rin_any x.mode 0 255 _).mono ?_
    rintro e w4 ⟨rfl, rfl⟩
    cases o4 : off x.mode 0 255
    case true =>
      go_wp2_with fail
      go_meet
      exact ⟨by unfold En.pre; rw [O1.out, O2.out, O3.out, o4]; simp, Upd.refl _ _⟩
    have O4 := hide o4
    clear o4
    go_wp2_with fail
    -- 5 number, peer field, 0 least, 255 most, O1.out, O2.out, O3.out, O4.out, o5 the facts so far
    refine (rin_any x.peer 0 255 _).mono ?_
    rintro e w5 ⟨rfl, rfl⟩
    cases o5 : off x.peer 0 255
    case true =>
      go_wp2_with fail
      go_meet
      exact ⟨by unfold En.pre; rw [O1.out, O2.out, O3.out, O4.out, o5]; simp, Upd.refl _ _⟩
    have O5 := hide o5
    clear o5
    go_wp2_with fail
    -- 6 number, phase field, 0 least, 255 most, O1.out, O2.out, O3.out, O4.out, O5.out, o6 the facts so far
    refine (rin_any x.phase 0 255 _).mono ?_
    rintro e w6 ⟨rfl, rfl⟩
    cases o6 : off x.phase 0 255
    case true =>
      go_wp2_with fail
      go_meet
      exact ⟨by unfold En.pre; rw [O1.out, O2.out, O3.out, O4.out, O5.out, o6]; simp, Upd.refl _ _⟩
    have O6 := hide o6
    clear o6
    go_wp2_with fail
    go_meet
    refine ⟨congrArg Value.bool ?_, Upd.refl _ _⟩
    unfold En.pre
    rw [O1.out, O2.out, O3.out, O4.out, O5.out, O6.out]
    simp only [Bool.false_or]
    exact decide_eq_decide.2 (by omega)
  case rest =>
    obtain ⟨rfl, hU⟩ := hcut
    have hEc := hE.trans hU
    have hbc := hb.ext hU
    replace q0 := hU.cellv q0
    replace q1 := hU.cellv q1
    replace q2 := hU.cellv q2
    replace q3 := hU.cellv q3
    replace q4 := hU.cellv q4
    replace q5 := hU.cellv q5
    replace q6 := hU.cellv q6
    replace q7 := hU.cellv q7
    replace q8 := hU.cellv q8
    clear hb hE hU
    obtain ⟨bd, hbd⟩ : ∃ bd, bd = x.pre := ⟨_, rfl⟩
    rw [← hbd]
    have Hbd := hide hbd
    clear hbd
    cases bd with
    | true =>
      obtain rfl : ok = false := Hok.out.trans (by unfold En.ok; rw [En.pre_bad Hbd.out.symm]; rfl)
      go_wp2_with fail
      refine bodyPost_ret (v := .tuple #[.slice none 0 0, .bool false]) ?_ rfl ⟨none, 0, 0, rfl, hEc, fun h => (by cases h)⟩
      simp [results, Try.results54, go_sem]
    | false =>
      go_upto_region 4 with fail
      refine name_w (fun W4 hW4 => ?_)
      have b4 : Blk W4 wc.heap.size 160 #[.bool (x.mode != 0), .bool (x.peer != 0), .bool (x.phase != 0), .bool (decide (0 < x.ln)), .bool (decide (0 < x.lt)), .bool (decide (0 < x.lp))] := by rw [hW4]; exact Blk.new _ _ _
      have hE4 : Ext wc W4 := by rw [hW4]; exact (Upd.refl _ _).alloc _
      clear hW4 q0 q1 q2 q3 q4 q5 q6 q7 q8
      have q0 : W4.cell? ⟨w.heap.size, 0, none⟩ = some (.int .i64 x.K) := (hbc.ext hE4).at 0 rfl
      go_wp2_with fail
      refine (rused_any x.K _).mono ?_
      rintro e w5 ⟨rfl, hU5⟩
      unfold usedV
      clear q0
      go_wp2_with fail
      refine name_w (fun W5 hW5 => ?_)
      obtain ⟨a0, ha0⟩ : ∃ a, a = (x.mode != 0) := ⟨_, rfl⟩
      obtain ⟨a1, ha1⟩ : ∃ a, a = (x.peer != 0) := ⟨_, rfl⟩
      obtain ⟨a2, ha2⟩ : ∃ a, a = (x.phase != 0) := ⟨_, rfl⟩
      obtain ⟨a3, ha3⟩ : ∃ a, a = decide (0 < x.ln) := ⟨_, rfl⟩
      obtain ⟨a4, ha4⟩ : ∃ a, a = decide (0 < x.lt) := ⟨_, rfl⟩
      obtain ⟨a5, ha5⟩ : ∃ a, a = decide (0 < x.lp) := ⟨_, rfl⟩
      have hus : usesB x.K x.mode x.peer x.phase x.ln x.lt x.lp = ((uMode x.K || !a0) && ((uPeer x.K || !a1) && ((uPhase x.K || !a2) && ((uNums x.K || !a3) && ((uTexts x.K || !a4) && (uProof x.K || !a5)))))) := by
        rw [ha0, ha1, ha2, ha3, ha4, ha5]
        exact uses_eq ..
      have b5 : Blk W5 w5.heap.size 160 #[.bool (uMode x.K), .bool (uPeer x.K), .bool (uPhase x.K), .bool (uNums x.K), .bool (uTexts x.K), .bool (uProof x.K)] := by rw [hW5]; exact Blk.new _ _ _
      have hE5 : Ext W4 W5 := by rw [hW5]; exact hU5.alloc _
      obtain ⟨us0, hus0⟩ : ∃ u, u = uMode x.K := ⟨_, rfl⟩
      obtain ⟨us1, hus1⟩ : ∃ u, u = uPeer x.K := ⟨_, rfl⟩
      obtain ⟨us2, hus2⟩ : ∃ u, u = uPhase x.K := ⟨_, rfl⟩
      obtain ⟨us3, hus3⟩ : ∃ u, u = uNums x.K := ⟨_, rfl⟩
      obtain ⟨us4, hus4⟩ : ∃ u, u = uTexts x.K := ⟨_, rfl⟩
      obtain ⟨us5, hus5⟩ : ∃ u, u = uProof x.K := ⟨_, rfl⟩
      rw [← ha0, ← ha1, ← ha2, ← ha3, ← ha4, ← ha5] at b4
      rw [← hus0, ← hus1, ← hus2, ← hus3, ← hus4, ← hus5] at b5 hus
      have B4 := hide (b4.ext hE5)
      have B5 := hide b5
      have Hus := hide hus
      have HEc := hide (hEc.trans (hE4.trans hE5))
      have Hbc := hide (hbc.ext (hE4.trans hE5))
      clear hW5 ha0 ha1 ha2 ha3 ha4 ha5 hus0 hus1 hus2 hus3 hus4 hus5 b4 b5 hus hE4 hU5 hE5 hEc hbc
      generalize hG4 : wc.heap.size = G4 at *
      generalize hG5 : w5.heap.size = G5 at *
      clear hG4 hG5
      go_loopw [77] (fun i wr => ∃ j : Nat, j ≤ 6 ∧ i = .int .i64 (j : Int) ∧ ((List.range j).all fun q => gat [us0, us1, us2, us3, us4, us5] q || !gat [a0, a1, a2, a3, a4, a5] q) = true ∧ Ext W5 wr) (fun i _ => 6 - (intOf i).toNat)
      case atStart => exact ⟨0, Nat.zero_le _, rfl, rfl, Upd.refl _ _⟩
      case round =>
        obtain ⟨j, hj, rfl, hall, hE⟩ := hrel
        have Hall := hide hall
        clear hall
        by_cases hj0 : j = 0
        · subst hj0
          have p : wr.cell? ⟨G4, 0, none⟩ = some (.bool a0) := (B4.out.ext hE).at 0 rfl
          have r : wr.cell? ⟨G5, 0, none⟩ = some (.bool us0) := (B5.out.ext hE).at 0 rfl
          cases a0 with
          | false =>
            go_wp2_with fail
            go_roundw
            case rel => exact ⟨0 + 1, by omega, by go_num, by rw [all_succ, Hall.out]; simp [gat], hE⟩
            case measure => simp [intOf]
          | true =>
            cases us0 with
            | true =>
              go_wp2_with fail
              go_roundw
              case rel => exact ⟨0 + 1, by omega, by go_num, by rw [all_succ, Hall.out]; simp [gat], hE⟩
              case measure => simp [intOf]
            | false =>
              obtain rfl : ok = false := Hok.out.trans (by unfold En.ok; rw [Hus.out]; simp)
              go_wp2_with fail
              refine bodyPost_ret (v := .tuple #[.slice none 0 0, .bool false]) ?_ rfl ⟨none, 0, 0, rfl, (HEc.out.trans hE), fun h => (by cases h)⟩
              simp [results, Try.results54, go_sem]
        by_cases hj1 : j = 1
        · subst hj1
          have p : wr.cell? ⟨G4, 1, none⟩ = some (.bool a1) := (B4.out.ext hE).at 1 rfl
          have r : wr.cell? ⟨G5, 1, none⟩ = some (.bool us1) := (B5.out.ext hE).at 1 rfl
          cases a1 with
          | false =>
            go_wp2_with fail
            go_roundw
            case rel => exact ⟨1 + 1, by omega, by go_num, by rw [all_succ, Hall.out]; simp [gat], hE⟩
            case measure => simp [intOf]
          | true =>
            cases us1 with
            | true =>
              go_wp2_with fail
              go_roundw
              case rel => exact ⟨1 + 1, by omega, by go_num, by rw [all_succ, Hall.out]; simp [gat], hE⟩
              case measure => simp [intOf]
            | false =>
              obtain rfl : ok = false := Hok.out.trans (by unfold En.ok; rw [Hus.out]; simp)
              go_wp2_with fail
              refine bodyPost_ret (v := .tuple #[.slice none 0 0, .bool false]) ?_ rfl ⟨none, 0, 0, rfl, (HEc.out.trans hE), fun h => (by cases h)⟩
              simp [results, Try.results54, go_sem]
        by_cases hj2 : j = 2
        · subst hj2
          have p : wr.cell? ⟨G4, 2, none⟩ = some (.bool a2) := (B4.out.ext hE).at 2 rfl
          have r : wr.cell? ⟨G5, 2, none⟩ = some (.bool us2) := (B5.out.ext hE).at 2 rfl
          cases a2 with
          | false =>
            go_wp2_with fail
            go_roundw
            case rel => exact ⟨2 + 1, by omega, by go_num, by rw [all_succ, Hall.out]; simp [gat], hE⟩
            case measure => simp [intOf]
          | true =>
            cases us2 with
            | true =>
              go_wp2_with fail
              go_roundw
              case rel => exact ⟨2 + 1, by omega, by go_num, by rw [all_succ, Hall.out]; simp [gat], hE⟩
              case measure => simp [intOf]
            | false =>
              obtain rfl : ok = false := Hok.out.trans (by unfold En.ok; rw [Hus.out]; simp)
              go_wp2_with fail
              refine bodyPost_ret (v := .tuple #[.slice none 0 0, .bool false]) ?_ rfl ⟨none, 0, 0, rfl, (HEc.out.trans hE), fun h => (by cases h)⟩
              simp [results, Try.results54, go_sem]
        by_cases hj3 : j = 3
        · subst hj3
          have p : wr.cell? ⟨G4, 3, none⟩ = some (.bool a3) := (B4.out.ext hE).at 3 rfl
          have r : wr.cell? ⟨G5, 3, none⟩ = some (.bool us3) := (B5.out.ext hE).at 3 rfl
          cases a3 with
          | false =>
            go_wp2_with fail
            go_roundw
            case rel => exact ⟨3 + 1, by omega, by go_num, by rw [all_succ, Hall.out]; simp [gat], hE⟩
            case measure => simp [intOf]
          | true =>
            cases us3 with
            | true =>
              go_wp2_with fail
              go_roundw
              case rel => exact ⟨3 + 1, by omega, by go_num, by rw [all_succ, Hall.out]; simp [gat], hE⟩
              case measure => simp [intOf]
            | false =>
              obtain rfl : ok = false := Hok.out.trans (by unfold En.ok; rw [Hus.out]; simp)
              go_wp2_with fail
              refine bodyPost_ret (v := .tuple #[.slice none 0 0, .bool false]) ?_ rfl ⟨none, 0, 0, rfl, (HEc.out.trans hE), fun h => (by cases h)⟩
              simp [results, Try.results54, go_sem]
        by_cases hj4 : j = 4
        · subst hj4
          have p : wr.cell? ⟨G4, 4, none⟩ = some (.bool a4) := (B4.out.ext hE).at 4 rfl
          have r : wr.cell? ⟨G5, 4, none⟩ = some (.bool us4) := (B5.out.ext hE).at 4 rfl
          cases a4 with
          | false =>
            go_wp2_with fail
            go_roundw
            case rel => exact ⟨4 + 1, by omega, by go_num, by rw [all_succ, Hall.out]; simp [gat], hE⟩
            case measure => simp [intOf]
          | true =>
            cases us4 with
            | true =>
              go_wp2_with fail
              go_roundw
              case rel => exact ⟨4 + 1, by omega, by go_num, by rw [all_succ, Hall.out]; simp [gat], hE⟩
              case measure => simp [intOf]
            | false =>
              obtain rfl : ok = false := Hok.out.trans (by unfold En.ok; rw [Hus.out]; simp)
              go_wp2_with fail
              refine bodyPost_ret (v := .tuple #[.slice none 0 0, .bool false]) ?_ rfl ⟨none, 0, 0, rfl, (HEc.out.trans hE), fun h => (by cases h)⟩
              simp [results, Try.results54, go_sem]
        by_cases hj5 : j = 5
        · subst hj5
          have p : wr.cell? ⟨G4, 5, none⟩ = some (.bool a5) := (B4.out.ext hE).at 5 rfl
          have r : wr.cell? ⟨G5, 5, none⟩ = some (.bool us5) := (B5.out.ext hE).at 5 rfl
          cases a5 with
          | false =>
            go_wp2_with fail
            go_roundw
            case rel => exact ⟨5 + 1, by omega, by go_num, by rw [all_succ, Hall.out]; simp [gat], hE⟩
            case measure => simp [intOf]
          | true =>
            cases us5 with
            | true =>
              go_wp2_with fail
              go_roundw
              case rel => exact ⟨5 + 1, by omega, by go_num, by rw [all_succ, Hall.out]; simp [gat], hE⟩
              case measure => simp [intOf]
            | false =>
              obtain rfl : ok = false := Hok.out.trans (by unfold En.ok; rw [Hus.out]; simp)
              go_wp2_with fail
              refine bodyPost_ret (v := .tuple #[.slice none 0 0, .bool false]) ?_ rfl ⟨none, 0, 0, rfl, (HEc.out.trans hE), fun h => (by cases h)⟩
              simp [results, Try.results54, go_sem]
        obtain rfl : j = 6 := by omega
        have hu : usesB x.K x.mode x.peer x.phase x.ln x.lt x.lp = true := by
          rw [Hus.out]
          have h := Hall.out
          rw [all_succ _ 5, all_succ _ 4, all_succ _ 3, all_succ _ 2, all_succ _ 1, all_succ _ 0] at h
          simp only [Bool.and_eq_true] at h
          obtain ⟨⟨⟨⟨⟨⟨-, h0⟩, h1⟩, h2⟩, h3⟩, h4⟩, h5⟩ := h
          simp only [Bool.and_eq_true]
          exact ⟨h0, h1, h2, h3, h4, h5⟩
        have Hu := hide hu
        have hEw := HEc.out.trans hE
        have hbw := Hbc.out.ext hE
        have q6 : wr.cell? ⟨w.heap.size, 6, none⟩ = some (.slice x.L1 x.ln x.c1) := hbw.at 6 rfl
        clear hu Hall Hus B4 B5 HEc Hbc hE
        go_wp2_with fail
        refine (rnats_any x.L1 x.ln x.c1 Kf x.ns _ (HX.out.nums.ext hEw) HX.out.nlen HX.out.nmax HX.out.nfit HX.out.kle).mono ?_
        rintro e w7 ⟨A7, l7, k7, rfl, hU7, hy7⟩
        replace hEw := hEw.trans hU7
        replace hbw := hbw.ext hU7
        have q7 : w7.cell? ⟨w.heap.size, 7, none⟩ = some (.slice x.L2 x.lt x.c2) := hbw.at 7 rfl
        have Hy7 := hide hy7
        clear hU7 hy7 q6
        go_wp2_with fail
        refine (rtexts_any x.L2 x.lt x.c2 x.ps _ (HX.out.texts.ext hEw) HX.out.tlen HX.out.tmax).mono ?_
        rintro e w8 ⟨A8, l8, k8, rfl, hU8, hy8⟩
        replace hEw := hEw.trans hU8
        replace hbw := hbw.ext hU8
        have Hy8 := hide hy8
        have HU8 := hide hU8
        clear hU8 hy8 q7
        obtain ⟨nb, hnb⟩ : ∃ nb, nb = natsBad x.ns := ⟨_, rfl⟩
        obtain ⟨tb, htb⟩ : ∃ tb, tb = textsBad x.ps := ⟨_, rfl⟩
        rw [← hnb, ← htb]
        have Hnb := hide hnb
        have Htb := hide htb
        clear hnb htb
        cases nb with
        | true =>
          obtain rfl : ok = false := Hok.out.trans (by unfold En.ok En.bad; rw [← Hnb.out]; simp)
          go_wp2_with fail
          refine bodyPost_ret (v := .tuple #[.slice none 0 0, .bool false]) ?_ rfl ⟨none, 0, 0, rfl, hEw, fun h => (by cases h)⟩
          simp [results, Try.results54, go_sem]
        | false =>
          cases tb with
          | true =>
            obtain rfl : ok = false := Hok.out.trans (by unfold En.ok En.bad; rw [← Htb.out]; simp)
            go_wp2_with fail
            refine bodyPost_ret (v := .tuple #[.slice none 0 0, .bool false]) ?_ rfl ⟨none, 0, 0, rfl, hEw, fun h => (by cases h)⟩
            simp [results, Try.results54, go_sem]
          | false =>
            obtain ⟨e7, d7, m7, s7⟩ := Hy7.out (by rw [← Hnb.out]; rfl)
            obtain ⟨e8, d8, m8, s8⟩ := Hy8.out (by rw [← Htb.out]; rfl)
            have hb1 := Hbd.out.symm
            unfold En.pre at hb1
            simp only [Bool.or_eq_false_iff] at hb1
            obtain ⟨g1, g2, g3, g4, g5, g6, g7⟩ := hb1
            have hbadn : x.bad = false := by
              unfold En.bad
              rw [g1, g2, g3, g4, g5, g6, ← Hnb.out, ← Htb.out, g7]
              rfl
            have hok : ok = !decide (4096 < bts.length) := by
              rw [Hok.out, Hbts.out]
              unfold En.ok
              rw [hbadn, Hu.out]
              simp
            have g1 := off_no g1
            have g2 := off_no g2
            have g3 := off_no g3
            have g4 := off_no g4
            have g5 := off_no g5
            have g6 := off_no g6
            have g7 := decide_eq_false_iff_not.1 g7
            have hn1 := natsB_le Hnb.out.symm
            have ht1 := textsB_le (fun p hp => by
              obtain ⟨i, hi, rfl⟩ := List.getElem_of_mem hp
              have := (HX.out.texts.2 i hi).2.1
              rw [gat_lt hi] at this
              exact this) Htb.out.symm
            obtain ⟨y, hy⟩ : ∃ y, y = ([69#8] ++ be x.K 1 ++ be x.au 1 : List B8) := ⟨_, rfl⟩
            obtain ⟨z, hz⟩ : ∃ z, z = (be x.mode 1 ++ be x.peer 1 ++ be x.phase 1 : List B8) := ⟨_, rfl⟩
            have hyc : ∀ z : World, Sl by8 (z.alloc (.cells #[.int .u8 69, .int .u8 x.K, .int .u8 x.au] 5)) (some ⟨z.heap.size, 0, none⟩) y := fun z => by
              rw [hy]
              exact Sl.new_at by8 _ rfl (by
                show #[by8 69#8, by8 (wby x.K 0), by8 (wby x.au 0)] = _
                rw [by8_small x.K (by omega) (by omega), by8_small x.au (by omega) (by omega)]
                rfl)
            have hzc : ∀ w : World, Sl by8 (w.alloc (.cells #[.int .u8 x.mode, .int .u8 x.peer, .int .u8 x.phase] 5)) (some ⟨w.heap.size, 0, none⟩) z := fun w => by
              rw [hz]
              exact Sl.new_at by8 _ rfl (by
                show #[by8 (wby x.mode 0), by8 (wby x.peer 0), by8 (wby x.phase 0)] = _
                rw [by8_small x.mode (by omega) (by omega), by8_small x.peer (by omega) (by omega), by8_small x.phase (by omega) (by omega)])
            have hyl : y.length = 3 := by rw [hy]; rfl
            have hzl : z.length = 3 := by rw [hz]; rfl
            obtain ⟨NN, hNN⟩ : ∃ NN, NN = bts.length := ⟨_, rfl⟩
            have hNN2 : NN ≤ 1000000 := by
              rw [hNN, Hbts.out]
              unfold En.bytes txt
              simp only [List.length_append, be_length, List.length_cons, List.length_nil, HX.out.plen]
              omega
            rw [← hNN] at hok
            have q0 : w8.cell? ⟨w.heap.size, 0, none⟩ = some (.int .i64 x.K) := hbw.at 0 rfl
            have q1 : w8.cell? ⟨w.heap.size, 1, none⟩ = some (.int .i64 x.au) := hbw.at 1 rfl
            have q2 : w8.cell? ⟨w.heap.size, 2, none⟩ = some (.int .i64 x.ep) := hbw.at 2 rfl
            have q3 : w8.cell? ⟨w.heap.size, 3, none⟩ = some (.int .i64 x.mode) := hbw.at 3 rfl
            have q4 : w8.cell? ⟨w.heap.size, 4, none⟩ = some (.int .i64 x.peer) := hbw.at 4 rfl
            have q5 : w8.cell? ⟨w.heap.size, 5, none⟩ = some (.int .i64 x.phase) := hbw.at 5 rfl
            have q8 : w8.cell? ⟨w.heap.size, 8, none⟩ = some (.slice x.P x.lp x.c3) := hbw.at 8 rfl
            have HNN := hide hNN
            have Hy := hide hy
            have Hz := hide hz
            have Hyc := hide hyc
            have Hzc := hide hzc
            have Hyl := hide hyl
            have Hzl := hide hzl
            have S7 := hide (s7.ext HU8.out)
            have S8 := hide s8
            have E7 := hide e7
            have E8 := hide e8
            have Hok2 := hide hok
            clear hbadn hy hz hyc hzc hyl hzl hNN hn1 ht1 s7 s8 e7 e8 hbw hok
            go_upto_region 15 with fail
            refine wp_region_mono 27 (fun i => ([MF.eq (.pointer (some ⟨w.heap.size, 0, none⟩)), MF.eq (.int .i64 x.K), MF.eq (.int .u8 x.K), MF.eq (.pointer (some ⟨w.heap.size, 1, none⟩)), MF.eq (.int .i64 x.au), MF.eq (.int .u8 x.au), bytesM (3) (y), MF.eq (.pointer (some ⟨w.heap.size, 2, none⟩)), MF.eq (.int .i64 x.ep), bytesM (4) (be x.ep 4), MF.eq (.pointer (some ⟨w.heap.size, 3, none⟩)), MF.eq (.int .i64 x.mode), MF.eq (.int .u8 x.mode), MF.eq (.pointer (some ⟨w.heap.size, 4, none⟩)), MF.eq (.int .i64 x.peer), MF.eq (.int .u8 x.peer), MF.eq (.pointer (some ⟨w.heap.size, 5, none⟩)), MF.eq (.int .i64 x.phase), MF.eq (.int .u8 x.phase), bytesM (3) (z), MF.eq (.slice A7 l7 k7), MF.eq (.slice A8 l8 k8), MF.eq (.pointer (some ⟨w.heap.size, 8, none⟩)), MF.eq (.slice x.P x.lp x.c3), bytesM (x.lp + 2) (txt x.pr), partsM (6) (bts), bytesM (NN) (bts)] : List MF).getD i (MF.eq undef)) (by kernel_rfl) (by kernel_rfl) ?_ ?_
            · intro i hi
              match i, hi with
              | 0, _ =>
                intro u wx o ho hE hw
                injection (ho : some _ = some o) with ho
                subst ho
                have hEx : Ext w8 wx := hE.undrew
                simp only [fr, dstOf]
                go_simp
                go_wp2
                first | exact Upd.refl _ _ | exact ⟨_, rfl, Upd.refl _ _, rfl⟩ | exact ⟨Upd.refl _ _, rfl⟩
              | 1, _ =>
                intro u wx o ho hE hw
                injection (ho : some _ = some o) with ho
                subst ho
                have hEx : Ext w8 wx := hE.undrew
                have f0 : u 0 = .pointer (some ⟨w.heap.size, 0, none⟩) := hw 0 (by omega) (by kernel_rfl)
                have cx := hEx.cellv q0
                simp only [fr, dstOf]
                go_simp
                go_wp2
                first | exact Upd.refl _ _ | exact ⟨_, rfl, Upd.refl _ _, rfl⟩ | exact ⟨Upd.refl _ _, rfl⟩
              | 2, _ =>
                intro u wx o ho hE hw
                injection (ho : some _ = some o) with ho
                subst ho
                have hEx : Ext w8 wx := hE.undrew
                have f1 : u 1 = .int .i64 x.K := hw 1 (by omega) (by kernel_rfl)
                simp only [fr, dstOf]
                go_simp
                go_wp2
                first | exact Upd.refl _ _ | exact ⟨_, rfl, Upd.refl _ _, rfl⟩ | exact ⟨Upd.refl _ _, rfl⟩
              | 3, _ =>
                intro u wx o ho hE hw
                injection (ho : some _ = some o) with ho
                subst ho
                have hEx : Ext w8 wx := hE.undrew
                simp only [fr, dstOf]
                go_simp
                go_wp2
                first | exact Upd.refl _ _ | exact ⟨_, rfl, Upd.refl _ _, rfl⟩ | exact ⟨Upd.refl _ _, rfl⟩
              | 4, _ =>
                intro u wx o ho hE hw
                injection (ho : some _ = some o) with ho
                subst ho
                have hEx : Ext w8 wx := hE.undrew
                have f3 : u 3 = .pointer (some ⟨w.heap.size, 1, none⟩) := hw 3 (by omega) (by kernel_rfl)
                have cx := hEx.cellv q1
                simp only [fr, dstOf]
                go_simp
                go_wp2
                first | exact Upd.refl _ _ | exact ⟨_, rfl, Upd.refl _ _, rfl⟩ | exact ⟨Upd.refl _ _, rfl⟩
              | 5, _ =>
                intro u wx o ho hE hw
                injection (ho : some _ = some o) with ho
                subst ho
                have hEx : Ext w8 wx := hE.undrew
                have f4 : u 4 = .int .i64 x.au := hw 4 (by omega) (by kernel_rfl)
                simp only [fr, dstOf]
                go_simp
                go_wp2
                first | exact Upd.refl _ _ | exact ⟨_, rfl, Upd.refl _ _, rfl⟩ | exact ⟨Upd.refl _ _, rfl⟩
              | 6, _ =>
                intro u wx o ho hE hw
                injection (ho : some _ = some o) with ho
                subst ho
                have hEx : Ext w8 wx := hE.undrew
                have f2 : u 2 = .int .u8 x.K := hw 2 (by omega) (by kernel_rfl)
                have f5 : u 5 = .int .u8 x.au := hw 5 (by omega) (by kernel_rfl)
                simp only [fr, dstOf]
                go_simp
                go_wp2
                first | exact ⟨_, rfl, (Upd.refl _ _).alloc _, bytesM_mk ⟨_, _, rfl, Hyl.out, Nat.le_refl _, (show (3 : Nat) ≤ maxLen by unfold maxLen; decide), Hyc.out wx⟩⟩ | exact ⟨(Upd.refl _ _).alloc _, bytesM_mk ⟨_, _, rfl, Hyl.out, Nat.le_refl _, (show (3 : Nat) ≤ maxLen by unfold maxLen; decide), Hyc.out wx⟩⟩
              | 7, _ =>
                intro u wx o ho hE hw
                injection (ho : some _ = some o) with ho
                subst ho
                have hEx : Ext w8 wx := hE.undrew
                simp only [fr, dstOf]
                go_simp
                go_wp2
                first | exact Upd.refl _ _ | exact ⟨_, rfl, Upd.refl _ _, rfl⟩ | exact ⟨Upd.refl _ _, rfl⟩
              | 8, _ =>
                intro u wx o ho hE hw
                injection (ho : some _ = some o) with ho
                subst ho
                have hEx : Ext w8 wx := hE.undrew
                have f7 : u 7 = .pointer (some ⟨w.heap.size, 2, none⟩) := hw 7 (by omega) (by kernel_rfl)
                have cx := hEx.cellv q2
                simp only [fr, dstOf]
                go_simp
                go_wp2
                first | exact Upd.refl _ _ | exact ⟨_, rfl, Upd.refl _ _, rfl⟩ | exact ⟨Upd.refl _ _, rfl⟩
              | 9, _ =>
                intro u wx o ho hE hw
                injection (ho : some _ = some o) with ho
                subst ho
                have hEx : Ext w8 wx := hE.undrew
                have f8 : u 8 = .int .i64 x.ep := hw 8 (by omega) (by kernel_rfl)
                simp only [fr, dstOf]
                go_simp
                go_wp2_with fail
                refine (rfourI_any x.ep _ (by omega) (by omega)).mono ?_
                rintro e wn ⟨A2, c2, rfl, hO, hU⟩
                go_wp2_with fail
                first | exact ⟨_, rfl, hU, bytesM_mk ⟨A2, c2, rfl, Own.pt hO (be_length _ _)⟩⟩ | exact ⟨hU, bytesM_mk ⟨A2, c2, rfl, Own.pt hO (be_length _ _)⟩⟩
              | 10, _ =>
                intro u wx o ho hE hw
                injection (ho : some _ = some o) with ho
                subst ho
                have hEx : Ext w8 wx := hE.undrew
                simp only [fr, dstOf]
                go_simp
                go_wp2
                first | exact Upd.refl _ _ | exact ⟨_, rfl, Upd.refl _ _, rfl⟩ | exact ⟨Upd.refl _ _, rfl⟩
              | 11, _ =>
                intro u wx o ho hE hw
                injection (ho : some _ = some o) with ho
                subst ho
                have hEx : Ext w8 wx := hE.undrew
                have f10 : u 10 = .pointer (some ⟨w.heap.size, 3, none⟩) := hw 10 (by omega) (by kernel_rfl)
                have cx := hEx.cellv q3
                simp only [fr, dstOf]
                go_simp
                go_wp2
                first | exact Upd.refl _ _ | exact ⟨_, rfl, Upd.refl _ _, rfl⟩ | exact ⟨Upd.refl _ _, rfl⟩
              | 12, _ =>
                intro u wx o ho hE hw
                injection (ho : some _ = some o) with ho
                subst ho
                have hEx : Ext w8 wx := hE.undrew
                have f11 : u 11 = .int .i64 x.mode := hw 11 (by omega) (by kernel_rfl)
                simp only [fr, dstOf]
                go_simp
                go_wp2
                first | exact Upd.refl _ _ | exact ⟨_, rfl, Upd.refl _ _, rfl⟩ | exact ⟨Upd.refl _ _, rfl⟩
              | 13, _ =>
                intro u wx o ho hE hw
                injection (ho : some _ = some o) with ho
                subst ho
                have hEx : Ext w8 wx := hE.undrew
                simp only [fr, dstOf]
                go_simp
                go_wp2
                first | exact Upd.refl _ _ | exact ⟨_, rfl, Upd.refl _ _, rfl⟩ | exact ⟨Upd.refl _ _, rfl⟩
              | 14, _ =>
                intro u wx o ho hE hw
                injection (ho : some _ = some o) with ho
                subst ho
                have hEx : Ext w8 wx := hE.undrew
                have f13 : u 13 = .pointer (some ⟨w.heap.size, 4, none⟩) := hw 13 (by omega) (by kernel_rfl)
                have cx := hEx.cellv q4
                simp only [fr, dstOf]
                go_simp
                go_wp2
                first | exact Upd.refl _ _ | exact ⟨_, rfl, Upd.refl _ _, rfl⟩ | exact ⟨Upd.refl _ _, rfl⟩
              | 15, _ =>
                intro u wx o ho hE hw
                injection (ho : some _ = some o) with ho
                subst ho
                have hEx : Ext w8 wx := hE.undrew
                have f14 : u 14 = .int .i64 x.peer := hw 14 (by omega) (by kernel_rfl)
                simp only [fr, dstOf]
                go_simp
                go_wp2
                first | exact Upd.refl _ _ | exact ⟨_, rfl, Upd.refl _ _, rfl⟩ | exact ⟨Upd.refl _ _, rfl⟩
              | 16, _ =>
                intro u wx o ho hE hw
                injection (ho : some _ = some o) with ho
                subst ho
                have hEx : Ext w8 wx := hE.undrew
                simp only [fr, dstOf]
                go_simp
                go_wp2
                first | exact Upd.refl _ _ | exact ⟨_, rfl, Upd.refl _ _, rfl⟩ | exact ⟨Upd.refl _ _, rfl⟩
              | 17, _ =>
                intro u wx o ho hE hw
                injection (ho : some _ = some o) with ho
                subst ho
                have hEx : Ext w8 wx := hE.undrew
                have f16 : u 16 = .pointer (some ⟨w.heap.size, 5, none⟩) := hw 16 (by omega) (by kernel_rfl)
                have cx := hEx.cellv q5
                simp only [fr, dstOf]
                go_simp
                go_wp2
                first | exact Upd.refl _ _ | exact ⟨_, rfl, Upd.refl _ _, rfl⟩ | exact ⟨Upd.refl _ _, rfl⟩
              | 18, _ =>
                intro u wx o ho hE hw
                injection (ho : some _ = some o) with ho
                subst ho
                have hEx : Ext w8 wx := hE.undrew
                have f17 : u 17 = .int .i64 x.phase := hw 17 (by omega) (by kernel_rfl)
                simp only [fr, dstOf]
                go_simp
                go_wp2
                first | exact Upd.refl _ _ | exact ⟨_, rfl, Upd.refl _ _, rfl⟩ | exact ⟨Upd.refl _ _, rfl⟩
              | 19, _ =>
                intro u wx o ho hE hw
                injection (ho : some _ = some o) with ho
                subst ho
                have hEx : Ext w8 wx := hE.undrew
                have f12 : u 12 = .int .u8 x.mode := hw 12 (by omega) (by kernel_rfl)
                have f15 : u 15 = .int .u8 x.peer := hw 15 (by omega) (by kernel_rfl)
                have f18 : u 18 = .int .u8 x.phase := hw 18 (by omega) (by kernel_rfl)
                simp only [fr, dstOf]
                go_simp
                go_wp2
                first | exact ⟨_, rfl, (Upd.refl _ _).alloc _, bytesM_mk ⟨_, _, rfl, Hzl.out, Nat.le_refl _, (show (3 : Nat) ≤ maxLen by unfold maxLen; decide), Hzc.out wx⟩⟩ | exact ⟨(Upd.refl _ _).alloc _, bytesM_mk ⟨_, _, rfl, Hzl.out, Nat.le_refl _, (show (3 : Nat) ≤ maxLen by unfold maxLen; decide), Hzc.out wx⟩⟩
              | 20, _ =>
                intro u wx o ho hE hw
                injection (ho : some _ = some o) with ho
                subst ho
                have hEx : Ext w8 wx := hE.undrew
                simp only [fr, dstOf]
                go_simp
                go_wp2
                first | exact Upd.refl _ _ | exact ⟨_, rfl, Upd.refl _ _, rfl⟩ | exact ⟨Upd.refl _ _, rfl⟩
              | 21, _ =>
                intro u wx o ho hE hw
                injection (ho : some _ = some o) with ho
                subst ho
                have hEx : Ext w8 wx := hE.undrew
                simp only [fr, dstOf]
                go_simp
                go_wp2
                first | exact Upd.refl _ _ | exact ⟨_, rfl, Upd.refl _ _, rfl⟩ | exact ⟨Upd.refl _ _, rfl⟩
              | 22, _ =>
                intro u wx o ho hE hw
                injection (ho : some _ = some o) with ho
                subst ho
                have hEx : Ext w8 wx := hE.undrew
                simp only [fr, dstOf]
                go_simp
                go_wp2
                first | exact Upd.refl _ _ | exact ⟨_, rfl, Upd.refl _ _, rfl⟩ | exact ⟨Upd.refl _ _, rfl⟩
              | 23, _ =>
                intro u wx o ho hE hw
                injection (ho : some _ = some o) with ho
                subst ho
                have hEx : Ext w8 wx := hE.undrew
                have f22 : u 22 = .pointer (some ⟨w.heap.size, 8, none⟩) := hw 22 (by omega) (by kernel_rfl)
                have cx := hEx.cellv q8
                simp only [fr, dstOf]
                go_simp
                go_wp2
                first | exact Upd.refl _ _ | exact ⟨_, rfl, Upd.refl _ _, rfl⟩ | exact ⟨Upd.refl _ _, rfl⟩
              | 24, _ =>
                intro u wx o ho hE hw
                injection (ho : some _ = some o) with ho
                subst ho
                have hEx : Ext w8 wx := hE.undrew
                have f23 : u 23 = .slice x.P x.lp x.c3 := hw 23 (by omega) (by kernel_rfl)
                simp only [fr, dstOf]
                go_simp
                go_wp2_with fail
                refine (rtext_any x.P x.lp x.c3 (x.lp + 2) x.pr _ (HX.out.proof.ext (hEw.trans hEx)) HX.out.plen HX.out.pcap HX.out.pmax (by omega) rfl).mono ?_
                rintro e wn ⟨A2, c2, rfl, hO, hU⟩
                go_wp2_with fail
                first | exact ⟨_, rfl, hU, bytesM_mk ⟨A2, c2, rfl, Own.pt hO (by unfold txt; rw [List.length_append, be_length, HX.out.plen]; omega)⟩⟩ | exact ⟨hU, bytesM_mk ⟨A2, c2, rfl, Own.pt hO (by unfold txt; rw [List.length_append, be_length, HX.out.plen]; omega)⟩⟩
              | 25, _ =>
                intro u wx o ho hE hw
                injection (ho : some _ = some o) with ho
                subst ho
                have hEx : Ext w8 wx := hE.undrew
                obtain ⟨aA6, aC6, f6, aN6, aX6, aM6, hV6⟩ := bytesM_out (hw 6 (by omega) (by kernel_rfl))
                obtain ⟨aA9, aC9, f9, aN9, aX9, aM9, hV9⟩ := bytesM_out (hw 9 (by omega) (by kernel_rfl))
                obtain ⟨aA19, aC19, f19, aN19, aX19, aM19, hV19⟩ := bytesM_out (hw 19 (by omega) (by kernel_rfl))
                have f20 : u 20 = .slice A7 l7 k7 := hw 20 (by omega) (by kernel_rfl)
                have f21 : u 21 = .slice A8 l8 k8 := hw 21 (by omega) (by kernel_rfl)
                obtain ⟨aA24, aC24, f24, aN24, aX24, aM24, hV24⟩ := bytesM_out (hw 24 (by omega) (by kernel_rfl))
                simp only [fr, dstOf]
                go_simp
                go_wp2
                first | exact ⟨_, rfl, (Upd.refl _ _).alloc _, partsM_mk ⟨_, _, _, rfl, rfl, (by rw [Hbts.out, Hy.out, Hz.out]; unfold flat En.bytes; simp), pts_six ⟨_, rfl, rfl⟩ ((pt_get aN6 aX6 aM6 hV6).ext ((Upd.refl _ _).alloc _)) ((pt_get aN9 aX9 aM9 hV9).ext ((Upd.refl _ _).alloc _)) ((pt_get aN19 aX19 aM19 hV19).ext ((Upd.refl _ _).alloc _)) (pt_get E7.out d7 m7 (S7.out.ext (hEx.alloc _))) (pt_get E8.out d8 m8 (S8.out.ext (hEx.alloc _))) ((pt_get aN24 aX24 aM24 hV24).ext ((Upd.refl _ _).alloc _))⟩⟩ | exact ⟨(Upd.refl _ _).alloc _, partsM_mk ⟨_, _, _, rfl, rfl, (by rw [Hbts.out, Hy.out, Hz.out]; unfold flat En.bytes; simp), pts_six ⟨_, rfl, rfl⟩ ((pt_get aN6 aX6 aM6 hV6).ext ((Upd.refl _ _).alloc _)) ((pt_get aN9 aX9 aM9 hV9).ext ((Upd.refl _ _).alloc _)) ((pt_get aN19 aX19 aM19 hV19).ext ((Upd.refl _ _).alloc _)) (pt_get E7.out d7 m7 (S7.out.ext (hEx.alloc _))) (pt_get E8.out d8 m8 (S8.out.ext (hEx.alloc _))) ((pt_get aN24 aX24 aM24 hV24).ext ((Upd.refl _ _).alloc _))⟩⟩
              | 26, _ =>
                intro u wx o ho hE hw
                injection (ho : some _ = some o) with ho
                subst ho
                have hEx : Ext w8 wx := hE.undrew
                obtain ⟨aA25, aC25, aP25, f25, aN25, aF25, hV25⟩ := partsM_out (hw 25 (by omega) (by kernel_rfl))
                simp only [fr, dstOf]
                go_simp
                go_wp2_with fail
                refine (joinW_any aA25 6 aC25 aP25 NN _ hV25 aN25 (by rw [aF25, HNN.out]) (by omega) (by unfold maxLen; decide)).mono ?_
                rintro e wn ⟨A2, c2, rfl, hO, hU⟩
                go_wp2_with fail
                first | exact ⟨_, rfl, hU, bytesM_mk ⟨A2, c2, rfl, Own.pt (by rw [aF25] at hO; exact hO) HNN.out.symm⟩⟩ | exact ⟨hU, bytesM_mk ⟨A2, c2, rfl, Own.pt (by rw [aF25] at hO; exact hO) HNN.out.symm⟩⟩
              | k + 27, h => exact absurd h (by omega)
            · intro u wx hE hJ
              have hEx : Ext w8 wx := hE.undrew
              have f0 : u 0 = .pointer (some ⟨w.heap.size, 0, none⟩) := hJ 0 (by omega)
              have f1 : u 1 = .int .i64 x.K := hJ 1 (by omega)
              have f2 : u 2 = .int .u8 x.K := hJ 2 (by omega)
              have f3 : u 3 = .pointer (some ⟨w.heap.size, 1, none⟩) := hJ 3 (by omega)
              have f4 : u 4 = .int .i64 x.au := hJ 4 (by omega)
              have f5 : u 5 = .int .u8 x.au := hJ 5 (by omega)
              obtain ⟨aA6, aC6, f6, aN6, aX6, aM6, hV6⟩ := bytesM_out (hJ 6 (by omega))
              have f7 : u 7 = .pointer (some ⟨w.heap.size, 2, none⟩) := hJ 7 (by omega)
              have f8 : u 8 = .int .i64 x.ep := hJ 8 (by omega)
              obtain ⟨aA9, aC9, f9, aN9, aX9, aM9, hV9⟩ := bytesM_out (hJ 9 (by omega))
              have f10 : u 10 = .pointer (some ⟨w.heap.size, 3, none⟩) := hJ 10 (by omega)
              have f11 : u 11 = .int .i64 x.mode := hJ 11 (by omega)
              have f12 : u 12 = .int .u8 x.mode := hJ 12 (by omega)
              have f13 : u 13 = .pointer (some ⟨w.heap.size, 4, none⟩) := hJ 13 (by omega)
              have f14 : u 14 = .int .i64 x.peer := hJ 14 (by omega)
              have f15 : u 15 = .int .u8 x.peer := hJ 15 (by omega)
              have f16 : u 16 = .pointer (some ⟨w.heap.size, 5, none⟩) := hJ 16 (by omega)
              have f17 : u 17 = .int .i64 x.phase := hJ 17 (by omega)
              have f18 : u 18 = .int .u8 x.phase := hJ 18 (by omega)
              obtain ⟨aA19, aC19, f19, aN19, aX19, aM19, hV19⟩ := bytesM_out (hJ 19 (by omega))
              have f20 : u 20 = .slice A7 l7 k7 := hJ 20 (by omega)
              have f21 : u 21 = .slice A8 l8 k8 := hJ 21 (by omega)
              have f22 : u 22 = .pointer (some ⟨w.heap.size, 8, none⟩) := hJ 22 (by omega)
              have f23 : u 23 = .slice x.P x.lp x.c3 := hJ 23 (by omega)
              obtain ⟨aA24, aC24, f24, aN24, aX24, aM24, hV24⟩ := bytesM_out (hJ 24 (by omega))
              obtain ⟨aA25, aC25, aP25, f25, aN25, aF25, hV25⟩ := partsM_out (hJ 25 (by omega))
              obtain ⟨aA26, aC26, f26, aN26, aX26, aM26, hV26⟩ := bytesM_out (hJ 26 (by omega))
              clear hJ
              simp only [fr, dstOf]
              go_simp
              try simp only [List.drop_succ_cons, List.drop_zero]
              have hS27 := hV26
              by_cases h4 : NN ≤ 4096
              · obtain rfl : ok = true := Hok2.out.trans (by rw [decide_eq_false (show ¬ 4096 < NN by omega)]; rfl)
                have h4I : decide ((NN : Int) ≤ 4096) = true := decide_eq_true (by omega)
                have h4J : (NN : Int) ≤ 4096 := by omega
                go_wp2_with fail
                refine bodyPost_ret (v := .tuple #[.slice aA26 NN aC26, .bool true]) ?_ rfl ⟨_, _, _, rfl, hEw.trans hEx, fun _ => ⟨HNN.out.symm, hS27⟩⟩
                simp [results, Try.results54, go_sem]
              · obtain rfl : ok = false := Hok2.out.trans (by rw [decide_eq_true (show 4096 < NN by omega)]; rfl)
                have h4I : decide ((NN : Int) ≤ 4096) = false := decide_eq_false (by omega)
                have h4J : ¬ (NN : Int) ≤ 4096 := by omega
                go_wp2_with fail
                refine bodyPost_ret (v := .tuple #[.slice aA26 NN aC26, .bool false]) ?_ rfl ⟨_, _, _, rfl, hEw.trans hEx, fun h => (by cases h)⟩
                simp [results, Try.results54, go_sem]
end Go.Proofs.Ytjdodhooojjldaa
