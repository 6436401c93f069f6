/- What was written comes back: plain facts; Same, walked. -/
import Derived.Test.YtjdodhooojjldaaWirW
namespace Go.Proofs.Ytjdodhooojjldaa
set_option linter.unusedSimpArgs false
set_option linter.unusedVariables false
open Go.RowKit
open Nt Sha
attribute [local go_sem] steady steadyUpon Cls same_cell anyW str_eq
attribute [local irreducible] wpHead wpTree wpHeadR
theorem En.range {x : En} (h : x.bad = false) : (1 ≤ x.K ∧ x.K ≤ 7) ∧ (1 ≤ x.au ∧ x.au ≤ 64) ∧ (0 ≤ x.ep ∧ x.ep ≤ 1048576) ∧ (0 ≤ x.mode ∧ x.mode ≤ 255) ∧ (0 ≤ x.peer ∧ x.peer ≤ 255) ∧ (0 ≤ x.phase ∧ x.phase ≤ 255) := by
  unfold En.bad at h
  simp only [Bool.or_eq_false_iff] at h
  obtain ⟨h1, h2, h3, h4, h5, h6, -⟩ := h
  exact ⟨off_no h1, off_no h2, off_no h3, off_no h4, off_no h5, off_no h6⟩
theorem Vo.range {x : Vo} (h : x.ok = true) : (1 ≤ x.K ∧ x.K ≤ 5) ∧ (1 ≤ x.from_ ∧ x.from_ ≤ 64) ∧ (0 ≤ x.slot ∧ x.slot ≤ 256) ∧ (0 ≤ x.view ∧ x.view ≤ 1048576) ∧ (-1 ≤ x.valid ∧ x.valid ≤ 1048576) := by
  unfold Vo.ok Vo.bad at h
  simp only [Bool.not_eq_true', Bool.or_eq_false_iff] at h
  obtain ⟨h1, h2, h3, h4, h5, -⟩ := h
  exact ⟨off_no h1, off_no h2, off_no h3, off_no h4, off_no h5⟩
theorem textsB_eq {ps qs : List Pt} (h : ps.map (·.bs) = qs.map (·.bs)) : textsB ps = textsB qs := by
  have hl : ps.length = qs.length := by have := congrArg List.length h; simpa using this
  unfold textsB
  rw [hl]
  congr 1
  have e : ∀ l : List Pt, (l.flatMap fun p => txt p.bs) = (l.map (·.bs)).flatMap txt := fun l => by rw [List.flatMap_map]
  rw [e, e, h]
theorem textsBad_eq {ps qs : List Pt} (hp : ∀ p ∈ ps, p.bs.length = p.n) (hq : ∀ p ∈ qs, p.bs.length = p.n) (h : ps.map (·.bs) = qs.map (·.bs)) : textsBad ps = textsBad qs := by
  have hl : ps.length = qs.length := by have := congrArg List.length h; simpa using this
  have e : ∀ l : List Pt, (∀ p ∈ l, p.bs.length = p.n) → l.any tLong = (l.map (·.bs)).any (fun b => decide (1024 < b.length)) := fun l hl => by
    induction l with
    | nil => rfl
    | cons a l ih =>
      rw [List.map_cons, List.any_cons, List.any_cons, ih (fun p hp => hl p (by simp [hp]))]
      unfold tLong
      rw [hl a (by simp)]
  unfold textsBad
  rw [hl, e ps hp, e qs hq, h]
theorem RetDec.back {w0 w w' : World} {x : En} {e : Ending} (h : RetDec w x.bytes e w') (hx : x.ok = true) (hxk : EnOk w0 x) :
    ∃ z : En, e = .returned (.tuple #[.agg z.cs, .int .i64 0]) ∧ EnOk w' z ∧ Ext w w' ∧ z.ok = true ∧ z.bytes = x.bytes ∧ z.K = x.K ∧ z.au = x.au ∧ z.ep = x.ep ∧ z.ln = x.ln ∧ z.lt = x.lt ∧ FitL 32 z.ns := by
  obtain ⟨L1, c1, L2, c2, ps, P, c3, hz, hps, hU, h1, -⟩ := h
  have hR := entryR_bytes x (En.ok_bad hx) hxk.wid.1 hxk.wid.2 []
  rw [List.append_nil] at hR
  have hfit := entryR_fit (x.bytes, false)
  unfold goodE at h1
  rw [hR] at hz hps h1 hfit
  dsimp only at hz hps h1 hfit
  obtain ⟨r1, r2, r3, r4, r5, r6⟩ := En.range (En.ok_bad hx)
  obtain ⟨z, hze⟩ : ∃ z, z = (⟨x.K.toNat, x.au.toNat, x.ep.toNat, x.mode.toNat, x.peer.toNat, x.phase.toNat, x.ns, x.ps.map (·.bs), x.pr⟩ : Ev).en L1 c1 L2 c2 ps P c3 := ⟨_, rfl⟩
  rw [← hze] at hz h1
  have k1 : z.K = x.K := by rw [hze]; show (x.K.toNat : Int) = _; omega
  have k2 : z.au = x.au := by rw [hze]; show (x.au.toNat : Int) = _; omega
  have k3 : z.ep = x.ep := by rw [hze]; show (x.ep.toNat : Int) = _; omega
  have k4 : z.mode = x.mode := by rw [hze]; show (x.mode.toNat : Int) = _; omega
  have k5 : z.peer = x.peer := by rw [hze]; show (x.peer.toNat : Int) = _; omega
  have k6 : z.phase = x.phase := by rw [hze]; show (x.phase.toNat : Int) = _; omega
  have k7 : z.ns = x.ns := by rw [hze]; rfl
  have k8 : z.ps.map (·.bs) = x.ps.map (·.bs) := by rw [hze]; exact hps
  have k9 : z.pr = x.pr := by rw [hze]; rfl
  have k10 : z.ln = x.ln := by rw [← hz.nlen, ← hxk.nlen, k7]
  have k11 : z.lt = x.lt := by rw [← hz.tlen, ← hxk.tlen]; have := congrArg List.length k8; simpa using this
  have k12 : z.lp = x.lp := by rw [← hz.plen, ← hxk.plen, k9]
  have hby : z.bytes = x.bytes := by unfold En.bytes; rw [k1, k2, k3, k4, k5, k6, k7, k9, textsB_eq k8]
  have hok : z.ok = true := by
    rw [← hx]
    unfold En.ok
    rw [hby]
    unfold En.bad
    rw [k1, k2, k3, k4, k5, k6, k7, k10, k11, k12, textsBad_eq hz.wid.2 hxk.wid.2 k8]
  refine ⟨z, h1 (by rw [hok, hby]; simp), hz, hU, hok, hby, k1, k2, k3, k10, k11, fun i hi => ?_⟩
  rw [k7] at hi ⊢
  rw [gat_lt hi]
  exact hfit _ (List.getElem_mem _)
theorem en_fields {w w' : World} {x y : En} (hx : x.ok = true) (hxk : EnOk w x) (hy : y.ok = true) (hyk : EnOk w' y) (h : x.bytes = y.bytes) :
    y.K = x.K ∧ y.au = x.au ∧ y.ep = x.ep ∧ y.peer = x.peer ∧ y.phase = x.phase ∧ y.mode = x.mode ∧ y.pr = x.pr := by
  have hf := (entry_free (t := []) (En.ok_bad hx) hxk.wid.1 hxk.wid.2 (En.ok_bad hy) hyk.wid.1 hyk.wid.2 (by rw [List.append_nil]; exact h)).2
  obtain ⟨a1, a2, a3, a4, a5, a6⟩ := En.range (En.ok_bad hx)
  obtain ⟨b1, b2, b3, b4, b5, b6⟩ := En.range (En.ok_bad hy)
  injection hf with e1 e2 e3 e4 e5 e6 _ _ e9
  exact ⟨by omega, by omega, by omega, by omega, by omega, by omega, e9.symm⟩
/-- the same votes? -/
def sameV (x y : Vo) : Bool := decide (x.K = y.K ∧ x.from_ = y.from_ ∧ x.slot = y.slot ∧ x.view = y.view ∧ x.valid = y.valid ∧ x.pr = y.pr)
theorem RetDecV.back {w w' : World} {x : Vo} {e : Ending} (h : RetDecV w x.bytes e w') (hx : x.ok = true) (hl : x.pr.length = x.lp) :
    ∃ z : Vo, e = .returned (.tuple #[.agg z.cs, .int .i64 0]) ∧ VoOk w' z ∧ Ext w w' ∧ sameV z x = true := by
  obtain ⟨P, c, hz, hU, h1, -⟩ := h
  have hR := voteR_bytes x hx hl []
  rw [List.append_nil] at hR
  unfold goodV at h1
  rw [hR] at hz h1
  dsimp only at hz h1
  obtain ⟨r1, r2, r3, r4, r5⟩ := Vo.range hx
  obtain ⟨z, hze⟩ : ∃ z, z = (⟨x.K.toNat, x.from_.toNat, x.slot.toNat, x.view.toNat, (x.valid + 1).toNat, x.pr⟩ : Vv).vo P c := ⟨_, rfl⟩
  rw [← hze] at hz h1
  have k1 : z.K = x.K := by rw [hze]; show (x.K.toNat : Int) = _; omega
  have k2 : z.from_ = x.from_ := by rw [hze]; show (x.from_.toNat : Int) = _; omega
  have k3 : z.slot = x.slot := by rw [hze]; show (x.slot.toNat : Int) = _; omega
  have k4 : z.view = x.view := by rw [hze]; show (x.view.toNat : Int) = _; omega
  have k5 : z.valid = x.valid := by rw [hze]; show ((x.valid + 1).toNat : Int) - 1 = _; omega
  have k6 : z.pr = x.pr := by rw [hze]; rfl
  have k7 : z.lp = x.lp := by rw [← hz.len, ← hl, k6]
  have hby : z.bytes = x.bytes := by unfold Vo.bytes; rw [k1, k2, k3, k4, k5, k6]
  have hok : z.ok = true := by
    rw [← hx]
    unfold Vo.ok Vo.bad
    rw [k1, k2, k3, k4, k5, k7]
  exact ⟨z, h1 (by rw [hok, hby]; simp), hz, hU, decide_eq_true ⟨k1, k2, k3, k4, k5, k6⟩⟩
theorem same_iff {x y : Vo} (hx : x.ok = true) (lx : x.pr.length = x.lp) (hy : y.ok = true) (ly : y.pr.length = y.lp) : decide (x.bytes = y.bytes) = sameV x y := by
  unfold sameV
  refine decide_eq_decide.2 ⟨fun h => ?_, fun ⟨k1, k2, k3, k4, k5, k6⟩ => by unfold Vo.bytes; rw [k1, k2, k3, k4, k5, k6]⟩
  have hf := (vote_free (t := []) hx lx hy ly (by rw [List.append_nil]; exact h)).2
  obtain ⟨a1, a2, a3, a4, a5⟩ := Vo.range hx
  obtain ⟨b1, b2, b3, b4, b5⟩ := Vo.range hy
  injection hf with e1 e2 e3 e4 e5 e6
  exact ⟨by omega, by omega, by omega, by omega, by omega, e6⟩
set_option maxRecDepth 100000 in
set_option maxHeartbeats 2000000 in
theorem wsame_any (x y : Vo) (w : World) (hx : VoOk w x) (hy : VoOk w y) : Calls Try.prog 57 #[.agg x.cs, .agg y.cs] w fun e w' => e = .returned (.bool (sameV x y)) ∧ Ext w w' := by
  have HX := hide hx
  have HY := hide hy
  clear hx hy
  unfold Vo.cs
  go_enter Try.func57, Try.ntmps57
  go_upto_region 1 with fail
  refine name_w (fun W hW => ?_)
  have b1 : Blk W w.heap.size 78 x.cs := by rw [hW]; exact (Blk.new _ _ _).ext ((Upd.refl _ _).alloc _)
  have b2 : Blk W (w.heap.size + 1) 78 y.cs := by rw [hW]; exact Blk.new_at (by simp)
  have hE : Ext w W := by rw [hW]; exact ((Upd.refl _ _).alloc _).alloc _
  have HE := hide hE
  clear hW hE
  have p0 : W.cell? ⟨w.heap.size, 0, none⟩ = some (.int .i64 x.K) := b1.at 0 rfl
  have p1 : W.cell? ⟨w.heap.size, 1, none⟩ = some (.int .i64 x.from_) := b1.at 1 rfl
  have p2 : W.cell? ⟨w.heap.size, 2, none⟩ = some (.int .i64 x.slot) := b1.at 2 rfl
  have p3 : W.cell? ⟨w.heap.size, 3, none⟩ = some (.int .i64 x.view) := b1.at 3 rfl
  have p4 : W.cell? ⟨w.heap.size, 4, none⟩ = some (.int .i64 x.valid) := b1.at 4 rfl
  have p5 : W.cell? ⟨w.heap.size, 5, none⟩ = some (.slice x.P x.lp x.c) := b1.at 5 rfl
  have q0 : W.cell? ⟨w.heap.size + 1, 0, none⟩ = some (.int .i64 y.K) := b2.at 0 rfl
  have q1 : W.cell? ⟨w.heap.size + 1, 1, none⟩ = some (.int .i64 y.from_) := b2.at 1 rfl
  have q2 : W.cell? ⟨w.heap.size + 1, 2, none⟩ = some (.int .i64 y.slot) := b2.at 2 rfl
  have q3 : W.cell? ⟨w.heap.size + 1, 3, none⟩ = some (.int .i64 y.view) := b2.at 3 rfl
  have q4 : W.cell? ⟨w.heap.size + 1, 4, none⟩ = some (.int .i64 y.valid) := b2.at 4 rfl
  have q5 : W.cell? ⟨w.heap.size + 1, 5, none⟩ = some (.slice y.P y.lp y.c) := b2.at 5 rfl
  clear b1 b2
  -- K field, 0 number, h.1 proof that it is not so
  by_cases h0 : x.K = y.K
  case neg =>
    have hn0 : (x.K == y.K) = false := beq_eq_false_iff_ne.2 h0
    have hs : sameV x y = false := decide_eq_false (fun h => h0 h.1)
    have Hs := hide hs
    clear hs
    go_wp2_with fail
    go_ret
    exact ⟨by rw [Hs.out]; rfl, HE.out⟩
  -- from_ field, 1 number, h.2.1 proof that it is not so
  by_cases h1 : x.from_ = y.from_
  case neg =>
    have hn1 : (x.from_ == y.from_) = false := beq_eq_false_iff_ne.2 h1
    have hs : sameV x y = false := decide_eq_false (fun h => h1 h.2.1)
    have Hs := hide hs
    clear hs
    go_wp2_with fail
    go_ret
    exact ⟨by rw [Hs.out]; rfl, HE.out⟩
  -- slot field, 2 number, h.2.2.1 proof that it is not so
  by_cases h2 : x.slot = y.slot
  case neg =>
    have hn2 : (x.slot == y.slot) = false := beq_eq_false_iff_ne.2 h2
    have hs : sameV x y = false := decide_eq_false (fun h => h2 h.2.2.1)
    have Hs := hide hs
    clear hs
    go_wp2_with fail
    go_ret
    exact ⟨by rw [Hs.out]; rfl, HE.out⟩
  -- view field, 3 number, h.2.2.2.1 proof that it is not so
  by_cases h3 : x.view = y.view
  case neg =>
    have hn3 : (x.view == y.view) = false := beq_eq_false_iff_ne.2 h3
    have hs : sameV x y = false := decide_eq_false (fun h => h3 h.2.2.2.1)
    have Hs := hide hs
    clear hs
    go_wp2_with fail
    go_ret
    exact ⟨by rw [Hs.out]; rfl, HE.out⟩
  -- valid field, 4 number, h.2.2.2.2.1 proof that it is not so
  by_cases h4 : x.valid = y.valid
  case neg =>
    have hn4 : (x.valid == y.valid) = false := beq_eq_false_iff_ne.2 h4
    have hs : sameV x y = false := decide_eq_false (fun h => h4 h.2.2.2.2.1)
    have Hs := hide hs
    clear hs
    go_wp2_with fail
    go_ret
    exact ⟨by rw [Hs.out]; rfl, HE.out⟩
  have hs : sameV x y = decide (x.pr = y.pr) := decide_eq_decide.2 ⟨fun h => h.2.2.2.2.2, fun h => ⟨h0, h1, h2, h3, h4, h⟩⟩
  have Hs := hide hs
  clear hs
  go_wp2_with fail
  refine (bequal_any x.P x.lp x.c y.P y.lp y.c x.pr y.pr W (HX.out.val.ext HE.out) HX.out.len (HY.out.val.ext HE.out) HY.out.len).mono ?_
  rintro e w2 ⟨rfl, rfl⟩
  go_wp2_with fail
  go_ret
  exact ⟨by rw [Hs.out]; rfl, HE.out⟩
end Go.Proofs.Ytjdodhooojjldaa
