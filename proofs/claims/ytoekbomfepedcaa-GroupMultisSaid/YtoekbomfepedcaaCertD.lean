/- A step of a chain: does it hold? Walked. -/
import Derived.Test.YtoekbomfepedcaaCertC
namespace Go.Proofs.Ytoekbomfepedcaa
set_option linter.unusedSimpArgs false
set_option linter.unusedVariables false
open Go.RowKit
open Nt Pk
attribute [local go_sem] steady steadyUpon Cls same_cell anyW
attribute [local irreducible] wpHead wpTree wpHeadR
/-- Block g is three cells. -/
def Three (w : World) (g : Nat) (t : TypeId) (a b c : Value) : Prop := w.heap[g]? = some (.cells #[a, b, c] t (0, 0))
section three
variable {w w' : World} {g : Nat} {t : TypeId} {a b c u : Value} {T : Nat → Prop}
theorem Three.lt (h : Three w g t a b c) : g < w.heap.size := (Array.getElem?_eq_some_iff.1 h).1
theorem Three.cell0 (h : Three w g t a b c) : w.cell? ⟨g, 0, none⟩ = some a := by unfold Three at h; simp [World.cell?, h]
theorem Three.cell1 (h : Three w g t a b c) : w.cell? ⟨g, 1, none⟩ = some b := by unfold Three at h; simp [World.cell?, h]
theorem Three.cell2 (h : Three w g t a b c) : w.cell? ⟨g, 2, none⟩ = some c := by unfold Three at h; simp [World.cell?, h]
theorem Three.upd (h : Three w g t a b c) (hu : Upd T w w') (hT : ¬ T g) : Three w' g t a b c := (hu.block g h.lt hT).trans h
theorem Three.ext (h : Three w g t a b c) (hu : Ext w w') : Three w' g t a b c := h.upd hu (fun h => h)
theorem Three.alloc (h : Three w g t a b c) (o : Obj) : Three (w.alloc o) g t a b c := h.ext ((Upd.refl _ _).alloc o)
theorem Three.new (w : World) (t : TypeId) (a b c : Value) : Three (w.alloc (.cells #[a, b, c] t)) w.heap.size t a b c := heap_alloc_new w _
theorem Three.drew (h : Three w g t a b c) : Three w.drew g t a b c := h
theorem Three.far (h : Three w g t a b c) {p : Addr} (hp : g ≠ p.block) (u : Value) : Three (w.setCell p u) g t a b c := (Below.heap_setCell w p u g hp).trans h
end three
/-- A step: a number, a base, primes. -/
def StepV (w : World) (v : Value) (N b : Nat) (ps : List Nat) : Prop :=
  ∃ A l c B m d C n e, v = .agg #[.slice A l c, .slice B m d, .slice C n e] ∧ NatV w (.agg #[.slice A l c]) N ∧ NatV w (.agg #[.slice B m d]) b ∧ NatL w C ps ∧ ps.length = n ∧ n ≤ e ∧ e ≤ maxLen
theorem StepV.ext {w w' : World} {v : Value} {N b : Nat} {ps : List Nat} (h : StepV w v N b ps) (hu : Ext w w') : StepV w' v N b ps := by
  obtain ⟨A, l, c, B, m, d, C, n, e, h1, h2, h3, h4, h5⟩ := h
  exact ⟨A, l, c, B, m, d, C, n, e, h1, h2.ext hu, h3.ext hu, h4.ext hu, h5⟩
/-- one prime of a step -/
def okP (N b : Nat) (ps bs : List Nat) (i : Nat) : Bool :=
  !hasB (ps.take i) (gat ps i) && (knownB bs (gat ps i) && (decide (2 ≤ gat ps i) && (decide ((N - 1) % gat ps i = 0) && decide (Nat.gcd (subm (b ^ ((N - 1) / gat ps i) % N) 1 N) N = 1))))
def facF (N : Nat) (ps : List Nat) : Nat := prodL (ps.map (vpow (N - 1)))
/-- does a step hold? -/
def holdsB (N b : Nat) (ps bs : List Nat) : Bool :=
  decide (2 ≤ N) && (decide (1 ≤ ps.length ∧ ps.length ≤ 32) && (decide (b ^ (N - 1) % N = 1) && ((List.range ps.length).all (okP N b ps bs) && decide (N < facF N ps * facF N ps))))
theorem facF_take {N : Nat} {ps : List Nat} {i : Nat} (h : i < ps.length) : facF N (ps.take (i + 1)) = facF N (ps.take i) * vpow (N - 1) (gat ps i) := by
  unfold facF
  rw [List.take_succ_eq_append_getElem h, List.map_append, List.map_singleton, prodL_snoc, gat_lt h]
theorem holds_no1 {N b : Nat} {ps bs : List Nat} (h : N < 2) : holdsB N b ps bs = false := by
  unfold holdsB
  rw [decide_eq_false (by omega)]; rfl
theorem holds_no2 {N b : Nat} {ps bs : List Nat} (h : ¬ (1 ≤ ps.length ∧ ps.length ≤ 32)) : holdsB N b ps bs = false := by
  unfold holdsB
  rw [decide_eq_false h, Bool.false_and, Bool.and_false]
theorem holds_no3 {N b : Nat} {ps bs : List Nat} (h : ¬ b ^ (N - 1) % N = 1) : holdsB N b ps bs = false := by
  unfold holdsB
  rw [decide_eq_false h, Bool.false_and, Bool.and_false, Bool.and_false]
theorem holds_no4 {N b i : Nat} {ps bs : List Nat} (hi : i < ps.length) (h : okP N b ps bs i = false) : holdsB N b ps bs = false := by
  have : (List.range ps.length).all (okP N b ps bs) = false := by
    cases e : (List.range ps.length).all (okP N b ps bs) with
    | false => rfl
    | true => rw [List.all_eq_true] at e; rw [e i (List.mem_range.2 hi)] at h; cases h
  unfold holdsB
  rw [this, Bool.false_and, Bool.and_false, Bool.and_false, Bool.and_false]
theorem holds_yes {N b : Nat} {ps bs : List Nat} (h1 : 2 ≤ N) (h2 : 1 ≤ ps.length ∧ ps.length ≤ 32) (h3 : b ^ (N - 1) % N = 1) (h4 : ∀ i, i < ps.length → okP N b ps bs i = true) : holdsB N b ps bs = decide (N < facF N ps * facF N ps) := by
  have : (List.range ps.length).all (okP N b ps bs) = true := by rw [List.all_eq_true]; exact fun i hi => h4 i (List.mem_range.1 hi)
  unfold holdsB
  rw [this, decide_eq_true h1, decide_eq_true h2, decide_eq_true h3]
  simp
theorem fit_fac {N K : Nat} (hN : Fit K (N - 1)) (h0 : 0 < N - 1) : ∀ (ps : List Nat), (∀ p, p ∈ ps → 2 ≤ p) → facF N ps < W32 ^ (K * ps.length + 1)
  | [], _ => by show 1 < W32 ^ 1; decide
  | p :: ps, h => by
    have h1 := fit_fac hN h0 ps (fun q hq => h q (by simp [hq]))
    have h2 : vpow (N - 1) p < W32 ^ K := Nat.lt_of_le_of_lt (vpow_le (h p (by simp)) h0) hN
    show vpow (N - 1) p * facF N ps < _
    rw [List.length_cons, show K * (ps.length + 1) + 1 = K + (K * ps.length + 1) by rw [Nat.mul_succ]; omega, Nat.pow_add]
    exact Nat.mul_lt_mul_of_lt_of_le h2 (Nat.le_of_lt h1) (Nat.pow_pos (by decide))
def RetH (w : World) (b : Bool) (e : Ending) (w' : World) : Prop := e = .returned (.bool b) ∧ Ext w w'
set_option maxRecDepth 100000 in
set_option maxHeartbeats 8000000 in
theorem choldsB_any (A B C D : Option Addr) (lA cA lB cB n cC m cD N b K : Nat) (ps bs : List Nat) (w : World) (hVN : NatV w (.agg #[.slice A lA cA]) N) (hVb : NatV w (.agg #[.slice B lB cB]) b) (hLp : NatL w C ps) (hn : ps.length = n) (hne : n ≤ cC) (hce : cC ≤ maxLen)
    (hLb : NatL w D bs) (hm : bs.length = m) (hm2 : m ≤ 1000000) (hFN : Fit K N) (hFb : Fit K b) (hFp : FitL K ps) (hFbs : FitL K bs) (hK1 : 1 ≤ K) (hK : K ≤ 1000) :
    Calls Try.prog 123 #[.agg #[.slice A lA cA, .slice B lB cB, .slice C n cC], .slice D m cD] w (RetH w (holdsB N b ps bs)) := by
  obtain ⟨t, ht⟩ : ∃ t, t = holdsB N b ps bs := ⟨_, rfl⟩
  rw [← ht]
  have Ht := hide ht
  have Hn := hide hn
  have Hm := hide hm
  have HLp := hide hLp
  have HLb := hide hLb
  have HVN := hide hVN
  have HVb := hide hVb
  have hF1 : Fit K 1 := Nat.lt_of_lt_of_le (show 1 < W32 ^ 1 by decide) (Nat.pow_le_pow_right (by decide) hK1)
  have hF2 : Fit K 2 := Nat.lt_of_lt_of_le (show 2 < W32 ^ 1 by decide) (Nat.pow_le_pow_right (by decide) hK1)
  unfold maxLen at hce
  clear ht hn hm hLp hLb hVN hVb
  go_enter Try.func123, Try.ntmps123
  go_wp2_with fail
  refine name_c (fun W hW => ?_)
  have s2 : Three W w.heap.size 37 (.slice A lA cA) (.slice B lB cB) (.slice C n cC) := by rw [hW]; exact Three.new _ _ _ _ _
  have hE : Ext w W := by rw [hW]; exact (Upd.refl _ w).alloc _
  clear hW
  refine (new_any 1 _ (by omega)).mono ?_
  rintro e w1 ⟨A1, l1, c1, rfl, hV1, hU⟩
  replace s2 := s2.ext hU
  replace hE := hE.trans hU
  clear hU
  go_wp2_with fail
  refine name_w (fun Z hZ => ?_)
  have hEZ : Ext w1 Z := by rw [hZ]; exact (Upd.refl _ _).alloc _
  have b5 : Box Z w1.heap.size 33 (.slice A1 l1 c1) := by rw [hZ]; exact Box.new _ _ _
  obtain ⟨G5, hG5⟩ : ∃ G, G = w1.heap.size := ⟨_, rfl⟩
  have hlt5 : w.heap.size < G5 := by rw [hG5]; exact s2.lt
  rw [← hG5] at b5 ⊢
  clear hG5 hZ
  replace s2 := s2.ext hEZ
  replace hV1 := hV1.ext hEZ
  replace hE := hE.trans hEZ
  clear hEZ
  have k0 := fun z : Wd (Ext Z.drew) => (z.ok.cell (p := ⟨w.heap.size, 0, none⟩) s2.drew.lt (fun h => h)).trans s2.drew.cell0
  have k2 := fun z : Wd (Ext Z.drew) => (z.ok.cell (p := ⟨w.heap.size, 2, none⟩) s2.drew.lt (fun h => h)).trans s2.drew.cell2
  refine wp_region_plan (Ext _) 16 [(false,0), (false,1), (true,2), (true,3), (false,4), (false,5), (false,6), (false,7), (false,8), (false,9), (false,10), (false,11), (false,12), (false,13), (false,14), (false,15)] (by kernel_rfl) (by kernel_rfl) (Upd.refl _ _) (fun hne => ?_)
  repeat (refine head_q rfl (fun K hK => ?_); have hK2 := hide hK; clear hK; go_simp; refine hK2.out _ ?_; clear hK2 K)
  refine head_l rfl ?_
  go_wp2_with (refine (new_any 2 _ (by omega)).mono ?_; rintro e w3 ⟨A3, l3, c3, rfl, hV3, hU3⟩)
  refine ⟨Cls (Ext _), fun _ h => h, ⟨⟨_, hU3⟩, rfl⟩, ?_⟩
  repeat (refine head_q rfl (fun K hK => ?_); have hK2 := hide hK; clear hK; go_simp; refine hK2.out _ ?_; clear hK2 K)
  refine head_l rfl ?_
  go_wp2_with (refine (cmp_any _ _ N 2 K _ (((HVN.out.ext hE).ext (Upd.refl _ _).drew).ext hU3) hV3 hFN hF2 (by omega)).mono ?_; rintro e w4 ⟨rfl, hU4⟩)
  refine ⟨Cls (Ext _), fun _ h => h, ⟨⟨_, (hU3.trans hU4)⟩, rfl⟩, ?_⟩
  repeat (refine head_q rfl (fun K hK => ?_); have hK2 := hide hK; clear hK; go_simp; refine hK2.out _ ?_; clear hK2 K)
  have hE4 : Ext Z w4 := (hU3.trans hU4).undrew
  have hEw := hE.trans hE4
  replace s2 := s2.ext hE4
  replace b5 := b5.ext hE4
  replace hV1 := hV1.ext hE4
  clear hU3 hU4 hV3 hE
  by_cases h2 : N < 2
  · obtain rfl : t = false := Ht.out.trans (holds_no1 h2)
    have hz : cmpI N 2 < 0 := by rw [cmpI_neg]; exact h2
    generalize cmpI N 2 = z at hz ⊢
    have hzd : decide (z < 0) = true := decide_eq_true hz
    repeat (refine head_q rfl (fun K hK => ?_); have hK2 := hide hK; clear hK; go_simp; refine hK2.out _ ?_; clear hK2 K)
    clear k0 k2
    refine head_nil ?_
    try simp only [List.drop_succ_cons, List.drop_zero]
    go_wp2_with fail
    go_ret
    exact ⟨rfl, hEw⟩
  have hz : ¬ cmpI N 2 < 0 := by rw [cmpI_neg]; exact h2
  generalize cmpI N 2 = z at hz ⊢
  have hzd : decide (z < 0) = false := decide_eq_false hz
  by_cases hn1 : n < 1
  · obtain rfl : t = false := Ht.out.trans (holds_no2 (by rw [Hn.out]; omega))
    have hn1d : decide ((n : Int) < 1) = true := decide_eq_true (by omega)
    repeat (refine head_q rfl (fun K hK => ?_); have hK2 := hide hK; clear hK; go_simp; refine hK2.out _ ?_; clear hK2 K)
    clear k0 k2
    refine head_nil ?_
    try simp only [List.drop_succ_cons, List.drop_zero]
    go_wp2_with fail
    go_ret
    exact ⟨rfl, hEw⟩
  have hn1d : decide ((n : Int) < 1) = false := decide_eq_false (by omega)
  by_cases hn32 : 32 < n
  · obtain rfl : t = false := Ht.out.trans (holds_no2 (by rw [Hn.out]; omega))
    have hn32d : decide ((32 : Int) < (n : Int)) = true := decide_eq_true (by omega)
    repeat (refine head_q rfl (fun K hK => ?_); have hK2 := hide hK; clear hK; go_simp; refine hK2.out _ ?_; clear hK2 K)
    clear k0 k2
    refine head_nil ?_
    try simp only [List.drop_succ_cons, List.drop_zero]
    go_wp2_with fail
    go_ret
    exact ⟨rfl, hEw⟩
  have hn32d : decide ((32 : Int) < (n : Int)) = false := decide_eq_false (by omega)
  repeat (refine head_q rfl (fun K hK => ?_); have hK2 := hide hK; clear hK; go_simp; refine hK2.out _ ?_; clear hK2 K)
  have k0' := s2.cell0
  have k5 := b5.cell
  clear k0 k2 hz hzd hn1d hE4
  refine head_nil ?_
  try simp only [List.drop_succ_cons, List.drop_zero]
  go_wp2_with fail
  refine (sub_any _ _ N 1 K _ (HVN.out.ext hEw) hV1 hFN hF1 (by omega)).mono ?_
  rw [if_neg (by omega)]
  rintro e w5 ⟨A6, l6, c6, rfl, hV6, hU5⟩
  have hFL1 : Fit K (N - 1) := hFN.le (Nat.sub_le _ _)
  replace hEw := hEw.trans hU5
  replace s2 := s2.ext hU5
  replace b5 := b5.ext hU5
  replace hV1 := hV1.ext hU5
  have k0 := (s2.alloc (.cells #[.slice A6 l6 c6] 33)).cell0
  clear hU5 k0' k5
  go_wp2_with fail
  refine name_c (fun W hW => ?_)
  have hEW : Ext w5 W := by rw [hW]; exact (Upd.refl _ _).alloc _
  have b6 : Box W w5.heap.size 33 (.slice A6 l6 c6) := by rw [hW]; exact Box.new _ _ _
  obtain ⟨G6, hG6⟩ : ∃ G, G = w5.heap.size := ⟨_, rfl⟩
  have hlt6 : G5 < G6 := by rw [hG6]; exact b5.lt
  rw [← hG6] at b6 ⊢
  clear hG6 hW k0
  replace hEw := hEw.trans hEW
  replace s2 := s2.ext hEW
  replace b5 := b5.ext hEW
  replace hV1 := hV1.ext hEW
  replace hV6 := hV6.ext hEW
  clear hEW
  refine (mnew_yes _ N K _ (HVN.out.ext hEw) hFN (by omega) (by omega)).mono ?_
  rintro e w6 ⟨g8, rfl, hR8, hg8, hU6⟩
  replace hEw := hEw.trans hU6
  replace s2 := s2.ext hU6
  replace b5 := b5.ext hU6
  replace b6 := b6.ext hU6
  replace hV1 := hV1.ext hU6
  replace hV6 := hV6.ext hU6
  have hg8lt : g8 < w6.heap.size := by
    obtain ⟨D', ld', cd', g2, -⟩ := hR8
    exact g2.lt
  clear hU6
  have k1 := fun z : Wd (Ext w6.drew) => (z.ok.cell (p := ⟨w.heap.size, 1, none⟩) s2.drew.lt (fun h => h)).trans s2.drew.cell1
  have k5 := fun z : Wd (Ext w6.drew) => (z.ok.cell (p := ⟨G5, 0, none⟩) b5.drew.lt (fun h => h)).trans b5.drew.cell
  have k6 := fun z : Wd (Ext w6.drew) => (z.ok.cell (p := ⟨G6, 0, none⟩) b6.drew.lt (fun h => h)).trans b6.drew.cell
  go_wp2_with fail
  refine wp_region_plan (Ext _) 11 [(false,0), (false,1), (false,2), (false,3), (false,4), (false,5), (false,6), (false,8), (true,7), (true,9), (false,10)] (by kernel_rfl) (by kernel_rfl) (Upd.refl _ _) (fun hne => ?_)
  repeat (refine head_q rfl (fun K hK => ?_); have hK2 := hide hK; clear hK; go_simp; refine hK2.out _ ?_; clear hK2 K)
  refine head_l rfl ?_
  go_wp2_with (refine (mexp_any _ _ g8 b (N - 1) N K K _ (hR8.ext (Upd.refl _ _).drew) (HVb.out.ext hEw.drew) (hV6.ext (Upd.refl _ _).drew) hFb hFN hFL1 (by omega) (by omega)).mono ?_; rintro e w7 ⟨A7, l7, c7, rfl, hV7, hU7⟩)
  refine ⟨Cls (Ext _), fun _ h => h, ⟨⟨_, hU7⟩, rfl⟩, ?_⟩
  repeat (refine head_q rfl (fun K hK => ?_); have hK2 := hide hK; clear hK; go_simp; refine hK2.out _ ?_; clear hK2 K)
  refine head_l rfl ?_
  go_wp2_with (refine (cmp_any _ _ _ 1 K _ hV7 (hV1.ext ((Upd.refl _ _).drew.trans hU7)) (hFN.le (Nat.le_of_lt (Nat.mod_lt _ (by omega)))) hF1 (by omega)).mono ?_; rintro e w8 ⟨rfl, hU8⟩)
  refine ⟨Cls (Ext _), fun _ h => h, ⟨⟨_, (hU7.trans hU8)⟩, rfl⟩, ?_⟩
  repeat (refine head_q rfl (fun K hK => ?_); have hK2 := hide hK; clear hK; go_simp; refine hK2.out _ ?_; clear hK2 K)
  have hE8 : Ext w6 w8 := (hU7.trans hU8).undrew
  replace hEw := hEw.trans hE8
  replace s2 := s2.ext hE8
  replace b5 := b5.ext hE8
  replace b6 := b6.ext hE8
  replace hV1 := hV1.ext hE8
  replace hV6 := hV6.ext hE8
  replace hR8 := hR8.ext hE8
  replace hg8lt : g8 < w8.heap.size := Nat.lt_of_lt_of_le hg8lt hE8.size
  clear hU7 hU8 hE8 k1 k5 k6 hV7
  refine head_nil ?_
  try simp only [List.drop_succ_cons, List.drop_zero]
  by_cases h3 : b ^ (N - 1) % N = 1
  case neg =>
    obtain rfl : t = false := Ht.out.trans (holds_no3 h3)
    have hz : ¬ cmpI (b ^ (N - 1) % N) 1 = 0 := fun h => h3 (cmpI_zero.1 h)
    generalize cmpI (b ^ (N - 1) % N) 1 = z at hz ⊢
    have hz2 : (z != 0) = true := by simp [hz]
    go_wp2_with fail
    go_ret
    exact ⟨rfl, hEw⟩
  rw [cmpI_zero.2 h3]
  rw [show ((0 : Int) != 0) = false from rfl]
  have H3 := hide h3
  clear h3
  have k5 := b5.cell
  have k2 := (s2.alloc (.cells #[.slice A1 l1 c1] 33)).cell2
  go_wp2_with fail
  refine name_w (fun Z2 hZ2 => ?_)
  have hE2 : Ext w8 Z2 := by rw [hZ2]; exact (Upd.refl _ _).alloc _
  have b10 : Box Z2 w8.heap.size 33 (.slice A1 l1 c1) := by rw [hZ2]; exact Box.new _ _ _
  obtain ⟨G10, hG10⟩ : ∃ G, G = w8.heap.size := ⟨_, rfl⟩
  have hlt10 : G6 < G10 := by rw [hG10]; exact b6.lt
  rw [← hG10] at b10 hg8lt ⊢
  clear hG10 hZ2 k5 k2
  replace hEw := hEw.trans hE2
  replace s2 := s2.ext hE2
  replace b5 := b5.ext hE2
  replace b6 := b6.ext hE2
  replace hV1 := hV1.ext hE2
  replace hV6 := hV6.ext hE2
  replace hR8 := hR8.ext hE2
  clear hE2
  have hw10 : w.heap.size < G10 := by omega
  have h0N : 0 < N - 1 := by omega
  go_loopw [66] (fun i wr => ∃ (j : Nat) (X : Option Addr) (lX cX : Nat), j ≤ n ∧ i = .int .i64 (j : Int) ∧ (∀ q, q < j → okP N b ps bs q = true) ∧ Box wr G10 33 (.slice X lX cX) ∧ NatV wr (.agg #[.slice X lX cX]) (facF N (ps.take j)) ∧ Upd (only G10) Z2 wr) (fun i _ => n - (intOf i).toNat)
  case atStart => exact ⟨0, _, _, _, Nat.zero_le _, rfl, fun q hq => by omega, b10, hV1, Upd.refl _ _⟩
  case round =>
    obtain ⟨j, X, lX, cX, hj, rfl, hok, x10, hVX, hUV⟩ := hrel
    have Hok := hide hok
    clear hok
    have s2r := s2.upd hUV (fun h => by unfold only at h; omega)
    have b5r := b5.upd hUV (fun h => by unfold only at h; omega)
    have b6r := b6.upd hUV (fun h => by unfold only at h; omega)
    have hV1r := hV1.only b10 hUV
    have hV6r := hV6.only b10 hUV
    have hRr : RingV wr g8 N := by
      obtain ⟨D', ld', cd', g2, hVn, hn2⟩ := hR8
      exact ⟨D', ld', cd', g2.upd hUV (fun h => by unfold only at h; omega), hVn.only b10 hUV, hn2⟩
    have hEr : Ext w wr := Upd.fresh hUV hEw (fun i hi => by unfold only at hi; omega)
    have hge : ∀ q, q < j → 2 ≤ gat ps q := fun q hq => by
      have h := Hok.out q hq
      unfold okP at h
      simp only [Bool.and_eq_true, decide_eq_true_iff] at h
      exact h.2.2.1
    have hFf : Fit (K * 32 + 1) (facF N (ps.take j)) := by
      refine Nat.lt_of_lt_of_le (fit_fac hFL1 h0N (ps.take j) (fun p hp => ?_)) (Nat.pow_le_pow_right (by decide) ?_)
      · obtain ⟨q, hq, rfl⟩ := List.getElem_of_mem hp
        have hq2 : q < j ∧ q < ps.length := by rw [List.length_take] at hq; omega
        rw [List.getElem_take, ← gat_lt hq2.2]
        exact hge q hq2.1
      · have h1 : (ps.take j).length ≤ 32 := by rw [List.length_take]; omega
        have := Nat.mul_le_mul_left K h1
        omega
    have HFf := hide hFf
    clear hFf hge
    by_cases hlt : j < n
    · have hltI : (j : Int) < (n : Int) := by omega
      obtain ⟨b1, o1, P, lP, cP, rfl, hcj, hVp⟩ := (HLp.out.ext hEr).at (i := j) (by rw [Hn.out]; exact hlt)
      obtain ⟨p, hp⟩ : ∃ p, p = gat ps j := ⟨_, rfl⟩
      have hFp' : Fit K p := by rw [hp]; exact hFp j (by rw [Hn.out]; exact hlt)
      rw [← hp] at hVp
      have Hp := hide hp
      have k2 := (s2r.alloc (.cells #[.slice P lP cP] 33)).cell2
      have hs1 : ∀ w, (Instr.sliceAt 35 (.slice (some ⟨b1, o1, none⟩) n cC) none (some (.int .i64 (j : Int))) none).run Try.prog w = .ok (.slice (some ⟨b1, o1, none⟩) j cC) w := fun w => run_cut_h (e := 33) (by kernel_rfl) (by kernel_rfl) (some ⟨b1, o1, none⟩) n cC j .i64 (by omega) w
      have hjc : (j : Int) ≤ (cC : Int) := by omega
      clear hp
      go_wp2_with fail
      refine name_w (fun Y hY => ?_)
      have hEY : Ext wr Y := by rw [hY]; exact (Upd.refl _ _).alloc _
      have b12 : Box Y wr.heap.size 33 (.slice P lP cP) := by rw [hY]; exact Box.new _ _ _
      obtain ⟨G12, hG12⟩ : ∃ G, G = wr.heap.size := ⟨_, rfl⟩
      have hlt12 : G10 < G12 := by rw [hG12]; exact x10.lt
      rw [← hG12] at b12 ⊢
      clear hG12 hY k2 hcj hs1
      replace hEr := hEr.trans hEY
      replace hUV := hUV.ext hEY
      replace s2r := s2r.ext hEY
      replace b5r := b5r.ext hEY
      replace b6r := b6r.ext hEY
      replace hV1r := hV1r.ext hEY
      replace hV6r := hV6r.ext hEY
      replace hRr := hRr.ext hEY
      replace x10 := x10.ext hEY
      replace hVX := hVX.ext hEY
      replace hVp := hVp.ext hEY
      clear hEY
      go_loopw [76] (fun i wr => ∃ q : Nat, q ≤ j ∧ i = .int .i64 (q : Int) ∧ hasB (ps.take q) p = false ∧ Ext Y wr) (fun i _ => j - (intOf i).toNat)
      case atStart => exact ⟨0, Nat.zero_le _, rfl, rfl, Upd.refl _ _⟩
      case round =>
        obtain ⟨q, hq, rfl, hno, hEq⟩ := hrel
        have Hno := hide hno
        clear hno
        by_cases hqj : q < j
        · have hqI : (q : Int) < (j : Int) := by omega
          obtain ⟨b2, o2, Q, lQ, cQ, e2, hcq, hVq⟩ := (HLp.out.ext (hEr.trans hEq)).at (i := q) (by rw [Hn.out]; omega)
          obtain ⟨rfl, rfl⟩ : b1 = b2 ∧ o1 = o2 := by injection e2 with e2; injection e2 with e3 e4; exact ⟨e3, e4⟩
          obtain ⟨x, hx⟩ : ∃ x, x = gat ps q := ⟨_, rfl⟩
          have hFx : Fit K x := by rw [hx]; exact hFp q (by rw [Hn.out]; omega)
          rw [← hx] at hVq
          have Hx := hide hx
          have k12 := ((b12.ext hEq).alloc (.cells #[.slice Q lQ cQ] 33)).cell
          clear hx e2
          go_wp2_with fail
          refine name_c (fun W hW => ?_)
          have hEW : Ext wr W := by rw [hW]; exact (Upd.refl _ _).alloc _
          clear hW k12 hcq
          refine (cmp_any _ _ x p K _ (hVq.ext hEW) (hVp.ext (hEq.trans hEW)) hFx hFp' (by omega)).mono ?_
          rintro e w9 ⟨rfl, hU9⟩
          have hE9 := (hEq.trans hEW).trans hU9
          clear hEW hU9 hEq hVq
          by_cases hxp : x = p
          · rw [cmpI_zero.2 hxp]
            obtain rfl : t = false := Ht.out.trans (holds_no4 (i := j) (by rw [Hn.out]; exact hlt) (by
              unfold okP
              rw [← Hp.out, hasB_yes (k := q) (by rw [List.length_take, Hn.out]; omega) (by rw [gat_take hqj, ← Hx.out]; exact hxp)]
              rfl))
            clear hxp
            go_wp2_with fail
            go_ret
            exact ⟨rfl, hEr.trans hE9⟩
          · have hz : ¬ cmpI x p = 0 := fun h => hxp (cmpI_zero.1 h)
            generalize cmpI x p = z at hz ⊢
            have hz2 : (z == 0) = false := beq_eq_false_iff_ne.2 hz
            go_wp2_with fail
            go_roundw
            case rel => exact ⟨q + 1, by omega, by go_num, by rw [hasB_take (by rw [Hn.out]; omega), Hno.out, ← Hx.out]; simpa using hxp, hE9⟩
            case measure => simp [intOf]; omega
        · obtain rfl : q = j := by omega
          have hqI : ¬ (q : Int) < (q : Int) := by omega
          replace hEr := hEr.trans hEq
          replace hUV := hUV.ext hEq
          replace s2r := s2r.ext hEq
          replace b5r := b5r.ext hEq
          replace b6r := b6r.ext hEq
          replace hV1r := hV1r.ext hEq
          replace hV6r := hV6r.ext hEq
          replace hRr := hRr.ext hEq
          replace x10 := x10.ext hEq
          replace hVX := hVX.ext hEq
          replace hVp := hVp.ext hEq
          replace b12 := b12.ext hEq
          clear hEq
          have k12 := fun z : Wd (Ext wr.drew) => (z.ok.cell (p := ⟨G12, 0, none⟩) b12.drew.lt (fun h => h)).trans b12.drew.cell
          obtain ⟨kb, hkb⟩ : ∃ kb, kb = knownB bs p := ⟨_, rfl⟩
          have Hkb := hide hkb
          clear hkb
          go_wp2_with fail
          refine wp_region_plan (Ext _) 9 [(false,0), (false,1), (true,2), (false,3), (false,4), (false,5), (true,6), (true,7), (false,8)] (by kernel_rfl) (by kernel_rfl) (Upd.refl _ _) (fun hne => ?_)
          repeat (refine head_q rfl (fun K hK => ?_); have hK2 := hide hK; clear hK; go_simp; refine hK2.out _ ?_; clear hK2 K)
          refine head_l rfl ?_
          go_wp2_with (refine (cknown_any _ p K D m cD bs _ (hVp.ext (Upd.refl _ _).drew) hFp' (by omega) (HLb.out.ext hEr.drew) hFbs Hm.out hm2).mono ?_; rw [← Hkb.out]; rintro e w9 ⟨rfl, hU9⟩)
          refine ⟨Cls (Ext _), fun _ h => h, ⟨⟨_, hU9⟩, rfl⟩, ?_⟩
          repeat (refine head_q rfl (fun K hK => ?_); have hK2 := hide hK; clear hK; go_simp; refine hK2.out _ ?_; clear hK2 K)
          have hEk : Ext wr w9 := hU9.undrew
          cases kb with
          | false =>
            obtain rfl : t = false := Ht.out.trans (holds_no4 (i := q) (by rw [Hn.out]; exact hlt) (by
              unfold okP
              rw [← Hp.out, ← Hkb.out, Bool.false_and, Bool.and_false]))
            repeat (refine head_q rfl (fun K hK => ?_); have hK2 := hide hK; clear hK; go_simp; refine hK2.out _ ?_; clear hK2 K)
            refine head_l rfl ?_
            go_wp2_with fail
            refine ⟨Cls (Ext _), fun _ h => h, ⟨⟨_, hU9⟩, rfl⟩, ?_⟩
            repeat (refine head_q rfl (fun K hK => ?_); have hK2 := hide hK; clear hK; go_simp; refine hK2.out _ ?_; clear hK2 K)
            refine head_l rfl ?_
            go_wp2_with fail
            refine ⟨Cls (Ext _), fun _ h => h, ⟨⟨_, hU9⟩, rfl⟩, ?_⟩
            repeat (refine head_q rfl (fun K hK => ?_); have hK2 := hide hK; clear hK; go_simp; refine hK2.out _ ?_; clear hK2 K)
            clear k12
            refine head_nil ?_
            try simp only [List.drop_succ_cons, List.drop_zero]
            go_wp2_with fail
            go_ret
            exact ⟨rfl, hEr.trans hEk⟩
          | true =>
            repeat (refine head_q rfl (fun K hK => ?_); have hK2 := hide hK; clear hK; go_simp; refine hK2.out _ ?_; clear hK2 K)
            refine head_l rfl ?_
            go_wp2_with (refine (new_any 2 _ (by omega)).mono ?_; rintro e w10 ⟨A10, l10, c10, rfl, hV10, hU10⟩)
            refine ⟨Cls (Ext _), fun _ h => h, ⟨⟨_, (hU9.trans hU10)⟩, rfl⟩, ?_⟩
            repeat (refine head_q rfl (fun K hK => ?_); have hK2 := hide hK; clear hK; go_simp; refine hK2.out _ ?_; clear hK2 K)
            refine head_l rfl ?_
            go_wp2_with (refine (cmp_any _ _ p 2 K _ ((hVp.ext hEk).ext hU10) hV10 hFp' hF2 (by omega)).mono ?_; rintro e w11 ⟨rfl, hU11⟩)
            refine ⟨Cls (Ext _), fun _ h => h, ⟨⟨_, ((hU9.trans hU10).trans hU11)⟩, rfl⟩, ?_⟩
            repeat (refine head_q rfl (fun K hK => ?_); have hK2 := hide hK; clear hK; go_simp; refine hK2.out _ ?_; clear hK2 K)
            have hE11 : Ext wr w11 := ((hU9.trans hU10).trans hU11).undrew
            clear k12 hU9 hU10 hU11 hV10 hEk
            refine head_nil ?_
            try simp only [List.drop_succ_cons, List.drop_zero]
            replace hEr := hEr.trans hE11
            by_cases hp2 : p < 2
            · obtain rfl : t = false := Ht.out.trans (holds_no4 (i := q) (by rw [Hn.out]; exact hlt) (by
                unfold okP
                rw [← Hp.out, decide_eq_false (show ¬ 2 ≤ p by omega), Bool.false_and, Bool.and_false, Bool.and_false]))
              have hz : cmpI p 2 < 0 := by rw [cmpI_neg]; exact hp2
              generalize cmpI p 2 = z at hz ⊢
              have hzd : decide (z < 0) = true := decide_eq_true hz
              go_wp2_with fail
              go_ret
              exact ⟨rfl, hEr⟩
            · have hz : ¬ cmpI p 2 < 0 := by rw [cmpI_neg]; exact hp2
              generalize cmpI p 2 = z at hz ⊢
              have hzd : decide (z < 0) = false := decide_eq_false hz
              replace hUV := hUV.ext hE11
              replace s2r := s2r.ext hE11
              replace b5r := b5r.ext hE11
              replace b6r := b6r.ext hE11
              replace hV1r := hV1r.ext hE11
              replace hV6r := hV6r.ext hE11
              replace hRr := hRr.ext hE11
              replace x10 := x10.ext hE11
              replace hVX := hVX.ext hE11
              replace hVp := hVp.ext hE11
              replace b12 := b12.ext hE11
              clear hE11
              have k6 := b6r.cell
              have k12 := b12.cell
              go_wp2_with fail
              clear k6 k12 hz hzd
              refine (cpower_any _ _ (N - 1) p K _ hV6r hVp hFL1 hFp' (by omega) (by omega) h0N).mono ?_
              rintro e w12 ⟨A12, l12, c12, rfl, hV12, hU12⟩
              have hE12 := hU12
              replace hEr := hEr.trans hE12
              replace hUV := hUV.ext hE12
              replace s2r := s2r.ext hE12
              replace b5r := b5r.ext hE12
              replace b6r := b6r.ext hE12
              replace hV1r := hV1r.ext hE12
              replace hV6r := hV6r.ext hE12
              replace hRr := hRr.ext hE12
              replace x10 := x10.ext hE12
              replace hVX := hVX.ext hE12
              replace hVp := hVp.ext hE12
              replace b12 := b12.ext hE12
              clear hE12 hU12
              go_wp2_with fail
              refine name_c (fun W hW => ?_)
              have hEW : Ext w12 W := by rw [hW]; exact (Upd.refl _ _).alloc _
              have b15 : Box W w12.heap.size 33 (.slice A12 l12 c12) := by rw [hW]; exact Box.new _ _ _
              obtain ⟨G15, hG15⟩ : ∃ G, G = w12.heap.size := ⟨_, rfl⟩
              have hlt15 : G12 < G15 := by rw [hG15]; exact b12.lt
              rw [← hG15] at b15 ⊢
              clear hG15 hW
              refine (zero_any _ (pwN (N - 1) p) _ (hV12.ext hEW)).mono ?_
              rintro e w13 ⟨rfl, hU13⟩
              have hE13 := hEW.trans hU13
              replace b15 := b15.ext hU13
              replace hV12 := hV12.ext hE13
              replace hEr := hEr.trans hE13
              replace hUV := hUV.ext hE13
              replace s2r := s2r.ext hE13
              replace b5r := b5r.ext hE13
              replace b6r := b6r.ext hE13
              replace hV1r := hV1r.ext hE13
              replace hV6r := hV6r.ext hE13
              replace hRr := hRr.ext hE13
              replace x10 := x10.ext hE13
              replace hVX := hVX.ext hE13
              replace hVp := hVp.ext hE13
              replace b12 := b12.ext hE13
              clear hE13 hU13 hEW
              by_cases hdv : (N - 1) % p = 0
              · have hpw : pwN (N - 1) p = vpow (N - 1) p := by unfold pwN; rw [if_pos hdv]
                have hv0 : 0 < vpow (N - 1) p := vpow_pos _ _ (by omega) h0N
                rw [hpw] at hV12 ⊢
                rw [decide_eq_false (show ¬ vpow (N - 1) p = 0 by omega)]
                have Hdv := hide hdv
                have hFv : Fit (K * 32 + 1) (vpow (N - 1) p) := Nat.lt_of_le_of_lt (vpow_le (by omega) h0N) (hFL1.mono (by omega))
                have k10 := x10.cell
                have k15 := b15.cell
                clear hdv hpw hv0
                go_wp2_with fail
                clear k10 k15
                refine (mul_any _ _ (facF N (ps.take q)) (vpow (N - 1) p) (K * 32 + 1) _ hVX hV12 HFf.out hFv (by omega)).mono ?_
                rintro e w14 ⟨A14, l14, c14, rfl, hV14, hU14⟩
                have c10 := (x10.ext hU14).cell
                have f10 := (x10.ext hU14).frozen
                have k6 := ((b6r.ext hU14).far (p := ⟨G10, 0, none⟩) (by simp; omega) (.slice A14 l14 c14)).cell
                have k12 := ((b12.ext hU14).far (p := ⟨G10, 0, none⟩) (by simp; omega) (.slice A14 l14 c14)).cell
                go_wp2_with fail
                clear k6 k12
                refine name_c (fun S hS => ?_)
                have y2 : Three S w.heap.size 37 (.slice A lA cA) (.slice B lB cB) (.slice (some ⟨b1, o1, none⟩) n cC) := by rw [hS]; exact (s2r.ext hU14).far (p := ⟨G10, 0, none⟩) (by simp; omega) _
                have y5 : Box S G5 33 (.slice A1 l1 c1) := by rw [hS]; exact (b5r.ext hU14).far (p := ⟨G10, 0, none⟩) (by simp; omega) _
                have y6 : Box S G6 33 (.slice A6 l6 c6) := by rw [hS]; exact (b6r.ext hU14).far (p := ⟨G10, 0, none⟩) (by simp; omega) _
                have y10 : Box S G10 33 (.slice A14 l14 c14) := by rw [hS]; exact (x10.ext hU14).set _
                have y12 : Box S G12 33 (.slice P lP cP) := by rw [hS]; exact (b12.ext hU14).far (p := ⟨G10, 0, none⟩) (by simp; omega) _
                have hV1s : NatV S (.agg #[.slice A1 l1 c1]) 1 := by rw [hS]; exact (hV1r.ext hU14).far c10
                have hV6s : NatV S (.agg #[.slice A6 l6 c6]) (N - 1) := by rw [hS]; exact (hV6r.ext hU14).far c10
                have hVps : NatV S (.agg #[.slice P lP cP]) p := by rw [hS]; exact (hVp.ext hU14).far c10
                have hV14s : NatV S (.agg #[.slice A14 l14 c14]) (facF N (ps.take q) * vpow (N - 1) p) := by rw [hS]; exact hV14.far c10
                have hRs : RingV S g8 N := by
                  obtain ⟨D', ld', cd', g2, hVn, hn2⟩ := hRr.ext hU14
                  exact ⟨D', ld', cd', by rw [hS]; exact g2.far (p := ⟨G10, 0, none⟩) (by simp; omega) _, by rw [hS]; exact hVn.far c10, hn2⟩
                have hUs : Upd (only G10) Z2 S := by rw [hS]; exact (hUV.ext hU14).setCell (p := ⟨G10, 0, none⟩) (.inl rfl) _
                have hEs : Ext w S := by rw [hS]; exact (hEr.trans hU14).setCell (p := ⟨G10, 0, none⟩) (.inr (by simp; omega)) _
                clear hS c10 f10 s2r b5r b6r x10 b12 b15 hV1r hV6r hVp hV14 hRr hUV hEr hVX hV12 hU14
                refine (div_any _ _ (N - 1) p K _ hV6s hVps hFL1 hFp' (by omega) (by omega)).mono ?_
                rintro e w15 ⟨A16, l16, c16, A17, l17, c17, rfl, hV16, -, hU15⟩
                go_wp2_with fail
                refine name_w (fun V hV => ?_)
                have hEV : Ext S V := by rw [hV]; exact (hU15.alloc _).alloc _
                have v16 : Box V w15.heap.size 33 (.slice A16 l16 c16) := by rw [hV]; exact (Box.new _ _ _).alloc _
                have hV16' : NatV V (.agg #[.slice A16 l16 c16]) ((N - 1) / p) := by rw [hV]; exact hV16.ext (((Upd.refl _ _).alloc _).alloc _)
                have z2 := y2.ext hEV
                have z5 := y5.ext hEV
                have k1 := fun z : Wd (Ext V.drew) => (z.ok.cell (p := ⟨w.heap.size, 1, none⟩) z2.drew.lt (fun h => h)).trans z2.drew.cell1
                have k0 := fun z : Wd (Ext V.drew) => (z.ok.cell (p := ⟨w.heap.size, 0, none⟩) z2.drew.lt (fun h => h)).trans z2.drew.cell0
                have k5 := fun z : Wd (Ext V.drew) => (z.ok.cell (p := ⟨G5, 0, none⟩) z5.drew.lt (fun h => h)).trans z5.drew.cell
                have k16 := fun z : Wd (Ext V.drew) => (z.ok.cell (p := ⟨w15.heap.size, 0, none⟩) v16.drew.lt (fun h => h)).trans v16.drew.cell
                have hEs2 : Ext w V := hEs.trans hEV
                have hFm : ∀ x, Fit K (x % N) := fun x => hFN.le (Nat.le_of_lt (Nat.mod_lt _ (by omega)))
                have hFt : Fit K ((N - 1) / p) := hFL1.le (Nat.div_le_self _ _)
                clear hV hV16
                go_wp2_with fail
                refine wp_region_plan (Ext _) 13 [(false,0), (false,1), (false,2), (false,3), (false,4), (false,6), (false,8), (false,9), (false,11), (true,5), (true,7), (true,10), (true,12)] (by kernel_rfl) (by kernel_rfl) (Upd.refl _ _) (fun hne => ?_)
                repeat (refine head_q rfl (fun K hK => ?_); have hK2 := hide hK; clear hK; go_simp; refine hK2.out _ ?_; clear hK2 K)
                refine head_l rfl ?_
                go_wp2_with (refine (mexp_any _ _ g8 b ((N - 1) / p) N K K _ ((hRs.ext hEV).ext (Upd.refl _ _).drew) (HVb.out.ext hEs2.drew) (hV16'.ext (Upd.refl _ _).drew) hFb hFN hFt (by omega) (by omega)).mono ?_; rintro e w16 ⟨A18, l18, c18, rfl, hV18, hU16⟩)
                refine ⟨Cls (Ext _), fun _ h => h, ⟨⟨_, hU16⟩, rfl⟩, ?_⟩
                repeat (refine head_q rfl (fun K hK => ?_); have hK2 := hide hK; clear hK; go_simp; refine hK2.out _ ?_; clear hK2 K)
                have hE16 : Ext V w16 := hU16.undrew
                refine head_l rfl ?_
                go_wp2_with (refine (msub_any _ _ g8 (b ^ ((N - 1) / p) % N) 1 N K _ ((hRs.ext hEV).ext hE16) hV18 ((hV1s.ext hEV).ext hE16) (hFm _) hF1 hFN (by omega)).mono ?_; rintro e w17 ⟨A19, l19, c19, rfl, hV19, hU17⟩)
                refine ⟨Cls (Ext _), fun _ h => h, ⟨⟨_, (hU16.trans hU17)⟩, rfl⟩, ?_⟩
                repeat (refine head_q rfl (fun K hK => ?_); have hK2 := hide hK; clear hK; go_simp; refine hK2.out _ ?_; clear hK2 K)
                have hE17 : Ext V w17 := (hU16.trans hU17).undrew
                refine head_l rfl ?_
                go_wp2_with (refine (gcd_any _ _ (subm (b ^ ((N - 1) / p) % N) 1 N) N K _ hV19 (HVN.out.ext (hEs2.trans hE17)) (hFm _) hFN (by omega)).mono ?_; rintro e w18 ⟨A20, l20, c20, rfl, hV20, hU18⟩)
                refine ⟨Cls (Ext _), fun _ h => h, ⟨⟨_, ((hU16.trans hU17).trans hU18)⟩, rfl⟩, ?_⟩
                repeat (refine head_q rfl (fun K hK => ?_); have hK2 := hide hK; clear hK; go_simp; refine hK2.out _ ?_; clear hK2 K)
                have hE18 : Ext V w18 := ((hU16.trans hU17).trans hU18).undrew
                have hFg : Fit K (Nat.gcd (subm (b ^ ((N - 1) / p) % N) 1 N) N) := hFN.le (Nat.le_of_dvd (by omega) (Nat.gcd_dvd_right _ _))
                refine head_l rfl ?_
                go_wp2_with (refine (cmp_any _ _ (Nat.gcd (subm (b ^ ((N - 1) / p) % N) 1 N) N) 1 K _ hV20 ((hV1s.ext hEV).ext hE18) hFg hF1 (by omega)).mono ?_; rintro e w19 ⟨rfl, hU19⟩)
                refine ⟨Cls (Ext _), fun _ h => h, ⟨⟨_, (((hU16.trans hU17).trans hU18).trans hU19)⟩, rfl⟩, ?_⟩
                repeat (refine head_q rfl (fun K hK => ?_); have hK2 := hide hK; clear hK; go_simp; refine hK2.out _ ?_; clear hK2 K)
                have hE19 : Ext S w19 := hEV.trans ((((hU16.trans hU17).trans hU18).trans hU19).undrew)
                clear k0 k1 k5 k16 hE16 hE17 hE18 hU16 hU17 hU18 hU19 hV18 hV19 hV20 hEV hV16' hEs2 z2 z5 v16 hU15
                refine head_nil ?_
                try simp only [List.drop_succ_cons, List.drop_zero]
                obtain ⟨gd, hgd⟩ : ∃ gd, gd = Nat.gcd (subm (b ^ ((N - 1) / p) % N) 1 N) N := ⟨_, rfl⟩
                rw [← hgd]
                have Hgd := hide hgd
                clear hgd hFg
                by_cases hg1 : gd = 1
                · rw [cmpI_zero.2 hg1]
                  have hokq : okP N b ps bs q = true := by
                    unfold okP
                    rw [← Hp.out, Hno.out, ← Hkb.out, decide_eq_true (show 2 ≤ p by omega), decide_eq_true Hdv.out, decide_eq_true (show Nat.gcd (subm (b ^ ((N - 1) / p) % N) 1 N) N = 1 by rw [← Hgd.out]; exact hg1)]
                    rfl
                  have hVn : NatV w19 (.agg #[.slice A14 l14 c14]) (facF N (ps.take (q + 1))) := (hV14s.ext hE19).of_eq (by rw [facF_take (by rw [Hn.out]; exact hlt), ← Hp.out])
                  have HVn := hide hVn
                  have Hokq := hide hokq
                  have y10' := y10.ext hE19
                  have hUs' := hUs.ext hE19
                  clear hokq hVn hg1 hV14s y10 hUs hEs
                  go_wp2_with fail
                  go_roundw
                  case rel =>
                    refine ⟨q + 1, _, _, _, by omega, by go_num, fun r hr => ?_, y10', HVn.out, hUs'⟩
                    rcases Nat.lt_or_ge r q with h | h
                    · exact Hok.out r h
                    · obtain rfl : r = q := by omega
                      exact Hokq.out
                  case measure => simp [intOf]; omega
                · have hz : ¬ cmpI gd 1 = 0 := fun h => hg1 (cmpI_zero.1 h)
                  generalize cmpI gd 1 = z at hz ⊢
                  have hz2 : (z != 0) = true := by simp [hz]
                  obtain rfl : t = false := Ht.out.trans (holds_no4 (i := q) (by rw [Hn.out]; exact hlt) (by
                    unfold okP
                    rw [← Hp.out, decide_eq_false (show ¬ Nat.gcd (subm (b ^ ((N - 1) / p) % N) 1 N) N = 1 by rw [← Hgd.out]; exact hg1), Bool.and_false, Bool.and_false, Bool.and_false, Bool.and_false]))
                  clear hg1
                  go_wp2_with fail
                  go_ret
                  exact ⟨rfl, hEs.trans hE19⟩
              · have hpw : pwN (N - 1) p = 0 := by unfold pwN; rw [if_neg hdv]
                rw [hpw]
                obtain rfl : t = false := Ht.out.trans (holds_no4 (i := q) (by rw [Hn.out]; exact hlt) (by
                  unfold okP
                  rw [← Hp.out, decide_eq_false hdv, Bool.false_and, Bool.and_false, Bool.and_false, Bool.and_false]))
                clear hpw hdv
                go_wp2_with fail
                go_ret
                exact ⟨rfl, hEr⟩
    · obtain rfl : j = n := by omega
      have hltI : ¬ (j : Int) < (j : Int) := by omega
      have htk : ps.take j = ps := List.take_of_length_le (by rw [Hn.out]; omega)
      rw [htk] at hVX HFf
      obtain ⟨F, hF⟩ : ∃ F, F = facF N ps := ⟨_, rfl⟩
      rw [← hF] at hVX HFf
      have HF := hide hF
      have hFFF : Fit ((K * 32 + 1) + (K * 32 + 1)) (F * F) := by
        have h := HFf.out
        unfold Fit at h ⊢
        rw [Nat.pow_add]
        exact Nat.mul_lt_mul'' h h
      have k10 := fun z : Wd (Ext wr.drew) => (z.ok.cell (p := ⟨G10, 0, none⟩) x10.drew.lt (fun h => h)).trans x10.drew.cell
      have k0 := fun z : Wd (Ext wr.drew) => (z.ok.cell (p := ⟨w.heap.size, 0, none⟩) s2r.drew.lt (fun h => h)).trans s2r.drew.cell0
      clear htk hF
      go_wp2_with fail
      refine wp_region_plan (Ext _) 7 [(false,0), (false,1), (false,3), (false,4), (true,2), (true,5), (false,6)] (by kernel_rfl) (by kernel_rfl) (Upd.refl _ _) (fun hne => ?_)
      repeat (refine head_q rfl (fun K hK => ?_); have hK2 := hide hK; clear hK; go_simp; refine hK2.out _ ?_; clear hK2 K)
      refine head_l rfl ?_
      go_wp2_with (refine (mul_any _ _ F F (K * 32 + 1) _ (hVX.ext (Upd.refl _ _).drew) (hVX.ext (Upd.refl _ _).drew) HFf.out HFf.out (by omega)).mono ?_; rintro e w20 ⟨A21, l21, c21, rfl, hV21, hU20⟩)
      refine ⟨Cls (Ext _), fun _ h => h, ⟨⟨_, hU20⟩, rfl⟩, ?_⟩
      repeat (refine head_q rfl (fun K hK => ?_); have hK2 := hide hK; clear hK; go_simp; refine hK2.out _ ?_; clear hK2 K)
      refine head_l rfl ?_
      go_wp2_with (refine (cmp_any _ _ (F * F) N ((K * 32 + 1) + (K * 32 + 1)) _ hV21 (HVN.out.ext (hEr.trans hU20.undrew)) hFFF (hFN.mono (by omega)) (by omega)).mono ?_; rintro e w21 ⟨rfl, hU21⟩)
      refine ⟨Cls (Ext _), fun _ h => h, ⟨⟨_, (hU20.trans hU21)⟩, rfl⟩, ?_⟩
      repeat (refine head_q rfl (fun K hK => ?_); have hK2 := hide hK; clear hK; go_simp; refine hK2.out _ ?_; clear hK2 K)
      have hE21 : Ext wr w21 := (hU20.trans hU21).undrew
      clear k10 k0 hU20 hU21 hV21
      refine head_nil ?_
      try simp only [List.drop_succ_cons, List.drop_zero]
      have hres : t = decide (N < F * F) := Ht.out.trans (by rw [holds_yes (by omega) (by rw [Hn.out]; omega) H3.out (fun i hi => Hok.out i (by rw [← Hn.out]; exact hi)), HF.out])
      by_cases hlt2 : N < F * F
      · obtain rfl : t = true := hres.trans (decide_eq_true hlt2)
        have hz : (0 : Int) < cmpI (F * F) N := by
          unfold cmpI
          rw [if_neg (by omega), if_neg (by omega)]
          omega
        generalize cmpI (F * F) N = z at hz ⊢
        have hzd : decide ((0 : Int) < z) = true := decide_eq_true hz
        clear hres hlt2
        try rw [hzd]
        go_wp2_with fail
        go_ret
        exact ⟨rfl, hEr.trans hE21⟩
      · obtain rfl : t = false := hres.trans (decide_eq_false hlt2)
        have hz : ¬ (0 : Int) < cmpI (F * F) N := by
          unfold cmpI
          by_cases h1 : F * F < N
          · rw [if_pos h1]; omega
          · rw [if_neg h1, if_pos (by omega)]; omega
        generalize cmpI (F * F) N = z at hz ⊢
        have hzd : decide ((0 : Int) < z) = false := decide_eq_false hz
        clear hres hlt2
        try rw [hzd]
        go_wp2_with fail
        go_ret
        exact ⟨rfl, hEr.trans hE21⟩
end Go.Proofs.Ytoekbomfepedcaa
