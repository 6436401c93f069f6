/- A number divided by one word, walked: small. -/
import Derived.Test.YtekpjdfgpggcnaaNatI
import Derived.Test.YtekpjdfgpggcnaaNatU
import Derived.Test.YtekpjdfgpggcnaaPlanIn
namespace Go.Proofs.Ytekpjdfgpggcnaa
set_option linter.unusedSimpArgs false
set_option linter.unusedVariables false
open Go.RowKit Go.Shelf
open Nt
attribute [local go_sem] Oper.semAt_some by32 wrap_w32 steady steadyUpon Cls same_cell

theorem own_kept {W W' : World} {row : Option Nat} {B : Nat} {e : TypeId} {g c : Nat} {xs : List Value} (h : _root_.Go.Proofs.Ytekpjdfgpggcnaa.Own W B e (some ⟨g, 0, none⟩) c xs) (hg : W.grownBy W' row) (hr : ∀ r, row = some r → ∃ o : Obj, W.heap[r]? = some o ∧ o.isCells = false) : _root_.Go.Proofs.Ytekpjdfgpggcnaa.Own W' B e (some ⟨g, 0, none⟩) c xs := by
  have hU : Upd (fun k => row = some k) W W' := ⟨hg.os, hg.tape, hg.output, hg.size, fun k hk hn => hg.block k hk (fun e => hn e.symm)⟩
  refine h.upd hU (fun k hk hrow => ?_)
  obtain ⟨o, ho, hc⟩ := hr k hrow
  rcases h.2 with ⟨h0, _⟩ | ⟨g', cap, cur, hv, hb, hgg, _⟩
  · simp at h0
  · injection hv with hA
    injection hA with hA
    injection hA with hA
    subst hA
    simp [inA] at hk
    subst hk
    rw [hgg] at ho
    injection ho with ho
    subst ho
    simp [Obj.isCells] at hc
theorem box_kept {W W' : World} {row : Option Nat} {g : Nat} {t : TypeId} {v : Value} (h : Box W g t v) (hg : W.grownBy W' row) (hr : ∀ r, row = some r → ∃ o : Obj, W.heap[r]? = some o ∧ o.isCells = false) : Box W' g t v := by
  refine (hg.block g h.lt (fun e => ?_)).trans h
  obtain ⟨o, ho, hc⟩ := hr g e.symm
  unfold Box at h
  rw [h] at ho
  injection ho with ho
  subst ho
  simp [Obj.isCells] at hc

theorem NatV.kept {W W' : World} {row : Option Nat} {v : Value} {n : Nat} (h : NatV W v n) (hg : W.grownBy W' row) (hr : ∀ r, row = some r → ∃ o : Obj, W.heap[r]? = some o ∧ o.isCells = false) : NatV W' v n := by
  obtain ⟨s, h0, A, c, xs, h1, h2, h3, h4, h5⟩ := h
  exact ⟨s, h0, A, c, xs, h1, h2, h3, (fun i hi => by obtain ⟨b, o, e, hc⟩ := h4 i hi; exact ⟨b, o, e, cell_kept hc hg hr⟩), h5⟩
/-- what the rounds of small keep -/
structure Sm (la d : Nat) (xs : List (BitVec 32)) (H G : Nat) (pre : List (Ix la)) (W : World) : Prop where
  ex : ∃ (zs : List (BitVec 32)) (r : Nat), zs.length = la ∧ r < d ∧ _root_.Go.Proofs.Ytekpjdfgpggcnaa.Own W (H + 1 + 1 + 1 + 1) 75 (some ⟨H + 1 + 1 + 1 + 1, 0, none⟩) la (zs.map by32) ∧ Box W (G + 1) 52 (.int .u64 (r : Int)) ∧
    (Bk pre.length pre → numOf W32 d32 xs = vf W32 (dig d32 zs) la * d + r * W32 ^ (la - pre.length) + vf W32 (dig d32 xs) (la - pre.length) ∧ ∀ i, i < la - pre.length → dig d32 zs i = 0)
  b1 : Box W (H + 1) 75 (.int .u32 (d : Int))
  b2 : Box W (H + 1 + 1) 26 (.slice none 0 0)
  b3 : Box W (H + 1 + 1 + 1) 26 (.slice none 0 0)
  b5 : Box W G 24 (.slice (some ⟨H + 1 + 1 + 1 + 1, 0, none⟩) la la)
  sz : G + 1 + 1 < W.heap.size
theorem Sm.own {la d : Nat} {xs : List (BitVec 32)} {H G : Nat} : _root_.Go.Own (Sm la d xs H G) := fun s A B row hs hg hr => by
  obtain ⟨⟨zs, r, h1, h2, h3, h4, h5⟩, b1, b2, b3, b5, sz⟩ := hs
  exact ⟨⟨zs, r, h1, h2, own_kept h3 hg hr, box_kept h4 hg hr, h5⟩, box_kept b1 hg hr, box_kept b2 hg hr, box_kept b3 hg hr, box_kept b5 hg hr, Nat.lt_of_lt_of_le sz hg.size⟩
theorem Sm.nonext {la d : Nat} {xs : List (BitVec 32)} {H G : Nat} (_ : Nat) : _root_.Go.Own (fun (_ : List (Ix la)) (_ : World) => False) := fun _ _ _ _ hs _ _ => hs

set_option maxRecDepth 100000 in
set_option maxHeartbeats 4000000 in
theorem small_any (va : Value) (a d k : Nat) (w : World) (hVa : NatV w va a) (hFa : Fit k a) (hk : k ≤ 1000000) (hd0 : 0 < d) (hd : d < W32) :
    Calls Try.prog 58 #[va, .int .u32 (d : Int)] w fun e w' => ∃ A1 l1 c1 A2 l2 c2, e = .returned (.tuple #[.agg #[.slice A1 l1 c1], .agg #[.slice A2 l2 c2]]) ∧ NatV w' (.agg #[.slice A1 l1 c1]) (a / d) ∧ NatV w' (.agg #[.slice A2 l2 c2]) (a % d) ∧ Ext w w' := by
  obtain ⟨A, la, ca, xs, rfl, hlx, hca, hma, hSa, hTa, hna⟩ := hVa.open_
  have hla : la ≤ k := hlx ▸ Fit.len (hlx ▸ hTa) hna hFa
  have HSa := hide hSa
  have HLa := hide hlx
  have Hna := hide hna
  have Hd := hide hd
  have hdI : (d : Int) ≤ 4294967295 := by unfold W32 at hd; omega
  have hdI0 : (1 : Int) ≤ (d : Int) := by omega
  clear hTa hSa hna hlx hVa hFa hd
  refine (callsIn_wide (n := 3)).1 ?_
  refine callsIn_of_wp_marks Try.func58 rfl trivial ?_ rfl
  refine wpIn_wide.2 ?_
  simp only [Try.ntmps58, List.size_toArray, List.length_cons, List.length_nil, Nat.reduceAdd, Nat.reduceSub, Array.replicate_succ, Array.replicate_zero, List.push_toArray, List.append_toArray, List.nil_append, List.cons_append]
  go_wp2_with (first
    | (at_make; go_loud (refine wpList_mk _ _ _ Try.n_el32 rfl rfl la rfl rfl rfl rfl (by omega) (by unfold maxLen; omega) by32 rfl rfl (B := w.heap.size + 1 + 1 + 1 + 1) (by simp) ?_; intro g w2 hO hg hU; have hB0 : Box w2 w.heap.size 26 (.slice A la ca) := (by repeat (first | (with_reducible refine Box.new_at ?_; (simp; done)) | (with_reducible assumption) | (with_reducible refine Box.alloc ?_ _) | (with_reducible refine Box.drew ?_) | (with_reducible refine Box.ext ?_ (by with_reducible assumption)))); have hB1 : Box w2 (w.heap.size + 1) 75 (.int .u32 (d : Int)) := (by repeat (first | (with_reducible refine Box.new_at ?_; (simp; done)) | (with_reducible assumption) | (with_reducible refine Box.alloc ?_ _) | (with_reducible refine Box.drew ?_) | (with_reducible refine Box.ext ?_ (by with_reducible assumption)))); have hB2 : Box w2 (w.heap.size + 1 + 1) 26 (.slice none 0 0) := (by repeat (first | (with_reducible refine Box.new_at ?_; (simp; done)) | (with_reducible assumption) | (with_reducible refine Box.alloc ?_ _) | (with_reducible refine Box.drew ?_) | (with_reducible refine Box.ext ?_ (by with_reducible assumption)))); have hB3 : Box w2 (w.heap.size + 1 + 1 + 1) 26 (.slice none 0 0) := (by repeat (first | (with_reducible refine Box.new_at ?_; (simp; done)) | (with_reducible assumption) | (with_reducible refine Box.alloc ?_ _) | (with_reducible refine Box.drew ?_) | (with_reducible refine Box.ext ?_ (by with_reducible assumption)))); have hE2 : Ext w w2 := (by repeat (first | (with_reducible exact Upd.refl _ _) | (with_reducible assumption) | (refine Upd.setCell ?_ (.inr (by first | exact Nat.le_refl _ | (dsimp only; omega) | (simp; done) | (simp; omega))) _) | (with_reducible refine Upd.alloc ?_ _) | (with_reducible refine Upd.drew ?_) | (with_reducible refine Upd.trans ?_ (by with_reducible assumption)))); clear hU; have hz := (hO.in_ (k := g) (by simp [inA])).2; rw [hg] at hz; simp at hz; have hz1 : w.heap.size < w2.heap.size := (by omega); have hz2 : w.heap.size < w2.heap.size + 1 := (by omega); have c1 := hB0.cell))
    | (go_at_call 57; refine (callsIn_wide (n := 3)).1 ((back_in Fence.wide 3 trivial rfl _ _ _ _).mono ?_); rintro e w' ⟨rfl, rfl⟩))
  obtain rfl : g = w.heap.size + 1 + 1 + 1 + 1 := by rw [hg]; simp
  clear hg
  obtain ⟨G, hG⟩ : ∃ G, G = w2.heap.size := ⟨_, rfl⟩
  obtain ⟨R, hR⟩ : ∃ R : Nat → Prop, R = fun k => k = G + 1 + 1 ∨ (0 < la ∧ inA A k) := ⟨_, rfl⟩
  have hRn : ∀ i, R i → i < w.heap.size ∨ i = G + 1 + 1 := fun i hi => by
    rw [hR] at hi
    rcases hi with hi | hi
    · exact .inr hi
    · exact .inl (HSa.out.inA_lt (by rw [HLa.out]; exact hi.1) hi.2)
  obtain ⟨W0, hW0⟩ : ∃ W0, W0 = (((w2.alloc (.cells #[.slice (some ⟨w.heap.size + 1 + 1 + 1 + 1, 0, none⟩) la la] 24)).alloc (.cells #[.int .u64 0] 52)).alloc (.cells #[.slice A la ca] 24)) := ⟨_, rfl⟩
  have hz0 : W0.heap.size = G + 1 + 1 + 1 := by rw [hW0, hG]; simp
  have bT : Box W0 (G + 1 + 1) 24 (.slice A la ca) := by rw [hW0, hG]; exact (by repeat (first | (with_reducible refine Box.new_at ?_; (simp; done)) | (with_reducible assumption) | (with_reducible refine Box.alloc ?_ _) | (with_reducible refine Box.drew ?_) | (with_reducible refine Box.ext ?_ (by with_reducible assumption))))
  have b1 : Box W0 (w.heap.size + 1) 75 (.int .u32 (d : Int)) := by rw [hW0]; exact (by repeat (first | (with_reducible refine Box.new_at ?_; (simp; done)) | (with_reducible assumption) | (with_reducible refine Box.alloc ?_ _) | (with_reducible refine Box.drew ?_) | (with_reducible refine Box.ext ?_ (by with_reducible assumption))))
  have b2 : Box W0 (w.heap.size + 1 + 1) 26 (.slice none 0 0) := by rw [hW0]; exact (by repeat (first | (with_reducible refine Box.new_at ?_; (simp; done)) | (with_reducible assumption) | (with_reducible refine Box.alloc ?_ _) | (with_reducible refine Box.drew ?_) | (with_reducible refine Box.ext ?_ (by with_reducible assumption))))
  have b3 : Box W0 (w.heap.size + 1 + 1 + 1) 26 (.slice none 0 0) := by rw [hW0]; exact (by repeat (first | (with_reducible refine Box.new_at ?_; (simp; done)) | (with_reducible assumption) | (with_reducible refine Box.alloc ?_ _) | (with_reducible refine Box.drew ?_) | (with_reducible refine Box.ext ?_ (by with_reducible assumption))))
  have b5 : Box W0 G 24 (.slice (some ⟨w.heap.size + 1 + 1 + 1 + 1, 0, none⟩) la la) := by rw [hW0, hG]; exact ((Box.new _ _ _).alloc _).alloc _
  have b6 : Box W0 (G + 1) 52 (.int .u64 ((0 : Nat) : Int)) := by rw [hW0, hG]; exact Box.alloc (Box.new_at (by simp)) _
  have hE0 : Ext w W0 := by rw [hW0]; exact (by repeat (first | (with_reducible exact Upd.refl _ _) | (with_reducible assumption) | (refine Upd.setCell ?_ (.inr (by first | exact Nat.le_refl _ | (dsimp only; omega) | (simp; done) | (simp; omega))) _) | (with_reducible refine Upd.alloc ?_ _) | (with_reducible refine Upd.drew ?_) | (with_reducible refine Upd.trans ?_ (by with_reducible assumption))))
  have hEw : Ext w2 W0 := by rw [hW0]; exact (by repeat (first | (with_reducible exact Upd.refl _ _) | (with_reducible assumption) | (refine Upd.setCell ?_ (.inr (by first | exact Nat.le_refl _ | (dsimp only; omega) | (simp; done) | (simp; omega))) _) | (with_reducible refine Upd.alloc ?_ _) | (with_reducible refine Upd.drew ?_) | (with_reducible refine Upd.trans ?_ (by with_reducible assumption))))
  have hO0 := hO.ext hEw
  have hGw : w.heap.size + 1 + 1 + 1 + 1 < G := by rw [hG]; exact hz
  rw [← hW0, ← hG]
  clear hW0 hO hB0 hB1 hB2 hB3 hz hz1 hz2 c1 hG
  have HR := hide hR
  have HRn := hide hRn
  have Hz0 := hide hz0
  clear hR hRn hz0
  refine (wpIn_wide (n := 3)).1 ?_
  refine wpIn_rangeFunc_ownG rfl (by omega) (gf := 66) (lb := #[.pointer (some ⟨G + 1 + 1, 0, none⟩)]) rfl trivial (enters_of Try.func66 (by kernel_rfl) rfl)
    (back_stops Fence.wide (3 - 1) trivial rfl (by omega) (G + 1 + 1) R A la ca xs HLa.out (by omega) W0 (by rw [HR.out]; exact .inl rfl) (by rw [Hz0.out]; omega) bT.cell (HSa.out.ext hE0) (fun h0 k h => by rw [HR.out]; exact .inr ⟨h0, h⟩)) Kept.t (Kept.b (fun i hi => by have := HRn.out i hi; rw [Hz0.out]; omega)) (Below.refl _ _) (fun _ => rfl)
    (fun pre W => Sm la d xs w.heap.size G pre W ∧ Below w.heap.size w W) (fun _ _ _ => False)
    (OwnFrom.and (_root_.Go.Own.from Sm.own _) (ownFrom_below (Nat.le_refl _) (by rw [Hz0.out]; omega))) (fun _ _ _ _ _ hs _ _ => hs)
    ⟨⟨⟨_, 0, List.length_replicate, hd0, hO0, b6, fun _ => ⟨by rw [Nat.zero_mul, Nat.add_zero, show vf W32 (dig d32 (List.replicate la default)) la = 0 from vf_zeros (f0 := fun _ => 0), Nat.zero_mul, Nat.zero_add]; unfold numOf; rw [HLa.out]; rfl, fun i _ => dig_zeros _ _⟩⟩, b1, b2, b3, b5, by rw [Hz0.out]; omega⟩, hE0.below⟩
    (fun x => { tmps := #[.agg #[.slice A la ca], .int .u32 (d : Int), .pointer (some ⟨w.heap.size, 0, none⟩), .pointer (some ⟨w.heap.size + 1, 0, none⟩), .pointer (some ⟨w.heap.size + 1 + 1, 0, none⟩), .pointer (some ⟨w.heap.size + 1 + 1 + 1, 0, none⟩), .pointer (some ⟨G, 0, none⟩), .pointer (some ⟨G + 1, 0, none⟩), .int .i64 (x.1 : Int), .int .u32 (n32 (gat xs x.1)), .pointer (some ⟨w.heap.size, 0, none⟩), .slice A la ca, .int .i64 la, .slice (some ⟨w.heap.size + 1 + 1 + 1 + 1, 0, none⟩) la la, .pointer (some ⟨w.heap.size, 0, none⟩), .slice A la ca, .func (.func 66) #[] #[.pointer (some ⟨G + 1 + 1, 0, none⟩)], .int .i64 (x.1 : Int), .int .u32 (n32 (gat xs x.1)), undef, undef, undef, undef, undef, undef, undef, undef, undef, undef, undef, undef, undef, undef, undef, undef, undef, undef, undef, undef, undef], defers := [] }) ?assign ?body ?done ?stop
  case assign =>
    intro l x W K hK
    dsimp only [bkv]
    gi_wp2
    exact hK
  case stop =>
    rintro D c pre W _ _ h _
    exact h.elim
  case body =>
    rintro l pre x W ⟨⟨⟨zs, r, hzl, hrd, hO, hb6, hrel⟩, hb1, hb2, hb3, hb5, hsz⟩, hBl⟩ hpl
    have hxl := x.2
    obtain ⟨y, hy⟩ : ∃ y, y = d32 (gat xs x.1) := ⟨_, rfl⟩
    have hyb : y < W32 := by rw [hy]; exact d32_lt _
    have hn : n32 (gat xs x.1) = (y : Int) := by rw [hy]; rfl
    have e4 : bits .or .u64 ((r : Int) * 4294967296) (y : Int) = ((r * W32 + y : Nat) : Int) := or_words (by have := Hd.out; omega) hyb
    obtain ⟨T, hT⟩ : ∃ T, T = r * W32 + y := ⟨_, rfl⟩
    rw [← hT] at e4
    have hrI : (r : Int) ≤ 4294967295 := by omega
    have hyI : (y : Int) ≤ 4294967295 := by unfold W32 at hyb; omega
    have hTI : (T : Int) ≤ 18446744073709551615 := by rw [hT]; unfold W32; omega
    have c1 := hb1.cell
    have c5 := hb5.cell
    have c6 := hb6.cell
    have f6 := hb6.frozen
    have c7 := hO.row.cell (i := x.1) (by rw [hzl]; omega)
    have f7 := hO.row.frozen x.1
    have hdz : ¬ d = 0 := by omega
    have HT := hide hT
    have Hy := hide hy
    have Hyb := hide hyb
    clear hT hy hyb
    rw [hn]
    clear hn
    gi_wp2
    have hlt : ∀ g, g < G → g ≠ G + 1 := fun g h => by omega
    have hU1 : Upd (only (G + 1)) W (W.setCell ⟨G + 1, 0, none⟩ (.int .u64 (T : Int))) := (Upd.refl (only (G + 1)) W).setCell (p := ⟨G + 1, 0, none⟩) (.inl rfl) _
    have g1 := hb1.upd hU1 (fun h => by unfold only at h; omega)
    have g2 := hb2.upd hU1 (fun h => by unfold only at h; omega)
    have g3 := hb3.upd hU1 (fun h => by unfold only at h; omega)
    have g5 := hb5.upd hU1 (fun h => by unfold only at h; omega)
    have g6 := hb6.set (.int .u64 (T : Int))
    have gO := hO.upd hU1 (fun k hk h => by unfold only at h; simp [inA] at hk; omega)
    have kB : Below w.heap.size w (W.setCell ⟨G + 1, 0, none⟩ (.int .u64 (T : Int))) := hBl.setCell (p := ⟨G + 1, 0, none⟩) (by simp; omega) _
    have kO : KeepsFrom W0.heap.size W (W.setCell ⟨G + 1, 0, none⟩ (.int .u64 (T : Int))) := (KeepsOthers.setCell _ _ _).from _
    have kR : Kept R W (W.setCell ⟨G + 1, 0, none⟩ (.int .u64 (T : Int))) := Kept.setCell (p := ⟨G + 1, 0, none⟩) (fun h => by have := HRn.out _ h; simp at this; omega) _
    obtain ⟨W1, hW1⟩ : ∃ W1, W1 = W.setCell ⟨G + 1, 0, none⟩ (.int .u64 (T : Int)) := ⟨_, rfl⟩
    rw [← hW1] at g1 g2 g3 g5 g6 gO kB kO kR hU1 ⊢
    clear hW1 hb1 hb2 hb3 hb5 hb6 hO c1 c5 c6 f6 c7 f7 hBl e4
    have c1 := (g1.drew).cell
    have c5 := (g5.drew).cell
    have c6 := (g6.drew).cell
    obtain ⟨qn, hqn⟩ : ∃ qn, qn = T / d := ⟨_, rfl⟩
    obtain ⟨rn, hrn⟩ : ∃ rn, rn = T % d := ⟨_, rfl⟩
    have hTd : ((T / d : Nat) : Int) = (T : Int) / (d : Int) := rfl
    have hTd2 : ((T % d : Nat) : Int) = (T : Int) % (d : Int) := rfl
    have e1 : IntKind.u64.wrap ((d : Nat) : Int) = (d : Int) := IntWalk.u64_in _ (by omega)
    have e2 : IntKind.u64.wrap ((T : Int) / (d : Int)) = (qn : Int) := by rw [hqn, hTd]; exact IntWalk.u64_in _ ⟨Int.ediv_nonneg (by omega) (by omega), Int.le_trans (Int.ediv_le_self _ (by omega)) hTI⟩
    have x0 : (0 : Int) ≤ (x.1 : Int) := by omega
    have x1 : (x.1 : Int) < (la : Int) := by omega
    have Hqn := hide hqn
    have Hrn := hide hrn
    clear hqn hrn hTd hTd2
    refine wpIn_region_plan (Same _) 8 [(false,0), (false,1), (false,2), (false,3), (false,4), (false,5), (false,6), (false,7)] (by kernel_rfl) (by kernel_rfl) (by kernel_rfl) rfl (fun hne => ?_)
    repeat (refine head_q rfl (fun K hK => ?_); have hK2 := hide hK; clear hK; go_simp; refine hK2.out _ ?_; clear hK2 K)
    refine head_nil ?_
    try simp only [List.drop_succ_cons, List.drop_zero]
    go_wp2_with (refine wpList_store_own by32 one32 (w32 (qn : Int)) rfl rfl Try.n_sz32 rfl rfl (gO.ext (Upd.refl _ _).drew) (by rw [hzl]; exact hxl) ?_; intro W2 hO2 hU2)
    have hGW : W1.drew.grownBy W2 (some (w.heap.size + 1 + 1 + 1 + 1)) := ⟨hU2.os, hU2.tape, hU2.output, hU2.size, fun k hk hne => hU2.block k hk (fun h => hne (by rw [h]))⟩
    have k1 := g1.drew.upd hU2 (fun h => by unfold only at h; omega)
    have k2 := g2.drew.upd hU2 (fun h => by unfold only at h; omega)
    have k3 := g3.drew.upd hU2 (fun h => by unfold only at h; omega)
    have k5 := g5.drew.upd hU2 (fun h => by unfold only at h; omega)
    have k6 := g6.drew.upd hU2 (fun h => by unfold only at h; omega)
    have kB2 : Below w.heap.size w W2 := (kB.drew).grown hGW kB.size (fun k e => by injection e with e; omega)
    have kO2 : KeepsFrom W0.heap.size W W2 := kO.trans (((KeepsOthers.drew W1).from _).trans (KeepsFrom.of_grownBy hGW (fun j e => by injection e with e; rw [Hz0.out]; omega)))
    have kR2 : Kept R W W2 := kR.t (fun k hk => hU2.block k (by have h1 := HRn.out k hk; have h2 := hU1.size; have h3 := g5.lt; show k < W1.heap.size; omega) (fun h => by unfold only at h; have := HRn.out k hk; omega))
    clear g1 g2 g3 g5 g6 gO kB kO kR hU1 hU2 c1 c5 c6 e2
    have c1 := k1.cell
    have c6 := k6.cell
    have f6 := k6.frozen
    have e3 : (T : Int).tmod (d : Int) = (rn : Int) := by rw [Hrn.out]; exact IntWalk.rem_in _ _ (by omega)
    have e4 : (T : Int) % (d : Int) = (rn : Int) := by rw [Hrn.out]; rfl
    have HRd := hide hrd
    gi_wp2
    have hU3 : Upd (only (G + 1)) W2 (W2.setCell ⟨G + 1, 0, none⟩ (.int .u64 (rn : Int))) := (Upd.refl (only (G + 1)) W2).setCell (p := ⟨G + 1, 0, none⟩) (.inl rfl) _
    refine ⟨kO2.trans ((KeepsOthers.setCell _ _ _).from _), kR2.t (Kept.setCell (p := ⟨G + 1, 0, none⟩) (fun h => by have := HRn.out _ h; simp at this; omega) _), ⟨⟨zs.set x.1 (w32 (qn : Int)), rn, by rw [List.length_set]; exact hzl, by rw [Hrn.out]; exact Nat.mod_lt _ (by omega), hO2.upd hU3 (fun k hk h => by unfold only at h; simp [inA] at hk; omega), k6.set _, fun hb => ?_⟩, k1.upd hU3 (fun h => by unfold only at h; omega), k2.upd hU3 (fun h => by unfold only at h; omega), k3.upd hU3 (fun h => by unfold only at h; omega), k5.upd hU3 (fun h => by unfold only at h; omega), by have h2 := kO2.size; simp; omega⟩, kB2.setCell (p := ⟨G + 1, 0, none⟩) (by simp; omega) _⟩
    have hl1 : (pre ++ [x]).length = pre.length + 1 := by simp
    rw [hl1] at hb ⊢
    obtain ⟨j, hj, hbj, hxj⟩ := hb.last
    obtain rfl : j = pre.length := by omega
    obtain ⟨hv, hz⟩ := hrel hbj
    have hi : la - pre.length = x.1 + 1 := by omega
    rw [hi] at hv hz
    have hi2 : la - (pre.length + 1) = x.1 := by omega
    rw [hi2]
    have hqd : d32 (w32 (qn : Int)) = (r * W32 + dig d32 xs x.1) / d := by
      rw [d32_w32, Hqn.out, HT.out, Hy.out]
      exact Nat.mod_eq_of_lt (small_lt HRd.out (d32_lt _))
    refine ⟨?_, fun i hi' => by rw [dig_set (by omega), if_neg (by omega)]; exact hz i (by omega)⟩
    have := small_step (β := W32) (a := dig d32 xs) (o := dig d32 zs) (o' := dig d32 (zs.set x.1 (w32 (qn : Int)))) (n := la) (i := x.1) hxl hv (hz _ (by omega)) (by funext i; rw [dig_set (by omega), hqd])
    rw [this, Hrn.out, HT.out, Hy.out]
    rfl
  case done =>
    rintro D ys' W hD hBk ⟨⟨⟨zs, r, hzl, hrd, hO, hb6, hrel⟩, hb1, hb2, hb3, hb5, hsz⟩, hBl⟩ hK
    have hbk := hBk.length
    obtain ⟨hv, -⟩ := hrel (by rw [hbk]; exact hBk)
    rw [hbk, Nat.sub_self, Nat.pow_zero, Nat.mul_one] at hv
    have hdm := divmod_of (V := numOf W32 d32 xs) (q := vf W32 (dig d32 zs) la) (d := d) (r := r) (by rw [hv]; rfl) hrd
    have Hdm := hide hdm
    have Hzl := hide hzl
    clear hdm hv hrel hbk hzl
    go_wp2_with fail
    obtain ⟨T2, hT2⟩ : ∃ T2 : Nat → Prop, T2 = fun k => k = w.heap.size + 1 + 1 ∨ k = w.heap.size + 1 + 1 + 1 := ⟨_, rfl⟩
    have hn5 : ¬ T2 G := by rw [hT2]; omega
    have hn6 : ¬ T2 (G + 1) := by rw [hT2]; omega
    have ht2 : T2 (w.heap.size + 1 + 1) := by rw [hT2]; exact .inl rfl
    have ht3 : T2 (w.heap.size + 1 + 1 + 1) := by rw [hT2]; exact .inr rfl
    clear hT2
    have c5 := fun x : Wd (Upd T2 W.drew) => (x.ok.cell (p := ⟨G, 0, none⟩) hb5.lt hn5).trans hb5.cell
    have c6 := fun x : Wd (Upd T2 W.drew) => (x.ok.cell (p := ⟨G + 1, 0, none⟩) hb6.lt hn6).trans hb6.cell
    have hr64 : r < 18446744073709551616 := by have := Hd.out; unfold W32 at this; omega
    have HO := hide hO
    have Hr64 := hide hr64
    clear hO hr64
    refine wp_region_plan (Upd T2 _) 5 [(false,0), (false,2), (true,1), (true,3), (true,4)] (by kernel_rfl) (by kernel_rfl) (Upd.refl _ _) (fun hne => ?_)
    repeat (refine head_q rfl (fun K hK => ?_); have hK2 := hide hK; clear hK; go_simp; refine hK2.out _ ?_; clear hK2 K)
    clear c5 c6
    refine head_l rfl ?_
    go_wp2_with fail
    refine (trim_any _ la la zs _ Hzl.out (Nat.le_refl _) (by unfold maxLen; omega) (HO.out.ext (Upd.refl _ _).drew).sl).mono ?_
    rintro e W5 ⟨A5, l5, c5, rfl, hV5, hU5⟩
    go_wp2_with fail
    refine ⟨Cls (Upd T2 W.drew), fun _ h => h, ⟨⟨_, Upd.ofExt hU5⟩, rfl⟩, ?_⟩
    refine head_l rfl ?_
    go_wp2_with fail
    refine (new_any r _ Hr64.out).mono ?_
    rintro e W6 ⟨A6, l6, c6, rfl, hV6, hU6⟩
    go_wp2_with fail
    have hV5' := hV5.ext hU6
    have hE6 : Ext W W6 := hU5.undrew.trans hU6
    have m2 := hb2.ext hE6
    have m3 := hb3.ext hE6
    refine ⟨Cls (Upd T2 W.drew), fun _ h => h, ⟨⟨_, Upd.ofExt (hU5.trans hU6)⟩, rfl⟩, ?_⟩
    refine head_l rfl ?_
    have cm2 := m2.cell
    have fm2 := m2.frozen
    go_wp2_with fail
    refine ⟨Cls (Upd T2 W.drew), fun _ h => h, ⟨⟨_, (Upd.ofExt (hU5.trans hU6)).setCell (.inl ht2) _⟩, rfl⟩, ?_⟩
    refine head_nil ?_
    try simp only [List.drop_succ_cons, List.drop_zero]
    have n3 := m3.far (p := ⟨w.heap.size + 1 + 1, 0, none⟩) (by simp) (.slice A5 l5 c5)
    have cm3 := n3.cell
    have fm3 := n3.frozen
    go_wp2
    have hK6 : W6.heap[D]? = some (.deferred (some [])) := (hE6.block D (Array.getElem?_eq_some_iff.1 hK).1 (fun h => h)).trans hK
    have hK7 := (KeepsOthers.setCell (W6.setCell ⟨w.heap.size + 1 + 1, 0, none⟩ (.slice A5 l5 c5)) ⟨w.heap.size + 1 + 1 + 1, 0, none⟩ (.slice A6 l6 c6)).same D _ ((KeepsOthers.setCell W6 ⟨w.heap.size + 1 + 1, 0, none⟩ (.slice A5 l5 c5)).same D _ hK6 rfl) rfl
    have p2 : Box ((W6.setCell ⟨w.heap.size + 1 + 1, 0, none⟩ (.slice A5 l5 c5)).setCell ⟨w.heap.size + 1 + 1 + 1, 0, none⟩ (.slice A6 l6 c6)) (w.heap.size + 1 + 1) 26 (.slice A5 l5 c5) := (m2.set (.slice A5 l5 c5)).far (p := ⟨w.heap.size + 1 + 1 + 1, 0, none⟩) (by simp) _
    have p3 := n3.set (.slice A6 l6 c6)
    have v5 := (hV5'.far (v := .slice A5 l5 c5) cm2).far (v := .slice A6 l6 c6) cm3
    have v6 := (hV6.far (v := .slice A5 l5 c5) cm2).far (v := .slice A6 l6 c6) cm3
    have hE7 : Ext w ((W6.setCell ⟨w.heap.size + 1 + 1, 0, none⟩ (.slice A5 l5 c5)).setCell ⟨w.heap.size + 1 + 1 + 1, 0, none⟩ (.slice A6 l6 c6)) := (((ext_of_below hBl).trans hE6).setCell (p := ⟨w.heap.size + 1 + 1, 0, none⟩) (.inr (by simp; omega)) _).setCell (p := ⟨w.heap.size + 1 + 1 + 1, 0, none⟩) (.inr (by simp; omega)) _
    refine ⟨by simp, .inl ⟨_, _, rfl, run_takeDeferred hK7, ?_⟩⟩
    have hgr := grownBy_putObj' ((W6.setCell ⟨w.heap.size + 1 + 1, 0, none⟩ (.slice A5 l5 c5)).setCell ⟨w.heap.size + 1 + 1 + 1, 0, none⟩ (.slice A6 l6 c6)) D (.deferred none)
    have hrow : ∀ r, some D = some r → ∃ o : Obj, ((W6.setCell ⟨w.heap.size + 1 + 1, 0, none⟩ (.slice A5 l5 c5)).setCell ⟨w.heap.size + 1 + 1 + 1, 0, none⟩ (.slice A6 l6 c6)).heap[r]? = some o ∧ o.isCells = false := fun r e => by cases e; exact ⟨_, hK7, rfl⟩
    have q2 := (box_kept p2 hgr hrow).cell
    have q3 := (box_kept p3 hgr hrow).cell
    exact ⟨.tuple #[.agg #[.slice A5 l5 c5], .agg #[.slice A6 l6 c6]], by simp [results, Try.f58, go_sem, q2, q3], A5, l5, c5, A6, l6, c6, rfl, (v5.kept hgr hrow).of_eq (by rw [← Hna.out, Hdm.out.1]; unfold numOf; rw [Hzl.out]), (v6.kept hgr hrow).of_eq (by rw [← Hna.out, Hdm.out.2]), hE7.grown hgr (fun k e => by injection e with e; rw [Hz0.out] at hD; exact .inr (by omega))⟩
end Go.Proofs.Ytekpjdfgpggcnaa
