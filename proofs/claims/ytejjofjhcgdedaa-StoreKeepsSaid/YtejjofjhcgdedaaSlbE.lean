/- A slab, walked: Ink. -/
import Derived.Test.YtejjofjhcgdedaaSlbD
namespace Go.Proofs.Ytejjofjhcgdedaa
set_option linter.unusedSimpArgs false
set_option linter.unusedVariables false
open Go.RowKit
open Sha
attribute [local go_sem] steady steadyUpon Cls same_cell anyW
attribute [local irreducible] wpHead wpTree wpHeadR
def not8 : Value → Bool
  | .int .u8 _ => false
  | _ => true
theorem sl8_blk {w : World} {g : Nat} {t : TypeId} {cs : Array Value} {A : Option Addr} {xs : List B8} (h : Blk w g t cs) (hn : ∀ v ∈ cs.toList, not8 v = true) (hs : Sl by8 w A xs) (h0 : 0 < xs.length) : ¬ inA A g := fun hg => by
  obtain ⟨b, o, rfl, -, hc⟩ := hs.open_ h0
  simp [inA] at hg
  subst hg
  have hc0 := hc 0 h0
  unfold Blk at h
  simp only [World.cell?, h] at hc0
  have hm := Array.mem_of_getElem? (show cs[o + 0]? = some (by8 (gat xs 0)) by simpa using hc0)
  have := hn _ (by simpa using hm)
  simp [by8, not8] at this
theorem slcs_not8 (gl n : Nat) (x : Slv) : ∀ v ∈ (slcs gl n x).toList, not8 v = true := fun v hv => by
  unfold slcs at hv
  simp at hv
  rcases hv with rfl | rfl | rfl | rfl <;> rfl
def Slv.inkE (x : Slv) (n : Int) (l : Nat) : Int := if x.look n = 0 then (if l = 64 then 0 else 3) else x.look n
def Slv.inked (x : Slv) (n : Int) (bs : List B8) : Slv :=
  if x.inkE n bs.length = 0 then ⟨x.secs.set n.toNat ((gat x.secs n.toNat).1, some bs), x.stroke.endless, x.stroke.supply, x.stroke.strokes⟩ else x
theorem gat_setp {α : Type} [Inhabited α] (l : List α) (i j : Nat) (v : α) (h : i < l.length) : gat (l.set j v) i = if j = i then v else gat l i := by
  rw [gat_lt (by simpa using h), List.getElem_set]
  split
  · rfl
  · rw [gat_lt h]
/-- a sector is inked: one cell is stored -/
theorem Slb.ink1 {w w' : World} {B : Nat} {D : Nat → Prop} {g gl : Nat} {f : Nat → Value} {x : Slv} (h : Slb w B D g gl f x) {i : Nat} (hi : i < x.secs.length) {b c : Nat} {bs : List B8} (hl : bs.length = 64) (hc : 64 ≤ c) (hm : c ≤ maxLen) (hb : B ≤ b) (hbl : b < w.heap.size) (hbg : b ≠ g) (hbgl : b ≠ gl) (hS : Sl by8 w (some ⟨b, 0, none⟩) bs)
    (hw : w' = w.setCell ⟨gl, 2 * i + 1, none⟩ (.slice (some ⟨b, 0, none⟩) 64 c)) :
    Slb w' B (fun k => D k ∨ k = b) g gl (put1 f (2 * i + 1) (.slice (some ⟨b, 0, none⟩) 64 c)) ⟨x.secs.set i ((gat x.secs i).1, some bs), x.endless, x.supply, x.strokes⟩ ∧ Upd (only gl) w w' := by
  subst hw
  have hU : Upd (only gl) w (w.setCell ⟨gl, 2 * i + 1, none⟩ (.slice (some ⟨b, 0, none⟩) 64 c)) := (Upd.refl _ _).setCell (T := only gl) (p := ⟨gl, 2 * i + 1, none⟩) (.inl rfl) _
  have nD : ∀ k, D k → ¬ only gl k := fun k hk e => (h.data k hk).2.2.2 e
  refine ⟨⟨?_, ?_, fun j hj => ?_, fun j hj => ?_, fun k hk => ?_, h.lg, h.lgl, h.ne, by simpa using h.len⟩, hU⟩
  · have := h.cells.upd hU (fun e => h.ne e)
    simpa [slcs] using this
  · simpa using h.rows.set (2 * i + 1) (.slice (some ⟨b, 0, none⟩) 64 c)
  · rw [List.length_set] at hj
    have e1 : put1 f (2 * i + 1) (.slice (some ⟨b, 0, none⟩) 64 c) (2 * j) = f (2 * j) := by unfold put1; rw [if_neg (by omega)]
    have e2 : (gat (x.secs.set i ((gat x.secs i).1, some bs)) j).1 = (gat x.secs j).1 := by
      rw [gat_setp _ _ _ _ hj]
      split
      · rename_i h; rw [h]
      · rfl
    dsimp only
    rw [e1, e2]
    exact ((h.burnt j hj).keep hU nD).more (fun k hk => .inl hk)
  · rw [List.length_set] at hj
    dsimp only
    rw [gat_setp _ _ _ _ hj]
    by_cases hij : i = j
    · rw [if_pos hij]
      subst hij
      have e1 : put1 f (2 * i + 1) (.slice (some ⟨b, 0, none⟩) 64 c) (2 * i + 1) = .slice (some ⟨b, 0, none⟩) 64 c := by unfold put1; rw [if_pos rfl]
      rw [e1]
      exact ⟨b, c, rfl, hl, hc, hm, .inr rfl, hS.upd hU (fun b' o e h => by injection e with e; injection e with e _; exact hbgl (e.trans h))⟩
    · have e1 : put1 f (2 * i + 1) (.slice (some ⟨b, 0, none⟩) 64 c) (2 * j + 1) = f (2 * j + 1) := by unfold put1; rw [if_neg (by omega)]
      rw [if_neg hij, e1]
      exact ((h.ink j hj).keep hU nD).more (fun k hk => .inl hk)
  · rcases hk with hk | rfl
    · exact ⟨(h.data k hk).1, Nat.lt_of_lt_of_le (h.data k hk).2.1 hU.size, (h.data k hk).2.2⟩
    · exact ⟨hb, Nat.lt_of_lt_of_le hbl hU.size, hbg, hbgl⟩
theorem Slb.stroke_same {x : Slv} (n : Nat) (v : Option (List B8) × Option (List B8)) : (⟨x.stroke.secs.set n v, x.stroke.endless, x.stroke.supply, x.stroke.strokes⟩ : Slv) = ⟨x.secs.set n v, x.stroke.endless, x.stroke.supply, x.stroke.strokes⟩ := by rw [Slv.stroke_secs]
def RetInk (w : World) (B : Nat) (D : Nat → Prop) (g gl : Nat) (er : Int) (y : Slv) (e : Ending) (w' : World) : Prop :=
  e = .returned (.int .i64 er) ∧ ∃ (D' : Nat → Prop) (f' : Nat → Value), Slb w' B D' g gl f' y ∧ Upd (fun k => k = g ∨ k = gl) w w' ∧ ∀ k, D' k → D k ∨ w.heap.size ≤ k
set_option maxRecDepth 100000 in
set_option maxHeartbeats 2000000 in
theorem sink_any (B : Nat) (D : Nat → Prop) (g gl : Nat) (f : Nat → Value) (x : Slv) (n : Int) (A : Option Addr) (l c : Nat) (bs : List B8) (w : World) (h : Slb w B D g gl f x) (hx : x.fit 1000000) (hS : Sl by8 w A bs) (hl : bs.length = l) (hlm : l ≤ 100000000) (hB : B ≤ w.heap.size) :
    Calls Try.prog 11 #[.pointer (some ⟨g, 0, none⟩), .int .i64 n, .slice A l c] w (RetInk w B D g gl (x.inkE n l) (x.inked n bs)) := by
  have H := hide h
  have HS := hide hS
  have Hl := hide hl
  have Hx := hide hx
  clear h hS hl hx
  go_enter Try.func11, Try.ntmps11
  go_wp2_with fail
  refine (slook_any B D g gl f x n w H.out).mono ?_
  rintro e w1 ⟨rfl, rfl⟩
  obtain ⟨r, hr⟩ : ∃ r, r = x.look n := ⟨_, rfl⟩
  rw [← hr]
  have Hr := hide hr
  clear hr
  by_cases h0 : r = 0
  case neg =>
    have hE : x.inkE n l = r := by unfold Slv.inkE; rw [← Hr.out, if_neg h0]
    have hI : x.inked n bs = x := by unfold Slv.inked; rw [Hl.out, hE, if_neg h0]
    have h0b : (r == 0) = false := beq_eq_false_iff_ne.2 h0
    have HE := hide hE
    have HI := hide hI
    clear hE hI
    go_wp2_with fail
    go_ret
    exact ⟨by rw [HE.out]; rfl, D, f, by rw [HI.out]; exact H.out, Upd.refl _ _, fun k hk => .inl hk⟩
  by_cases h64 : l = 64
  case neg =>
    have hE : x.inkE n l = 3 := by unfold Slv.inkE; rw [← Hr.out, if_pos h0, if_neg h64]
    have hI : x.inked n bs = x := by unfold Slv.inked; rw [Hl.out, hE, if_neg (by omega)]
    have h0b : ((l : Int) == 64) = false := beq_eq_false_iff_ne.2 (by omega)
    have h0n : ¬ (l : Int) = 64 := by omega
    have HE := hide hE
    have HI := hide hI
    subst h0
    clear hE hI
    go_wp2_with fail
    go_ret
    exact ⟨by rw [HE.out]; rfl, D, f, by rw [HI.out]; exact H.out, Upd.refl _ _, fun k hk => .inl hk⟩
  subst h64
  subst h0
  have hlk : x.look n = 0 := Hr.out.symm
  have hnn : 0 ≤ n ∧ n < (x.secs.length : Int) := by
    unfold Slv.look at hlk
    split at hlk
    · cases hlk
    · split at hlk
      · cases hlk
      · omega
  obtain ⟨i, rfl⟩ : ∃ i : Nat, n = (i : Int) := ⟨n.toNat, by omega⟩
  have hi : i < x.secs.length := by omega
  have hE : x.inkE (i : Int) 64 = 0 := by unfold Slv.inkE; rw [hlk, if_pos rfl, if_pos rfl]
  have hI : x.inked (i : Int) bs = ⟨x.secs.set i ((gat x.secs i).1, some bs), x.stroke.endless, x.stroke.supply, x.stroke.strokes⟩ := by unfold Slv.inked; rw [Hl.out, hE, if_pos rfl]; rfl
  have HE := hide hE
  have HI := hide hI
  clear hE hI hnn hlk Hr
  go_wp2_with fail
  refine (sstroke_any B D g gl f x w1 H.out Hx.out).mono ?_
  rintro e w2 ⟨rfl, hS2, hU2⟩
  have hA2 : Sl by8 w2 A bs := HS.out.upd hU2 (fun b o e hb => sl8_blk H.out.cells (slcs_not8 _ _ _) HS.out (by rw [Hl.out]; decide) (by rw [e]; simp [inA]; exact hb))
  obtain ⟨N, hN⟩ : ∃ N, N = x.secs.length := ⟨_, rfl⟩
  have hsl : x.stroke.secs.length = N := by rw [Slv.stroke_secs, hN]
  have q0 := fun z : Wd (Ext w2.drew) => z.ok.cellv (show w2.drew.cell? ⟨g, 0, none⟩ = some (.slice (some ⟨gl, 0, none⟩) N N) from by have h := hS2.cells.at 0 rfl; rw [hsl] at h; exact h)
  have hiN : i < N := by omega
  have hiI : (i : Int) < (N : Int) := by omega
  have hN4 : N ≤ 4096 := by have := H.out.len; omega
  have HS2 := hide hS2
  have HA2 := hide hA2
  have HU2 := hide hU2
  have Hsl := hide hsl
  clear hS2 hA2 hU2 hsl hN hi
  go_wp2_with fail
  refine wp_region_plan (Ext _) 9 [(false,0), (false,1), (false,2), (false,3), (false,4), (false,5), (true,6), (false,7), (false,8)] (by kernel_rfl) (by kernel_rfl) (Upd.refl _ _) (fun hne => ?_)
  repeat (refine head_q rfl (fun K hK => ?_); have hK2 := hide hK; clear hK; go_simp; refine hK2.out _ ?_; clear hK2 K)
  refine head_l rfl ?_
  go_wp2_with (go_at_call 38; go_must (refine (bclone_any A 64 c bs _ Hl.out (by omega) (HA2.out.ext (Upd.refl _ _).drew)).mono ?_); rintro e w3 ⟨A3, c3, rfl, hl3, hO3, hU3⟩)
  refine ⟨Cls (Ext _), fun _ h => h, ⟨⟨_, hU3⟩, rfl⟩, ?_⟩
  repeat (refine head_q rfl (fun K hK => ?_); have hK2 := hide hK; clear hK; go_simp; refine hK2.out _ ?_; clear hK2 K)
  obtain ⟨b3, rfl, hb3, hb3l⟩ := hO3.open_ (by rw [List.length_map, hl3]; decide)
  have hc3 := hO3.cap
  rw [List.length_map, hl3] at hc3
  have hE3 : Ext w2 w3 := hU3.undrew
  have hS3 := HS2.out.ext hE3
  have hg3 := HS2.out.cells.lt
  have hgl3 := HS2.out.rows.lt
  have hBw : B ≤ w2.heap.size := Nat.le_trans hB HU2.out.size
  have hb3' : w2.heap.size ≤ b3 := hb3
  have z0 : w3.cell? ⟨gl, i * 2 + 1, none⟩ = some (f (2 * i + 1)) := by
    rw [Nat.mul_comm i 2]
    exact hS3.rows.cell (by rw [Hsl.out]; omega)
  have z1 := hS3.rows.frozen (i * 2 + 1)
  obtain ⟨hS4, hU4⟩ := hS3.ink1 (i := i) (by rw [Hsl.out]; omega) hl3 hc3.1 hc3.2 (by omega) hb3l (by omega) (by omega) hO3.sl (w' := w3.setCell ⟨gl, i * 2 + 1, none⟩ (.slice (some ⟨b3, 0, none⟩) 64 c3)) (by rw [Nat.mul_comm i 2])
  have HS4 := hide hS4
  have HU4 := hide hU4
  have HE3 := hide hE3
  clear hS3 hS4 hU4 hE3 hO3 q0
  refine head_nil ?_
  try simp only [List.drop_succ_cons, List.drop_zero]
  go_wp2_with fail
  go_ret
  refine ⟨by rw [HE.out]; rfl, fun k => D k ∨ k = b3, put1 f (2 * i + 1) (.slice (some ⟨b3, 0, none⟩) 64 c3), ?_, ?_, fun k hk => ?_⟩
  · rw [HI.out]
    have h := HS4.out
    rw [Slv.stroke_secs] at h
    exact h
  · exact ((HU2.out.mono (fun k _ hk => .inl hk)).ext HE3.out).trans' HU4.out (fun k _ hk => .inr hk)
  · rcases hk with hk | rfl
    · exact .inl hk
    · exact .inr (by have := HU2.out.size; omega)
end Go.Proofs.Ytejjofjhcgdedaa
