/- The store's Number, Room; the laws' Made, lives. -/
import Derived.Test.YtejjofjhcgdedaaStoS
import Derived.Lib.SlBytesConst
namespace Go.Proofs.Ytejjofjhcgdedaa
set_option linter.unusedSimpArgs false
set_option linter.unusedVariables false
open Go.RowKit Go.Shelf
open Sha
attribute [local go_sem] steady steadyUpon Cls same_cell anyW str_eq
attribute [local irreducible] wpHead wpTree wpHeadR Sha.sum
set_option maxRecDepth 100000 in
theorem stnumber_any (s g n : Nat) (d : Bool) (w : World) (hB : Blk w s 92 (stcs g n d)) : Calls Try.prog 31 #[.pointer (some ⟨s, 0, none⟩)] w fun e w' => e = .returned (.int .u64 (n : Int)) ∧ w' = w := by
  have d1 : w.cell? ⟨s, 1, none⟩ = some (.int .u64 (n : Int)) := hB.at 1 rfl
  clear hB
  go_enter Try.func31, Try.ntmps31
  go_wp2_with fail
  go_ret
  exact ⟨rfl, rfl⟩
set_option maxRecDepth 100000 in
theorem strooms_any (w0 : World) (g gl : Nat) (x : Slv) (S s n : Nat) (d : Bool) (w : World) (h : SlO w0 w g gl x) (hS : x.secs.length = S) (hS4 : 4 ≤ S) (hS2 : S ≤ 4096) (hB : Blk w s 92 (stcs g n d)) : Calls Try.prog 29 #[.pointer (some ⟨s, 0, none⟩)] w fun e w' => e = .returned (.int .i64 ((64 * ((S - 2) / 2) - 44 : Nat) : Int)) ∧ w' = w := by
  have d0 : w.cell? ⟨s, 0, none⟩ = some (.pointer (some ⟨g, 0, none⟩)) := hB.at 0 rfl
  have hr := sroom_any w0 g gl x S w h hS hS4 hS2
  obtain ⟨room, hroom⟩ : ∃ room, room = 64 * ((S - 2) / 2) - 44 := ⟨_, rfl⟩
  rw [← hroom] at hr ⊢
  clear hB hroom
  go_enter Try.func29, Try.ntmps29
  go_wp2_with (go_at_call 44; refine hr.mono ?_; rintro e w1 ⟨rfl, hw1⟩; rw [hw1]; clear hw1 w1)
  go_ret
  exact ⟨rfl, rfl⟩
theorem Sto.clean_new (n : Nat) : Sto.CleanS (Slv.new n) := fun i hi => by
  unfold Slv.new at hi ⊢
  have hi2 : i < n := by simpa using hi
  rw [gat_lt (by simpa using hi2)]
  simp
/-- a store that stands, and has its last state -/
structure StO (w0 w : World) (g gl s : Nat) (x : Slv) (S k kk : Nat) (st : List B8) : Prop where
  slab : SlO w0 w g gl x
  fit : x.fit kk
  clean : Sto.CleanS x
  endless : x.endless = true
  len : x.secs.length = S
  fnd : Sto.FndS Sha.sum (Sto.faceN x) S k st
  blk : Blk w s 92 (stcs g k false)
  ne : s ≠ g ∧ s ≠ gl ∧ w0.heap.size ≤ s
theorem StO.keep {w0 w w' : World} {g gl s : Nat} {x : Slv} {S k kk : Nat} {st : List B8} (h : StO w0 w g gl s x S k kk st) (hE : Ext w w') : StO w0 w' g gl s x S k kk st :=
  ⟨h.slab.keep hE, h.fit, h.clean, h.endless, h.len, h.fnd, h.blk.ext hE, h.ne⟩
def RetMade (w : World) (S : Nat) (e : Ending) (w' : World) : Prop :=
  ∃ g gl s x, e = .returned (.tuple #[.pointer (some ⟨g, 0, none⟩), .pointer (some ⟨s, 0, none⟩)]) ∧ StO w w' g gl s x S 0 12300 [] ∧ Ext w w'
set_option maxRecDepth 100000 in
set_option maxHeartbeats 4000000 in
theorem stmade_any (S : Nat) (w : World) (hS4 : 4 ≤ S) (hS2 : S ≤ 4096) : Calls Try.prog 28 #[.int .i64 (S : Int)] w (RetMade w S) := by
  have hnew := sonew (S : Int) (by omega) (by omega) w
  rw [Int.toNat_natCast] at hnew
  have hl : (Slv.new S).secs.length = S := by unfold Slv.new; simp
  obtain ⟨x, hx⟩ : ∃ x, x = Slv.new S := ⟨_, rfl⟩
  have hc := Sto.clean_new S
  have hf := Slv.new_fit S
  have he : (Slv.new S).endless = true := rfl
  rw [← hx] at hnew hl hc hf he
  clear hx
  have Hl := hide hl
  have Hc := hide hc
  have Hf := hide hf
  have He := hide he
  clear hl hc hf he
  go_enter Try.func28, Try.ntmps28
  go_wp2_with fail
  refine hnew.mono ?_
  rintro e w1 ⟨g, gl, rfl, -, -, h1⟩
  clear hnew
  go_wp2_with fail
  refine (sformat_any w g gl x 0 w1 h1 Hf.out (by omega) Hc.out He.out (by rw [Hl.out]; exact hS4) (by rw [Hl.out]; exact hS2)).mono ?_
  rintro e w2 ⟨y, rfl, h2, -, he2, hf2, hc2, hl2, hfn⟩
  rw [Hl.out] at hl2 hfn
  rw [Nat.zero_add] at hf2
  have hop := stopen_any w g gl y S 0 [] w2 h2 hl2 hS4 hS2 (Slv.out_endless he2) (hfn.open_ Sha.sum sum_length hS2 (by decide))
  have hlt2 := h2.lt
  have H2 := hide h2
  have He2 := hide he2
  have Hf2 := hide hf2
  have Hc2 := hide hc2
  have Hl2 := hide hl2
  have Hfn := hide hfn
  have Hlt2 := hide hlt2
  clear h1 h2 he2 hf2 hc2 hl2 hfn hlt2
  go_wp2_with (go_at_call 32; refine hop.mono ?_; rintro e w3 ⟨s, A, c, rfl, hs, hB, hO, hE3⟩; have HB := hide hB; have HE3 := hide hE3; clear hB hO hE3)
  refine bodyPost_ret (v := .tuple #[.pointer (some ⟨g, 0, none⟩), .pointer (some ⟨s, 0, none⟩)]) ?_ rfl ⟨g, gl, s, y, rfl, ⟨H2.out.keep HE3.out, Hf2.out, Hc2.out, He2.out, Hl2.out, Hfn.out, HB.out, ?_⟩, H2.out.ext.trans HE3.out⟩
  · simp [results, Try.results28, go_sem]
  · have h1 := Hlt2.out
    have h3 := H2.out.ext.size
    omega
/-- a saving by a slab without end -/
theorem StO.save {w0 w : World} {g gl s : Nat} {x : Slv} {S k kk : Nat} {st : List B8} (h : StO w0 w g gl s x S k kk st) (hkk : kk ≤ 700000) (hS4 : 4 ≤ S) (hS2 : S ≤ 4096) (hk : k + 1 < 18446744073709551616) {A : Option Addr} {l c : Nat} {next : List B8} (hA : Sl by8 w A next) (hl : next.length = l) (hlc : l ≤ c) (hcm : c ≤ maxLen) (hsep : ∀ b o, A = some ⟨b, o, none⟩ → ¬ (b = g ∨ b = gl)) (hr : l ≤ 64 * ((S - 2) / 2) - 44) :
    Calls Try.prog 30 #[.pointer (some ⟨s, 0, none⟩), .slice A l c] w fun e w' => ∃ y, e = .returned (.int .i64 0) ∧ StO w0 w' g gl s y S (k + 1) (kk + 14400) next ∧ Upd (fun q => q = g ∨ q = gl ∨ q = s) w w' := by
  refine (stsave_any w0 g gl x S s k kk l c A st next w h.slab h.fit hkk h.len hS4 hS2 h.blk h.ne h.clean h.fnd hk hA hl hlc hcm hsep hr).mono ?_
  rintro e w' ⟨y, er, rfl, hS, hlen, hU, hfit, hen, ho⟩
  obtain ⟨rfl, hey⟩ := hen h.endless
  rcases ho with ⟨-, hc, hf, hB⟩ | ⟨h0, -⟩
  · exact ⟨y, rfl, ⟨hS, hfit, hc, hey, hlen, hf, hB, h.ne⟩, hU⟩
  · exact absurd h0 (by decide)
theorem StO.open_ {w0 w : World} {g gl s : Nat} {x : Slv} {S k kk : Nat} {st : List B8} (h : StO w0 w g gl s x S k kk st) (hS4 : 4 ≤ S) (hS2 : S ≤ 4096) (hk : k < 18446744073709551616) :
    Calls Try.prog 32 #[.pointer (some ⟨g, 0, none⟩)] w (RetOpn2 w g k st) :=
  stopen_any w0 g gl x S k st w h.slab h.len hS4 hS2 (Slv.out_endless h.endless) (h.fnd.open_ Sha.sum sum_length hS2 hk)
theorem StO.ext {w0 w w' : World} {g gl s : Nat} {x : Slv} {S k kk : Nat} {st : List B8} (h : StO w0 w g gl s x S k kk st) (hE : Ext w0 w) (hU : Upd (fun q => q = g ∨ q = gl ∨ q = s) w w') : Ext w0 w' :=
  upd_new hU hE (fun q hq => by
    have h1 := h.slab.ge
    have h2 := h.ne
    rcases hq with rfl | rfl | rfl
    · exact h1.1
    · exact h1.2
    · exact h2.2.2)
theorem str_x : str [120#8] = ⟨#[120]⟩ := by decide
set_option maxRecDepth 100000 in
set_option maxHeartbeats 4000000 in
theorem stlives_any (w : World) : Calls Try.prog 27 #[] w fun e w' => e = .returned (.bool true) ∧ Ext w w' := by
  have hc1 := fun w => Lib.run_convert_bytes_const (P := Try.prog) w 26 5 #[.int .u8 120] 1 1 Try.under_bs Try.under8
  go_enter Try.func27, Try.ntmps27
  go_wp2_with fail
  refine (stmade_any 10 w (by decide) (by decide)).mono ?_
  rintro e w1 ⟨g, gl, s, x, rfl, h1, hE1⟩
  have hlt := h1.slab.lt
  have H1 := hide h1
  have HE1 := hide hE1
  have Hlt := hide hlt
  clear h1 hE1 hlt
  go_wp2_with fail
  have hEa : Ext w1 (w1.alloc (.cells #[.int .u8 120] 5 (1, 2))) := (Upd.refl _ _).alloc _
  have hSl : Sl by8 (w1.alloc (.cells #[.int .u8 120] 5 (1, 2))) (some ⟨w1.heap.size, 0, none⟩) [120#8] := Sl.of_cells (fun i hi => by
    obtain rfl : i = 0 := by simpa using hi
    rw [World.cell?_alloc_mark]
    rfl)
  refine ((H1.out.keep hEa).save (by decide) (by decide) (by decide) (by decide) (l := 1) (c := 1) (next := [120#8]) hSl rfl (by decide) (by unfold maxLen; decide) (fun b o e => by injection e with e; injection e with e1; have := Hlt.out; omega) (by decide)).mono ?_
  rintro e w2 ⟨y, rfl, h2, hU2⟩
  have hE2 : Ext w w2 := (H1.out.keep hEa).ext (HE1.out.trans hEa) hU2
  have H2 := hide h2
  have HE2 := hide hE2
  clear h2 hU2 hE2 hEa
  go_wp2_with fail
  refine (H2.out.open_ (by decide) (by decide) (by decide)).mono ?_
  rintro e w3 ⟨s3, A3, c3, rfl, hs3, hB3, hO3, hE3⟩
  have hstr : (convert 26 9 (.slice A3 1 c3)).run Try.prog w3 = .ok (.string ⟨#[120]⟩) w3 := by
    rw [← str_x]; exact run_str Try.under_bs Try.under8 Try.underS hO3.sl rfl
  have hroom := strooms_any w g gl y 10 s (0 + 1) false w3 (H2.out.slab.keep hE3) H2.out.len (by decide) (by decide) (H2.out.blk.ext hE3)
  have HE3 := hide (HE2.out.trans hE3)
  clear hB3 hO3 hE3
  go_wp2_with (go_at_call 29; refine hroom.mono ?_; rintro e w4 ⟨rfl, hw1⟩; rw [hw1]; clear hw1 w4)
  go_ret
  exact ⟨rfl, HE3.out⟩
end Go.Proofs.Ytejjofjhcgdedaa
