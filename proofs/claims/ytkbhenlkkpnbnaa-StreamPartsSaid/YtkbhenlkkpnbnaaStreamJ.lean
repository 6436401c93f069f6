/- The laws that the stream put twice is nothing done, and that bytes from the 64th on are those of the next counter, walked. -/
import Derived.Test.YtkbhenlkkpnbnaaStreamL
namespace Go.Proofs.Ytkbhenlkkpnbnaa
open Go.RowKit
open Strm
attribute [local go_sem] steady steadyUpon Cls by8 by32 by64 str_eq inc_u32 xor_u8

/-- None of the tests lets the call by: the second example is told. -/
theorem parts_short (A B D : Option Addr) (n c m d l f : Nat) (ctr : BitVec 32) (w : World) (hl2 : l ≤ maxLen) (hn2 : n ≤ maxLen) (hm2 : m ≤ maxLen) (h : l > 3000 ∨ l < 64 ∨ n ≠ 32 ∨ m ≠ 12) :
    Calls Try.prog 6 #[.slice A n c, .int .u32 (n32 ctr), .slice B m d, .slice D l f] w fun e w' => e = .returned (.bool true) ∧ Ext w w' := by
  unfold maxLen at hl2 hn2 hm2
  by_cases h1 : 3000 < l
  · have d1 : decide ((3000 : Int) < (l : Int)) = true := decide_eq_true (by omega)
    clear h
    go_enter Try.func6, Try.ntmps6
    go_wp2_with fail
    refine (lives_any _).mono ?_
    rintro e w1 ⟨rfl, hU1⟩
    go_wp2_with fail
    refine (lives_any _).mono ?_
    rintro e w2 ⟨rfl, hU2⟩
    go_wp2_with fail
    go_ret
    exact ⟨rfl, hU1.trans hU2⟩
  · have d1 : decide ((3000 : Int) < (l : Int)) = false := decide_eq_false (by omega)
    by_cases h2 : l < 64
    · have d2 : decide ((l : Int) < 64) = true := decide_eq_true (by omega)
      clear h
      go_enter Try.func6, Try.ntmps6
      go_wp2_with fail
      refine (lives_any _).mono ?_
      rintro e w1 ⟨rfl, hU1⟩
      go_wp2_with fail
      refine (lives_any _).mono ?_
      rintro e w2 ⟨rfl, hU2⟩
      go_wp2_with fail
      go_ret
      exact ⟨rfl, hU1.trans hU2⟩
    · have d2 : decide ((l : Int) < 64) = false := decide_eq_false (by omega)
      by_cases h3 : n = 32
      · subst h3
        have d3 : ((m : Int) != 12) = true := by rw [bne_iff_ne]; omega
        clear h
        go_enter Try.func6, Try.ntmps6
        go_wp2_with fail
        refine (lives_any _).mono ?_
        rintro e w1 ⟨rfl, hU1⟩
        go_wp2_with fail
        refine (lives_any _).mono ?_
        rintro e w2 ⟨rfl, hU2⟩
        go_wp2_with fail
        go_ret
        exact ⟨rfl, hU1.trans hU2⟩
      · have d3 : ((n : Int) != 32) = true := by rw [bne_iff_ne]; omega
        clear h h3
        go_enter Try.func6, Try.ntmps6
        go_wp2_with fail
        refine (lives_any _).mono ?_
        rintro e w1 ⟨rfl, hU1⟩
        go_wp2_with fail
        refine (lives_any _).mono ?_
        rintro e w2 ⟨rfl, hU2⟩
        go_wp2_with fail
        go_ret
        exact ⟨rfl, hU1.trans hU2⟩

set_option maxRecDepth 100000 in
set_option maxHeartbeats 1000000 in
theorem parts_right (A B : Option Addr) (sb so c d l f : Nat) (D2 : Option Addr) (key nonce b : List (BitVec 8)) (ctr : BitVec 32) (w : World) (hkl : key.length = 32) (hnl : nonce.length = 12) (hc : 32 ≤ c) (hd : 12 ≤ d)
    (hK : Sl by8 w A key) (hN : Sl by8 w B nonce) (hl : l ≤ 3000) (hl2 : 64 ≤ l) (hlf : l ≤ f) (hf : f ≤ maxLen) (hbl : b.length = l) (hD : Sl by8 w (some ⟨sb, so, none⟩) b) (hD2 : Sl by8 w D2 (b.drop 64))
    (hs2 : ∀ w' : World, (Instr.sliceAt 22 (.slice (some ⟨sb, so, none⟩) l f) (some (.int .i64 64)) none none).run Try.prog w' = .ok (.slice D2 (l - 64) (f - 64)) w') :
    Calls Try.prog 6 #[.slice A 32 c, .int .u32 (n32 ctr), .slice B 12 d, .slice (some ⟨sb, so, none⟩) l f] w fun e w' => e = .returned (.bool true) ∧ Ext w w' := by
  unfold maxLen at hf
  have hD' := hide hD
  clear hD
  have hD2' := hide hD2
  clear hD2
  have Hbl := hide hbl
  clear hbl
  have hK' := hide hK
  clear hK
  have hN' := hide hN
  clear hN
  have Hkl := hide hkl
  clear hkl
  have Hnl := hide hnl
  clear hnl
  have d1 : decide ((3000 : Int) < (l : Int)) = false := decide_eq_false (by omega)
  have d2 : decide ((l : Int) < 64) = false := decide_eq_false (by omega)
  have d3 : (64 : Int) ≤ (f : Int) := by omega
  go_enter Try.func6, Try.ntmps6
  go_wp2_with fail
  refine (lives_any _).mono ?_
  rintro e w1 ⟨rfl, hU1⟩
  go_wp2_with fail
  refine (xor_any _ _ _ _ _ _ _ key nonce b _ _ Hkl.out Hnl.out hc hd (hK'.out.ext hU1) (hN'.out.ext hU1) Hbl.out.symm (by omega) (hD'.out.ext hU1)).mono ?_
  rintro e w2 ⟨A2, c2, rfl, -, hO2, hU2⟩
  have hU12 := hU1.trans hU2
  have hO2' := hide hO2
  clear hO2
  go_wp2_with fail
  refine (xor_any _ _ _ _ _ _ _ key nonce (b.take 64) _ _ Hkl.out Hnl.out hc hd (hK'.out.ext hU12) (hN'.out.ext hU12) (by have := Hbl.out; rw [List.length_take]; omega) (by omega) ((hD'.out.ext hU12).take 64)).mono ?_
  rintro e w3 ⟨A3, c3, rfl, -, hO3, hU3⟩
  have hU13 := hU12.trans hU3
  have hO3' := hide hO3
  clear hO3
  go_wp2_with fail
  refine (xor_any _ _ _ _ _ _ _ key nonce (b.drop 64) _ _ Hkl.out Hnl.out hc hd (hK'.out.ext hU13) (hN'.out.ext hU13) (by have := Hbl.out; rw [List.length_drop]; omega) (by omega) (hD2'.out.ext hU13)).mono ?_
  rintro e w4 ⟨A4, c4, rfl, -, hO4, hU4⟩
  have hU14 := hU13.trans hU4
  have hO4' := hide hO4
  clear hO4
  go_wp2_with fail
  have hne3 : ∀ bl o, A2 = some ⟨bl, o, none⟩ → ¬ inA A3 bl := fun bl o e h => by
    have h1 := hO3'.out.in_ h
    have h2 := hO2'.out.in_ (k := bl) (by rw [e]; rfl)
    omega
  have hcv := fun x : Wd (Upd (inA A3) w4.drew) => run_str (P := Try.prog) (c := c2) Try.underB Try.under8 Try.underS (((hO2'.out.sl.ext (hU3.trans hU4)).ext (Upd.refl _ _).drew).upd x.ok hne3) ((xors_length key ctr nonce b).trans Hbl.out)
  have hx64 : (xors key ctr nonce (b.take 64)).length = 64 := by have := Hbl.out; rw [xors_length, List.length_take]; omega
  have hxr : (xors key (ctr + 1) nonce (b.drop 64)).length = l - 64 := by have := Hbl.out; rw [xors_length, List.length_drop]; omega
  have H64 := hide hx64
  have Hxr := hide hxr
  clear hx64 hxr
  refine wp_region_plan (Upd (inA A3) _) 19 [(false,0), (false,1), (false,2), (false,3), (false,4), (false,5), (false,6), (false,7), (false,8), (false,9), (false,10), (false,11), (false,12), (false,13), (false,14), (true,15), (false,16), (false,17), (false,18)] (by kernel_rfl) (by kernel_rfl) (Upd.refl _ _) (fun hne => ?_)
  repeat (refine head_q rfl (fun K hK => ?_); go_simp; refine hK _ ?_; clear hK K)
  refine head_lw rfl rfl ?_
  refine wpList_apd by8 one8 Try.el8 (xors key ctr nonce (b.take 64)) (xors key (ctr + 1) nonce (b.drop 64)) (xors key ctr nonce b) l (xors_parts key ctr nonce b (by have := Hbl.out; omega)) ((xors_length key ctr nonce b).trans Hbl.out) (by omega) (by unfold maxLen; omega) rfl rfl rfl H64.out ((hO3'.out.ext hU4).ext (Upd.refl _ _).drew) rfl Hxr.out (hO4'.out.sl.ext (Upd.refl _ _).drew) (Nat.le_trans hU3.size hU4.size) ?_
  intro A5 c5 w5 hO5 hU5 hin5
  refine wpList_nil ?_
  simp only [Exit.then]
  refine ⟨Cls (Ext _), cls_narrowT hU5, ⟨⟨_, Upd.refl _ _⟩, rfl⟩, ?_⟩
  have hcv5 := fun x : Wd (Ext w5) => run_str (P := Try.prog) (c := c5) Try.underB Try.under8 Try.underS (hO5.sl.ext x.ok) ((xors_length key ctr nonce b).trans Hbl.out)
  repeat (refine head_q rfl (fun K hK => ?_); go_simp; refine hK _ ?_; clear hK K)
  refine head_nil ?_
  simp only [List.drop_succ_cons, List.drop_zero]
  go_wp2
  go_ret
  exact ⟨rfl, upd_new hU5 hU14.drew (fun k hk => by have := (hO3'.out.in_ hk).1; have := hU12.size; omega)⟩

theorem parts_any (A B D : Option Addr) (c d f n m l : Nat) (key nonce b : List (BitVec 8)) (ctr : BitVec 32) (w : World) (hkl : key.length = n) (hnl : nonce.length = m) (hbl : b.length = l) (hc : n ≤ c) (hd : m ≤ d) (hlf : l ≤ f) (hc2 : c ≤ maxLen) (hd2 : d ≤ maxLen) (hf : f ≤ maxLen)
    (hK : Sl by8 w A key) (hN : Sl by8 w B nonce) (hD : Sl by8 w D b) :
    Calls Try.prog 6 #[.slice A n c, .int .u32 (n32 ctr), .slice B m d, .slice D l f] w fun e w' => e = .returned (.bool true) ∧ Ext w w' := by
  by_cases h : l > 3000 ∨ l < 64 ∨ n ≠ 32 ∨ m ≠ 12
  · exact parts_short A B D n c m d l f ctr w (by omega) (by omega) (by omega) h
  · obtain ⟨h1, h2, h3, h4⟩ : l ≤ 3000 ∧ 64 ≤ l ∧ n = 32 ∧ m = 12 := by omega
    subst h3 h4
    obtain ⟨sb, so, rfl, _, _⟩ := hD.open_ (by omega)
    by_cases h5 : f = 64
    · have h6 : l = 64 := by omega
      refine parts_right A B sb so c d l f (some ⟨sb, so, none⟩) key nonce b ctr w hkl hnl hc hd hK hN h1 h2 hlf hf hbl hD (by rw [List.drop_of_length_le (by omega)]; exact Sl.nil) (fun w' => ?_)
      subst h5 h6
      have ht := Try.underB
      go_simp
    · have h6 : (64 : Int) ≤ (l : Int) := by omega
      have h7 : ¬ f = 64 := h5
      refine parts_right A B sb so c d l f (some ⟨sb, so + 64, none⟩) key nonce b ctr w hkl hnl hc hd hK hN h1 h2 hlf hf hbl hD (hD.drop 64) (fun w' => ?_)
      have h8 : (l : Int) ≤ (f : Int) := by omega
      clear hbl hkl hnl hK hN hD
      go_simp
end Go.Proofs.Ytkbhenlkkpnbnaa
