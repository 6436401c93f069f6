/- The law StoreKeeps, walked. -/
import Derived.Test.YtejjofjhcgdedaaStoK
namespace Go.Proofs.Ytejjofjhcgdedaa
set_option linter.unusedSimpArgs false
set_option linter.unusedVariables false
open Go.RowKit Go.Shelf
open Sha
attribute [local go_sem] steady steadyUpon Cls same_cell anyW str_eq
attribute [local irreducible] wpHead wpTree wpHeadR Sha.sum
set_option maxRecDepth 100000 in
set_option maxHeartbeats 8000000 in
theorem stkeeps_any (z : Int) (A1 : Option Addr) (n1 c1 : Nat) (ds : List Ac) (la : Ac) (sup : Int) (A4 : Option Addr) (n4 c4 : Nat) (ss : List Sca) (w : World) (hL1 : AcL w A1 ds) (hn1 : ds.length = n1) (hm1 : n1 ≤ maxLen) (hL4 : ScaL w A4 ss) (hn4 : ss.length = n4) (hc4 : n4 ≤ c4) (hm4 : c4 ≤ maxLen) :
    Calls Try.prog 5 #[.int .i64 z, .slice A1 n1 c1, .agg #[.int .i64 la.kind, .int .i64 la.N, .int .u8 (n8 la.X), .slice la.A la.l la.c], .int .i64 sup, .slice A4 n4 c4] w fun e w' => e = .returned (.bool true) ∧ Ext w w' := by
  obtain ⟨K, hK, hK20⟩ := u64_modN z 20 (by decide)
  have hK2 : (IntKind.u64.wrap z).tmod 20 = (K : Int) := hK
  obtain ⟨J, hJ, hJ30⟩ := u64_modN sup 30 (by decide)
  have hJ2 : (IntKind.u64.wrap sup).tmod 30 = (J : Int) := hJ
  obtain ⟨S, hS⟩ : ∃ S, S = 12 + K := ⟨_, rfl⟩
  have hSi : (12 : Int) + (K : Int) = (S : Int) := by omega
  have hS4 : 4 ≤ S := by omega
  have hS2 : S ≤ 4096 := by omega
  clear hK hJ hS
  have HL1 := hide hL1
  have Hn1 := hide hn1
  have Hm1 := hide hm1
  have HL4 := hide hL4
  have Hn4 := hide hn4
  have Hc4 := hide hc4
  have Hm4 := hide hm4
  clear hL1 hn1 hm1 hL4 hn4 hc4 hm4
  go_enter Try.func5, Try.ntmps5
  go_wp2_with fail
  obtain ⟨wb, hwb⟩ : ∃ wb, wb = w.alloc (.cells #[.int .i64 la.kind, .int .i64 la.N, .int .u8 (n8 la.X), .slice la.A la.l la.c] 65) := ⟨_, rfl⟩
  rw [← hwb]
  have hEb : Ext w wb := by rw [hwb]; exact (Upd.refl _ _).alloc _
  have hBb : Blk wb w.heap.size 65 #[.int .i64 la.kind, .int .i64 la.N, .int .u8 (n8 la.X), .slice la.A la.l la.c] := by rw [hwb]; exact Blk.new _ _ _
  have HEb := hide hEb
  have HBb := hide hBb
  clear hwb hEb hBb
  refine (stlives_any wb).mono ?_
  rintro e w1 ⟨rfl, hE1⟩
  have HE1 := hide hE1
  clear hE1
  go_wp2_with fail
  refine (stfew_any A1 n1 c1 ds w1 (HL1.out.ext (HEb.out.trans HE1.out)) Hn1.out Hm1.out).mono ?_
  rintro e w2 ⟨t, rfl, hfew, hE2⟩
  have HE2 := hide (HE1.out.trans hE2)
  clear hE2
  cases t with
  | false =>
    clear hfew
    go_wp2_with fail
    refine (stlives_any w2).mono ?_
    rintro e w3 ⟨rfl, hE3⟩
    have HE3 := hide hE3
    clear hE3
    go_wp2_with fail
    go_ret
    exact ⟨rfl, HEb.out.trans (HE2.out.trans HE3.out)⟩
  | true =>
  have hn40 : n1 ≤ 40 := by have := (hfew rfl).1; rw [Hn1.out] at this; exact this
  clear hfew
  go_wp2_with fail
  refine (stfew_any _ 1 1 [⟨0, 0, 0, A4, n4, c4, ss⟩] _ (act_new (HL4.out.ext (HEb.out.trans HE2.out)) Hn4.out Hc4.out Hm4.out) rfl (by unfold maxLen; decide)).mono ?_
  rintro e w3 ⟨t, rfl, -, hE3⟩
  have HE3 := hide (HE2.out.trans (((Upd.refl _ _).alloc _).trans hE3))
  clear hE3
  cases t with
  | false =>
    go_wp2_with fail
    refine (stlives_any w3).mono ?_
    rintro e w4 ⟨rfl, hE4⟩
    have HE4 := hide hE4
    clear hE4
    go_wp2_with fail
    go_ret
    exact ⟨rfl, HEb.out.trans (HE3.out.trans HE4.out)⟩
  | true =>
  go_wp2_with fail
  refine (stmade_any S w3 hS4 hS2).mono ?_
  rintro e w4 ⟨g, gl, s, y, rfl, h4, hE4⟩
  have H4 := hide h4
  have HE4 := hide (HE3.out.trans hE4)
  clear h4 hE4
  go_wp2_with fail
  have hnew : ∀ q, (q = g ∨ q = gl ∨ q = s) → wb.heap.size ≤ q := fun q hq => by
    have h1 := H4.out.slab.ge
    have h2 := H4.out.ne.2.2
    have h3 := HE3.out.size
    omega
  have Hnew := hide hnew
  clear hnew
  go_loopw [13, 52] (fun wv iv wr => ∃ (k m l c : Nat) (y : Slv) (st : List B8) (A : Option Addr), k ≤ n1 ∧ m ≤ k ∧ iv = .int .i64 (k : Int) ∧ wv = .slice A l c ∧ st.length = l ∧ StO w3 wr g gl s y S m (12300 + 14400 * k) st ∧ Sl by8 wr A st ∧ (∀ b o, A = some ⟨b, o, none⟩ → ¬ (b = g ∨ b = gl ∨ b = s)) ∧ Ext wb wr) (fun _ iv _ => n1 - (Go.RowKit.intOf iv).toNat)
  case atStart => exact ⟨0, 0, 0, 0, y, [], none, Nat.zero_le _, Nat.le_refl _, rfl, rfl, rfl, H4.out, Sl.nil, fun b o e => (nomatch e), HE4.out⟩
  case round =>
    obtain ⟨k, m, l, c, y, st, A, hk, hmk, rfl, rfl, hstl, hO, hSl, hsep, hE⟩ := hrel
    have HO := hide hO
    have HSl := hide hSl
    have Hsep := hide hsep
    have HE := hide hE
    have Hstl := hide hstl
    clear hO hSl hsep hE hstl
    by_cases hlt : k < n1
    · have hlti : (k : Int) < (n1 : Int) := by omega
      obtain ⟨b, o, rfl, hc, hok⟩ := (HL1.out.ext (HEb.out.trans HE.out)) k (by rw [Hn1.out]; exact hlt)
      obtain ⟨d, hd⟩ : ∃ d, d = gat ds k := ⟨_, rfl⟩
      rw [← hd] at hc
      have c0 : wr.cell? ⟨b, o + k * 4, none⟩ = some (.int .i64 d.kind) := hc 0 (by omega)
      have c1 : wr.cell? ⟨b, o + k * 4 + 1, none⟩ = some (.int .i64 d.N) := hc 1 (by omega)
      have c2 : wr.cell? ⟨b, o + k * 4 + 2, none⟩ = some (.int .u8 (n8 d.X)) := hc 2 (by omega)
      have c3 : wr.cell? ⟨b, o + k * 4 + 3, none⟩ = some (.slice d.A d.l d.c) := hc 3 (by omega)
      clear hc hok hd
      go_wp2_with fail
      obtain ⟨wd, hwd⟩ : ∃ wd, wd = wr.alloc (.cells #[.int .i64 d.kind, .int .i64 d.N, .int .u8 (n8 d.X), .slice d.A d.l d.c] 65) := ⟨_, rfl⟩
      rw [← hwd]
      have hEd : Ext wr wd := by rw [hwd]; exact (Upd.refl _ _).alloc _
      clear hwd c0 c1 c2 c3
      refine (ststate_any d.kind d.N (n8 d.X) d.A d.l d.c wd).mono ?_
      rintro e w5 ⟨A5, c5, bs, l5, rfl, hbl, hl5, hO5, hE5⟩
      have hE5r := hEd.trans hE5
      have hcap : l5 ≤ c5 ∧ c5 ≤ maxLen := ⟨by have := hO5.cap.1; rw [List.length_map, hbl] at this; exact this, hO5.cap.2⟩
      have hapart : ∀ b o, A5 = some ⟨b, o, none⟩ → ¬ (b = g ∨ b = gl ∨ b = s) := fun b o e => by
        have h1 := (hO5.in_ (k := b) (by rw [e]; simp [inA])).1
        have h2 := hEd.size
        have h3 := HO.out.slab.lt
        have h4 := HO.out.blk.lt
        omega
      have HO5 := hide (HO.out.keep hE5r)
      have HS5 := hide hO5.sl
      have HSl5 := hide (HSl.out.ext hE5r)
      have HE5 := hide (HE.out.trans hE5r)
      have Hap := hide hapart
      have Hbl := hide hbl
      clear hO5 hE5 hE5r hEd hapart hbl HO HSl HE
      by_cases hr : l5 ≤ 64 * ((S - 2) / 2) - 44
      · have hkk : 12300 + 14400 * k ≤ 700000 := by omega
        have hm1 : m + 1 < 18446744073709551616 := by omega
        go_wp2_with fail
        refine (HO5.out.save hkk hS4 hS2 hm1 HS5.out Hbl.out hcap.1 hcap.2 (fun b o e h => Hap.out b o e (h.elim .inl (fun h => .inr (.inl h)))) hr).mono ?_
        rintro e w6 ⟨y6, rfl, h6, hU6⟩
        have hE6 : Ext wb w6 := upd_new hU6 HE5.out Hnew.out
        have hS6 : Sl by8 w6 A5 bs := HS5.out.upd hU6 Hap.out
        go_wp2_with fail
        go_roundw
        case rel => exact ⟨k + 1, m + 1, l5, c5, y6, bs, A5, hlt, by omega, by go_num, rfl, Hbl.out, by rw [show 12300 + 14400 * (k + 1) = 12300 + 14400 * k + 14400 by omega]; exact h6, hS6, Hap.out, hE6⟩
        case measure => simp [Go.RowKit.intOf]; omega
      · go_wp2_with fail
        refine (stsave_long w3 g gl y S s m l5 c5 A5 w5 HO5.out.slab HO5.out.len hS4 hS2 HO5.out.blk (by omega)).mono ?_
        rintro e w6 ⟨rfl, hw⟩
        rw [hw]
        clear hw w6
        go_wp2_with fail
        go_roundw
        case rel => exact ⟨k + 1, m, l, c, y, st, A, hlt, by omega, by go_num, rfl, Hstl.out, HO5.out.up (by omega), HSl5.out, Hsep.out, HE5.out⟩
        case measure => simp [Go.RowKit.intOf]; omega
    · obtain rfl : k = n1 := by omega
      have hlti : ¬ (k : Int) < (k : Int) := by omega
      have hm40 : m ≤ 40 := by omega
      have e0 : wr.cell? ⟨w.heap.size, 0, none⟩ = some (.int .i64 la.kind) := (HBb.out.ext HE.out).at 0 rfl
      have e1 : wr.cell? ⟨w.heap.size, 1, none⟩ = some (.int .i64 la.N) := (HBb.out.ext HE.out).at 1 rfl
      have e2 : wr.cell? ⟨w.heap.size, 2, none⟩ = some (.int .u8 (n8 la.X)) := (HBb.out.ext HE.out).at 2 rfl
      have e3 : wr.cell? ⟨w.heap.size, 3, none⟩ = some (.slice la.A la.l la.c) := (HBb.out.ext HE.out).at 3 rfl
      have hnum := stnumber_any s g m false wr HO.out.blk
      go_wp2_with (go_at_call 31; go_must (refine hnum.mono ?_); rintro e wn ⟨rfl, hw⟩; rw [hw]; clear hw wn)
      refine (ststate_any la.kind la.N (n8 la.X) la.A la.l la.c wr).mono ?_
      rintro e w5 ⟨A5, c5, next, l5, rfl, hnl, hl5, hO5, hE5⟩
      have hcap : l5 ≤ c5 ∧ c5 ≤ maxLen := ⟨by have := hO5.cap.1; rw [List.length_map, hnl] at this; exact this, hO5.cap.2⟩
      have hapart : ∀ b o, A5 = some ⟨b, o, none⟩ → ¬ (b = g ∨ b = gl ∨ b = s) := fun b o e => by
        have h1 := (hO5.in_ (k := b) (by rw [e]; simp [inA])).1
        have h3 := HO.out.slab.lt
        have h4 := HO.out.blk.lt
        omega
      have HO5 := hide (HO.out.keep hE5)
      have HS5 := hide hO5.sl
      have HSl5 := hide (HSl.out.ext hE5)
      have HE5 := hide (HE.out.trans hE5)
      have Hap := hide hapart
      have Hnl := hide hnl
      have Hcap := hide hcap
      clear hO5 hE5 hapart hnl hcap HO HSl HE hnum e0 e1 e2 e3
      have hap2 : ∀ b o, A5 = some ⟨b, o, none⟩ → ¬ (b = g ∨ b = gl) := fun b o e h => Hap.out b o e (h.elim .inl (fun h => .inr (.inl h)))
      have hap3 : ∀ b o, A = some ⟨b, o, none⟩ → ¬ (b = g ∨ b = gl) := fun b o e h => Hsep.out b o e (h.elim .inl (fun h => .inr (.inl h)))
      have Hap2 := hide hap2
      have Hap3 := hide hap3
      clear hap2 hap3
      have hkk : 12300 + 14400 * k ≤ 700000 := by omega
      have hm1 : m + 1 < 18446744073709551616 := by omega
      have hm256 : m + 1 < 256 ^ 8 := by omega
      have hJn : (J : Int) ≤ 9223372036854775807 := by omega
      have Hkk := hide hkk
      have Hm1 := hide hm1
      have Hm256 := hide hm256
      have HJn := hide hJn
      clear hkk hm1 hm256 hJn
      go_wp2_with (go_at_call 9; go_must (refine (sosupply w3 g gl y (J : Int) w5 HO5.out.slab).mono ?_); rintro e w6 ⟨rfl, h6, hU6⟩; have H6 := hide h6; have HU6 := hide hU6; clear h6 hU6)
      have hsec := Slv.supplied_secs y (J : Int)
      have hfc : Sto.faceN (y.supplied (J : Int)) = Sto.faceN y := by funext i; unfold Sto.faceN; rw [hsec]
      refine (stlast_any w3 g gl (y.supplied (J : Int)) S s m (12300 + 14400 * k) l5 c5 A5 st next w6 H6.out (Slv.supplied_fit HO5.out.fit HJn.out) Hkk.out (by rw [hsec]; exact HO5.out.len) hS4 hS2 (HO5.out.blk.upd HU6.out (fun h => h.elim HO5.out.ne.1 HO5.out.ne.2.1)) HO5.out.ne (fun i hi => by rw [hsec] at hi ⊢; exact HO5.out.clean i hi) (by rw [hfc]; exact HO5.out.fnd) Hm1.out (HS5.out.upd HU6.out Hap2.out) Hnl.out Hcap.out.1 Hcap.out.2 Hap2.out).mono ?_
      rintro e w7 ⟨y7, er, rfl, h7, hlen7, hU7, hL⟩
      have hU67 : Upd (fun q => q = g ∨ q = gl ∨ q = s) w5 w7 := (HU6.out.mono (fun q _ h => h.elim .inl (fun h => .inr (.inl h)))).trans hU7
      have hE7 : Ext wb w7 := upd_new hU67 HE5.out Hnew.out
      have H7 := hide h7
      have Hlen7 := hide hlen7
      have HE7 := hide hE7
      have HS7 := hide (HS5.out.upd hU67 Hap.out)
      have HSl7 := hide (HSl5.out.upd hU67 Hsep.out)
      have HL := hide hL
      clear h7 hlen7 hU7 hU67 hE7 hL hsec hfc HS5 HSl5 HE5 H6 HU6 HO5
      obtain ⟨m1, hm1⟩ : ∃ m1, m1 = m + 1 := ⟨_, rfl⟩
      have hm1i : (m : Int) + 1 = (m1 : Int) := by omega
      have hm1n : ¬ (m1 : Int) = (m : Int) := by omega
      have Hm1e := hide hm1
      clear hm1
      have hwk := sowake w3 g gl y7 A4 n4 c4 ss w7 H7.out (HL4.out.ext (HEb.out.trans HE7.out)) Hn4.out (Nat.le_trans Hc4.out Hm4.out) (fun i hi h0 q hq => by
        have h1 := HL4.out.sep i hi h0 q hq
        have h2 := HEb.out.size
        have h3 := Hnew.out g (.inl rfl)
        have h4 := Hnew.out gl (.inr (.inl rfl))
        omega)
      have Hwk := hide hwk
      clear hwk
      rcases HL.out with ⟨rfl, hf⟩ | ⟨rfl, hf⟩ | ⟨rfl, hf⟩
      · skip
        -- m1 the number, next the state, by rw [Hm1e.out]; exact hf (scaV ss) it is found, by rw [Hm1e.out]; exact Hm256.out its bound, Hnl its length
        go_wp2_with (go_at_call 10; go_must (refine Hwk.out.mono ?_); rintro e w8 ⟨rfl, h8, hU8⟩; have H8 := hide h8; have HU8 := hide hU8; clear h8 hU8)
        have hopn := stopen_any w3 g gl (y7.woken (scaV ss)) S m1 next w8 H8.out ((Slv.woken_len _ _).trans Hlen7.out) hS4 hS2 (Slv.out_endless rfl) (Sto.FndS.open_ Sha.sum sum_length (by rw [Hm1e.out]; exact hf (scaV ss)) hS2 (by rw [Hm1e.out]; exact Hm256.out))
        refine hopn.mono ?_
        rintro e w9 ⟨s9, A9, c9, rfl, -, hB9, hO9, hE9⟩
        rw [Hnl.out]
        have t1 : (convert 26 9 (.slice A9 _ c9)).run Try.prog w9 = .ok (.string (str next)) w9 := run_str Try.under_bs Try.under8 Try.underS hO9.sl Hnl.out
        have t2 : (convert 26 9 (.slice A5 l5 c5)).run Try.prog w9 = .ok (.string (str next)) w9 := run_str Try.under_bs Try.under8 Try.underS ((HS7.out.upd HU8.out Hap2.out).ext hE9) Hnl.out
        have t3 : (convert 26 9 (.slice A l c)).run Try.prog w9 = .ok (.string (str st)) w9 := run_str Try.under_bs Try.under8 Try.underS ((HSl7.out.upd HU8.out Hap3.out).ext hE9) Hstl.out
        have hnum := stnumber_any s9 g m1 false w9 hB9
        have hE9b : Ext wb w9 := (upd_new (HU8.out.mono (fun q _ h => h.elim .inl (fun h => .inr (.inl h)))) HE7.out Hnew.out).trans hE9
        have HE9 := hide hE9b
        clear hB9 hO9 hE9 hE9b hopn
        go_wp2_with (go_at_call 31; go_must (refine hnum.mono ?_); rintro e wn ⟨rfl, hw⟩; rw [hw]; clear hw wn)
        go_ret
        exact ⟨rfl, HEb.out.trans HE9.out⟩
      · skip
        -- m the number, st the state, hf (scaV ss) it is found, by have := Hm256.out; omega its bound, Hstl its length
        go_wp2_with (go_at_call 10; go_must (refine Hwk.out.mono ?_); rintro e w8 ⟨rfl, h8, hU8⟩; have H8 := hide h8; have HU8 := hide hU8; clear h8 hU8)
        have hopn := stopen_any w3 g gl (y7.woken (scaV ss)) S m st w8 H8.out ((Slv.woken_len _ _).trans Hlen7.out) hS4 hS2 (Slv.out_endless rfl) (Sto.FndS.open_ Sha.sum sum_length (hf (scaV ss)) hS2 (by have := Hm256.out; omega))
        refine hopn.mono ?_
        rintro e w9 ⟨s9, A9, c9, rfl, -, hB9, hO9, hE9⟩
        rw [Hstl.out]
        have t1 : (convert 26 9 (.slice A9 _ c9)).run Try.prog w9 = .ok (.string (str st)) w9 := run_str Try.under_bs Try.under8 Try.underS hO9.sl Hstl.out
        have t2 : (convert 26 9 (.slice A5 l5 c5)).run Try.prog w9 = .ok (.string (str next)) w9 := run_str Try.under_bs Try.under8 Try.underS ((HS7.out.upd HU8.out Hap2.out).ext hE9) Hnl.out
        have t3 : (convert 26 9 (.slice A l c)).run Try.prog w9 = .ok (.string (str st)) w9 := run_str Try.under_bs Try.under8 Try.underS ((HSl7.out.upd HU8.out Hap3.out).ext hE9) Hstl.out
        have hnum := stnumber_any s9 g m false w9 hB9
        have hE9b : Ext wb w9 := (upd_new (HU8.out.mono (fun q _ h => h.elim .inl (fun h => .inr (.inl h)))) HE7.out Hnew.out).trans hE9
        have HE9 := hide hE9b
        clear hB9 hO9 hE9 hE9b hopn
        go_wp2_with (go_at_call 31; go_must (refine hnum.mono ?_); rintro e wn ⟨rfl, hw⟩; rw [hw]; clear hw wn)
        go_ret
        exact ⟨rfl, HEb.out.trans HE9.out⟩
      · rcases hf (scaV ss) with hf | hf
        · skip
          -- m the number, st the state, hf it is found, by have := Hm256.out; omega its bound, Hstl its length
          go_wp2_with (go_at_call 10; go_must (refine Hwk.out.mono ?_); rintro e w8 ⟨rfl, h8, hU8⟩; have H8 := hide h8; have HU8 := hide hU8; clear h8 hU8)
          have hopn := stopen_any w3 g gl (y7.woken (scaV ss)) S m st w8 H8.out ((Slv.woken_len _ _).trans Hlen7.out) hS4 hS2 (Slv.out_endless rfl) (Sto.FndS.open_ Sha.sum sum_length (hf) hS2 (by have := Hm256.out; omega))
          refine hopn.mono ?_
          rintro e w9 ⟨s9, A9, c9, rfl, -, hB9, hO9, hE9⟩
          rw [Hstl.out]
          have t1 : (convert 26 9 (.slice A9 _ c9)).run Try.prog w9 = .ok (.string (str st)) w9 := run_str Try.under_bs Try.under8 Try.underS hO9.sl Hstl.out
          have t2 : (convert 26 9 (.slice A5 l5 c5)).run Try.prog w9 = .ok (.string (str next)) w9 := run_str Try.under_bs Try.under8 Try.underS ((HS7.out.upd HU8.out Hap2.out).ext hE9) Hnl.out
          have t3 : (convert 26 9 (.slice A l c)).run Try.prog w9 = .ok (.string (str st)) w9 := run_str Try.under_bs Try.under8 Try.underS ((HSl7.out.upd HU8.out Hap3.out).ext hE9) Hstl.out
          have hnum := stnumber_any s9 g m false w9 hB9
          have hE9b : Ext wb w9 := (upd_new (HU8.out.mono (fun q _ h => h.elim .inl (fun h => .inr (.inl h)))) HE7.out Hnew.out).trans hE9
          have HE9 := hide hE9b
          clear hB9 hO9 hE9 hE9b hopn
          go_wp2_with (go_at_call 31; go_must (refine hnum.mono ?_); rintro e wn ⟨rfl, hw⟩; rw [hw]; clear hw wn)
          go_ret
          exact ⟨rfl, HEb.out.trans HE9.out⟩
        · by_cases hne : next = st
          · skip
            -- m1 the number, next the state, by rw [Hm1e.out]; exact hf it is found, by rw [Hm1e.out]; exact Hm256.out its bound, Hnl its length
            go_wp2_with (go_at_call 10; go_must (refine Hwk.out.mono ?_); rintro e w8 ⟨rfl, h8, hU8⟩; have H8 := hide h8; have HU8 := hide hU8; clear h8 hU8)
            have hopn := stopen_any w3 g gl (y7.woken (scaV ss)) S m1 next w8 H8.out ((Slv.woken_len _ _).trans Hlen7.out) hS4 hS2 (Slv.out_endless rfl) (Sto.FndS.open_ Sha.sum sum_length (by rw [Hm1e.out]; exact hf) hS2 (by rw [Hm1e.out]; exact Hm256.out))
            refine hopn.mono ?_
            rintro e w9 ⟨s9, A9, c9, rfl, -, hB9, hO9, hE9⟩
            rw [Hnl.out]
            have t1 : (convert 26 9 (.slice A9 _ c9)).run Try.prog w9 = .ok (.string (str next)) w9 := run_str Try.under_bs Try.under8 Try.underS hO9.sl Hnl.out
            have t2 : (convert 26 9 (.slice A5 l5 c5)).run Try.prog w9 = .ok (.string (str next)) w9 := run_str Try.under_bs Try.under8 Try.underS ((HS7.out.upd HU8.out Hap2.out).ext hE9) Hnl.out
            have t3 : (convert 26 9 (.slice A l c)).run Try.prog w9 = .ok (.string (str st)) w9 := run_str Try.under_bs Try.under8 Try.underS ((HSl7.out.upd HU8.out Hap3.out).ext hE9) Hstl.out
            have hnum := stnumber_any s9 g m1 false w9 hB9
            have hE9b : Ext wb w9 := (upd_new (HU8.out.mono (fun q _ h => h.elim .inl (fun h => .inr (.inl h)))) HE7.out Hnew.out).trans hE9
            have HE9 := hide hE9b
            clear hB9 hO9 hE9 hE9b hopn
            go_wp2_with (go_at_call 31; go_must (refine hnum.mono ?_); rintro e wn ⟨rfl, hw⟩; rw [hw]; clear hw wn)
            go_ret
            exact ⟨rfl, HEb.out.trans HE9.out⟩
          · skip
            -- m1 the number, next the state, by rw [Hm1e.out]; exact hf it is found, by rw [Hm1e.out]; exact Hm256.out its bound, Hnl its length
            go_wp2_with (go_at_call 10; go_must (refine Hwk.out.mono ?_); rintro e w8 ⟨rfl, h8, hU8⟩; have H8 := hide h8; have HU8 := hide hU8; clear h8 hU8)
            have hopn := stopen_any w3 g gl (y7.woken (scaV ss)) S m1 next w8 H8.out ((Slv.woken_len _ _).trans Hlen7.out) hS4 hS2 (Slv.out_endless rfl) (Sto.FndS.open_ Sha.sum sum_length (by rw [Hm1e.out]; exact hf) hS2 (by rw [Hm1e.out]; exact Hm256.out))
            refine hopn.mono ?_
            rintro e w9 ⟨s9, A9, c9, rfl, -, hB9, hO9, hE9⟩
            rw [Hnl.out]
            have t1 : (convert 26 9 (.slice A9 _ c9)).run Try.prog w9 = .ok (.string (str next)) w9 := run_str Try.under_bs Try.under8 Try.underS hO9.sl Hnl.out
            have t2 : (convert 26 9 (.slice A5 l5 c5)).run Try.prog w9 = .ok (.string (str next)) w9 := run_str Try.under_bs Try.under8 Try.underS ((HS7.out.upd HU8.out Hap2.out).ext hE9) Hnl.out
            have t3 : (convert 26 9 (.slice A l c)).run Try.prog w9 = .ok (.string (str st)) w9 := run_str Try.under_bs Try.under8 Try.underS ((HSl7.out.upd HU8.out Hap3.out).ext hE9) Hstl.out
            have hnum := stnumber_any s9 g m1 false w9 hB9
            have hE9b : Ext wb w9 := (upd_new (HU8.out.mono (fun q _ h => h.elim .inl (fun h => .inr (.inl h)))) HE7.out Hnew.out).trans hE9
            have HE9 := hide hE9b
            clear hB9 hO9 hE9 hE9b hopn
            go_wp2_with (go_at_call 31; go_must (refine hnum.mono ?_); rintro e wn ⟨rfl, hw⟩; rw [hw]; clear hw wn)
            go_ret
            exact ⟨rfl, HEb.out.trans HE9.out⟩
end Go.Proofs.Ytejjofjhcgdedaa
