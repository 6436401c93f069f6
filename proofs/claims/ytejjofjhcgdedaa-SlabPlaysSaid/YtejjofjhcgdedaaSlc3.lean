/- The law of both slabs, walked: one deed. -/
import Derived.Test.YtejjofjhcgdedaaSlc2
import Derived.Test.YtejjofjhcgdedaaSlbT
namespace Go.Proofs.Ytejjofjhcgdedaa
set_option linter.unusedSimpArgs false
set_option linter.unusedVariables false
open Go.RowKit
open Sha
attribute [local go_sem] steady steadyUpon Cls same_cell anyW by8 str_eq
attribute [local irreducible] wpHead wpTree wpHeadR
theorem u64_mod200 (z : Int) : ∃ K : Nat, (IntKind.u64.wrap z).tmod 200 = (K : Int) ∧ K < 200 := by
  have hw0 : 0 ≤ IntKind.u64.wrap z := by
    unfold IntKind.wrap
    simp [IntKind.signed, IntKind.bits]
    omega
  rw [Int.tmod_eq_emod_of_nonneg hw0]
  exact ⟨(IntKind.u64.wrap z % 200).toNat, by omega, by omega⟩
theorem pl64_at (x : B8) : gat (pl64 x) 0 = x := by unfold pl64; simp [gat]
/-- both slabs go together -/
def Goes (N K : Nat) (x : Slv) (d : Dsl) : Prop := SRel x d ∧ x.secs.length = N ∧ x.fit K
theorem Goes.made {N K : Nat} {x : Slv} {d : Dsl} (h : Goes N K x d) (hK : K ≤ 1000000) (hN : N ≤ 4096) : d.made < 4611686018427387904 ∧ d.inks.length < 5000 ∧ d.made + d.inks.length < 4611686018427387904 := by
  have h1 := h.1.made
  have h2 := h.2.2
  have h3 := h.1.count
  have h4 := inkedK_len x x.secs.length
  have h5 := h.2.1
  obtain ⟨-, -, -, f4⟩ := h2
  have : d.made ≤ (K : Int) := by rw [h1]; exact f4
  omega
theorem Goes.keys {N K : Nat} {x : Slv} {d : Dsl} (h : Goes N K x d) : ∀ p ∈ d.inks, 0 ≤ p.1 ∧ p.1 < (N : Int) := fun p hp => by
  have := h.1.key p.1 (List.mem_map.2 ⟨p, hp, rfl⟩)
  rw [h.2.1] at this
  exact this
/-- the slabs behind a deed -/
def Aft (w0 : World) (g gl gd gb N K : Nat) (w : World) : Prop := ∃ D f A c x d, Duo w0 w D g gl f x gd gb A c N d ∧ Hid (Goes N K x d)
section
variable (w0 : World) (D : Nat → Prop) (g gl : Nat) (f : Nat → Value) (x : Slv) (gd gb : Nat) (A : Option Addr) (c N K : Nat) (d : Dsl)
end
set_option maxRecDepth 100000 in
set_option maxHeartbeats 16000000 in
theorem splays_main (N : Nat) (h4 : 4 ≤ N) (hN : N ≤ 4096) (A0 : Option Addr) (n c0 : Nat) (ds : List Dee) (w : World) (hL : DeeL w A0 ds) (hn : ds.length = n) (hm : n ≤ maxLen) (hsz : ∀ i, i < ds.length → (gat ds i).c * 32 ≤ 140737488351232) :
    Calls Try.prog 3 #[.int .i64 (N : Int), .slice A0 n c0] w fun e w' => e = .returned (.bool true) ∧ Ext w w' := by
  have HL := hide hL
  have Hn := hide hn
  have Hm := hide hm
  have Hsz := hide hsz
  have hn9 : n ≤ 9223372036854775807 := by unfold maxLen at hm; omega
  have hN4I : ¬ (N : Int) < 4 := by omega
  have hN9I : ¬ (4096 : Int) < (N : Int) := by omega
  clear hL hn hm hsz
  go_enter Try.func3, Try.ntmps3
  go_wp2_with fail
  refine (snew_any (N : Int) w).mono ?_
  rintro e w1 ⟨hE1, -, hok⟩
  obtain ⟨g, gl, rfl, hS1⟩ := hok ⟨by omega, by omega⟩
  clear hok
  go_wp2_with fail
  refine (slives_any w1).mono ?_
  rintro e w2 ⟨rfl, hE2⟩
  have hE02 := hE1.trans hE2
  have HS2 := hide (hS1.ext hE2)
  clear hS1 hE1 hE2
  go_wp2_with fail
  refine (sfew_any A0 n c0 ds w2 (fun i hi => by
    obtain ⟨b, o, e, hc, hok⟩ := HL.out i hi
    exact ⟨b, o, e, fun j hj => by
      have hcj := hc j hj
      match j, hj with
      | 0, _ => exact hE02.cellv hcj
      | 1, _ => exact hE02.cellv hcj
      | 2, _ => exact hE02.cellv hcj
      | 3, _ => exact hE02.cellv hcj
      | 4, _ => exact hE02.cellv hcj, hok.ext hE02⟩) Hn.out Hm.out).mono ?_
  rintro e w3 ⟨t, rfl, hF, hE3⟩
  have hE03 := hE02.trans hE3
  replace HS2 := hide (HS2.out.ext hE3)
  clear hE02 hE3
  cases t with
  | false =>
    clear hF
    go_wp2_with fail
    go_ret
    exact ⟨rfl, hE03⟩
  | true =>
    have HFd := hide (hF rfl)
    clear hF
    go_wp2_with fail
    refine (rsnew_any N hN w3).mono ?_
    rintro e w4 ⟨gd, gb, rfl, hD4, hE4⟩
    have hDuo : Duo w w4 (fun _ => False) g gl (fun _ => .slice none 0 0) (Slv.new N) gd gb none 0 N (Dsl.new N) := ⟨HS2.out.ext hE4, hD4.lower hE03.size, fun k hk => hk.elim, hE03.trans hE4⟩
    have hgoes : Hid (Goes N (0 * 4200) (Slv.new N) (Dsl.new N)) := hide ⟨SRel.new N, by unfold Slv.new; simp, Slv.new_fit N⟩
    clear hE03 hE4 hD4 HS2
    go_wp2_with fail
    go_loopw [92] (fun i wr => ∃ j : Nat, j ≤ n ∧ i = .int .i64 (j : Int) ∧ Aft w g gl gd gb N (j * 4200) wr) (fun i _ => n - (Go.RowKit.intOf i).toNat)
    case atStart => exact ⟨0, Nat.zero_le _, rfl, _, _, _, _, _, _, hDuo, hgoes⟩
    case round =>
      clear hDuo hgoes
      refine name_wx (fun Z hZ => ?_)
      subst hZ
      obtain ⟨j, hj, rfl, D, f, A, c, x, d, hD, HG⟩ := hrel
      have hn60 : n ≤ 60 := by have := HFd.out.1; rw [Hn.out] at this; exact this
      by_cases hlt : j < n
      case neg =>
        obtain rfl : j = n := by omega
        have hltI : ¬ ((j : Int) < (j : Int)) := by omega
        as_aux_lemma =>
          -- the loop over what is shown
          obtain ⟨r, hr⟩ : ∃ r, r = x.out := ⟨_, rfl⟩
          have Hr := hide hr
          clear hr
          go_wp2_with fail
          refine (sout_any _ D g gl f x Z hD.sl).mono ?_
          rw [← Hr.out]
          rintro e z1 ⟨rfl, rfl⟩
          cases r with
          | true =>
            have hEf := hD.ext
            go_wp2_with fail
            go_ret
            exact ⟨rfl, hEf⟩
          | false =>
            by_cases h40 : 40 < N
            · have h40I : (40 : Int) < (N : Int) := by omega
              go_wp2_with fail
              go_loopw [240] (fun iv wr => ∃ i : Nat, i ≤ 40 ∧ iv = .int .i64 (i : Int) ∧ Ext z1 wr) (fun iv _ => 40 - (Go.RowKit.intOf iv).toNat)
              case atStart => exact ⟨0, Nat.zero_le _, rfl, Upd.refl _ _⟩
              case round =>
                obtain ⟨i, hi, rfl, hE⟩ := hrel
                by_cases hlt2 : i < 40
                case neg =>
                  have hlt2I : ¬ (i : Int) < (40 : Int) := by omega
                  have hEf := hD.ext.trans hE
                  go_wp2_with fail
                  go_ret
                  exact ⟨rfl, hEf⟩
                have hlt2I : (i : Int) < (40 : Int) := by omega
                have hiN : i < N := by omega
                have hlk : x.look (i : Int) = 0 := by
                  unfold Slv.look
                  rw [← Hr.out, if_neg (by decide), HG.out.2.1, if_neg (by omega)]
                have hak : d.asked (i : Int) = 0 := (HG.out.1.look _).trans hlk
                obtain ⟨b, hb⟩ : ∃ b, b = faceOf (gat x.secs i) := ⟨_, rfl⟩
                have hfd : d.face i = b := (HG.out.1.faceN (by rw [HG.out.2.1]; exact hiN)).trans hb.symm
                have hbl : b.length = 64 := by rw [← hfd]; exact hD.dl.face64 hiN
                have Hlk := hide hlk
                have Hak := hide hak
                have Hfd := hide hfd
                have Hbl := hide hbl
                have Hb := hide hb
                clear hlk hak hfd hbl hb
                go_wp2_with fail
                refine (sface_any _ D g gl f x (i : Int) wr (hD.sl.ext hE)).mono ?_
                rintro e w5 ⟨hE5, -, hgood⟩
                obtain ⟨A5, c5, rfl, hO5⟩ := hgood Hlk.out
                rw [Int.toNat_natCast, ← Hb.out] at hO5
                clear hgood
                go_wp2_with fail
                refine (rsface_any (i : Int) (hD.dl.ext (hE.trans hE5))).mono ?_
                rintro e w6 ⟨hE6, -, hgood⟩
                obtain ⟨A6, c6, rfl, hO6⟩ := hgood Hak.out
                rw [Int.toNat_natCast, Hfd.out] at hO6
                clear hgood
                have hEf := (hE.trans hE5).trans hE6
                have ht1 := run_str (P := Try.prog) (c := c5) Try.under_bs Try.under8 Try.underS (hO5.sl.ext hE6) Hbl.out
                have ht2 := run_str (P := Try.prog) (c := c6) Try.under_bs Try.under8 Try.underS hO6.sl Hbl.out
                obtain ⟨ST, hST⟩ : ∃ ST, ST = str b := ⟨_, rfl⟩
                rw [← hST] at ht1 ht2
                clear hO5 hO6 hE5 hE6 hST
                go_wp2_with fail
                go_roundw
                case rel => exact ⟨i + 1, by omega, by go_num, hEf⟩
                case measure => simp [Go.RowKit.intOf]; omega
            · have h40I : ¬ (40 : Int) < (N : Int) := by omega
              go_wp2_with fail
              go_loopw [240] (fun iv wr => ∃ i : Nat, i ≤ N ∧ iv = .int .i64 (i : Int) ∧ Ext z1 wr) (fun iv _ => N - (Go.RowKit.intOf iv).toNat)
              case atStart => exact ⟨0, Nat.zero_le _, rfl, Upd.refl _ _⟩
              case round =>
                obtain ⟨i, hi, rfl, hE⟩ := hrel
                by_cases hlt2 : i < N
                case neg =>
                  have hlt2I : ¬ (i : Int) < (N : Int) := by omega
                  have hEf := hD.ext.trans hE
                  go_wp2_with fail
                  go_ret
                  exact ⟨rfl, hEf⟩
                have hlt2I : (i : Int) < (N : Int) := by omega
                have hiN : i < N := by omega
                have hlk : x.look (i : Int) = 0 := by
                  unfold Slv.look
                  rw [← Hr.out, if_neg (by decide), HG.out.2.1, if_neg (by omega)]
                have hak : d.asked (i : Int) = 0 := (HG.out.1.look _).trans hlk
                obtain ⟨b, hb⟩ : ∃ b, b = faceOf (gat x.secs i) := ⟨_, rfl⟩
                have hfd : d.face i = b := (HG.out.1.faceN (by rw [HG.out.2.1]; exact hiN)).trans hb.symm
                have hbl : b.length = 64 := by rw [← hfd]; exact hD.dl.face64 hiN
                have Hlk := hide hlk
                have Hak := hide hak
                have Hfd := hide hfd
                have Hbl := hide hbl
                have Hb := hide hb
                clear hlk hak hfd hbl hb
                go_wp2_with fail
                refine (sface_any _ D g gl f x (i : Int) wr (hD.sl.ext hE)).mono ?_
                rintro e w5 ⟨hE5, -, hgood⟩
                obtain ⟨A5, c5, rfl, hO5⟩ := hgood Hlk.out
                rw [Int.toNat_natCast, ← Hb.out] at hO5
                clear hgood
                go_wp2_with fail
                refine (rsface_any (i : Int) (hD.dl.ext (hE.trans hE5))).mono ?_
                rintro e w6 ⟨hE6, -, hgood⟩
                obtain ⟨A6, c6, rfl, hO6⟩ := hgood Hak.out
                rw [Int.toNat_natCast, Hfd.out] at hO6
                clear hgood
                have hEf := (hE.trans hE5).trans hE6
                have ht1 := run_str (P := Try.prog) (c := c5) Try.under_bs Try.under8 Try.underS (hO5.sl.ext hE6) Hbl.out
                have ht2 := run_str (P := Try.prog) (c := c6) Try.under_bs Try.under8 Try.underS hO6.sl Hbl.out
                obtain ⟨ST, hST⟩ : ∃ ST, ST = str b := ⟨_, rfl⟩
                rw [← hST] at ht1 ht2
                clear hO5 hO6 hE5 hE6 hST
                go_wp2_with fail
                go_roundw
                case rel => exact ⟨i + 1, by omega, by go_num, hEf⟩
                case measure => simp [Go.RowKit.intOf]; omega
      case pos =>
        have hltI : (j : Int) < (n : Int) := by omega
        have hjl : j < ds.length := by rw [Hn.out]; exact hlt
        obtain ⟨b0, o0, rfl, hc, hok⟩ := HL.out j hjl
        have hqc := Hsz.out j hjl
        obtain ⟨q, hq⟩ : ∃ q, q = gat ds j := ⟨_, rfl⟩
        rw [← hq] at hc hok hqc
        have hE := hD.ext
        have e0 : Z.cell? ⟨b0, o0 + j * 5, none⟩ = some (.int .i64 q.kind) := hE.cellv (hc 0 (by omega))
        have e1 : Z.cell? ⟨b0, o0 + j * 5 + 1, none⟩ = some (.int .i64 q.at_) := hE.cellv (hc 1 (by omega))
        have e2 : Z.cell? ⟨b0, o0 + j * 5 + 2, none⟩ = some (.int .i64 q.N) := hE.cellv (hc 2 (by omega))
        have e3 : Z.cell? ⟨b0, o0 + j * 5 + 3, none⟩ = some (by8 q.X) := hE.cellv (hc 3 (by omega))
        have e4 : Z.cell? ⟨b0, o0 + j * 5 + 4, none⟩ = some (.slice q.A q.l q.c) := hE.cellv (hc 4 (by omega))
        unfold by8 at e3
        have Hok := hide hok
        have Hqc := hide hqc
        have hgw := hD.sl.lg
        have hgd := hD.dl.lg
        have hgb := hD.dl.lgb
        have hgl := hD.sl.lgl
        obtain ⟨kd, at', qn, X, qA, ql, qcc, ss⟩ := q
        dsimp only at e0 e1 e2 e3 e4
        have hKb : j * 4200 ≤ 252000 := by omega
        obtain ⟨hmd1, hmd2, hmd3⟩ := HG.out.made (by omega) hN
        have Hmd := hide (And.intro hmd1 (And.intro hmd2 hmd3))
        clear hq hc hok hqc hE hmd1 hmd2 hmd3
        go_upto_region 15 with fail
        go_cut [11] (fun s11 wx => s11 = .pointer (some ⟨Z.heap.size, 0, none⟩) ∧ Ext Z wx ∧ Blk wx Z.heap.size 44 #[.int .i64 kd, .int .i64 at', .int .i64 qn, .int .u8 (n8 X), .slice qA ql qcc])
        case first =>
          go_wp2_with fail
          go_meet
          exact ⟨rfl, (Upd.refl _ _).alloc _, Blk.new _ _ _⟩
        case rest =>
          obtain ⟨rfl, hEW, b11⟩ := hcut
          obtain ⟨W, hW⟩ : ∃ V, V = wc := ⟨_, rfl⟩
          subst hW
          clear e0 e1 e2 e3 e4
          have hDW := hD.keep hEW
          have hzW := b11.lt
          clear hD hEW
          apply_assumption
          refine wp_seq_k (fun K hK => ?_)
          go_cut [] (fun wx => Aft w g gl gd gb N ((j + 1) * 4200) wx)
          case first =>
            by_cases k0 : kd = 0
            · subst k0
              as_aux_lemma =>
                have a0 := b11.at 0 rfl
                have a3 := b11.at 3 rfl
                go_wp2_with fail
                refine (splain_any X _ rfl W).mono ?_
                rintro e w5 ⟨A5, c5, rfl, hO5, hE5⟩
                have hD5 := hDW.keep hE5
                have b5 := b11.ext hE5
                have a1 := b5.at 1 rfl
                obtain ⟨er, her⟩ : ∃ er, er = x.inkE at' 64 := ⟨_, rfl⟩
                have Her := hide her
                clear a0 a3 her
                go_wp2_with fail
                clear a1
                refine (duo_ink hD5 (Slv.fit_up HG.out.2.2 (by omega)) at' A5 64 c5 (pl64 X) hO5.sl (pl64_len _) (by omega)).mono ?_
                rw [← Her.out]
                rintro e w6 ⟨rfl, D6, f6, hD6, hn6, hU6⟩
                have hO6 := hO5.upd hU6 (fun k hk => hD5.own8C hO5 hk)
                have b6 := b5.upd hU6 (hD5.blkC b5 ⟨by decide, by decide⟩)
                obtain ⟨g5, rfl, hg5, -⟩ := hO6.open_ (by rw [List.length_map, pl64_len]; decide)
                have hin5 : inA (some ⟨g5, 0, none⟩) g5 := by simp [inA]
                have hg5l : g5 < w5.heap.size := (hO5.in_ hin5).2
                have n1 := hD6.own8C hO6 hin5
                have n2 := hD6.own8D hO6 hin5
                have n3 : ¬ D6 g5 := fun h => by
                  rcases hn6 _ h with h1 | h1
                  · have := (hDW.sl.data _ h1).2.1; omega
                  · omega
                have n4 : ¬ only g5 Z.heap.size := fun e => by
                  have e : Z.heap.size = g5 := e
                  omega
                have hwg : w.heap.size ≤ g5 := Nat.le_trans hDW.ext.size hg5
                have r0 : w6.cell? ⟨g5, 0, none⟩ = some (.int .u8 (n8 X)) := by
                  obtain ⟨b, o, e, hc⟩ := hO6.sl 0 (by rw [pl64_len]; decide)
                  injection e with e
                  injection e with e1 e2
                  subst e1
                  subst e2
                  rw [pl64_at] at hc
                  exact hc
                have hxor : bits .xor .u8 (n8 X) 255 = n8 (X ^^^ 255) := xor_u8 X 255
                have Hn1 := hide (And.intro n1 (And.intro n2 (And.intro n3 n4)))
                clear n1 n2 n3 n4 hO5 hU6 hn6 hD5 hDW b11 b5 hin5
                go_upto_region 24 with (refine wpList_store_own by8 one8 (X ^^^ 255) rfl rfl Try.sz8 rfl rfl hO6 (by rw [pl64_len]; decide) ?_; intro w7 hO7 hU7)
                have hD7 := hD6.other hU7 hwg ⟨fun e => Hn1.out.1 (.inl e), fun e => Hn1.out.1 (.inr e)⟩ Hn1.out.2.2.1 Hn1.out.2.1
                have b7 := b6.upd hU7 Hn1.out.2.2.2
                clear hO6 hO7 hU7 hD6 b6 r0
                have hX7 : Ext w7 w7.drew := (Upd.refl _ _).drew
                have hnd := hD7.blkD b7 ⟨by decide, by decide, by decide⟩
                have b8 := b7.ext hX7
                have y1 := fun z : Wd (Upd (DT gd gb A) w7.drew) => (z.ok.cell (p := ⟨Z.heap.size, 1, none⟩) b8.lt hnd).trans (b8.at 1 rfl)
                have y3 := fun z : Wd (Upd (DT gd gb A) w7.drew) => (z.ok.cell (p := ⟨Z.heap.size, 3, none⟩) b8.lt hnd).trans (b8.at 3 rfl)
                obtain ⟨hrel, hpe⟩ := HG.out.1.put at' (pl64 X)
                rw [pl64_len, ← Her.out] at hpe
                have Hpe := hide hpe
                have Hrel := hide hrel
                clear hrel hpe
                refine wp_region_plan (Upd (DT gd gb A) _) 8 [(false,0), (false,1), (false,2), (false,3), (false,4), (false,5), (true,6), (true,7)] (by kernel_rfl) (by kernel_rfl) (Upd.refl _ _) (fun hne => ?_)
                repeat (refine head_q rfl (fun K hK => ?_); have hK2 := hide hK; clear hK; go_simp; refine hK2.out _ ?_; clear hK2 K)
                refine head_l rfl ?_
                go_wp2_with (go_at_call 12; go_must (refine (splain_any X _ rfl _).mono ?_); rintro e w8 ⟨A8, c8, rfl, hO8, hE8⟩)
                refine ⟨_, fun _ h => h, ⟨⟨_, Upd.ofExt hE8⟩, rfl⟩, ?_⟩
                repeat (refine head_q rfl (fun K hK => ?_); have hK2 := hide hK; clear hK; go_simp; refine hK2.out _ ?_; clear hK2 K)
                refine head_l rfl ?_
                go_wp2_with (go_at_call 21; go_must (refine (duo_put (hD7.keep (hX7.trans hE8)) at' A8 64 c8 (pl64 X) hO8.sl (pl64_len _) (by omega) Hmd.out.1 Hmd.out.2.1).mono ?_); rw [Hpe.out]; rintro e w9 ⟨rfl, A9, c9, hD9, hU9⟩)
                refine ⟨_, fun _ h => h, ⟨⟨_, (Upd.ofExt hE8).trans hU9⟩, rfl⟩, ?_⟩
                repeat (refine head_q rfl (fun K hK => ?_); have hK2 := hide hK; clear hK; go_simp; refine hK2.out _ ?_; clear hK2 K)
                clear y1 y3
                refine head_nil ?_
                try simp only [List.drop_succ_cons, List.drop_zero]
                have haft : Aft w g gl gd gb N ((j + 1) * 4200) w9 := ⟨D6, f6, A9, c9, _, _, hD9, hide ⟨Hrel.out, by rw [Slv.inked_len]; exact HG.out.2.1, Slv.fit_up (Slv.inked_fit HG.out.2.2 _ _) (by omega)⟩⟩
                go_wp2_with fail
                go_meet
                exact haft
            have k0b : (kd == 0) = false := beq_eq_false_iff_ne.2 k0
            by_cases k1 : kd = 1
            · subst k1
              clear k0b k0
              as_aux_lemma =>
                have a0 := b11.at 0 rfl
                have a1 := b11.at 1 rfl
                obtain ⟨r, hr⟩ : ∃ r, r = x.look at' := ⟨_, rfl⟩
                have hrd : d.asked at' = r := (HG.out.1.look at').trans hr.symm
                have Hr := hide hr
                have Hrd := hide hrd
                clear hr hrd
                go_wp2_with fail
                clear a0 a1
                refine (sface_any _ D g gl f x at' W hDW.sl).mono ?_
                rintro e w5 ⟨hE5, hbad, hgood⟩
                rw [← Hr.out] at hbad hgood
                have hD5 := hDW.keep hE5
                have b5 := b11.ext hE5
                have a1 := b5.at 1 rfl
                by_cases hr0 : r = 0
                case neg =>
                  obtain rfl := hbad hr0
                  clear hbad hgood
                  go_wp2_with fail
                  clear a1
                  refine (rsface_any at' hD5.dl).mono ?_
                  rw [Hrd.out]
                  rintro e w6 ⟨hE6, hbad2, -⟩
                  obtain rfl := hbad2 hr0
                  clear hbad2
                  have hD6 := hD5.keep hE6
                  have haft : Aft w g gl gd gb N ((j + 1) * 4200) w6 := ⟨D, f, A, c, x, d, hD6, hide ⟨HG.out.1, HG.out.2.1, Slv.fit_up HG.out.2.2 (by omega)⟩⟩
                  have ht0 := run_str (P := Try.prog) (n := 0) (c := 0) (w := w6) (bs := []) Try.under_bs Try.under8 Try.underS (Sl.nil (A := none)) rfl
                  clear hD6 hD5 b5 hE5 hE6
                  go_wp2_with fail
                  go_meet
                  exact haft
                case pos =>
                  obtain ⟨A5, c5, rfl, hO5⟩ := hgood hr0
                  have hnn := HG.out.1.look at'
                  have hri : 0 ≤ at' ∧ at' < (N : Int) := by
                    have h1 := Dsl.asked_range (d := d) (n := at') (Hrd.out.trans hr0)
                    rw [HG.out.1.len, HG.out.2.1] at h1
                    exact h1
                  obtain ⟨i, rfl⟩ := Int.eq_ofNat_of_zero_le hri.1
                  have hiN : i < N := by omega
                  rw [Int.toNat_natCast] at hO5
                  obtain ⟨b, hb⟩ : ∃ b, b = faceOf (gat x.secs i) := ⟨_, rfl⟩
                  have hfd : d.face i = b := (HG.out.1.faceN (by rw [HG.out.2.1]; exact hiN)).trans hb.symm
                  have hbl : b.length = 64 := by rw [← hfd]; exact hD5.dl.face64 hiN
                  rw [← hb] at hO5
                  have Hfd := hide hfd
                  have Hbl := hide hbl
                  clear hbad hgood hnn hri hb hfd hbl
                  subst hr0
                  go_wp2_with fail
                  clear a1
                  refine (rsface_any (i : Int) hD5.dl).mono ?_
                  rw [Hrd.out]
                  rintro e w6 ⟨hE6, -, hgood2⟩
                  obtain ⟨A6, c6, rfl, hO6⟩ := hgood2 rfl
                  rw [Int.toNat_natCast, Hfd.out] at hO6
                  clear hgood2
                  have hD6 := hD5.keep hE6
                  have hO5' := hO5.ext hE6
                  obtain ⟨g5, rfl, hg5, -⟩ := hO5'.open_ (by rw [List.length_map, Hbl.out]; decide)
                  have hin5 : inA (some ⟨g5, 0, none⟩) g5 := by simp [inA]
                  have n1 := hD6.own8C hO5' hin5
                  have n2 := hD6.own8D hO5' hin5
                  have n3 : ¬ D g5 := fun h => by have := (hDW.sl.data _ h).2.1; omega
                  have hwg : w.heap.size ≤ g5 := Nat.le_trans hDW.ext.size hg5
                  have r0 : w6.cell? ⟨g5, 0, none⟩ = some (.int .u8 (n8 (gat b 0))) := by
                    obtain ⟨b', o, e, hc⟩ := hO5'.sl 0 (by rw [Hbl.out]; decide)
                    injection e with e
                    injection e with e1 e2
                    subst e1
                    subst e2
                    exact hc
                  have hxor : bits .xor .u8 (n8 (gat b 0)) 255 = n8 (gat b 0 ^^^ 255) := xor_u8 (gat b 0) 255
                  have ht1 := run_str (P := Try.prog) (c := c5) Try.under_bs Try.under8 Try.underS hO5'.sl Hbl.out
                  have ht2 := run_str (P := Try.prog) (c := c6) Try.under_bs Try.under8 Try.underS hO6.sl Hbl.out
                  obtain ⟨ST, hST⟩ : ∃ ST, ST = str b := ⟨_, rfl⟩
                  rw [← hST] at ht1 ht2
                  have Hn1 := hide (And.intro n1 (And.intro n2 n3))
                  clear n1 n2 n3 hO5 hO6 hE5 hE6 hD5 hDW b11 b5 hin5 hST
                  go_wp2_with (refine wpList_store_own by8 one8 (gat b 0 ^^^ 255) rfl rfl Try.sz8 rfl rfl hO5' (by rw [Hbl.out]; decide) ?_; intro w7 hO7 hU7)
                  go_meet
                  exact ⟨D, f, A, c, x, d, hD6.other hU7 hwg ⟨fun e => Hn1.out.1 (.inl e), fun e => Hn1.out.1 (.inr e)⟩ Hn1.out.2.2 Hn1.out.2.1, hide ⟨HG.out.1, HG.out.2.1, Slv.fit_up HG.out.2.2 (by omega)⟩⟩
            have k1b : (kd == 1) = false := beq_eq_false_iff_ne.2 k1
            by_cases k2 : kd = 2
            · subst k2
              clear k0b k0 k1b k1
              as_aux_lemma =>
                have a0 := b11.at 0 rfl
                obtain ⟨er, her⟩ : ∃ er, er = x.burnE := ⟨_, rfl⟩
                obtain ⟨hrel, hpe⟩ := HG.out.1.burn (by rw [HG.out.2.1]; omega)
                rw [← her] at hpe
                have Her := hide her
                have Hpe := hide hpe
                have Hrel := hide hrel
                have hbf := Slv.burnt_fit HG.out.2.2
                rw [HG.out.2.1] at hbf
                have Hbf := hide hbf
                clear her hpe hrel hbf
                go_wp2_with fail
                clear a0
                refine (duo_burn hDW (Slv.fit_up HG.out.2.2 (by omega))).mono ?_
                rw [← Her.out]
                rintro e w5 ⟨rfl, D5, f5, hD5, -, -⟩
                go_wp2_with fail
                refine (duo_burnD hD5 Hmd.out.2.2 HG.out.keys).mono ?_
                rw [Hpe.out]
                rintro e w6 ⟨rfl, A6, c6, hD6, -⟩
                have haft : Aft w g gl gd gb N ((j + 1) * 4200) w6 := ⟨D5, f5, A6, c6, _, _, hD6, hide ⟨Hrel.out, by rw [Slv.burnt_len]; exact HG.out.2.1, Slv.fit_up Hbf.out (by omega)⟩⟩
                go_wp2_with fail
                go_meet
                exact haft
            have k2b : (kd == 2) = false := beq_eq_false_iff_ne.2 k2
            by_cases k3 : kd = 3
            · subst k3
              clear k0b k0 k1b k1 k2b k2
              as_aux_lemma =>
                have a0 := b11.at 0 rfl
                have a2 := b11.at 2 rfl
                have hqn : qn ≤ 9223372036854775807 := by
                  have h := Hok.out.wn
                  simp [Lit.wf, IntKind.min, IntKind.max, IntKind.signed, IntKind.bits] at h
                  omega
                go_wp2_with fail
                clear a0 a2
                refine (duo_supply hDW qn).mono ?_
                rintro e w5 ⟨rfl, D5, f5, hD5, -, hU5⟩
                have b5 := b11.upd hU5 (hDW.blkC b11 ⟨by decide, by decide⟩)
                have a2 := b5.at 2 rfl
                go_wp2_with fail
                clear a2
                refine (duo_set hD5 qn hqn).mono ?_
                rintro e w6 ⟨rfl, A6, c6, hD6, -⟩
                have haft : Aft w g gl gd gb N ((j + 1) * 4200) w6 := ⟨D5, f5, A6, c6, _, _, hD6, hide ⟨HG.out.1.supplied qn, by rw [Slv.supplied_len]; exact HG.out.2.1, Slv.fit_up (Slv.supplied_fit HG.out.2.2 hqn) (by omega)⟩⟩
                go_wp2_with fail
                go_meet
                exact haft
            have k3b : (kd == 3) = false := beq_eq_false_iff_ne.2 k3
            by_cases k4 : kd = 4
            · subst k4
              clear k0b k0 k1b k1 k2b k2 k3b k3
              as_aux_lemma =>
                have a0 := b11.at 0 rfl
                have a4 := b11.at 4 rfl
                have hql : ql ≤ maxLen := Nat.le_trans Hok.out.cap Hok.out.max
                have hq32 : ql * 32 ≤ 140737488351232 := Nat.le_trans (Nat.mul_le_mul_right 32 Hok.out.cap) Hqc.out
                have Hql := hide hql
                have Hq32 := hide hq32
                clear hql hq32
                go_wp2_with fail
                clear a0 a4
                refine (duo_wake hDW qA ql qcc ss (Hok.out.scars.ext hDW.ext) Hok.out.len Hql.out (Hok.out.sep hgw hgl)).mono ?_
                rintro e w5 ⟨rfl, D5, f5, hD5, -, hU5⟩
                have b5 := b11.upd hU5 (hDW.blkC b11 ⟨by decide, by decide⟩)
                have a4 := b5.at 4 rfl
                go_wp2_with fail
                clear a4
                refine (rscars_any qA ql qcc ss w5 (Hok.out.scars.ext hD5.ext) Hok.out.len Hq32.out).mono ?_
                rintro e w6 ⟨Ds, cDs, rfl, hL6, hnew, hE6⟩
                have hD6 := hD5.keep hE6
                have hgbl : gb < w5.heap.size := hD5.dl.burnt.lt
                have Hnew := hide hnew
                have HL6 := hide hL6
                clear hnew hL6
                go_wp2_with fail
                refine (duo_wakeD hD6 Ds ql cDs ss HL6.out Hok.out.len Hql.out HG.out.keys (fun _ h => by have := Hnew.out gb h; omega) (fun i hi h0 h => (Hok.out.sep hgb hgb i hi h0 gb h).1 rfl)).mono ?_
                rintro e w7 ⟨rfl, A7, c7, hD7, -⟩
                have haft : Aft w g gl gd gb N ((j + 1) * 4200) w7 := ⟨D5, f5, A7, c7, _, _, hD7, hide ⟨HG.out.1.woken (scaV ss), by rw [Slv.woken_len]; exact HG.out.2.1, Slv.fit_up (Slv.woken_fit HG.out.2.2 _) (by omega)⟩⟩
                go_wp2_with fail
                go_meet
                exact haft
            have k4b : (kd == 4) = false := beq_eq_false_iff_ne.2 k4
            clear k0 k1 k2 k3 k4
            as_aux_lemma =>
              have a0 := b11.at 0 rfl
              have a1 := b11.at 1 rfl
              have a2 := b11.at 2 rfl
              obtain ⟨L, hL, hL200⟩ := u64_mod200 qn
              go_wp2_with (at_make; go_must (refine wpList_mk _ _ _ Try.el8 rfl rfl L rfl rfl rfl rfl (by omega) (by unfold maxLen; omega) by8 rfl rfl (Nat.le_refl _) ?_); rintro g5 w5 hO5 rfl hE5)
              clear a0 a1 a2
              obtain ⟨bs, hbs⟩ : ∃ bs, bs = List.replicate L (default : B8) := ⟨_, rfl⟩
              have hbl : bs.length = L := by rw [hbs, List.length_replicate]
              rw [← hbs] at hO5
              have hX5 : Ext w5 w5.drew := (Upd.refl _ _).drew
              have hD5 := (hDW.keep hE5).keep hX5
              have b5 := (b11.ext hE5).ext hX5
              have hO5' := hO5.ext hX5
              have hndC := hD5.blkC b5 ⟨by decide, by decide⟩
              have hndD := hD5.blkD b5 ⟨by decide, by decide, by decide⟩
              have y1 := fun z : Wd (Upd (fun k => (k = g ∨ k = gl) ∨ DT gd gb A k) w5.drew) => (z.ok.cell (p := ⟨Z.heap.size, 1, none⟩) b5.lt (fun h => h.elim hndC hndD)).trans (b5.at 1 rfl)
              obtain ⟨er, her⟩ : ∃ er, er = x.inkE at' L := ⟨_, rfl⟩
              obtain ⟨hrel, hpe⟩ := HG.out.1.put at' bs
              rw [hbl, ← her] at hpe
              have Her := hide her
              have Hpe := hide hpe
              have Hrel := hide hrel
              have Hbl := hide hbl
              clear her hpe hrel hbl hbs
              refine wp_region_plan (Upd (fun k => (k = g ∨ k = gl) ∨ DT gd gb A k) _) 10 [(false,0), (false,1), (false,2), (false,3), (false,5), (false,6), (false,7), (false,8), (true,4), (true,9)] (by kernel_rfl) (by kernel_rfl) (Upd.refl _ _) (fun hne => ?_)
              repeat (refine head_q rfl (fun K hK => ?_); have hK2 := hide hK; clear hK; go_simp; refine hK2.out _ ?_; clear hK2 K)
              refine head_l rfl ?_
              go_wp2_with (go_at_call 11; go_must (refine (duo_ink hD5 (Slv.fit_up HG.out.2.2 (by omega)) at' (some ⟨W.heap.size, 0, none⟩) L L bs hO5'.sl Hbl.out (by omega)).mono ?_); rw [← Her.out]; rintro e w6 ⟨rfl, D6, f6, hD6, -, hU6⟩)
              refine ⟨_, fun _ h => h, ⟨⟨_, hU6.mono (fun _ _ h => .inl h)⟩, rfl⟩, ?_⟩
              repeat (refine head_q rfl (fun K hK => ?_); have hK2 := hide hK; clear hK; go_simp; refine hK2.out _ ?_; clear hK2 K)
              have hO6 := hO5'.upd hU6 (fun k hk => hD5.own8C hO5' hk)
              refine head_l rfl ?_
              go_wp2_with (go_at_call 21; go_must (refine (duo_put hD6 at' (some ⟨W.heap.size, 0, none⟩) L L bs hO6.sl Hbl.out (by omega) Hmd.out.1 Hmd.out.2.1).mono ?_); rw [Hpe.out]; rintro e w9 ⟨rfl, A9, c9, hD9, hU9⟩)
              refine ⟨_, fun _ h => h, ⟨⟨_, (hU6.mono (fun _ _ h => .inl h)).trans (hU9.mono (fun _ _ h => .inr h))⟩, rfl⟩, ?_⟩
              repeat (refine head_q rfl (fun K hK => ?_); have hK2 := hide hK; clear hK; go_simp; refine hK2.out _ ?_; clear hK2 K)
              clear y1
              refine head_nil ?_
              try simp only [List.drop_succ_cons, List.drop_zero]
              have haft : Aft w g gl gd gb N ((j + 1) * 4200) w9 := ⟨D6, f6, A9, c9, _, _, hD9, hide ⟨Hrel.out, by rw [Slv.inked_len]; exact HG.out.2.1, Slv.fit_up (Slv.inked_fit HG.out.2.2 _ _) (by omega)⟩⟩
              go_wp2_with fail
              go_meet
              exact haft
          case rest =>
            as_aux_lemma =>
              obtain ⟨D2, f2, A2, c2, x2, d2, hD2, HG2⟩ := hcut
              obtain ⟨V, hV⟩ : ∃ V, V = wc := ⟨_, rfl⟩
              subst hV
              have hd : Ext V V.drew := (Upd.refl _ _).drew
              have hDd := hD2.keep hd
              obtain ⟨s, hs⟩ : ∃ s, s = d2.supply := ⟨_, rfl⟩
              obtain ⟨m, hm'⟩ : ∃ m, m = d2.inks.length := ⟨_, rfl⟩
              obtain ⟨mk, hmk⟩ : ∃ mk, mk = d2.made := ⟨_, rfl⟩
              have y1 := fun z : Wd (Ext V.drew) => z.ok.cellv (show V.drew.cell? ⟨gd, 1, none⟩ = some (.slice A2 m c2) from by rw [hm']; exact hDd.dl.cells.at 1 rfl)
              have y2 := fun z : Wd (Ext V.drew) => z.ok.cellv (show V.drew.cell? ⟨gd, 2, none⟩ = some (.int .i64 s) from by rw [hs]; exact hDd.dl.cells.at 2 rfl)
              have y3 := fun z : Wd (Ext V.drew) => z.ok.cellv (show V.drew.cell? ⟨gd, 3, none⟩ = some (.int .i64 mk) from by rw [hmk]; exact hDd.dl.cells.at 3 rfl)
              obtain ⟨o, ho⟩ : ∃ o : Bool, x2.out = o := ⟨_, rfl⟩
              have hso : (s == 0) = o := by
                rw [← ho, HG2.out.1.out, hs]
                by_cases h : d2.supply = 0
                · rw [h]; rfl
                · rw [decide_eq_false h]; exact beq_eq_false_iff_ne.2 h
              have hcount : (inkedK x2 x2.secs.length).length = m := HG2.out.1.count.trans hm'.symm
              have hmade : x2.strokes = mk := HG2.out.1.made.symm.trans hmk.symm
              have hsec : (x2.secs.length : Int) = (N : Int) := by rw [HG2.out.2.1]
              have hm5 : m ≤ 5000 := by rw [hm']; exact hD2.dl.few
              have Ho := hide ho
              have Hcount := hide hcount
              have Hmade := hide hmade
              have Hsec := hide hsec
              clear hs hm' hmk ho hcount hmade hsec
              refine hK _ _ ?_
              go_wp2_with fail
              refine wp_region_plan (Ext _) 33 [(false,0), (false,2), (false,3), (false,4), (false,5), (false,6), (true,1), (false,7), (false,8), (false,9), (false,12), (false,13), (false,14), (false,15), (false,16), (true,10), (false,11), (false,17), (false,18), (false,19), (false,20), (false,22), (false,23), (false,24), (false,25), (true,21), (false,26), (false,27), (false,28), (false,29), (false,31), (true,30), (false,32)] (by kernel_rfl) (by kernel_rfl) (Upd.refl _ _) (fun hne => ?_)
              repeat (refine head_q rfl (fun K hK => ?_); have hK2 := hide hK; clear hK; go_simp; refine hK2.out _ ?_; clear hK2 K)
              refine head_l rfl ?_
              go_wp2_with (go_at_call 17; go_must (refine (sout_any _ D2 g gl f2 x2 _ hDd.sl).mono ?_); rw [Ho.out]; rintro e v1 ⟨rfl, rfl⟩)
              refine ⟨Cls (Ext _), fun _ h => h, ⟨⟨_, (Upd.refl _ _)⟩, rfl⟩, ?_⟩
              repeat (refine head_q rfl (fun K hK => ?_); have hK2 := hide hK; clear hK; go_simp; refine hK2.out _ ?_; clear hK2 K)
              refine head_l rfl ?_
              go_wp2_with (go_at_call 15; go_must (refine (sinked_any _ D2 g gl f2 x2 _ hDd.sl).mono ?_); rw [Hcount.out]; rintro e v2 ⟨A5, c5, rfl, hU2⟩)
              refine ⟨Cls (Ext _), fun _ h => h, ⟨⟨_, hU2⟩, rfl⟩, ?_⟩
              repeat (refine head_q rfl (fun K hK => ?_); have hK2 := hide hK; clear hK; go_simp; refine hK2.out _ ?_; clear hK2 K)
              refine head_l rfl ?_
              go_wp2_with (go_at_call 16; go_must (refine (sstrokes_any _ D2 g gl f2 x2 _ (hDd.sl.ext hU2)).mono ?_); rw [Hmade.out]; rintro e v3 ⟨rfl, rfl⟩)
              refine ⟨Cls (Ext _), fun _ h => h, ⟨⟨_, hU2⟩, rfl⟩, ?_⟩
              repeat (refine head_q rfl (fun K hK => ?_); have hK2 := hide hK; clear hK; go_simp; refine hK2.out _ ?_; clear hK2 K)
              refine head_l rfl ?_
              go_wp2_with (go_at_call 14; go_must (refine (ssectors_any _ D2 g gl f2 x2 _ (hDd.sl.ext hU2)).mono ?_); rw [Hsec.out]; rintro e v4 ⟨rfl, rfl⟩)
              refine ⟨Cls (Ext _), fun _ h => h, ⟨⟨_, hU2⟩, rfl⟩, ?_⟩
              repeat (refine head_q rfl (fun K hK => ?_); have hK2 := hide hK; clear hK; go_simp; refine hK2.out _ ?_; clear hK2 K)
              clear y1 y2 y3
              refine head_nil ?_
              try simp only [List.drop_succ_cons, List.drop_zero]
              have haft : Aft w g gl gd gb N ((j + 1) * 4200) _ := ⟨D2, f2, A2, c2, x2, d2, hDd.keep hU2, HG2⟩
              go_wp2_with fail
              go_roundw
              case rel => exact ⟨j + 1, by omega, by go_num, haft⟩
              case measure => simp [Go.RowKit.intOf]; omega
end Go.Proofs.Ytejjofjhcgdedaa
