/- The document's lists as bytes, walked: nats, texts. -/
import Derived.Test.YtjdodhooojjldaaWirV
import Derived.Test.YtjdodhooojjldaaRefL
namespace Go.Proofs.Ytjdodhooojjldaa
set_option linter.unusedSimpArgs false
set_option linter.unusedVariables false
open Go.RowKit
open Nt Sha
attribute [local go_sem] steady steadyUpon Cls same_cell anyW
attribute [local irreducible] wpHead wpTree wpHeadR
/-- bytes to be joined, or none -/
def RetPt (w : World) (ok : Bool) (bs : List B8) (e : Ending) (w' : World) : Prop :=
  ∃ A l c, e = .returned (.tuple #[.slice A l c, .bool ok]) ∧ Ext w w' ∧ (ok = true → bs.length = l ∧ l ≤ c ∧ c ≤ maxLen ∧ Sl by8 w' A bs)
theorem be_one (m : Nat) (hm : m ≤ 255) : ((be (m : Int) 1).map by8).toArray = #[.int .u8 (m : Int)] := by
  show #[by8 (wby (m : Int) 0)] = _
  rw [by8_small (m : Int) (by omega) (by omega)]
set_option maxRecDepth 100000 in
set_option maxHeartbeats 4000000 in
theorem rnats_any (L : Option Addr) (m cL K : Nat) (ns : List Nat) (w : World) (hL : RefL w L ns) (hm : ns.length = m) (hm2 : m ≤ 9223372036854775807) (hF : FitL K ns) (hK : K ≤ 1000) :
    Calls Try.prog 91 #[.slice L m cL] w (RetPt w (!natsBad ns) (natsB ns)) := by
  obtain ⟨ok, hok⟩ : ∃ ok, ok = !natsBad ns := ⟨_, rfl⟩
  rw [← hok]
  have Hok := hide hok
  have Hm := hide hm
  have HL := hide hL
  clear hok hm hL
  go_enter Try.func91, Try.ntmps91
  by_cases h64 : 64 < m
  · have hI : (64 : Int) < (m : Int) := by omega
    obtain rfl : ok = false := Hok.out.trans (by unfold natsBad; rw [Hm.out, decide_eq_true h64]; rfl)
    go_wp2_with fail
    refine bodyPost_ret (v := .tuple #[.slice none 0 0, .bool false]) ?_ rfl ⟨none, 0, 0, rfl, Upd.refl _ _, fun h => (by cases h)⟩
    simp [results, Try.results91, go_sem]
  · have hI : ¬ (64 : Int) < (m : Int) := by omega
    go_wp2_with fail
    go_loopw [4, 18] (fun o i wr => ∃ (j : Nat) (A : Option Addr) (l c : Nat) (bs : List B8), j ≤ m ∧ i = .int .i64 (j : Int) ∧ o = .slice A l c ∧ bs.length = l ∧ bs = be (m : Int) 1 ++ (ns.take j).flatMap natB ∧ l ≤ 1 + j * 130 ∧ Own wr w.heap.size 5 A c (bs.map by8) ∧ (ns.take j).any nLong = false ∧ Ext w wr) (fun _ i _ => m - (intOf i).toNat)
    case atStart =>
      refine ⟨0, _, _, _, be (m : Int) 1, Nat.zero_le _, rfl, rfl, be_length _ _, (List.append_nil _).symm, by omega, ?_, rfl, (Upd.refl _ _).alloc _⟩
      have := Own.lit by8 w 5 (be (m : Int) 1) (Nat.le_refl _) (by rw [be_length]; unfold maxLen; decide)
      rw [be_one m (by omega)] at this
      exact this
    case round =>
      obtain ⟨j, A, l, c, bs, hj, rfl, rfl, hbl, hbs, hl, hO, hno, hE⟩ := hrel
      have Hbl := hide hbl
      have Hbs := hide hbs
      have Hl := hide hl
      have HO := hide hO
      have Hno := hide hno
      clear hbl hbs hl hO hno
      by_cases hlt : j < m
      · have hltI : (j : Int) < (m : Int) := by omega
        obtain ⟨b, o, P, lP, cP, rfl, hcj, hVp⟩ := (HL.out.ext' hE).at (i := j) (by rw [Hm.out]; exact hlt)
        obtain ⟨p, hp⟩ : ∃ p, p = gat ns j := ⟨_, rfl⟩
        have hFp : Fit K p := by rw [hp]; exact hF j (by rw [Hm.out]; exact hlt)
        rw [← hp] at hVp
        have hbp : blen p ≤ 32 * K := hFp.blen
        have HlP := hide hVp.len
        have hlp : lP ≤ 32000 := by rw [HlP.out]; omega
        obtain ⟨sz, hsz⟩ : ∃ sz, sz = bytelen p := ⟨_, rfl⟩
        have hszI : ((lP : Int) + 7) / 8 = (sz : Int) := by rw [hsz]; unfold bytelen; rw [← HlP.out]; omega
        have hsz4 : sz ≤ 5000 := by rw [hsz]; unfold bytelen; omega
        have Hsz := hide hsz
        have Hp := hide hp
        clear hp hsz
        go_wp2_with fail
        refine (rbytes_any _ p (32 * K) sz _ hVp hbp (by omega) (by rw [Hsz.out]; exact Nat.le_refl _) (by omega)).mono ?_
        rintro e w3 ⟨A3, c3, rfl, hl3, hO3, hU3⟩
        have HO3 := hide hO3
        have Hl3 := hide hl3
        have hany : (ns.take (j + 1)).any nLong = decide (128 < sz) := by
          rw [anyN_take _ (by rw [Hm.out]; exact hlt), Hno.out, ← Hp.out, Bool.false_or, Hsz.out]; rfl
        have Hany := hide hany
        clear hO3 hl3 hany hcj hVp
        by_cases h128 : 128 < sz
        · have h128I : (128 : Int) < (sz : Int) := by omega
          obtain rfl : ok = false := Hok.out.trans (by
            unfold natsBad
            have h1 : ns.any nLong = true := by
              rw [List.any_eq_true]
              refine ⟨gat ns j, by rw [gat_lt (by rw [Hm.out]; exact hlt)]; exact List.getElem_mem _, ?_⟩
              rw [← Hp.out]
              unfold nLong
              rw [← Hsz.out]
              exact decide_eq_true h128
            rw [h1, Bool.or_true]
            rfl)
          go_wp2_with fail
          refine bodyPost_ret (v := .tuple #[.slice none 0 0, .bool false]) ?_ rfl ⟨none, 0, 0, rfl, hE.trans hU3, fun h => (by cases h)⟩
          simp [results, Try.results91, go_sem]
        · have h128I : ¬ (128 : Int) < (sz : Int) := by omega
          have hc3 := HO3.out.cap
          rw [List.length_map, Hl3.out] at hc3
          go_wp2_with fail
          refine (rtext_any A3 sz c3 (sz + 2) (toB p sz) _ HO3.out.sl Hl3.out hc3.1 hc3.2 (by omega) rfl).mono ?_
          rintro e w4 ⟨A4, c4, rfl, hO4, hU4⟩
          have hE4 := (hE.trans hU3).trans hU4
          have hlt4 : (txt (toB p sz)).length = sz + 2 := by unfold txt; rw [List.length_append, be_length, Hl3.out]; omega
          have HO4 := hide hO4
          have Hlt4 := hide hlt4
          clear hO4 hlt4
          go_wp2_with (at_builtin; go_must (refine wpList_apd by8 one8 Try.n_el8 bs (txt (toB p sz)) (bs ++ txt (toB p sz)) (l + (sz + 2)) rfl (by rw [List.length_append, Hbl.out, Hlt4.out]) (by have := Hl.out; omega) (by have := Hl.out; unfold maxLen; omega) rfl rfl rfl Hbl.out (HO.out.ext (hU3.trans hU4)) rfl Hlt4.out HO4.out.sl hE4.size ?_); intro A5 c5 w5 hO5 hU5 hin5)
          have hE5 : Ext w w5 := Upd.fresh hU5 hE4 (fun k hk => (HO.out.in_ hk).1)
          have HO5 := hide hO5
          have HE5 := hide hE5
          clear hO5 hU5 hin5 hE5
          go_roundw
          case rel => exact ⟨j + 1, _, _, _, bs ++ txt (toB p sz), by omega, by go_num, rfl, by rw [List.length_append, Hbl.out, Hlt4.out], by rw [Hbs.out, flatN_take _ (by rw [Hm.out]; exact hlt), ← Hp.out, List.append_assoc]; unfold natB; rw [← Hsz.out], by have := Hl.out; omega, HO5.out, by rw [Hany.out]; exact decide_eq_false h128, HE5.out⟩
          case measure => simp [intOf]; omega
      · obtain rfl : j = m := by omega
        have hltI : ¬ (j : Int) < (j : Int) := by omega
        have htk : ns.take j = ns := List.take_of_length_le (by rw [Hm.out]; exact Nat.le_refl _)
        have hno := Hno.out
        have hbs := Hbs.out
        rw [htk] at hno hbs
        obtain rfl : ok = true := Hok.out.trans (by unfold natsBad; rw [Hm.out, decide_eq_false h64, hno]; rfl)
        have hbs2 : bs = natsB ns := by rw [hbs]; unfold natsB; rw [Hm.out]
        have hc := HO.out.cap
        rw [List.length_map, Hbl.out] at hc
        clear htk hno hbs
        go_wp2_with fail
        refine bodyPost_ret (v := .tuple #[.slice A l c, .bool true]) ?_ rfl ⟨A, l, c, rfl, hE, fun _ => ⟨by rw [← hbs2]; exact Hbl.out, hc.1, hc.2, by rw [← hbs2]; exact HO.out.sl⟩⟩
        simp [results, Try.results91, go_sem]
set_option maxRecDepth 100000 in
set_option maxHeartbeats 4000000 in
theorem rtexts_any (L : Option Addr) (m cL : Nat) (ps : List Pt) (w : World) (hL : Pts w L ps) (hm : ps.length = m) (hm2 : m ≤ 9223372036854775807) :
    Calls Try.prog 92 #[.slice L m cL] w (RetPt w (!textsBad ps) (textsB ps)) := by
  obtain ⟨ok, hok⟩ : ∃ ok, ok = !textsBad ps := ⟨_, rfl⟩
  rw [← hok]
  have Hok := hide hok
  have Hm := hide hm
  have HL := hide hL
  clear hok hm hL
  go_enter Try.func92, Try.ntmps92
  by_cases h64 : 64 < m
  · have hI : (64 : Int) < (m : Int) := by omega
    obtain rfl : ok = false := Hok.out.trans (by unfold textsBad; rw [Hm.out, decide_eq_true h64]; rfl)
    go_wp2_with fail
    refine bodyPost_ret (v := .tuple #[.slice none 0 0, .bool false]) ?_ rfl ⟨none, 0, 0, rfl, Upd.refl _ _, fun h => (by cases h)⟩
    simp [results, Try.results92, go_sem]
  · have hI : ¬ (64 : Int) < (m : Int) := by omega
    go_wp2_with fail
    go_loopw [4, 16] (fun o i wr => ∃ (j : Nat) (A : Option Addr) (l c : Nat) (bs : List B8), j ≤ m ∧ i = .int .i64 (j : Int) ∧ o = .slice A l c ∧ bs.length = l ∧ bs = be (m : Int) 1 ++ (ps.take j).flatMap (fun p => txt p.bs) ∧ l ≤ 1 + j * 1026 ∧ Own wr w.heap.size 5 A c (bs.map by8) ∧ (ps.take j).any tLong = false ∧ Ext w wr) (fun _ i _ => m - (intOf i).toNat)
    case atStart =>
      refine ⟨0, _, _, _, be (m : Int) 1, Nat.zero_le _, rfl, rfl, be_length _ _, (List.append_nil _).symm, by omega, ?_, rfl, (Upd.refl _ _).alloc _⟩
      have := Own.lit by8 w 5 (be (m : Int) 1) (Nat.le_refl _) (by rw [be_length]; unfold maxLen; decide)
      rw [be_one m (by omega)] at this
      exact this
    case round =>
      obtain ⟨j, A, l, c, bs, hj, rfl, rfl, hbl, hbs, hl, hO, hno, hE⟩ := hrel
      have Hbl := hide hbl
      have Hbs := hide hbs
      have Hl := hide hl
      have HO := hide hO
      have Hno := hide hno
      clear hbl hbs hl hO hno
      by_cases hlt : j < m
      · have hltI : (j : Int) < (m : Int) := by omega
        obtain ⟨b, o, rfl, _, hc⟩ := (HL.out.1.ext hE).open_ (by rw [Hm.out]; omega)
        have hck := hc j (by rw [Hm.out]; exact hlt)
        have hpo := HL.out.2 j (by rw [Hm.out]; exact hlt)
        obtain ⟨p, hp⟩ : ∃ p, p = gat ps j := ⟨_, rfl⟩
        rw [← hp] at hck hpo
        obtain ⟨P, sz, cP, pbs⟩ := p
        replace hck : wr.cell? ⟨b, o + j, none⟩ = some (.slice P sz cP) := hck
        obtain ⟨hSp, hl3, hlc, hcm⟩ := hpo
        have hSp : Sl by8 w P pbs := hSp
        have hl3 : pbs.length = sz := hl3
        have hlc : sz ≤ cP := hlc
        have hcm : cP ≤ maxLen := hcm
        have Hp := hide hp
        have HSp := hide (hSp.ext hE)
        have Hl3 := hide hl3
        have Hcm := hide hcm
        have hany : (ps.take (j + 1)).any tLong = decide (1024 < sz) := by
          rw [anyN_take _ (by rw [Hm.out]; exact hlt), Hno.out, ← Hp.out, Bool.false_or]; rfl
        have Hany := hide hany
        have hmx : sz ≤ 9223372036854775807 := by unfold maxLen at hcm; omega
        clear hp hc hany hSp hl3 hcm
        by_cases h128 : 1024 < sz
        · have h128I : (1024 : Int) < (sz : Int) := by omega
          obtain rfl : ok = false := Hok.out.trans (by
            unfold textsBad
            have h1 : ps.any tLong = true := by
              rw [List.any_eq_true]
              refine ⟨gat ps j, by rw [gat_lt (by rw [Hm.out]; exact hlt)]; exact List.getElem_mem _, ?_⟩
              rw [← Hp.out]
              exact decide_eq_true h128
            rw [h1, Bool.or_true]
            rfl)
          go_wp2_with fail
          refine bodyPost_ret (v := .tuple #[.slice none 0 0, .bool false]) ?_ rfl ⟨none, 0, 0, rfl, hE, fun h => (by cases h)⟩
          simp [results, Try.results92, go_sem]
        · have h128I : ¬ (1024 : Int) < (sz : Int) := by omega
          go_wp2_with fail
          refine (rtext_any P sz cP (sz + 2) pbs _ HSp.out Hl3.out hlc Hcm.out (by omega) rfl).mono ?_
          rintro e w4 ⟨A4, c4, rfl, hO4, hU4⟩
          have hE4 := hE.trans hU4
          have hlt4 : (txt pbs).length = sz + 2 := by unfold txt; rw [List.length_append, be_length, Hl3.out]; omega
          have HO4 := hide hO4
          have Hlt4 := hide hlt4
          clear hO4 hlt4 hck
          go_wp2_with (at_builtin; go_must (refine wpList_apd by8 one8 Try.n_el8 bs (txt pbs) (bs ++ txt pbs) (l + (sz + 2)) rfl (by rw [List.length_append, Hbl.out, Hlt4.out]) (by have := Hl.out; omega) (by have := Hl.out; unfold maxLen; omega) rfl rfl rfl Hbl.out (HO.out.ext hU4) rfl Hlt4.out HO4.out.sl hE4.size ?_); intro A5 c5 w5 hO5 hU5 hin5)
          have hE5 : Ext w w5 := Upd.fresh hU5 hE4 (fun k hk => (HO.out.in_ hk).1)
          have HO5 := hide hO5
          have HE5 := hide hE5
          clear hO5 hU5 hin5 hE5
          go_roundw
          case rel => exact ⟨j + 1, _, _, _, bs ++ txt pbs, by omega, by go_num, rfl, by rw [List.length_append, Hbl.out, Hlt4.out], by rw [Hbs.out, flatN_take _ (by rw [Hm.out]; exact hlt), ← Hp.out, List.append_assoc], by have := Hl.out; omega, HO5.out, by rw [Hany.out]; exact decide_eq_false h128, HE5.out⟩
          case measure => simp [intOf]; omega
      · obtain rfl : j = m := by omega
        have hltI : ¬ (j : Int) < (j : Int) := by omega
        have htk : ps.take j = ps := List.take_of_length_le (by rw [Hm.out]; exact Nat.le_refl _)
        have hno := Hno.out
        have hbs := Hbs.out
        rw [htk] at hno hbs
        obtain rfl : ok = true := Hok.out.trans (by unfold textsBad; rw [Hm.out, decide_eq_false h64, hno]; rfl)
        have hbs2 : bs = textsB ps := by rw [hbs]; unfold textsB; rw [Hm.out]
        have hc := HO.out.cap
        rw [List.length_map, Hbl.out] at hc
        clear htk hno hbs
        go_wp2_with fail
        refine bodyPost_ret (v := .tuple #[.slice A l c, .bool true]) ?_ rfl ⟨A, l, c, rfl, hE, fun _ => ⟨by rw [← hbs2]; exact Hbl.out, hc.1, hc.2, by rw [← hbs2]; exact HO.out.sl⟩⟩
        simp [results, Try.results92, go_sem]
end Go.Proofs.Ytjdodhooojjldaa
