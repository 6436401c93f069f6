/- The law that a copied hash goes on by itself, walked. -/
import Derived.Test.YtlbhjjihopafoaaShaI
namespace Go.Proofs.Ytlbhjjihopafoaa
open Go.RowKit
open Sha
attribute [local go_sem] steady steadyUpon Cls by8 by32 by64 str_eq

set_option maxHeartbeats 1000000 in
theorem copies_long (A B C : Option Addr) (la fa lb fb lc fc : Nat) (w : World) (hl : 3000 < la + lb + lc) (h1 : la ≤ maxLen) (h2 : lb ≤ maxLen) (h3 : lc ≤ maxLen) :
    Calls Try.prog 5 #[.slice A la fa, .slice B lb fb, .slice C lc fc] w fun e w' => e = .returned (.bool true) ∧ Ext w w' := by
  unfold maxLen at h1 h2 h3
  obtain ⟨s, hs⟩ : ∃ s, wrap64 (wrap64 ((la : Int) + lb) + lc) = s := ⟨_, rfl⟩
  by_cases d2 : (3000 : Int) < la
  · clear hl h1 h2 h3
    by_cases d1 : 3000 < s
    ·
      go_enter Try.func5, Try.ntmps5
      go_wp2_with fail
      refine (lives_any _).mono ?_
      rintro e w1 ⟨rfl, hU1⟩
      go_wp2_with fail
      refine (lives_any _).mono ?_
      rintro e w2 ⟨rfl, hU2⟩
      go_wp2_with fail
      go_ret
      exact ⟨rfl, hU1.trans hU2⟩
    ·
      go_enter Try.func5, Try.ntmps5
      go_wp2_with fail
      refine (lives_any _).mono ?_
      rintro e w1 ⟨rfl, hU1⟩
      go_wp2_with fail
      refine (lives_any _).mono ?_
      rintro e w2 ⟨rfl, hU2⟩
      go_wp2_with fail
      go_ret
      exact ⟨rfl, hU1.trans hU2⟩
  · by_cases d3 : (3000 : Int) < lb
    · clear hl h1 h2 h3
      by_cases d1 : 3000 < s
      ·
        go_enter Try.func5, Try.ntmps5
        go_wp2_with fail
        refine (lives_any _).mono ?_
        rintro e w1 ⟨rfl, hU1⟩
        go_wp2_with fail
        refine (lives_any _).mono ?_
        rintro e w2 ⟨rfl, hU2⟩
        go_wp2_with fail
        go_ret
        exact ⟨rfl, hU1.trans hU2⟩
      ·
        go_enter Try.func5, Try.ntmps5
        go_wp2_with fail
        refine (lives_any _).mono ?_
        rintro e w1 ⟨rfl, hU1⟩
        go_wp2_with fail
        refine (lives_any _).mono ?_
        rintro e w2 ⟨rfl, hU2⟩
        go_wp2_with fail
        go_ret
        exact ⟨rfl, hU1.trans hU2⟩
    · have hs2 := hs
      rw [IntWalk.wrap64_in ((la : Int) + lb) (by omega)] at hs2
      clear hs
      by_cases d4 : (3000 : Int) < lc
      · clear hl h1 h2 h3
        by_cases d1 : 3000 < s
        ·
          go_enter Try.func5, Try.ntmps5
          go_wp2_with fail
          refine (lives_any _).mono ?_
          rintro e w1 ⟨rfl, hU1⟩
          go_wp2_with fail
          refine (lives_any _).mono ?_
          rintro e w2 ⟨rfl, hU2⟩
          go_wp2_with fail
          go_ret
          exact ⟨rfl, hU1.trans hU2⟩
        ·
          go_enter Try.func5, Try.ntmps5
          go_wp2_with fail
          refine (lives_any _).mono ?_
          rintro e w1 ⟨rfl, hU1⟩
          go_wp2_with fail
          refine (lives_any _).mono ?_
          rintro e w2 ⟨rfl, hU2⟩
          go_wp2_with fail
          go_ret
          exact ⟨rfl, hU1.trans hU2⟩
      · rw [IntWalk.wrap64_in _ (by omega)] at hs2
        have d1 : (3000 : Int) < (la : Int) + lb + lc := by omega
        clear hl hs2
        go_enter Try.func5, Try.ntmps5
        go_wp2_with fail
        refine (lives_any _).mono ?_
        rintro e w1 ⟨rfl, hU1⟩
        go_wp2_with fail
        refine (lives_any _).mono ?_
        rintro e w2 ⟨rfl, hU2⟩
        go_wp2_with fail
        go_ret
        exact ⟨rfl, hU1.trans hU2⟩

theorem Hsh.self {w : World} {B : Nat} {T : Nat → Prop} {g : Nat} {msg : List (BitVec 8)} (h : Hsh w B T g msg) : T g := by
  obtain ⟨A, c, _, _, hT⟩ := h.ex
  exact (hT g).2 (.inl rfl)
theorem two_part (w : World) (A : Option Addr) (n c : Nat) (bs : List (BitVec 8)) (hS : Sl by8 w A bs) (hn : bs.length = n) (hc : n ≤ c) (hm : c ≤ maxLen)
    (A' : Option Addr) (n' c' : Nat) (bs' : List (BitVec 8)) (hS' : Sl by8 w A' bs') (hn' : bs'.length = n') (hc' : n' ≤ c') (hm' : c' ≤ maxLen) :
    Pts (w.alloc (.cells #[.slice A n c, .slice A' n' c'] 22)) (some ⟨w.heap.size, 0, none⟩) [⟨A, n, c, bs⟩, ⟨A', n', c', bs'⟩] :=
  ⟨Sl.new Pt.val w 22 [⟨A, n, c, bs⟩, ⟨A', n', c', bs'⟩], fun i hi => by
    have hi2 : i = 0 ∨ i = 1 := by simp at hi; omega
    rcases hi2 with rfl | rfl
    · exact ⟨hS.ext ((Upd.refl _ _).alloc _), hn, hc, hm⟩
    · exact ⟨hS'.ext ((Upd.refl _ _).alloc _), hn', hc', hm'⟩⟩
theorem flat_two (p q : Pt) : flat [p, q] = p.bs ++ q.bs := by simp [flat]

set_option maxRecDepth 100000 in
set_option maxHeartbeats 2000000 in
theorem copies_short (A B C : Option Addr) (la fa lb fb lc fc : Nat) (a b c : List (BitVec 8)) (w : World) (hl : la + lb + lc ≤ 3000) (ha : a.length = la) (hb : b.length = lb) (hc : c.length = lc)
    (hA : Sl by8 w A a) (hB : Sl by8 w B b) (hC : Sl by8 w C c) (h1 : la ≤ fa) (h2 : lb ≤ fb) (h3 : lc ≤ fc) (m1 : fa ≤ maxLen) (m2 : fb ≤ maxLen) (m3 : fc ≤ maxLen) :
    Calls Try.prog 5 #[.slice A la fa, .slice B lb fb, .slice C lc fc] w fun e w' => e = .returned (.bool true) ∧ Ext w w' := by
  have Ha := hide ha
  have Hb := hide hb
  have Hc := hide hc
  have HA := hide hA
  have HB := hide hB
  have HC := hide hC
  have M1 := hide m1
  have M2 := hide m2
  have M3 := hide m3
  clear ha hb hc hA hB hC m1 m2 m3
  have d1 : ¬ (3000 : Int) < (la : Int) + lb + lc := by omega
  have d2 : ¬ (3000 : Int) < (la : Int) := by omega
  have d3 : ¬ (3000 : Int) < (lb : Int) := by omega
  have d4 : ¬ (3000 : Int) < (lc : Int) := by omega
  go_enter Try.func5, Try.ntmps5
  go_wp2_with fail
  refine (lives_any _).mono ?_
  rintro e w1 ⟨rfl, hU1⟩
  go_wp2_with fail
  refine (new_any _).mono ?_
  rintro e w2 ⟨g, T, rfl, hH, hU2⟩
  have hU12 := hU1.trans hU2
  have hB1 := hU1.size
  have hH' := hide hH
  clear hH hU1
  go_wp2_with fail
  refine (add_any w1.heap.size g T [] a a _ _ _ _ hH'.out hU2.size (HA.out.ext hU12) Ha.out rfl (by rw [Ha.out]; omega)).mono ?_
  rintro e w3 ⟨T3, rfl, hH3, hU3, hin3⟩
  have hU3' : Ext w w3 := upd_new hU3 hU12 (fun i hi => by have := (hH'.out.in_ hi).1; have := hU12.size; have := hU2.size; have := hB1; omega)
  have hH3' := hide hH3
  clear hH3 hU3 hin3 hH' hU2 hU12
  go_wp2_with fail
  refine (copy_any w1.heap.size g T3 a _ hH3'.out (by rw [Ha.out]; omega)).mono ?_
  rintro e w4 ⟨g4, T4, rfl, hH4, hU4⟩
  have hB3 := hU3'.size
  have hH4' := hide hH4
  clear hH4
  go_wp2_with fail
  refine (add_any w1.heap.size g T3 a b (a ++ b) _ _ _ _ (hH3'.out.ext hU4) (by have := hU3'.size; have := hU4.size; have := hB1; have := (hH3'.out.in_ (hH3'.out.self)).2; have := hH3'.out.old; omega) (HB.out.ext (hU3'.trans hU4)) Hb.out rfl (by rw [List.length_append, Ha.out, Hb.out]; omega)).mono ?_
  rintro e w5 ⟨T5, rfl, hH5, hU5, hin5⟩
  have hd4 : ∀ k, T4 k → ¬ T3 k := fun k h4 h3 => by have := (hH4'.out.in_ h4).1; have := (hH3'.out.in_ h3).2; omega
  have hH4x := hide (hH4'.out.upd hU5 hd4)
  have hd5 : ∀ k, T5 k → ¬ T4 k := fun k h5 h4 => by
    rcases hin5 k h5 with h | h
    · exact hd4 k h4 h
    · have := (hH4'.out.in_ h4).2; omega
  have hU5' : Ext w w5 := upd_new hU5 (hU3'.trans hU4) (fun i hi => by have := (hH3'.out.in_ hi).1; have := hB1; omega)
  have hH5' := hide hH5
  clear hH5 hU5 hin5 hd4 hH3' hU4 hH4' hU3'
  go_wp2_with fail
  refine (add_any _ g4 T4 a c (a ++ c) _ _ _ _ hH4x.out (Nat.le_trans hH4x.out.old (Nat.le_of_lt (hH4x.out.in_ hH4x.out.self).2)) (HC.out.ext hU5') Hc.out rfl (by rw [List.length_append, Ha.out, Hc.out]; omega)).mono ?_
  rintro e w6 ⟨T6, rfl, hH6, hU6, hin6⟩
  have hU6' : Ext w w6 := upd_new hU6 hU5' (fun i hi => by have := (hH4x.out.in_ hi).1; have := hB3; omega)
  have hH6' := hide hH6
  have hH5x := hide (hH5'.out.upd hU6 hd5)
  clear hH6 hU6 hin6 hH5' hH4x hd5 hU5'
  have HHh := hide (hH5x.out.ext (Upd.refl _ w6).drew)
  have HHg := hide (hH6'.out.ext (Upd.refl _ w6).drew)
  have HA' := hide (HA.out.ext hU6'.drew)
  have HB' := hide (HB.out.ext hU6'.drew)
  have HC' := hide (HC.out.ext hU6'.drew)
  have hW := Upd.refl (fun _ => False) w6.drew
  have hK := Upd.refl (fun _ => False) w6.drew
  clear HA HB HC hH5x hH6'
  go_wp2_with fail
  refine wp_region_tree (Ext _) 20 (.q 0 (.q 3 (.q 4 (.two 1 5 (.q 2 (.l 5 (.l 6 (.q 7 (.q 8 (.q 9 (.q 10 (.q 13 (.q 14 (.two 11 15 (.q 12 (.l 15 (.l 16 (.q 17 (.q 18 (.q 19 .done)))))) (.l 11 (.q 12 (.l 16 (.q 17 (.q 18 (.q 19 .done)))))))))))))))) (.l 1 (.q 2 (.l 6 (.q 7 (.q 8 (.q 9 (.q 10 (.q 13 (.q 14 (.two 11 15 (.q 12 (.l 15 (.l 16 (.q 17 (.q 18 (.q 19 .done)))))) (.l 11 (.q 12 (.l 16 (.q 17 (.q 18 (.q 19 .done)))))))))))))))))))) (by kernel_rfl) (by kernel_rfl) (Upd.refl _ _) (fun hne => ?_)
  repeat (refine tree_q rfl (fun K hK => ?_); go_simp; refine hK _ ?_; clear hK K)
  refine tree_two rfl rfl ?_ ?_
  · go_wp2_with fail
    refine (hsum_any _ _ _ (a ++ b) _ (HHh.out.ext hW) (by rw [List.length_append, Ha.out, Hb.out]; omega)).mono ?_
    rintro e wn ⟨An, cn, rfl, hOn, hUn⟩
    have hsn := str_cls (c := cn) hOn.sl (sum_length (a ++ b))
    have hW := hW.trans hUn
    have hK := hK.trans hUn
    try have hPW := hPW.trans hUn
    go_wp2_with fail
    refine ⟨Cls (Ext _), cls_narrow hK, ⟨⟨_, Upd.refl _ _⟩, rfl⟩, ?_⟩
    clear hK
    have hK := Upd.refl (fun _ => False) wn
    repeat (refine tree_q rfl (fun K hK => ?_); go_simp; refine hK _ ?_; clear hK K)
    refine tree_l rfl ?_
    go_wp2_with fail
    have HP := hide (two_part _ A la fa a (HA'.out.ext hW) Ha.out h1 M1.out B lb fb b (HB'.out.ext hW) Hb.out h2 M2.out)
    have hW := hW.alloc (.cells #[.slice A la fa, .slice B lb fb] 22)
    have hK := hK.alloc (.cells #[.slice A la fa, .slice B lb fb] 22)
    have hPW := Upd.refl (fun _ => False) (World.alloc wn (.cells #[.slice A la fa, .slice B lb fb] 22))
    refine ⟨_, fun _ h => h, ⟨⟨_, hK⟩, rfl⟩, ?_⟩
    repeat (refine tree_q rfl (fun K hK => ?_); go_simp; refine hK _ ?_; clear hK K)
    refine tree_l rfl ?_
    go_wp2_with fail
    refine (psum_any _ _ _ [⟨A, la, fa, a⟩, ⟨B, lb, fb, b⟩] _ (HP.out.ext hPW) rfl (by rw [flat_two]; simp only; rw [List.length_append, Ha.out, Hb.out]; omega) (by simp [maxLen])).mono ?_
    rintro e wm ⟨Am, cm, rfl, hOm, hUm⟩
    rw [flat_two] at hOm
    have hsm := str_cls (c := cm) hOm.sl (sum_length (a ++ b))
    have hW := hW.trans hUm
    have hK := hK.trans hUm
    clear hPW HP
    go_wp2_with fail
    refine ⟨Cls (Ext _), cls_narrow hK, ⟨⟨_, Upd.refl _ _⟩, rfl⟩, ?_⟩
    clear hK
    have hK := Upd.refl (fun _ => False) wm
    repeat (refine tree_q rfl (fun K hK => ?_); go_simp; refine hK _ ?_; clear hK K)
    refine tree_two rfl rfl ?_ ?_
    ·
      go_wp2_with fail
      refine (hsum_any _ _ _ (a ++ c) _ (HHg.out.ext hW) (by rw [List.length_append, Ha.out, Hc.out]; omega)).mono ?_
      rintro e wn ⟨An, cn, rfl, hOn, hUn⟩
      have hsn := str_cls (c := cn) hOn.sl (sum_length (a ++ c))
      have hW := hW.trans hUn
      have hK := hK.trans hUn
      try have hPW := hPW.trans hUn
      go_wp2_with fail
      refine ⟨Cls (Ext _), cls_narrow hK, ⟨⟨_, Upd.refl _ _⟩, rfl⟩, ?_⟩
      clear hK
      have hK := Upd.refl (fun _ => False) wn
      repeat (refine tree_q rfl (fun K hK => ?_); go_simp; refine hK _ ?_; clear hK K)
      refine tree_l rfl ?_
      go_wp2_with fail
      have HP := hide (two_part _ A la fa a (HA'.out.ext hW) Ha.out h1 M1.out C lc fc c (HC'.out.ext hW) Hc.out h3 M3.out)
      have hW := hW.alloc (.cells #[.slice A la fa, .slice C lc fc] 22)
      have hK := hK.alloc (.cells #[.slice A la fa, .slice C lc fc] 22)
      have hPW := Upd.refl (fun _ => False) (World.alloc wn (.cells #[.slice A la fa, .slice C lc fc] 22))
      refine ⟨_, fun _ h => h, ⟨⟨_, hK⟩, rfl⟩, ?_⟩
      repeat (refine tree_q rfl (fun K hK => ?_); go_simp; refine hK _ ?_; clear hK K)
      refine tree_l rfl ?_
      go_wp2_with fail
      refine (psum_any _ _ _ [⟨A, la, fa, a⟩, ⟨C, lc, fc, c⟩] _ (HP.out.ext hPW) rfl (by rw [flat_two]; simp only; rw [List.length_append, Ha.out, Hc.out]; omega) (by simp [maxLen])).mono ?_
      rintro e wm ⟨Am, cm, rfl, hOm, hUm⟩
      rw [flat_two] at hOm
      have hsm := str_cls (c := cm) hOm.sl (sum_length (a ++ c))
      have hW := hW.trans hUm
      have hK := hK.trans hUm
      clear hPW HP
      go_wp2_with fail
      refine ⟨Cls (Ext _), cls_narrow hK, ⟨⟨_, Upd.refl _ _⟩, rfl⟩, ?_⟩
      clear hK
      have hK := Upd.refl (fun _ => False) wm
      repeat (refine tree_q rfl (fun K hK => ?_); go_simp; refine hK _ ?_; clear hK K)
      refine tree_done ?_
      try simp only [List.drop_succ_cons, List.drop_zero]
      go_wp2
      go_ret
      exact ⟨rfl, hU6'.trans hW.undrew⟩
    ·
      go_wp2_with fail
      have HP := hide (two_part _ A la fa a (HA'.out.ext hW) Ha.out h1 M1.out C lc fc c (HC'.out.ext hW) Hc.out h3 M3.out)
      have hW := hW.alloc (.cells #[.slice A la fa, .slice C lc fc] 22)
      have hK := hK.alloc (.cells #[.slice A la fa, .slice C lc fc] 22)
      have hPW := Upd.refl (fun _ => False) (World.alloc wm (.cells #[.slice A la fa, .slice C lc fc] 22))
      refine ⟨_, fun _ h => h, ⟨⟨_, hK⟩, rfl⟩, ?_⟩
      repeat (refine tree_q rfl (fun K hK => ?_); go_simp; refine hK _ ?_; clear hK K)
      refine tree_l rfl ?_
      go_wp2_with fail
      refine (hsum_any _ _ _ (a ++ c) _ (HHg.out.ext hW) (by rw [List.length_append, Ha.out, Hc.out]; omega)).mono ?_
      rintro e wn ⟨An, cn, rfl, hOn, hUn⟩
      have hsn := str_cls (c := cn) hOn.sl (sum_length (a ++ c))
      have hW := hW.trans hUn
      have hK := hK.trans hUn
      try have hPW := hPW.trans hUn
      go_wp2_with fail
      refine ⟨Cls (Ext _), cls_narrow hK, ⟨⟨_, Upd.refl _ _⟩, rfl⟩, ?_⟩
      clear hK
      have hK := Upd.refl (fun _ => False) wn
      repeat (refine tree_q rfl (fun K hK => ?_); go_simp; refine hK _ ?_; clear hK K)
      refine tree_l rfl ?_
      go_wp2_with fail
      refine (psum_any _ _ _ [⟨A, la, fa, a⟩, ⟨C, lc, fc, c⟩] _ (HP.out.ext hPW) rfl (by rw [flat_two]; simp only; rw [List.length_append, Ha.out, Hc.out]; omega) (by simp [maxLen])).mono ?_
      rintro e wm ⟨Am, cm, rfl, hOm, hUm⟩
      rw [flat_two] at hOm
      have hsm := str_cls (c := cm) hOm.sl (sum_length (a ++ c))
      have hW := hW.trans hUm
      have hK := hK.trans hUm
      clear hPW HP
      go_wp2_with fail
      refine ⟨Cls (Ext _), cls_narrow hK, ⟨⟨_, Upd.refl _ _⟩, rfl⟩, ?_⟩
      clear hK
      have hK := Upd.refl (fun _ => False) wm
      repeat (refine tree_q rfl (fun K hK => ?_); go_simp; refine hK _ ?_; clear hK K)
      refine tree_done ?_
      try simp only [List.drop_succ_cons, List.drop_zero]
      go_wp2
      go_ret
      exact ⟨rfl, hU6'.trans hW.undrew⟩
  · go_wp2_with fail
    have HP := hide (two_part _ A la fa a (HA'.out.ext hW) Ha.out h1 M1.out B lb fb b (HB'.out.ext hW) Hb.out h2 M2.out)
    have hW := hW.alloc (.cells #[.slice A la fa, .slice B lb fb] 22)
    have hK := hK.alloc (.cells #[.slice A la fa, .slice B lb fb] 22)
    have hPW := Upd.refl (fun _ => False) (World.alloc w6.drew (.cells #[.slice A la fa, .slice B lb fb] 22))
    refine ⟨_, fun _ h => h, ⟨⟨_, hK⟩, rfl⟩, ?_⟩
    repeat (refine tree_q rfl (fun K hK => ?_); go_simp; refine hK _ ?_; clear hK K)
    refine tree_l rfl ?_
    go_wp2_with fail
    refine (hsum_any _ _ _ (a ++ b) _ (HHh.out.ext hW) (by rw [List.length_append, Ha.out, Hb.out]; omega)).mono ?_
    rintro e wn ⟨An, cn, rfl, hOn, hUn⟩
    have hsn := str_cls (c := cn) hOn.sl (sum_length (a ++ b))
    have hW := hW.trans hUn
    have hK := hK.trans hUn
    try have hPW := hPW.trans hUn
    go_wp2_with fail
    refine ⟨Cls (Ext _), cls_narrow hK, ⟨⟨_, Upd.refl _ _⟩, rfl⟩, ?_⟩
    clear hK
    have hK := Upd.refl (fun _ => False) wn
    repeat (refine tree_q rfl (fun K hK => ?_); go_simp; refine hK _ ?_; clear hK K)
    refine tree_l rfl ?_
    go_wp2_with fail
    refine (psum_any _ _ _ [⟨A, la, fa, a⟩, ⟨B, lb, fb, b⟩] _ (HP.out.ext hPW) rfl (by rw [flat_two]; simp only; rw [List.length_append, Ha.out, Hb.out]; omega) (by simp [maxLen])).mono ?_
    rintro e wm ⟨Am, cm, rfl, hOm, hUm⟩
    rw [flat_two] at hOm
    have hsm := str_cls (c := cm) hOm.sl (sum_length (a ++ b))
    have hW := hW.trans hUm
    have hK := hK.trans hUm
    clear hPW HP
    go_wp2_with fail
    refine ⟨Cls (Ext _), cls_narrow hK, ⟨⟨_, Upd.refl _ _⟩, rfl⟩, ?_⟩
    clear hK
    have hK := Upd.refl (fun _ => False) wm
    repeat (refine tree_q rfl (fun K hK => ?_); go_simp; refine hK _ ?_; clear hK K)
    refine tree_two rfl rfl ?_ ?_
    ·
      go_wp2_with fail
      refine (hsum_any _ _ _ (a ++ c) _ (HHg.out.ext hW) (by rw [List.length_append, Ha.out, Hc.out]; omega)).mono ?_
      rintro e wn ⟨An, cn, rfl, hOn, hUn⟩
      have hsn := str_cls (c := cn) hOn.sl (sum_length (a ++ c))
      have hW := hW.trans hUn
      have hK := hK.trans hUn
      try have hPW := hPW.trans hUn
      go_wp2_with fail
      refine ⟨Cls (Ext _), cls_narrow hK, ⟨⟨_, Upd.refl _ _⟩, rfl⟩, ?_⟩
      clear hK
      have hK := Upd.refl (fun _ => False) wn
      repeat (refine tree_q rfl (fun K hK => ?_); go_simp; refine hK _ ?_; clear hK K)
      refine tree_l rfl ?_
      go_wp2_with fail
      have HP := hide (two_part _ A la fa a (HA'.out.ext hW) Ha.out h1 M1.out C lc fc c (HC'.out.ext hW) Hc.out h3 M3.out)
      have hW := hW.alloc (.cells #[.slice A la fa, .slice C lc fc] 22)
      have hK := hK.alloc (.cells #[.slice A la fa, .slice C lc fc] 22)
      have hPW := Upd.refl (fun _ => False) (World.alloc wn (.cells #[.slice A la fa, .slice C lc fc] 22))
      refine ⟨_, fun _ h => h, ⟨⟨_, hK⟩, rfl⟩, ?_⟩
      repeat (refine tree_q rfl (fun K hK => ?_); go_simp; refine hK _ ?_; clear hK K)
      refine tree_l rfl ?_
      go_wp2_with fail
      refine (psum_any _ _ _ [⟨A, la, fa, a⟩, ⟨C, lc, fc, c⟩] _ (HP.out.ext hPW) rfl (by rw [flat_two]; simp only; rw [List.length_append, Ha.out, Hc.out]; omega) (by simp [maxLen])).mono ?_
      rintro e wm ⟨Am, cm, rfl, hOm, hUm⟩
      rw [flat_two] at hOm
      have hsm := str_cls (c := cm) hOm.sl (sum_length (a ++ c))
      have hW := hW.trans hUm
      have hK := hK.trans hUm
      clear hPW HP
      go_wp2_with fail
      refine ⟨Cls (Ext _), cls_narrow hK, ⟨⟨_, Upd.refl _ _⟩, rfl⟩, ?_⟩
      clear hK
      have hK := Upd.refl (fun _ => False) wm
      repeat (refine tree_q rfl (fun K hK => ?_); go_simp; refine hK _ ?_; clear hK K)
      refine tree_done ?_
      try simp only [List.drop_succ_cons, List.drop_zero]
      go_wp2
      go_ret
      exact ⟨rfl, hU6'.trans hW.undrew⟩
    ·
      go_wp2_with fail
      have HP := hide (two_part _ A la fa a (HA'.out.ext hW) Ha.out h1 M1.out C lc fc c (HC'.out.ext hW) Hc.out h3 M3.out)
      have hW := hW.alloc (.cells #[.slice A la fa, .slice C lc fc] 22)
      have hK := hK.alloc (.cells #[.slice A la fa, .slice C lc fc] 22)
      have hPW := Upd.refl (fun _ => False) (World.alloc wm (.cells #[.slice A la fa, .slice C lc fc] 22))
      refine ⟨_, fun _ h => h, ⟨⟨_, hK⟩, rfl⟩, ?_⟩
      repeat (refine tree_q rfl (fun K hK => ?_); go_simp; refine hK _ ?_; clear hK K)
      refine tree_l rfl ?_
      go_wp2_with fail
      refine (hsum_any _ _ _ (a ++ c) _ (HHg.out.ext hW) (by rw [List.length_append, Ha.out, Hc.out]; omega)).mono ?_
      rintro e wn ⟨An, cn, rfl, hOn, hUn⟩
      have hsn := str_cls (c := cn) hOn.sl (sum_length (a ++ c))
      have hW := hW.trans hUn
      have hK := hK.trans hUn
      try have hPW := hPW.trans hUn
      go_wp2_with fail
      refine ⟨Cls (Ext _), cls_narrow hK, ⟨⟨_, Upd.refl _ _⟩, rfl⟩, ?_⟩
      clear hK
      have hK := Upd.refl (fun _ => False) wn
      repeat (refine tree_q rfl (fun K hK => ?_); go_simp; refine hK _ ?_; clear hK K)
      refine tree_l rfl ?_
      go_wp2_with fail
      refine (psum_any _ _ _ [⟨A, la, fa, a⟩, ⟨C, lc, fc, c⟩] _ (HP.out.ext hPW) rfl (by rw [flat_two]; simp only; rw [List.length_append, Ha.out, Hc.out]; omega) (by simp [maxLen])).mono ?_
      rintro e wm ⟨Am, cm, rfl, hOm, hUm⟩
      rw [flat_two] at hOm
      have hsm := str_cls (c := cm) hOm.sl (sum_length (a ++ c))
      have hW := hW.trans hUm
      have hK := hK.trans hUm
      clear hPW HP
      go_wp2_with fail
      refine ⟨Cls (Ext _), cls_narrow hK, ⟨⟨_, Upd.refl _ _⟩, rfl⟩, ?_⟩
      clear hK
      have hK := Upd.refl (fun _ => False) wm
      repeat (refine tree_q rfl (fun K hK => ?_); go_simp; refine hK _ ?_; clear hK K)
      refine tree_done ?_
      try simp only [List.drop_succ_cons, List.drop_zero]
      go_wp2
      go_ret
      exact ⟨rfl, hU6'.trans hW.undrew⟩
theorem copies_any (A B C : Option Addr) (la fa lb fb lc fc : Nat) (a b c : List (BitVec 8)) (w : World) (ha : a.length = la) (hb : b.length = lb) (hc : c.length = lc)
    (hA : Sl by8 w A a) (hB : Sl by8 w B b) (hC : Sl by8 w C c) (h1 : la ≤ fa) (h2 : lb ≤ fb) (h3 : lc ≤ fc) (m1 : fa ≤ maxLen) (m2 : fb ≤ maxLen) (m3 : fc ≤ maxLen) :
    Calls Try.prog 5 #[.slice A la fa, .slice B lb fb, .slice C lc fc] w fun e w' => e = .returned (.bool true) ∧ Ext w w' := by
  by_cases hl : la + lb + lc ≤ 3000
  · exact copies_short A B C la fa lb fb lc fc a b c w hl ha hb hc hA hB hC h1 h2 h3 m1 m2 m3
  · exact copies_long A B C la fa lb fb lc fc w (by omega) (by omega) (by omega) (by omega)
end Go.Proofs.Ytlbhjjihopafoaa
