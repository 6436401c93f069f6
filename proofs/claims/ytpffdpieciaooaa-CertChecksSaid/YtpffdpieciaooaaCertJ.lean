/- Claims as a chain, walked: chain. -/
import Derived.Test.YtpffdpieciaooaaCertI
namespace Go.Proofs.Ytpffdpieciaooaa
set_option linter.unusedSimpArgs false
set_option linter.unusedVariables false
open Go.RowKit
open Nt Pk
attribute [local go_sem] steady steadyUpon Cls same_cell anyW
attribute [local irreducible] wpHead wpTree wpHeadR
theorem Try.n_elS : ElemK Try.prog 64 72 (.agg #[.slice none 0 0, .slice none 0 0, .slice none 0 0]) 3 72 := ⟨by kernel_rfl, by kernel_rfl, rfl, by decide⟩
theorem Try.n_elT : ElemK Try.prog 65 75 (.agg #[.slice none 0 0, .slice none 0 0, .slice none 0 0]) 3 72 := ⟨by kernel_rfl, by kernel_rfl, rfl, by decide⟩
theorem v3_one (m : Tr3) : ∀ u ∈ v3 m, u.oneCell' = true := fun u hu => by
  unfold v3 at hu
  simp at hu
  rcases hu with rfl | rfl | rfl <;> rfl
theorem Three.news {w : World} {g : Nat} {t : TypeId} {m : Tr3} (h : Three w g t (svt m.1) (svt m.2.1) (svt m.2.2)) : ∀ (j : Nat) (u : Value), (v3 m)[j]? = some u → w.cell? ((⟨g, 0, none⟩ : Addr).add j) = some u := fun j u hu => by
  rw [Addr.add_lit, Nat.zero_add]
  match j, hu with
  | 0, hu => simp [v3] at hu; rw [← hu]; exact h.cell0
  | 1, hu => simp [v3] at hu; rw [← hu]; exact h.cell1
  | 2, hu => simp [v3] at hu; rw [← hu]; exact h.cell2
  | k + 3, hu => simp [v3] at hu
theorem ownK_apart {w : World} {B B' sz sz' n n' : Nat} {e e' : TypeId} {A A' : Option Addr} {c c' : Nat} {xs xs' : List Value} (h : OwnK w B e sz A n c xs) (h' : OwnK w B' e' sz' A' n' c' xs') (hne : e ≠ e') {k : Nat} (hk : inA A k) : ¬ inA A' k := fun hk' => by
  rcases h.2 with ⟨h0, _⟩ | ⟨g, cap, cur, hv, hb, hg, _⟩
  · injection h0 with h0; subst h0; simp [inA] at hk
  · rcases h'.2 with ⟨h0, _⟩ | ⟨g', cap', cur', hv', hb', hg', _⟩
    · injection h0 with h0; subst h0; simp [inA] at hk'
    · injection hv with hA; injection hv' with hA'
      subst hA; subst hA'
      simp [inA] at hk hk'
      subst hk; subst hk'
      rw [hg] at hg'
      injection hg' with hg'
      injection hg' with _ he
      exact hne he
/-- what a step's rows keep off -/
def Rf (w : World) (D F : Option Addr) : Nat → Prop := fun k => k < w.heap.size ∧ ¬ inA D k ∧ ¬ inA F k
def m3 (m : Tr3) : Value := .agg #[svt m.1, svt m.2.1, svt m.2.2]
structure Ck (w : World) (B : Nat) (D F : Option Addr) (la cD lb cF : Nat) (ms rs : List Tr3) (ss ts : List St) : Prop where
  oD : OwnK w B 72 3 D la cD (flat3 ms)
  oF : OwnK w B 75 3 F lb cF (flat3 rs)
  lm : ms.length = la
  lr : rs.length = lb
  ls : ss.length = la
  lt : ts.length = lb
  st : ∀ i, i < la → StepR w (m3 (gat ms i)) (gat ss i).N (gat ss i).b (gat ss i).ps (Rf w D F)
  rt : ∀ i, i < lb → RStepR w (m3 (gat rs i)) (gat ts i).N (gat ts i).b (gat ts i).ps (Rf w D F)
theorem Ck.ext {w w' : World} {B : Nat} {D F : Option Addr} {la cD lb cF : Nat} {ms rs : List Tr3} {ss ts : List St} (h : Ck w B D F la cD lb cF ms rs ss ts) (hu : Ext w w') : Ck w' B D F la cD lb cF ms rs ss ts :=
  ⟨h.oD.ext hu, h.oF.ext hu, h.lm, h.lr, h.ls, h.lt, fun i hi => (h.st i hi).apart hu (fun _ _ h => h) (fun k hk => ⟨Nat.lt_of_lt_of_le hk.1 hu.size, hk.2⟩), fun i hi => (h.rt i hi).apart hu (fun _ _ h => h) (fun k hk => ⟨Nat.lt_of_lt_of_le hk.1 hu.size, hk.2⟩)⟩
theorem Ck.pushD {w w3 : World} {B : Nat} {D F D2 : Option Addr} {la cD lb cF c2 : Nat} {ms rs : List Tr3} {ss ts : List St} {m : Tr3} {s : St} (h : Ck w B D F la cD lb cF ms rs ss ts) (hs : StepR w (m3 m) s.N s.b s.ps (Rf w D F)) (hO : OwnK w3 B 72 3 D2 (la + 1) c2 (flat3 ms ++ v3 m)) (hU : Upd (inA D) w w3) (hin : ∀ k, inA D2 k → inA D k ∨ k = w.heap.size) :
    Ck w3 B D2 F (la + 1) c2 lb cF (ms ++ [m]) rs (ss ++ [s]) ts := by
  have sz := hU.size
  have hT : ∀ k, Rf w D F k → ¬ inA D k := fun k hk => hk.2.1
  have hR : ∀ k, Rf w D F k → Rf w3 D2 F k := fun k hk => ⟨Nat.lt_of_lt_of_le hk.1 sz, fun hd => (hin k hd).elim hk.2.1 (fun e => by have := hk.1; omega), hk.2.2⟩
  refine ⟨by rw [flat3_snoc]; exact hO, h.oF.upd hU (fun k hk => ownK_apart h.oF h.oD (by decide) hk), by rw [List.length_append, h.lm]; rfl, h.lr, by rw [List.length_append, h.ls]; rfl, h.lt, fun i hi => ?_, fun i hi => (h.rt i hi).apart hU hT hR⟩
  by_cases hlt : i < la
  · rw [gat_snoc_left (by rw [h.lm]; exact hlt), gat_snoc_left (by rw [h.ls]; exact hlt)]
    exact (h.st i hlt).apart hU hT hR
  · rw [gat_snoc_last (by rw [h.lm]; omega), gat_snoc_last (by rw [h.ls]; omega)]
    exact hs.apart hU hT hR
theorem Ck.pushF {w w3 : World} {B : Nat} {D F F2 : Option Addr} {la cD lb cF c2 : Nat} {ms rs : List Tr3} {ss ts : List St} {m : Tr3} {s : St} (h : Ck w B D F la cD lb cF ms rs ss ts) (hs : RStepR w (m3 m) s.N s.b s.ps (Rf w D F)) (hO : OwnK w3 B 75 3 F2 (lb + 1) c2 (flat3 rs ++ v3 m)) (hU : Upd (inA F) w w3) (hin : ∀ k, inA F2 k → inA F k ∨ k = w.heap.size) :
    Ck w3 B D F2 la cD (lb + 1) c2 ms (rs ++ [m]) ss (ts ++ [s]) := by
  have sz := hU.size
  have hT : ∀ k, Rf w D F k → ¬ inA F k := fun k hk => hk.2.2
  have hR : ∀ k, Rf w D F k → Rf w3 D F2 k := fun k hk => ⟨Nat.lt_of_lt_of_le hk.1 sz, hk.2.1, fun hd => (hin k hd).elim hk.2.2 (fun e => by have := hk.1; omega)⟩
  refine ⟨h.oD.upd hU (fun k hk => ownK_apart h.oD h.oF (by decide) hk), by rw [flat3_snoc]; exact hO, h.lm, by rw [List.length_append, h.lr]; rfl, h.ls, by rw [List.length_append, h.lt]; rfl, fun i hi => (h.st i hi).apart hU hT hR, fun i hi => ?_⟩
  by_cases hlt : i < lb
  · rw [gat_snoc_left (by rw [h.lr]; exact hlt), gat_snoc_left (by rw [h.lt]; exact hlt)]
    exact (h.rt i hlt).apart hU hT hR
  · rw [gat_snoc_last (by rw [h.lr]; omega), gat_snoc_last (by rw [h.lt]; omega)]
    exact hs.apart hU hT hR
/-- A slice of the document's steps. -/
def RStepL (w : World) (A : Option Addr) (ss : List St) : Prop := ∀ i, i < ss.length → ∃ b o A1 l1 c1 A2 l2 c2 A3 n3 c3, A = some ⟨b, o, none⟩ ∧
  w.cell? ⟨b, o + i * 3, none⟩ = some (.slice A1 l1 c1) ∧ w.cell? ⟨b, o + i * 3 + 1, none⟩ = some (.slice A2 l2 c2) ∧ w.cell? ⟨b, o + i * 3 + 2, none⟩ = some (.slice A3 n3 c3) ∧
  RefV w (.slice A1 l1 c1) (gat ss i).N ∧ RefV w (.slice A2 l2 c2) (gat ss i).b ∧ RefL w A3 (gat ss i).ps ∧ (gat ss i).ps.length = n3 ∧ n3 ≤ c3 ∧ c3 ≤ maxLen
theorem RStepL.ext {w w' : World} {A : Option Addr} {ss : List St} (h : RStepL w A ss) (hu : Ext w w') : RStepL w' A ss := fun i hi => by
  obtain ⟨b, o, A1, l1, c1, A2, l2, c2, A3, n3, c3, h0, h1, h2, h3, h4, h5, h6, h7⟩ := h i hi
  exact ⟨b, o, A1, l1, c1, A2, l2, c2, A3, n3, c3, h0, hu.cellv h1, hu.cellv h2, hu.cellv h3, h4.ext hu, h5.ext hu, h6.ext hu, h7⟩
theorem Ck.steps {w : World} {B : Nat} {D F : Option Addr} {la cD lb cF : Nat} {ms rs : List Tr3} {ss ts : List St} (h : Ck w B D F la cD lb cF ms rs ss ts) : StepL w D ss ∧ RStepL w F ts := by
  refine ⟨fun i hi => ?_, fun i hi => ?_⟩
  · rw [h.ls] at hi
    obtain ⟨g, rfl, -, -, hc⟩ := h.oD.open_ (by omega)
    obtain ⟨f0, f1, f2⟩ := flat3_at ms i (by rw [h.lm]; exact hi)
    have hl := flat3_length ms
    rw [h.lm] at hl
    obtain ⟨A1, l1, c1, A2, l2, c2, A3, n3, c3, e, g1, g2, g3, g4, g5, g6⟩ := (h.st i hi).step
    unfold m3 at e
    injection e with e
    simp at e
    obtain ⟨e1, e2, e3⟩ := e
    refine ⟨g, 0, A1, l1, c1, A2, l2, c2, A3, n3, c3, rfl, ?_, ?_, ?_, g1, g2, g3, g4, g5, g6⟩
    · rw [Nat.zero_add, hc _ (by omega), f0, e1]
    · rw [Nat.zero_add, hc _ (by omega), f1, e2]
    · rw [Nat.zero_add, hc _ (by omega), f2, e3]
  · rw [h.lt] at hi
    obtain ⟨g, rfl, -, -, hc⟩ := h.oF.open_ (by omega)
    obtain ⟨f0, f1, f2⟩ := flat3_at rs i (by rw [h.lr]; exact hi)
    have hl := flat3_length rs
    rw [h.lr] at hl
    obtain ⟨A1, l1, c1, A2, l2, c2, A3, n3, c3, e, g1, g2, g3, g4, g5, g6⟩ := (h.rt i hi).step
    unfold m3 at e
    injection e with e
    simp at e
    obtain ⟨e1, e2, e3⟩ := e
    refine ⟨g, 0, A1, l1, c1, A2, l2, c2, A3, n3, c3, rfl, ?_, ?_, ?_, g1, g2, g3, g4, g5, g6⟩
    · rw [Nat.zero_add, hc _ (by omega), f0, e1]
    · rw [Nat.zero_add, hc _ (by omega), f1, e2]
    · rw [Nat.zero_add, hc _ (by omega), f2, e3]
theorem Ck.nil {w : World} {B : Nat} : Ck w B none none 0 0 0 0 [] [] [] [] :=
  ⟨OwnK.nil, OwnK.nil, rfl, rfl, rfl, rfl, fun i hi => absurd hi (by omega), fun i hi => absurd hi (by omega)⟩
set_option maxRecDepth 100000 in
set_option maxHeartbeats 8000000 in
theorem cchain_any (A : Option Addr) (n c : Nat) (cs : List Cl) (w : World) (hL : ClL w A cs) (hn : cs.length = n) (hn2 : n ≤ 8) (h40 : Hid (∀ j, j < cs.length → (gat cs j).n ≤ 1000)) :
    Calls Try.prog 42 #[.slice A n c] w fun e w' => ∃ D cD F cF, e = .returned (.tuple #[.slice D n cD, .slice F n cF]) ∧ n ≤ cD ∧ cD ≤ maxLen ∧ n ≤ cF ∧ cF ≤ maxLen ∧ StepL w' D (cs.map Cl.st) ∧ RStepL w' F (cs.map Cl.st) ∧ Ext w w' := by
  have Hn := hide hn
  have HL := hide hL
  clear hn hL
  go_enter Try.func42, Try.ntmps42
  go_wp2_with fail
  obtain ⟨Bz, hBz⟩ : ∃ Bz, Bz = w.heap.size := ⟨_, rfl⟩
  go_loopw [4, 5, 12] (fun a b i wr => ∃ (j la lb : Nat) (D : Option Addr) (cD : Nat) (F : Option Addr) (cF : Nat) (ms rs : List Tr3), j ≤ n ∧ la = j ∧ lb = j ∧ a = .slice D la cD ∧ b = .slice F lb cF ∧ i = .int .i64 (j : Int) ∧ Ck wr Bz D F la cD lb cF ms rs ((cs.take j).map Cl.st) ((cs.take j).map Cl.st) ∧ Ext w wr) (fun _ _ i _ => n - (intOf i).toNat)
  case atStart => exact ⟨0, 0, 0, none, 0, none, 0, [], [], Nat.zero_le _, rfl, rfl, rfl, rfl, rfl, Ck.nil, Upd.refl _ _⟩
  case round =>
    obtain ⟨j, la, lb, D, cD, F, cF, ms, rs, hj, hla, hlb, rfl, rfl, rfl, hK, hE⟩ := hrel
    have hBr : Bz ≤ wr.heap.size := by rw [hBz]; exact hE.size
    have HK := hide hK
    have Hla := hide hla
    have Hlb := hide hlb
    by_cases hlt : j < n
    · have hltI : (j : Int) < (n : Int) := by omega
      obtain ⟨b, o, rfl, q0, q1, q2, hok⟩ := (HL.out.ext hE) j (by rw [Hn.out]; exact hlt)
      have hsn := h40.out j (by rw [Hn.out]; exact hlt)
      obtain ⟨x, hx⟩ : ∃ x, x = gat cs j := ⟨_, rfl⟩
      have htk : (cs.take (j + 1)).map Cl.st = (cs.take j).map Cl.st ++ [x.st] := by rw [List.take_succ_eq_append_getElem (by rw [Hn.out]; exact hlt), hx, gat_lt (by rw [Hn.out]; exact hlt), List.map_append]; rfl
      rw [← hx] at q0 q1 q2 hok hsn
      have Htk := hide htk
      have Hok := hide hok
      have Hsn := hide hsn
      clear hx htk hok hsn hK hla hlb
      go_wp2_with fail
      have hstep := cstep_any x.P x.n x.c x.N x.b x.ps (wr.alloc (.cells #[.int .u64 (x.N : Int), .int .u64 (x.b : Int), .slice x.P x.n x.c] 62)) Hok.out.1 Hok.out.2.1 Hok.out.2.2.1 (Hok.out.2.2.2.1.ext ((Upd.refl _ _).alloc _)) Hok.out.2.2.2.2.1 Hsn.out Hok.out.2.2.2.2.2.1 Hok.out.2.2.2.2.2.2
      refine hstep.mono ?_
      rintro e w1 ⟨va, vb, rfl, hs1, hs2, hU1⟩
      obtain ⟨A1, l1, d1, A2, l2, d2, A3, l3, d3, rfl, -⟩ := id hs1
      obtain ⟨B1, m1, e1, B2, m2, e2, B3, m3', e3, rfl, -⟩ := id hs2
      have HS1 := hide hs1
      have HS2 := hide hs2
      have HU1 := hide hU1
      clear hs1 hs2 hU1 hstep
      have hE1 : Ext wr w1 := ((Upd.refl _ wr).alloc _).trans HU1.out
      have hsz : wr.heap.size ≤ (wr.alloc (.cells #[.int .u64 (x.N : Int), .int .u64 (x.b : Int), .slice x.P x.n x.c] 62)).heap.size := by simp
      have hoff : ∀ k, ((wr.alloc (.cells #[.int .u64 (x.N : Int), .int .u64 (x.b : Int), .slice x.P x.n x.c] 62)).heap.size ≤ k ∧ k < w1.heap.size) → Rf w1 D F k := fun k hk => ⟨hk.2, fun h => by have := (HK.out.oD.in_ h).2; omega, fun h => by have := (HK.out.oF.in_ h).2; omega⟩
      have hc1 : StepR w1 (m3 ((A1, l1, d1), (A2, l2, d2), (A3, l3, d3))) x.st.N x.st.b x.st.ps (Rf w1 D F) := HS1.out.apart (Upd.refl _ w1) (fun _ _ h => h) hoff
      have hc2 : RStepR w1 (m3 ((B1, m1, e1), (B2, m2, e2), (B3, m3', e3))) x.st.N x.st.b x.st.ps (Rf w1 D F) := HS2.out.apart (Upd.refl _ w1) (fun _ _ h => h) hoff
      have HK1 := hide (HK.out.ext hE1)
      have HC1 := hide hc1
      have HC2 := hide hc2
      have HE := hide (hE.trans hE1)
      have hsz1 : w.heap.size ≤ w1.heap.size := HE.out.size
      clear hE1 hsz hoff hc1 hc2 hE HS1 HS2 HU1 HK Hok q0 q1 q2
      go_wp2_with (first
        | (at_builtin; refine wpList_apk Try.n_elS (flat3 ms) (v3 ((A1, l1, d1), (A2, l2, d2), (A3, l3, d3))) rfl (v3_one _) rfl rfl rfl ((((HK1.out.oD.ext ((Upd.refl _ _).alloc _)).ext ((Upd.refl _ _).alloc _))).ext ((Upd.refl _ _).alloc _)) rfl (Three.news (m := ((A1, l1, d1), (A2, l2, d2), (A3, l3, d3))) (Three.new_at (by simp))) (by have := Hla.out; unfold maxLen; omega) (by have := Hla.out; omega) (by simp; omega) ?_
           intro D2 c2 w2 hO2 hU2 hin2
           have t9 := ((Three.new_at (w := w1.alloc (.cells #[.slice A1 l1 d1, .slice A2 l2 d2, .slice A3 l3 d3] 72)) (g := w1.heap.size + 1) (t := 75) (a := .slice B1 m1 e1) (b := .slice B2 m2 e2) (c := .slice B3 m3' e3) (by simp)).alloc (.cells #[.slice A1 l1 d1, .slice A2 l2 d2, .slice A3 l3 d3] 72)).upd hU2 (fun h => by have := (HK1.out.oD.in_ h).2; omega)
           have r0 := t9.cell0
           have r1 := t9.cell1
           have r2 := t9.cell2
           have hW : Ext w1 (((w1.alloc (.cells #[.slice A1 l1 d1, .slice A2 l2 d2, .slice A3 l3 d3] 72)).alloc (.cells #[.slice B1 m1 e1, .slice B2 m2 e2, .slice B3 m3' e3] 75)).alloc (.cells #[.slice A1 l1 d1, .slice A2 l2 d2, .slice A3 l3 d3] 72)) := (((Upd.refl _ _).alloc _).alloc _).alloc _
           have hup : ∀ k, Rf w1 D F k → Rf (((w1.alloc (.cells #[.slice A1 l1 d1, .slice A2 l2 d2, .slice A3 l3 d3] 72)).alloc (.cells #[.slice B1 m1 e1, .slice B2 m2 e2, .slice B3 m3' e3] 75)).alloc (.cells #[.slice A1 l1 d1, .slice A2 l2 d2, .slice A3 l3 d3] 72)) D F k := fun k hk => ⟨Nat.lt_of_lt_of_le hk.1 hW.size, hk.2⟩
           have hK2 := (HK1.out.ext hW).pushD (HC1.out.apart hW (fun _ _ h => h) hup) hO2 hU2 hin2
           have HC3 := hide ((HC2.out.apart hW (fun _ _ h => h) hup).apart hU2 (fun k hk => hk.2.1) (R' := Rf w2 D2 F) (fun k hk => ⟨Nat.lt_of_lt_of_le hk.1 hU2.size, fun h => (hin2 k h).elim hk.2.1 (fun e => by have := hk.1; omega), hk.2.2⟩))
           have HK2 := hide hK2
           have HE2 := hide (Upd.fresh hU2 (HE.out.trans hW) (fun k hk => by have := (HK1.out.oD.in_ hk).1; omega))
           have hszw : w.heap.size ≤ w2.heap.size := HE2.out.size
           clear hW hup hK2 hO2 hU2 hin2 t9 HC1 HC2 HK1 HE)
        | (at_builtin; refine wpList_apk Try.n_elT (flat3 rs) (v3 ((B1, m1, e1), (B2, m2, e2), (B3, m3', e3))) rfl (v3_one _) rfl rfl rfl (HK2.out.oF.ext ((Upd.refl _ _).alloc _)) rfl (Three.news (m := ((B1, m1, e1), (B2, m2, e2), (B3, m3', e3))) (Three.new _ _ _ _ _)) (by have := Hlb.out; unfold maxLen; omega) (by have := Hlb.out; omega) (by simp; omega) ?_
           intro F2 c3 w3 hO3 hU3 hin3
           have hW : Ext w2 (w2.alloc (.cells #[.slice B1 m1 e1, .slice B2 m2 e2, .slice B3 m3' e3] 75)) := (Upd.refl _ _).alloc _
           have hup : ∀ k, Rf w2 D2 F k → Rf (w2.alloc (.cells #[.slice B1 m1 e1, .slice B2 m2 e2, .slice B3 m3' e3] 75)) D2 F k := fun k hk => ⟨Nat.lt_of_lt_of_le hk.1 hW.size, hk.2⟩
           have HK3 := hide ((HK2.out.ext hW).pushF (HC3.out.apart hW (fun _ _ h => h) hup) hO3 hU3 hin3)
           have HE3 := hide (Upd.fresh hU3 (HE2.out.trans hW) (fun k hk => by have := (HK2.out.oF.in_ hk).1; omega))
           clear hW hup hO3 hU3 hin3 HC3 HK2 HE2))
      go_roundw
      case rel => exact ⟨j + 1, la + 1, lb + 1, D2, c2, F2, c3, _, _, hlt, by have := Hla.out; omega, by have := Hlb.out; omega, rfl, rfl, by go_num, by rw [Htk.out]; exact HK3.out, HE3.out⟩
      case measure => simp [intOf]; omega
    · obtain rfl : j = n := by omega
      have hltI : ¬ (j : Int) < (j : Int) := by omega
      have hS := HK.out.steps
      have htk : cs.take j = cs := List.take_of_length_le (by rw [Hn.out]; exact Nat.le_refl _)
      rw [htk] at hS
      subst hla
      subst hlb
      have hcD := hK.oD.cap
      have hcF := hK.oF.cap
      clear HK hK htk
      go_wp2_with fail
      refine bodyPost_ret (v := .tuple #[.slice D lb cD, .slice F lb cF]) ?_ rfl ⟨_, _, _, _, rfl, hcD.1, hcD.2, hcF.1, hcF.2, hS.1, hS.2, hE⟩
      simp [results, Try.results42, go_sem]
end Go.Proofs.Ytpffdpieciaooaa
