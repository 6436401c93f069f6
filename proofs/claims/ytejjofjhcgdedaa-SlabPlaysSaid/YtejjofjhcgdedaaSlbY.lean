/- The document's slab, walked: Face, Put. -/
import Derived.Test.YtejjofjhcgdedaaSlbX
namespace Go.Proofs.Ytejjofjhcgdedaa
set_option linter.unusedSimpArgs false
set_option linter.unusedVariables false
open Go.RowKit
open Sha
attribute [local go_sem] steady steadyUpon Cls same_cell anyW
attribute [local irreducible] wpHead wpTree wpHeadR
/-- a whole value is stored over a block's cells -/
theorem wpList_store_blk {P : Program} {w : World} {ops : Array Oper} {rest : List Oper} {o : Oper} {a : Act} {Q : Exit → Act → World → Prop} (hgd : o.guard = none) {ty : TypeId} {x y : Operand} (ho : o.op = .store ty x y)
    {g : Nat} (hx : a.eval x = .pointer (some ⟨g, 0, none⟩)) {vs : List Value} (hy : a.eval y = .agg vs.toArray) {t : TypeId} {cs : Array Value} (hB : Blk w g t cs) (hs : cs.size = vs.length) (hi : (P.info? ty).map (·.size) = some vs.length) (h1 : ∀ u ∈ vs, u.oneCell' = true)
    (h : ∀ w', Blk w' g t vs.toArray → Upd (only g) w w' → wpList P ops Q rest (a.put o.dst undef) w') : wpList P ops Q (o :: rest) a w := by
  have hsz : vs.toArray.size = vs.length := rfl
  refine wpList_store_mid hgd ty x y ho g 0 vs.toArray hx hy (fun j hj => ⟨?_, hB.frozen _⟩) hi (all_oneCell_toArray h1) (h _ ?_ (setCells_upd g vs w 0))
  · have hj' : j < cs.size := by rw [hs]; exact hj
    rw [Nat.zero_add, hB.at j (Array.getElem?_eq_getElem hj')]; rfl
  · have := setCells_blk vs w cs 0 hB (by omega)
    have e : cs.toList.take 0 ++ (vs ++ cs.toList.drop (0 + vs.length)) = vs := by
      rw [List.take_zero, List.nil_append, List.drop_of_length_le (by simp; omega), List.append_nil]
    rw [e] at this
    exact this
theorem Try.info_f64 : (Try.prog.info? 83).map (·.size) = some 64 := by kernel_rfl
theorem Try.info_ink : (Try.prog.info? 85).map (·.size) = some 65 := by kernel_rfl
theorem sl_of_bV {w : World} {g : Nat} {t : TypeId} {b : List B8} (h : Blk w g t (bV b).toArray) : Sl by8 w (some ⟨g, 0, none⟩) b :=
  Sl.of_cells fun i hi => h.at _ (by unfold bV; simp [gat_lt hi, hi])
section
variable {w : World} {B g gb : Nat} {A : Option Addr} {c N : Nat} {d : Dsl}
theorem DslW.face64 (h : DslW w B g gb A c N d) {i : Nat} (hi : i < N) : (d.face i).length = 64 := by
  unfold Dsl.face
  cases hf : fnd d.inks (i : Int) with
  | none => exact h.b64 _ (by rw [gat_lt (by rw [h.len]; exact hi)]; exact List.getElem_mem _)
  | some k => exact h.i64 _ (by rw [gat_lt (fnd_some hf).1]; exact List.getElem_mem _)
set_option maxRecDepth 100000 in
set_option maxHeartbeats 4000000 in
theorem rsface_any (n : Int) (h : DslW w B g gb A c N d) :
    Calls Try.prog 22 #[.pointer (some ⟨g, 0, none⟩), .int .i64 n] w (RetFace w (d.asked n) (d.face n.toNat)) := by
  have H := hide h
  clear h
  go_enter Try.func22, Try.ntmps22
  go_wp2_with fail
  refine (rsasked_any n H.out).mono ?_
  rintro e w1 ⟨rfl, rfl⟩
  obtain ⟨r, hr⟩ : ∃ r, r = d.asked n := ⟨_, rfl⟩
  rw [← hr]
  have Hr := hide hr
  clear hr
  by_cases h0 : r = 0
  case neg =>
    have h0b : (r == 0) = false := beq_eq_false_iff_ne.2 h0
    have H0 := hide h0
    go_wp2_with fail
    refine bodyPost_ret (v := .tuple #[.slice none 0 0, .int .i64 r]) ?_ rfl ⟨Upd.refl _ _, fun _ => by rw [← Hr.out], fun h => absurd (Hr.out.trans h) H0.out⟩
    simp [results, Try.results22, go_sem]
  subst h0
  have hnn : 0 ≤ n ∧ n < (N : Int) := by
    have h1 := Hr.out
    unfold Dsl.asked at h1
    rw [H.out.len] at h1
    split at h1
    · cases h1
    · split at h1
      · cases h1
      · omega
  obtain ⟨i, rfl⟩ : ∃ i : Nat, n = (i : Int) := ⟨n.toNat, by omega⟩
  have hi : i < N := by omega
  have hiI : (i : Int) < (N : Int) := by omega
  have hN4 := H.out.max
  have q0 : w1.cell? ⟨g, 0, none⟩ = some (.slice (some ⟨gb, 0, none⟩) N N) := H.out.cells.at 0 rfl
  have hR := hide (H.out.rangeB hi)
  obtain ⟨b, hb⟩ : ∃ b, b = gat d.burnt i := ⟨_, rfl⟩
  have hbl : b.length = 64 := by rw [hb]; exact H.out.b64 _ (by rw [gat_lt (by rw [H.out.len]; exact hi)]; exact List.getElem_mem _)
  rw [← hb] at hR
  have Hb := hide hb
  have Hbl := hide (bV_len hbl)
  clear hnn hb hbl
  go_wp2_with (first
    | (refine wpList_load_mid rfl _ _ rfl gb (i * 64) rfl (bV b) _ hR.out Try.underlying83 rfl (by rw [Hbl.out]; exact Try.info_f64) ?_)
    | (refine wpList_store_blk rfl rfl rfl rfl (Blk.new _ _ _) (by rw [Hbl.out]; rfl) (by rw [Hbl.out]; exact Try.info_f64) (bV_one b) ?_; intro w2 hB2 hU2))
  have hE2 : Ext w1 w2 := upd_new hU2 ((Upd.refl _ _).alloc _) (fun k hk => by have : k = w1.heap.size := hk; omega)
  have HB2 := hide hB2
  have hgz : g < w1.heap.size := H.out.cells.lt
  clear hB2 hU2 q0
  refine (rsinked_any (i : Int) (H.out.ext hE2)).mono ?_
  rintro e w3 ⟨rfl, rfl⟩
  cases hf : fnd d.inks (i : Int) with
  | none =>
    have hfi : fndI d.inks (i : Int) = -1 := by unfold fndI; rw [hf]
    have hfc : d.face i = b := by unfold Dsl.face; rw [hf]; exact Hb.out.symm
    rw [hfi]
    have Hfc := hide hfc
    have hS3 := hide (sl_of_bV HB2.out)
    have Hbl64 := hide (show b.length = 64 by have := Hbl.out; unfold bV at this; rwa [List.length_map] at this)
    clear hf hfi hfc
    -- w3 world, b the face's bytes, hS3.out as bytes there, Hbl64.out their length, hE2 Ext from w1
    go_wp2_with (at_builtin; refine wpList_apd by8 one8 Try.el8 [] b b 64 rfl Hbl64.out (by omega) (by unfold maxLen; omega) rfl rfl rfl rfl (Own.lit by8 w3 5 [] (hE2).size (Nat.zero_le _)) rfl Hbl64.out ((hS3.out).ext ((Upd.refl _ _).alloc _)) (Nat.le_trans (hE2).size ((Upd.refl (fun _ => False) _).alloc _).size) ?_; intro A4 c4 w4 hO4 hU4 hin4)
    have hE4 : Ext w1 w4 := upd_new hU4 ((hE2).alloc _) (fun k hk => by have h1 := (hE2).size; have : k = (w3).heap.size := (by simpa [inA] using hk.symm); omega)
    refine bodyPost_ret (v := .tuple #[.slice A4 64 c4, .int .i64 0]) ?_ rfl ⟨hE4, fun h => absurd Hr.out.symm h, fun _ => ⟨_, _, rfl, by rw [show ((i : Int).toNat) = i from rfl, Hfc.out]; exact hO4⟩⟩
    simp [results, Try.results22, go_sem]
  | some k =>
    obtain ⟨f1, f2, -, -⟩ := fnd_some hf
    have hfi : fndI d.inks (i : Int) = (k : Int) := by unfold fndI; rw [hf]
    obtain ⟨b2, hb2⟩ : ∃ b, b = (gat d.inks k).2 := ⟨_, rfl⟩
    have hfc : d.face i = b2 := by unfold Dsl.face; rw [hf]; exact hb2.symm
    rw [hfi]
    have hb2l : b2.length = 64 := by rw [hb2]; exact H.out.i64 _ (by rw [gat_lt f1]; exact List.getElem_mem _)
    obtain ⟨m, hm⟩ : ∃ m, m = d.inks.length := ⟨_, rfl⟩
    have hm4 : m ≤ 5000 := by rw [hm]; exact H.out.few
    have hH3 := H.out.ext hE2
    obtain ⟨gi, rfl, -, hR2, -⟩ := hH3.ink f1
    have q1 : w3.cell? ⟨g, 1, none⟩ = some (.slice (some ⟨gi, 0, none⟩) m c) := by rw [hm]; exact hH3.cells.at 1 rfl
    rw [← hb2] at hR2
    have hkm : k < m := by omega
    have hkI : (k : Int) < (m : Int) := by omega
    have HR2 := hide hR2
    have Hfc := hide hfc
    have Hb2l := hide hb2l
    have HbV := hide (bV_len hb2l)
    clear hf hfi hfc hb2 hR2 hH3 f1 f2 hm hb2l
    go_upto_region 8 with (first
      | (refine wpList_load_mid rfl _ _ rfl gi (k * 65 + 1) rfl (bV b2) _ HR2.out Try.underlying83 rfl (by rw [HbV.out]; exact Try.info_f64) ?_)
      | (refine wpList_store_blk rfl rfl rfl rfl HB2.out (by rw [List.size_toArray, HbV.out, Hbl.out]) (by rw [HbV.out]; exact Try.info_f64) (bV_one b2) ?_; intro w5 hB5 hU5))
    have hE5 : Ext w1 w5 := upd_new hU5 hE2 (fun k hk => by have : k = w1.heap.size := hk; omega)
    have hS5 := hide (sl_of_bV hB5)
    clear hB5 hU5 q1
    -- w5 world, b2 the face's bytes, hS5.out as bytes there, Hb2l.out their length, hE5 Ext from w1
    go_wp2_with (at_builtin; refine wpList_apd by8 one8 Try.el8 [] b2 b2 64 rfl Hb2l.out (by omega) (by unfold maxLen; omega) rfl rfl rfl rfl (Own.lit by8 w5 5 [] (hE5).size (Nat.zero_le _)) rfl Hb2l.out ((hS5.out).ext ((Upd.refl _ _).alloc _)) (Nat.le_trans (hE5).size ((Upd.refl (fun _ => False) _).alloc _).size) ?_; intro A4 c4 w4 hO4 hU4 hin4)
    have hE4 : Ext w1 w4 := upd_new hU4 ((hE5).alloc _) (fun k hk => by have h1 := (hE5).size; have : k = (w5).heap.size := (by simpa [inA] using hk.symm); omega)
    refine bodyPost_ret (v := .tuple #[.slice A4 64 c4, .int .i64 0]) ?_ rfl ⟨hE4, fun h => absurd Hr.out.symm h, fun _ => ⟨_, _, rfl, by rw [show ((i : Int).toNat) = i from rfl, Hfc.out]; exact hO4⟩⟩
    simp [results, Try.results22, go_sem]
end
end Go.Proofs.Ytejjofjhcgdedaa
