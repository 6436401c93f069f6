/- The document's slab, walked: Put. -/
import Derived.Test.YtejjofjhcgdedaaSlbY
import Derived.Great.BuildSlice
namespace Go.Proofs.Ytejjofjhcgdedaa
set_option linter.unusedSimpArgs false
set_option linter.unusedVariables false
open Go.RowKit
open Sha
attribute [local go_sem] steady steadyUpon Cls same_cell anyW
attribute [local irreducible] wpHead wpTree wpHeadR
/-- a copy onto a part of a block, up to its end -/
theorem wpList_copy_part {P : Program} {w : World} {ops : Array Oper} {rest : List Oper} {o : Oper} {a : Act} {Q : Exit → Act → World → Prop} {α : Type} [Inhabited α] (enc : α → Value) (hone : ∀ x, (enc x).oneCell' = true) (pre : List Value) (ys xs : List α) (hgd : o.guard = none) {d s : Operand} {dT sT el : TypeId} (ho : o.op = .call { callee := .builtin .copy, args := #[d, s], argTypes := #[dT, sT] })
    (hu : P.underlying dT = some (.slice el)) (hsz : (P.info? el).map (·.size) = some 1) {g p dl dc : Nat} (hd : a.eval d = .slice (some ⟨g, p, none⟩) dl dc) (hp : pre.length = p) {A : Option Addr} {sl sc : Nat} (hsv : a.eval s = .slice A sl sc)
    (hx : Sl enc w A xs) (hxl : xs.length = sl) (hyl : ys.length = dl) {t : TypeId} (hB : Blk w g t (pre ++ ys.map enc).toArray)
    (h : ∀ w', Blk w' g t (pre ++ (onto ys xs).map enc).toArray → Upd (only g) w w' → wpList P ops Q rest (a.put o.dst (goInt (xs.take ys.length).length)) w') : wpList P ops Q (o :: rest) a w := by
  have hlen : (xs.take ys.length).length = Nat.min sl dl := by
    rw [List.length_take, hxl, hyl]
    exact Nat.min_comm _ _
  rcases Nat.eq_zero_or_pos (xs.take ys.length).length with h0 | h0
  · refine wpList_copy_nothing hgd d s dT sT ho el hu hsz _ _ _ _ _ _ hd hsv (by rw [← hlen]; exact h0) ?_
    have h1 : (onto ys xs) = ys := by
      have h2 : xs.take ys.length = [] := List.length_eq_zero_iff.1 h0
      unfold onto
      rw [h2, List.nil_append]
      rw [List.length_take] at h0
      rcases Nat.eq_zero_or_pos xs.length with h3 | h3
      · rw [h3]; rfl
      · have h4 : ys = [] := List.length_eq_zero_iff.1 (by omega)
        rw [h4]; simp
    have := h w (by rw [h1]; exact hB) (Upd.refl _ _)
    rwa [h0] at this
  · have hA : Arr w g t (p + ys.length) (fun j => (pre ++ ys.map enc)[j]?.getD undef) := by
      unfold Arr
      unfold Blk at hB
      rw [hB]
      congr 2
      apply Array.ext
      · simp [hp]
      · intro j h1 h2
        have h1' : j < (pre ++ ys.map enc).length := by simpa using h1
        simp only [Array.getElem_ofFn, List.getElem_toArray, List.getElem?_eq_getElem h1', Option.getD_some]
    refine wpList_copy_arr enc hone (xs.take ys.length) hgd ho hu hsz hd hsv (hx.take _) h0 hlen hA (by rw [List.length_take]; omega) fun w' hA' hU => h w' ?_ hU
    unfold Arr at hA'
    unfold Blk
    rw [hA']
    congr 2
    apply Array.ext
    · simp [hp, onto_length]
    · intro j h1 h2
      have hj : j < p + ys.length := by simpa using h1
      apply Option.some.inj
      rw [← Array.getElem?_eq_getElem h2, List.getElem?_toArray, Array.getElem_ofFn]
      show some (if p ≤ j ∧ j < p + (List.take ys.length xs).length then enc (gat (List.take ys.length xs) (j - p)) else (pre ++ List.map enc ys)[j]?.getD undef) = (pre ++ List.map enc (onto ys xs))[j]?
      rcases Nat.lt_or_ge j p with hjp | hjp
      · rw [if_neg (by omega), List.getElem?_append_left (by omega), List.getElem?_append_left (by omega), List.getElem?_eq_getElem (by omega)]
        rfl
      · have hi : j - p < ys.length := by omega
        have hR : (pre ++ List.map enc (onto ys xs))[j]? = some (enc (if j - p < xs.length then gat xs (j - p) else gat ys (j - p))) := by
          rw [List.getElem?_append_right (by omega), hp, List.getElem?_map, gat_some (by rw [onto_length]; exact hi), onto_at _ _ _ hi]
          rfl
        rw [hR]
        congr 1
        by_cases hx' : j - p < xs.length
        · rw [if_pos ⟨by omega, by rw [List.length_take]; omega⟩, if_pos hx', gat_take (by omega)]
        · rw [if_neg (by rw [List.length_take]; omega), if_neg hx', List.getElem?_append_right (by omega), hp, List.getElem?_map, gat_some hi]
          rfl
/-- a slice of one value of several cells -/
theorem wpList_build1 {P : Program} {ops : Array Oper} {rest : List Oper} {o : Oper} {a : Act} {w : World} {Q : Exit → Act → World → Prop} {t e : TypeId} {z : Value} {sz bytes : Nat} (E : ElemK P t e z sz bytes) (hg : o.guard = none) {x : Operand} (ho : o.op = .buildSlice t 1 #[(0, x)])
    {cs : List Value} (hx : a.eval x = .agg cs.toArray) (hc : cs.length = sz) (hsm : sz ≤ 1000)
    (h : wpList P ops Q rest (a.put o.dst (.slice (some ⟨w.heap.size, 0, none⟩) 1 1)) (w.alloc (.cells cs.toArray e))) : wpList P ops Q (o :: rest) a w := by
  obtain ⟨i, hi, hz, hsz, hb⟩ := info_parts E.info
  have hpos := E.pos
  refine wpList_buildSlice hg t e 1 _ ho cs.toArray i z E.under hi hz (by rw [hsz]; omega) (by rw [hsz]; omega) ?_ h
  have h1 := Great.fill_whole hpos [Value.agg cs.toArray] ((Array.range (1 * sz)).map (z.cells[· % z.cells.size]!)) (fun v hv => by
    obtain rfl := List.mem_singleton.1 hv
    exact hc) (by simp)
  rw [hsz]
  have h2 : (#[(0, x)].map fun (i, x) => (i, a.eval x) : Array (Nat × Value)).toList = [(0, Value.agg cs.toArray)] := by simp [hx]
  rw [h2]
  have h3 : ([Value.agg cs.toArray].flatMap fun v => v.cells.toList).toArray = cs.toArray := by simp [Value.cells]
  rw [h3] at h1
  exact h1
theorem Try.n_elInk : ElemK Try.prog 50 85 (.agg (Array.mk (.int .i64 0 :: List.replicate 64 (.int .u8 0)))) 65 72 := ⟨by kernel_rfl, by kernel_rfl, by simp [Value.cells], by decide⟩
section
variable {w w' : World} {B g gb : Nat} {A : Option Addr} {c N : Nat} {d : Dsl}
theorem DslW.not8 (h : DslW w B g gb A c N d) : ∀ v ∈ (#[.slice (some ⟨gb, 0, none⟩) N N, .slice A d.inks.length c, .int .i64 d.supply, .int .i64 d.made] : Array Value).toList, not8 v = true := fun v hv => by
  simp at hv
  rcases hv with rfl | rfl | rfl | rfl <;> rfl
theorem DslW.few_lt (h : DslW w B g gb A c N d) {k : Nat} (hk : k < d.inks.length) : k < 5000 := by have := h.few; omega
theorem OwnK.frozen {w : World} {B sz g n c : Nat} {e : TypeId} {xs : List Value} (h : OwnK w B e sz (some ⟨g, 0, none⟩) n c xs) (o : Nat) : w.frozen? ⟨g, o, none⟩ = false := by
  rcases h.2 with ⟨h0, _⟩ | ⟨g', cap, cur, hv, hb, hg, _⟩
  · cases h0
  · injection hv with hA
    injection hA with hA
    injection hA with hA
    subst hA
    simp [World.frozen?, hg]
theorem DslW.thereI {gi : Nat} (h : DslW w B g gb (some ⟨gi, 0, none⟩) c N d) {k : Nat} (hk : k < d.inks.length) : w.there gi (k * 65) 65 := fun j hj => by
  obtain ⟨gi', e, -, -, hr⟩ := h.ink hk
  injection e with e
  injection e with e
  subst e
  have hl : (iV (gat d.inks k)).length = 65 := iV_len (h.i64 _ (by rw [gat_lt hk]; exact List.getElem_mem _))
  have h1 := hr j _ (List.getElem?_eq_getElem (by rw [hl]; exact hj))
  exact ⟨by rw [h1]; rfl, h.inks.frozen _⟩
theorem DslW.thereB (h : DslW w B g gb A c N d) {i : Nat} (hi : i < N) : w.there gb (i * 64) 64 := fun j hj => by
  have hl : (bV (gat d.burnt i)).length = 64 := bV_len (h.b64 _ (by rw [gat_lt (by rw [h.len]; exact hi)]; exact List.getElem_mem _))
  have h1 := h.rangeB hi j _ (List.getElem?_eq_getElem (by rw [hl]; exact hj))
  exact ⟨by rw [h1]; rfl, h.burnt.frozen _⟩
/-- an ink turns -/
theorem DslW.setI {gi : Nat} (h : DslW w B g gb (some ⟨gi, 0, none⟩) c N d) {k : Nat} (hk : k < d.inks.length) {n : Int} {b : List B8} (hb : b.length = 64) :
    DslW (w.setCells gi (k * 65) (iV (n, b))) B g gb (some ⟨gi, 0, none⟩) c N ⟨d.burnt, d.inks.set k (n, b), d.supply, d.made⟩ ∧ Upd (only gi) w (w.setCells gi (k * 65) (iV (n, b))) := by
  have hU := setCells_upd gi (iV (n, b)) w (k * 65)
  have hl : ∀ p ∈ d.inks, (iV p).length = 65 := fun p hp => iV_len (h.i64 p hp)
  have hfl := fm_len iV 65 d.inks hl
  have hle := Nat.mul_le_mul_right 65 (show k + 1 ≤ d.inks.length from hk)
  have hpl : (iV (n, b)).length = 65 := iV_len hb
  have hO := h.inks.over (k * 65) (iV (n, b)) (by rw [hfl, hpl]; omega)
  have ng : g ≠ gi := fun e => by
    have := ownK_blk h.inks h.cells (by decide)
    exact this (by simp [inA, e])
  have ngb : gb ≠ gi := fun e => by
    have := ownK_blk h.inks h.burnt (by decide)
    exact this (by simp [inA, e])
  refine ⟨⟨by simpa using h.cells.upd hU ng, h.burnt.upd hU ngb, ?_, h.len, h.b64, fun p hp => ?_, h.lg, h.lgb, h.max, by simpa using h.few, h.sup, h.mad⟩, hU⟩
  · have e := fm_set iV 65 hl hk (n, b)
    dsimp only
    rw [e, List.length_set]
    rw [hpl, show k * 65 + 65 = (k + 1) * 65 by omega] at hO
    exact hO
  · rcases List.mem_or_eq_of_mem_set hp with hp | rfl
    · exact h.i64 p hp
    · exact hb
end
end Go.Proofs.Ytejjofjhcgdedaa
