/- The store's burn, walked. -/
import Derived.Test.YtejjofjhcgdedaaSto4
import Derived.Test.YtejjofjhcgdedaaChk
import Derived.Test.YtejjofjhcgdedaaSlbH
namespace Go.Proofs.Ytejjofjhcgdedaa
set_option linter.unusedSimpArgs false
set_option linter.unusedVariables false
open Go.RowKit Go.Shelf
open Sha
attribute [local go_sem] steady steadyUpon Cls same_cell anyW
attribute [local go_sem] Oper.semAt_some
attribute [local irreducible] wpHead wpTree wpHeadR
/-- a range over a function, a round of which may return -/
theorem wp_rangeX {P : Program} {α : Type} {Q : Exit → Act → World → Prop} {a : Act} {w : World} {g : Operand} {ps : Array Tmp} {assign body : Code} {gf : Nat} {lb : Array Value} (encs : α → Array Value) (N : Nat) (S Sp : List α → Prop) (Kp : World → World → Prop)
    (hg : a.eval g = .func (.func gf) #[] lb) (eg : ∀ args w, (callFunc gf args).run P w = .ok (.enter gf args) w)
    (hseq : SeqStopsK Fence.wide 2 P gf lb encs Kp S Sp N w) (hKt : ∀ {A B C : World}, Kp A B → Kp B C → Kp A C) (hKb : ∀ (W : World) (l : Nat) (o o' : Obj), w.heap.size ≤ l → W.heap[l]? = some o → o.isCells = false → o.isWalk = false → Kp W (W.putObj l o')) (hps : ∀ x, (encs x).size = ps.size)
    (I : List α → World → Prop) (Ix : Code → List α → World → Prop) (hI : OwnFrom w.heap.size I) (hIx : ∀ c, OwnFrom w.heap.size (Ix c)) (h0 : I [] w)
    (h : ∃ a₁ : α → Act,
      (∀ (l : Nat) (x : α) (W : World) (K : Act → World → Prop), K (a₁ x) W →
        assign.wpIn (Fence.wide.inRound l) 1 P (Exit.then K (fun _ _ _ => False)) { tmps := (ps.zip (encs x)).foldl (fun t (p, v) => t.setIfInBounds p v) a.tmps, defers := [] } W) ∧
      (∀ (l : Nat) (pre : List α) (x : α) (W : World), I pre W → pre.length < N → body.wpIn (Fence.wide.inRound l) 1 P (ownPostG w.heap.size Kp I Ix (pre ++ [x]) W) (a₁ x) W))
    (hdone : ∀ (D : Nat) (xs : List α) (W : World), w.heap.size ≤ D → S xs → I xs W → W.heap[D]? = some (.deferred (some [])) → Q .normal { a with defers := { target := .collected D, args := #[] } :: a.defers } W)
    (hstop : ∀ (D : Nat) (c : Code) (pre : List α) (W : World), w.heap.size ≤ D → Ix c pre W → W.heap[D]? = some (.deferred (some [])) → c.wp P Q { a with defers := { target := .collected D, args := #[] } :: a.defers } W) :
    (Code.rangeFunc g ps assign body).wp P Q a w := by
  obtain ⟨a₁, h1, h2⟩ := h
  refine (wpIn_wide (n := 3)).1 ?_
  exact wpIn_rangeFunc_ownG rfl (by omega) hg trivial eg hseq hKt hKb (Below.refl _ _) hps I Ix hI hIx h0 a₁ h1 h2 hdone (fun D c pre W hD _ hx hk => (wpIn_wide (n := 3)).2 (hstop D c pre W hD hx hk))
theorem keeps_upd {w w' : World} {T : Nat → Prop} (hT : ∀ k, T k → ∃ cs t p, w.heap[k]? = some (.cells cs t p)) (hu : Upd T w w') : KeepsOthers w w' := ⟨hu.size, fun k o hk ho => by
  refine (hu.block k (Array.getElem?_eq_some_iff.1 hk).1 (fun e => ?_)).trans hk
  obtain ⟨cs, t, p, hc⟩ := hT k e
  rw [hc] at hk
  injection hk with hk
  subst hk
  cases ho⟩
theorem Kc.of_upd {Bs Bn : Nat} {W W' : World} {T : Nat → Prop} (hu : Upd T W W') (hs : ¬ T Bs) (hn : ¬ T Bn) : Kc Bs Bn W W' :=
  ⟨fun v hv => (hu.cell (p := ⟨Bs, 0, none⟩) (World.block_lt_of_cell? W _ hv) hs).trans hv, fun v hv => (hu.cell (p := ⟨Bn, 0, none⟩) (World.block_lt_of_cell? W _ hv) hn).trans hv⟩
theorem SlO.kept {w0 w w' : World} {g gl : Nat} {x : Slv} {row : Option Nat} (h : SlO w0 w g gl x) (hg : w.grownBy w' row) (hr : ∀ r, row = some r → w0.heap.size ≤ r ∧ ∃ o : Obj, w.heap[r]? = some o ∧ o.isCells = false) : SlO w0 w' g gl x := by
  obtain ⟨⟨D, f, hS⟩, hE⟩ := h
  exact ⟨⟨D, f, hS.kept hg (fun r e => (hr r e).2)⟩, hE.grown hg (fun k e => .inr (hr k e).1)⟩
theorem SlO.cells {w0 w : World} {g gl : Nat} {x : Slv} (h : SlO w0 w g gl x) : ∀ k, (k = g ∨ k = gl) → ∃ cs t p, w.heap[k]? = some (.cells cs t p) := fun k hk => by
  obtain ⟨⟨D, f, hS⟩, hE⟩ := h
  rcases hk with rfl | rfl
  · exact ⟨_, _, _, hS.cells⟩
  · exact ⟨_, _, _, hS.rows⟩
theorem SlO.lt {w0 w : World} {g gl : Nat} {x : Slv} (h : SlO w0 w g gl x) : g < w.heap.size ∧ gl < w.heap.size := by
  obtain ⟨⟨D, f, hS⟩, hE⟩ := h
  exact ⟨hS.cells.lt, hS.rows.lt⟩
theorem SlO.ge {w0 w : World} {g gl : Nat} {x : Slv} (h : SlO w0 w g gl x) : w0.heap.size ≤ g ∧ w0.heap.size ≤ gl := by
  obtain ⟨⟨D, f, hS⟩, hE⟩ := h
  exact ⟨hS.lg, hS.lgl⟩
theorem FaceOk.other {w w' : World} {D : Nat → Prop} {v : Value} {o : Option (List B8)} (h : FaceOk w D v o) {k : Nat} {t : TypeId} {cs : Array Value} (hB : Blk w k t cs) (hn : ∀ v ∈ cs.toList, not8 v = true) (hu : Upd (only k) w w') : FaceOk w' D v o := by
  cases o with
  | none => exact h
  | some bs =>
    obtain ⟨b, c, h1, h2, h3, h4, h5, h6⟩ := h
    have hna := sl8_blk hB hn h6 (by omega)
    refine ⟨b, c, h1, h2, h3, h4, h5, h6.upd hu (fun b' o e => ?_)⟩
    injection e with e
    injection e with e _
    subst e
    intro er
    have er' : b = k := er
    exact hna (by unfold inA; simp [er'])
theorem SlO.other {w0 w w' : World} {g gl : Nat} {x : Slv} (h : SlO w0 w g gl x) {k : Nat} {t : TypeId} {cs : Array Value} (hB : Blk w k t cs) (hn : ∀ v ∈ cs.toList, not8 v = true) (h1 : k ≠ g) (h2 : k ≠ gl) (h3 : w0.heap.size ≤ k) (hu : Upd (only k) w w') : SlO w0 w' g gl x := by
  obtain ⟨⟨D, f, hS⟩, hE⟩ := h
  exact ⟨⟨D, f, ⟨hS.cells.upd hu (fun e => h1 (Eq.symm e)), hS.rows.upd hu (fun e => h2 (Eq.symm e)), fun i hi => (hS.burnt i hi).other hB hn hu, fun i hi => (hS.ink i hi).other hB hn hu,
    fun k hk => ⟨(hS.data k hk).1, Nat.lt_of_lt_of_le (hS.data k hk).2.1 hu.size, (hS.data k hk).2.2⟩, hS.lg, hS.lgl, hS.ne, hS.len⟩⟩, upd_new hu hE (fun q hq => by have : q = k := hq; omega)⟩
/-- what the rounds over the chunks keep -/
structure BrnI (w0 w : World) (g gl : Nat) (x : Slv) (first k : Nat) (b : List B8) (m : Nat) (pre : List (Fin m)) (W : World) : Prop where
  slab : ∃ y, SlO w0 W g gl y ∧ Sto.Inkd x first k (pre.map fun z => Sto.chunkB b z.1) y
  upd : Upd (fun k => k = g ∨ k = gl) w W
  dd : W.cell? ⟨w.heap.size, 0, none⟩ = some (.pointer (some ⟨g, 0, none⟩))
  at_ : Blk W (w.heap.size + 1) 3 #[.int .i64 ((first + pre.length : Nat) : Int)]
  out : Blk W (w.heap.size + 1 + 1) 27 #[.int .i64 0]
def BrnX (w0 w : World) (g gl : Nat) (x : Slv) (first k : Nat) (b : List B8) (m : Nat) (c : Code) (_ : List (Fin m)) (W : World) : Prop :=
  c = .ret ∧ ∃ (y : Slv) (er : Int), SlO w0 W g gl y ∧ Sto.BrnR x first k b y er ∧ Upd (fun k => k = g ∨ k = gl) w W ∧ W.cell? ⟨w.heap.size + 1 + 1, 0, none⟩ = some (.int .i64 er)
theorem BrnI.own {w0 w : World} {g gl first k m : Nat} {x : Slv} {b : List B8} {M : Nat} (hM : w.heap.size + 1 + 1 < M) (h0 : w0.heap.size ≤ w.heap.size) : OwnFrom M (BrnI w0 w g gl x first k b m) := fun pre W W' row h hg hr => by
  have hr' : ∀ r, row = some r → ∃ o : Obj, W.heap[r]? = some o ∧ o.isCells = false := fun r e => (hr r e).2
  obtain ⟨⟨y, h1, h2⟩, h3, h4, h5, h6⟩ := h
  exact ⟨⟨y, h1.kept hg (fun r e => ⟨by have := (hr r e).1; omega, hr' r e⟩), h2⟩, h3.grown hg (fun k e => .inr (by have := (hr k e).1; omega)), cell_kept h4 hg hr', h5.upd (upd_of_grown hg) (not_row hr' h5), h6.upd (upd_of_grown hg) (not_row hr' h6)⟩
theorem BrnX.own {w0 w : World} {g gl first k m : Nat} {x : Slv} {b : List B8} {M : Nat} (hM : w.heap.size + 1 + 1 < M) (h0 : w0.heap.size ≤ w.heap.size) (c : Code) : OwnFrom M (BrnX w0 w g gl x first k b m c) := fun pre W W' row h hg hr => by
  have hr' : ∀ r, row = some r → ∃ o : Obj, W.heap[r]? = some o ∧ o.isCells = false := fun r e => (hr r e).2
  obtain ⟨hc, y, er, h1, h2, h3, h4⟩ := h
  exact ⟨hc, y, er, h1.kept hg (fun r e => ⟨by have := (hr r e).1; omega, hr' r e⟩), h2, h3.grown hg (fun k e => .inr (by have := (hr k e).1; omega)), cell_kept h4 hg hr'⟩
def RetBrn (w0 w : World) (g gl : Nat) (x : Slv) (first k : Nat) (b : List B8) (e : Ending) (w' : World) : Prop :=
  ∃ (y : Slv) (er : Int), e = .returned (.int .i64 er) ∧ SlO w0 w' g gl y ∧ Upd (fun k => k = g ∨ k = gl) w w' ∧ Sto.BrnR x first k b y er
theorem finRange_chunks (b : List B8) (m : Nat) : ((List.finRange m).map fun z => Sto.chunkB b z.1) = Sto.chunksB b (List.range m) := by
  unfold Sto.chunksB
  refine List.ext_getElem (by simp) fun i h1 h2 => ?_
  simp
theorem sl_part {w : World} {gA oA m : Nat} {b : List B8} (h : Sl by8 w (some ⟨gA, oA, none⟩) b) (hl : b.length = 64 * m) (z : Fin m) : Sl by8 w (some ⟨gA, oA + 64 * z.1, none⟩) (Sto.chunkB b z.1) ∧ (Sto.chunkB b z.1).length = 64 := by
  have hz := z.2
  have hlen : (Sto.chunkB b z.1).length = 64 := by
    unfold Sto.chunkB
    rw [List.length_take, List.length_drop]
    omega
  refine ⟨fun i hi => ⟨gA, oA + 64 * z.1, rfl, ?_⟩, hlen⟩
  obtain ⟨gb, o, he, -, hc⟩ := h.open_ (by omega)
  injection he with he
  injection he with he1 he2
  subst he1 he2
  rw [hlen] at hi
  have := hc (64 * z.1 + i) (by omega)
  rw [Nat.add_assoc, this]
  congr 2
  unfold Sto.chunkB
  rw [gat_lt (by omega), gat_lt (by rw [List.length_take, List.length_drop]; omega)]
  simp
theorem Blk.alloc' {w : World} {g : Nat} {t : TypeId} {cs : Array Value} (h : Blk w g t cs) (o : Obj) : Blk (w.alloc o) g t cs := h.ext ((Upd.refl (fun _ => False) _).alloc _)
set_option maxRecDepth 100000 in
set_option maxHeartbeats 4000000 in
theorem stburn_any (w0 : World) (g gl : Nat) (x : Slv) (first k gA oA m c : Nat) (b : List B8) (w : World) (h : SlO w0 w g gl x) (hx : x.fit k) (hk : k ≤ 800000) (hS : Sl by8 w (some ⟨gA, oA, none⟩) b) (hl : b.length = 64 * m) (hm : m ≤ 4096) (hc : 64 * m ≤ c)
    (hne : gA ≠ g ∧ gA ≠ gl) (hin : first + m ≤ x.secs.length) (hcl : Sto.CleanS x) (hx0 : 0 < x.secs.length) (hx1 : x.secs.length ≤ 4096) :
    Calls Try.prog 47 #[.pointer (some ⟨g, 0, none⟩), .int .i64 (first : Int), .slice (some ⟨gA, oA, none⟩) (64 * m) c] w (RetBrn w0 w g gl x first k b) := by
  have H := hide h
  have HX := hide hx
  have HS := hide hS
  have Hl := hide hl
  have Hne := hide hne
  have Hin := hide hin
  have Hcl := hide hcl
  have Hx0 := hide hx0
  have Hx1 := hide hx1
  have Hc := hide hc
  have Hm := hide hm
  have hf9 : (first : Int) ≤ 4096 := by omega
  clear h hx hS hl hne hin hcl hx0 hx1 hc hm
  refine (callsIn_wide (n := 3)).1 ?_
  refine callsIn_of_wp_marks Try.func47 rfl trivial ?_ rfl
  refine wpIn_wide.2 ?_
  simp only [Try.ntmps47, List.size_toArray, List.length_cons, List.length_nil, Nat.reduceAdd, Nat.reduceSub, Array.replicate_succ, Array.replicate_zero, List.push_toArray, List.append_toArray, List.nil_append, List.cons_append]
  go_wp2_with fail
  refine (chunk_any _ _ _ _).mono ?_
  rintro e w2 ⟨rfl, hw2⟩
  simp only [World.size_alloc]
  have hz2 : w2.heap.size = w.heap.size + 1 + 1 + 1 + 1 + 1 := by rw [hw2]; simp
  have b0 : Blk w2 w.heap.size 23 #[.pointer (some ⟨g, 0, none⟩)] := by rw [hw2]; exact ((((Blk.new _ _ _).alloc' _).alloc' _).alloc' _).alloc' _
  have b1 : Blk w2 (w.heap.size + 1) 3 #[.int .i64 ((first : Nat) : Int)] := by rw [hw2]; exact (((Blk.new_at (by simp)).alloc' _).alloc' _).alloc' _
  have b2 : Blk w2 (w.heap.size + 1 + 1) 27 #[.int .i64 0] := by rw [hw2]; exact ((Blk.new_at (by simp)).alloc' _).alloc' _
  have b3 : Blk w2 (w.heap.size + 1 + 1 + 1) 26 #[.slice (some ⟨gA, oA, none⟩) (64 * m) c] := by rw [hw2]; exact (Blk.new_at (by simp)).alloc' _
  have b4 : Blk w2 (w.heap.size + 1 + 1 + 1 + 1) 3 #[.int .i64 64] := by rw [hw2]; exact Blk.new_at (by simp)
  have hE2 : Ext w w2 := by rw [hw2]; exact (((((Upd.refl _ _).alloc _).alloc _).alloc _).alloc _).alloc _
  have hI0 : BrnI w0 w g gl x first k b m [] w2 := ⟨⟨x, H.out.keep hE2, Sto.Inkd.start first HX.out⟩, hE2.mono (fun _ _ h => h.elim), b0.at 0 rfl, b1, b2⟩
  have c3 := b3.at 0 rfl
  have c4 := b4.at 0 rfl
  have HI0 := hide hI0
  have Hz2 := hide hz2
  have HE2 := hide hE2
  clear hw2 hz2 b0 b1 b2 b3 b4 hI0 hE2
  have hw0 : w0.heap.size ≤ w.heap.size := by obtain ⟨_, hE⟩ := H.out; exact hE.size
  have Hw0 := hide hw0
  have hgl := H.out.lt
  have Hgl := hide hgl
  clear hw0 hgl
  go_wp2_with fail
  refine wp_rangeX (fun z : Fin m => #[.slice (some ⟨gA, oA + 64 * z.1, none⟩) 64 64]) m _ _ (Kc (w.heap.size + 1 + 1 + 1) (w.heap.size + 1 + 1 + 1 + 1)) rfl (enters_of Try.func60 (by kernel_rfl) rfl)
    (chunk_stops Fence.wide 2 trivial rfl (by omega) (w.heap.size + 1 + 1 + 1) (w.heap.size + 1 + 1 + 1 + 1) gA oA m c (by have := Hm.out; omega) Hc.out w2 (by rw [Hz2.out]; omega) (by rw [Hz2.out]; omega) c3 c4) Kc.trans
    (fun W l o o' hl ho _ _ => Kc.put (by rw [Hz2.out]; omega) (by rw [Hz2.out]; omega) W l o o' hl ho) (fun _ => rfl)
    (BrnI w0 w g gl x first k b m) (BrnX w0 w g gl x first k b m) ?hI ?hIx HI0.out ?hb ?done ?stop
  case hI => exact BrnI.own (by rw [Hz2.out]; omega) Hw0.out
  case hIx => exact BrnX.own (by rw [Hz2.out]; omega) Hw0.out
  case hb =>
    apply Exists.intro
    refine And.intro (fun l z W K hK => ?_) (fun l pre z W hi hpl => ?_)
    · dsimp only
      gi_wp2
      exact hK
    · obtain ⟨⟨y, hS, hI⟩, hU, d0, a0, o0⟩ := hi
      obtain ⟨p, hp⟩ : ∃ p : Nat, p = first + pre.length := ⟨_, rfl⟩
      rw [← hp] at a0
      obtain ⟨hsl, hsl2⟩ := sl_part (HS.out.upd hU (fun b' o e => by
        injection e with e
        injection e with e _
        subst e
        exact fun hor => hor.elim Hne.out.1 Hne.out.2)) Hl.out z
      have hlen := hI.len
      have hpl2 : (pre.map fun z => Sto.chunkB b z.1).length = pre.length := by simp
      have hfit : y.fit 1000000 := Slv.fit_up hI.fit (by rw [hpl2]; have := Hm.out; omega)
      have hpin : p < y.secs.length := by have := Hin.out; omega
      have d0' := World.block_lt_of_cell? W _ d0
      have Hpl := hide hpl
      have Hp := hide hp
      have HS1 := hide hS
      have HI := hide hI
      have HU := hide hU
      have Hsl := hide hsl
      have Hsl2 := hide hsl2
      have Hfit := hide hfit
      have Hpin := hide hpin
      have Hlen := hide hlen
      have Hpl2 := hide hpl2
      have HA0 := hide a0
      have HO0 := hide o0
      have ca := a0.at 0 rfl
      have p1 : (p : Int) + 1 ≤ 9223372036854775807 := by have := Hin.out; have := Hx1.out; omega
      have p0 : (0 : Int) ≤ p := by omega
      clear hpl hp hS hI hU hsl hsl2 hfit hpin hlen hpl2 a0 o0 d0'
      rcases Sto.inkE_err Hpin.out with he | ⟨he, hend⟩
      · gi_wp2_with (refine ⟨trivial, ?_⟩; gi_at_call 11; refine (CallsIn.inRound l (callsIn_wide.2 (soink w0 g gl y (p : Int) (some ⟨gA, oA + 64 * z.1, none⟩) 64 64 (Sto.chunkB b z.1) W HS1.out Hfit.out Hsl.out Hsl2.out (by omega)))).mono ?_; rintro e W2 ⟨rfl, hS2, hU2⟩; rw [he]; have hA2 := HA0.out.upd hU2 (fun hor => by have := Hgl.out; omega); have ca2 := hA2.at 0 rfl; have fa2 := hA2.frozen 0; have HA2 := hide hA2; have HS2 := hide hS2; have HU2 := hide hU2; clear hA2 hS2 hU2)
        have hU3 : Upd (fun q => q = g ∨ q = gl ∨ q = w.heap.size + 1) W (W2.setCell ⟨w.heap.size + 1, 0, none⟩ (.int .i64 ((p : Int) + 1))) := (HU2.out.mono (fun q _ h => h.elim .inl (fun h => .inr (.inl h)))).setCell (p := ⟨w.heap.size + 1, 0, none⟩) (.inl (.inr (.inr rfl))) _
        have hK3 := keeps_upd (fun q hq => by
          rcases hq with hq | hq | rfl
          · exact HS1.out.cells q (.inl hq)
          · exact HS1.out.cells q (.inr hq)
          · exact ⟨_, _, _, HA0.out⟩) hU3
        have hg9 := Hgl.out
        have hsz := HU.out.size
        have hA3 := HA2.out.set 0 (.int .i64 ((p : Int) + 1))
        have hnum : (p : Int) + 1 = ((first + (pre ++ [z]).length : Nat) : Int) := by rw [List.length_append, List.length_singleton, Hp.out]; omega
        refine ⟨hK3.from _, Kc.of_upd hU3 (by omega) (by omega), ⟨⟨y.inked (p : Int) (Sto.chunkB b z.1), ?_, ?_⟩, ?_, ?_, ?_, ?_⟩⟩
        · exact HS2.out.other HA2.out (fun v hv => by simp at hv; subst hv; rfl) (by omega) (by omega) (by have := Hw0.out; omega) ((Upd.refl (only (w.heap.size + 1)) _).setCell (p := ⟨w.heap.size + 1, 0, none⟩) (.inl rfl) _)
        · have hst := Sto.Inkd.step HI.out Hsl2.out (by rw [Hpl2.out, ← Hp.out, ← Hlen.out]; exact Hpin.out) (by rw [Hpl2.out, ← Hp.out]; exact he)
          rw [Hpl2.out, ← Hp.out] at hst
          rw [List.map_append]
          exact hst
        · exact HU.out.trans' hU3 (fun q hq h => by omega)
        · exact (hU3.cell (p := ⟨w.heap.size, 0, none⟩) (World.block_lt_of_cell? W _ d0) (by simp; omega)).trans d0
        · rw [← hnum]; exact hA3
        · exact HO0.out.upd hU3 (by omega)
      · gi_wp2_with (refine ⟨trivial, ?_⟩; gi_at_call 11; refine (CallsIn.inRound l (callsIn_wide.2 (soink w0 g gl y (p : Int) (some ⟨gA, oA + 64 * z.1, none⟩) 64 64 (Sto.chunkB b z.1) W HS1.out Hfit.out Hsl.out Hsl2.out (by omega)))).mono ?_; rintro e W2 ⟨rfl, hS2, hU2⟩; rw [he]; have hO2 := HO0.out.upd hU2 (fun hor => by have := Hgl.out; omega); have co2 := hO2.at 0 rfl; have fo2 := hO2.frozen 0; have HO2 := hide hO2; have HS2 := hide hS2; have HU2 := hide hU2; clear hO2 hS2 hU2)
        have hU3 : Upd (fun q => q = g ∨ q = gl ∨ q = w.heap.size + 1 + 1) W (W2.setCell ⟨w.heap.size + 1 + 1, 0, none⟩ (.int .i64 12)) := (HU2.out.mono (fun q _ h => h.elim .inl (fun h => .inr (.inl h)))).setCell (p := ⟨w.heap.size + 1 + 1, 0, none⟩) (.inl (.inr (.inr rfl))) _
        have hK3 := keeps_upd (fun q hq => by
          rcases hq with hq | hq | rfl
          · exact HS1.out.cells q (.inl hq)
          · exact HS1.out.cells q (.inr hq)
          · exact ⟨_, _, _, HO0.out⟩) hU3
        have hg9 := Hgl.out
        have hsz := HU.out.size
        have hO3 := HO2.out.set 0 (.int .i64 12)
        have hsame : y.inked (p : Int) (Sto.chunkB b z.1) = y := by unfold Slv.inked; rw [Hsl2.out, he]; rfl
        refine ⟨hK3.from _, rfl, y, 12, ?_, ?_, ?_, ?_⟩
        · have hs := HS2.out.other HO2.out (fun v hv => by simp at hv; subst hv; rfl) (by omega) (by omega) (by have := Hw0.out; omega) ((Upd.refl (only (w.heap.size + 1 + 1)) _).setCell (p := ⟨w.heap.size + 1 + 1, 0, none⟩) (.inl rfl) (.int .i64 12))
          rwa [hsame] at hs
        · exact Sto.Inkd.err HI.out Hl.out (by rw [Hpl2.out]; exact Hpl.out) hend
        · exact HU.out.trans' hU3 (fun q hq h => by omega)
        · exact hO3.at 0 rfl
  case done =>
    rintro D1 xs W hD1 rfl ⟨⟨y, hS, hI⟩, hU, d0, a0, o0⟩ hK
    rw [finRange_chunks] at hI
    have hcl2 : (Sto.chunksB b (List.range m)).length = m := by unfold Sto.chunksB; simp
    have hfit : y.fit 900000 := Slv.fit_up hI.fit (by rw [hcl2]; have := Hm.out; omega)
    have HS1 := hide hS
    have HI := hide hI
    have HU := hide hU
    have HO0 := hide o0
    have HK := hide hK
    have Hfit := hide hfit
    clear hS hI hU a0 o0 hK hfit hcl2
    go_wp2_with (go_at_call 13; refine (soburn w0 g gl y W HS1.out Hfit.out).mono ?_; rintro e W2 ⟨rfl, hS2, hU2⟩; have hO2 := HO0.out.upd hU2 (fun hor => by have := Hgl.out; omega); have co2 := hO2.at 0 rfl; have fo2 := hO2.frozen 0; have HO2 := hide hO2; have HS2 := hide hS2; have HU2 := hide hU2; clear hO2 hS2 hU2)
    have hU3 : Upd (fun q => q = g ∨ q = gl ∨ q = w.heap.size + 1 + 1) W (W2.setCell ⟨w.heap.size + 1 + 1, 0, none⟩ (.int .i64 y.burnE)) := (HU2.out.mono (fun q _ h => h.elim .inl (fun h => .inr (.inl h)))).setCell (p := ⟨w.heap.size + 1 + 1, 0, none⟩) (.inl (.inr (.inr rfl))) _
    have hg9 := Hgl.out
    have h9 := Hw0.out
    have hz := Hz2.out
    have hK3 := (keeps_upd (fun q hq => by
          rcases hq with hq | hq | rfl
          · exact HS1.out.cells q (.inl hq)
          · exact HS1.out.cells q (.inr hq)
          · exact ⟨_, _, _, HO0.out⟩) hU3).same D1 _ HK.out rfl
    have hO3 := (HO2.out.set 0 (.int .i64 y.burnE)).at 0 rfl
    have hS3 := HS2.out.other HO2.out (fun v hv => by simp at hv; subst hv; rfl) (by omega) (by omega) (by omega) ((Upd.refl (only (w.heap.size + 1 + 1)) _).setCell (p := ⟨w.heap.size + 1 + 1, 0, none⟩) (.inl rfl) (.int .i64 y.burnE))
    have hUw := HU.out.trans' hU3 (fun q hq h => by omega)
    refine ⟨by simp, .inl ⟨_, _, rfl, run_takeDeferred hK3, ?_⟩⟩
    have hgr := grownBy_putObj' (W2.setCell ⟨w.heap.size + 1 + 1, 0, none⟩ (.int .i64 y.burnE)) D1 (.deferred none)
    have hrow : ∀ r, some D1 = some r → ∃ o : Obj, (W2.setCell ⟨w.heap.size + 1 + 1, 0, none⟩ (.int .i64 y.burnE)).heap[r]? = some o ∧ o.isCells = false := fun r e => by cases e; exact ⟨_, hK3, rfl⟩
    have hc5 := cell_kept hO3 hgr hrow
    refine ⟨.int .i64 y.burnE, ?_, y.burnt, y.burnE, rfl, hS3.kept hgr (fun r e => ⟨by injection e with e; omega, hrow r e⟩), hUw.grown hgr (fun q e => .inr (by injection e with e; omega)), Sto.Inkd.burnt HI.out Hl.out Hcl.out Hin.out Hx0.out⟩
    simp [results, Try.results47, go_sem, hc5]
  case stop =>
    rintro D1 c pre W hD1 ⟨rfl, y, er, hS, hR, hU, ho⟩ hK
    go_wp2_with fail
    refine ⟨by simp, .inl ⟨_, _, rfl, run_takeDeferred hK, ?_⟩⟩
    have hgr := grownBy_putObj' W D1 (.deferred none)
    have hrow : ∀ r, some D1 = some r → ∃ o : Obj, W.heap[r]? = some o ∧ o.isCells = false := fun r e => by cases e; exact ⟨_, hK, rfl⟩
    have hc5 := cell_kept ho hgr hrow
    have hz := Hz2.out
    have h9 := Hw0.out
    refine ⟨.int .i64 er, ?_, y, er, rfl, hS.kept hgr (fun r e => ⟨by injection e with e; omega, hrow r e⟩), hU.grown hgr (fun q e => .inr (by injection e with e; omega)), hR⟩
    simp [results, Try.results47, go_sem, hc5]
end Go.Proofs.Ytejjofjhcgdedaa
