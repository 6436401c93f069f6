/- The store's look, walked. -/
import Derived.Test.YtejjofjhcgdedaaSto7
namespace Go.Proofs.Ytejjofjhcgdedaa
set_option linter.unusedSimpArgs false
set_option linter.unusedVariables false
open Go.RowKit Go.Shelf
open Sha
attribute [local go_sem] steady steadyUpon Cls same_cell anyW
attribute [local irreducible] wpHead wpTree wpHeadR Sha.sum
theorem SlO.face64 {w0 w : World} {g gl : Nat} {x : Slv} (h : SlO w0 w g gl x) {i : Nat} (hi : i < x.secs.length) : (Sto.faceN x i).length = 64 := by
  obtain ⟨⟨D, f, hb⟩, -⟩ := h
  have h1 := hb.burnt i hi
  have h2 := hb.ink i hi
  unfold Sto.faceN faceOf
  generalize gat x.secs i = s at h1 h2
  obtain ⟨a, b⟩ := s
  cases b with
  | some b => obtain ⟨_, _, _, hl, -⟩ := h2; exact hl
  | none => cases a with
    | some a => obtain ⟨_, _, _, hl, -⟩ := h1; exact hl
    | none => rfl
/-- a face, of a slab that isn't out -/
theorem sfc_any (w0 : World) (g gl : Nat) (x : Slv) (n : Nat) (w : World) (h : SlO w0 w g gl x) (ho : x.out = false) (hn : n < x.secs.length) :
    Calls Try.prog 8 #[.pointer (some ⟨g, 0, none⟩), .int .i64 (n : Int)] w fun e w' => ∃ A c, e = .returned (.tuple #[.slice A 64 c, .int .i64 0]) ∧ Own w' w.heap.size 5 A c ((Sto.faceN x n).map by8) ∧ Ext w w' := by
  refine (soface w0 g gl x (n : Int) w h).mono ?_
  rintro e w' ⟨hE, -, h2⟩
  have hl := Slv.look_in (x := x) (n := (n : Int)) (by omega) (by omega)
  rw [ho] at hl
  obtain ⟨A, c, rfl, hO⟩ := h2 hl
  exact ⟨A, c, rfl, hO, hE⟩
def RetLok (w : World) (r : Option (Nat × List B8)) (e : Ending) (w' : World) : Prop :=
  Ext w w' ∧ match r with
    | none => e = .returned (.tuple #[.int .u64 0, .slice none 0 0, .bool false, .int .i64 0])
    | some (n, st) => ∃ A c, e = .returned (.tuple #[.int .u64 (n : Int), .slice A st.length c, .bool true, .int .i64 0]) ∧ Own w' w.heap.size 5 A c (st.map by8)
/-- where it counts for nothing -/
theorem RetLok.none_ {w w' : World} {r : Option (Nat × List B8)} (hr : r = none) (h : Ext w w') : RetLok w r (.returned (.tuple #[.int .u64 0, .slice none 0 0, .bool false, .int .i64 0])) w' := by
  subst hr; exact ⟨h, rfl⟩
theorem wrap64_N {k : Nat} (h : k < 9223372036854775808) : wrap64 (k : Int) = (k : Int) := IntWalk.wrap64_in _ (by omega)
theorem wrap64_addN {a k : Nat} (h : a + k < 9223372036854775808) : wrap64 ((a : Int) + (k : Int)) = ((a + k : Nat) : Int) := by
  rw [IntWalk.wrap64_in _ (by omega)]; omega
theorem Try.info_f32b : (Try.prog.info? 110).map (·.size) = some 32 := by kernel_rfl
theorem load32 (w : World) (b o : Nat) (bs : List B8) (hl : bs.length = 32) (hS : Sl by8 w (some ⟨b, o, none⟩) bs) : (Instr.loadAt 110 (.pointer (some ⟨b, o, none⟩))).run Try.prog w = .ok (.agg (bs.map by8).toArray) w := by
  have hl2 : (bs.map by8).length = 32 := by rw [List.length_map, hl]
  refine run_loadAt_mid w b o _ (bs.map by8) _ (fun j v hj => ?_) Try.underlying110 rfl (by rw [hl2]; exact Try.info_f32b)
  rw [List.getElem?_map] at hj
  have hj2 : j < bs.length := by
    rcases Nat.lt_or_ge j bs.length with h | h
    · exact h
    · rw [List.getElem?_eq_none h] at hj; cases hj
  rw [hS.cells j hj2]
  rw [List.getElem?_eq_getElem hj2] at hj
  rw [gat_lt hj2]
  exact hj
section
variable {P : Program} {ops : Array Oper}
theorem head_load {C : World → Prop} {L : Act → World → Prop} {i : Nat} {r : List (Bool × Nat)} {o : Oper} {a : Act} {w : World} {ty : TypeId} {x : Operand} {p : Option Addr} (v : Value) (ho : ops[i]? = some o) (hg : o.guard = none) (hop : o.op = .load ty x) (hx : a.eval x = .pointer p)
    (hC : ∀ w, C w → (Instr.loadAt ty (.pointer p)).run P w = .ok v w) (h : wpHead P ops L r C (a.put o.dst v) w) : wpHead P ops L ((false, i) :: r) C a w := by
  refine head_q ho (fun K hK => ?_)
  have hw : Region.wanted o (yielded ops a.tmps) = true := by simp [Region.wanted, hg]
  rw [if_pos hw]
  refine ⟨v, fun w hw => ?_, hK _ h⟩
  unfold execOp
  simp only [hop, hx, Sem.run_bind, hC w hw, Result.andThen_ok, Sem.run_pure]
  exact ⟨rfl, rfl⟩
end
def lenLk : Value → Nat
  | .slice _ n _ => n
  | _ => 0
/-- so many sectors, one behind the other -/
def catF (F : Nat → List B8) (a k : Nat) : List B8 := (List.range k).flatMap fun j => F (a + j)
theorem catF_succ (F : Nat → List B8) (a k : Nat) : catF F a (k + 1) = catF F a k ++ F (a + k) := by
  unfold catF; rw [List.range_succ, List.flatMap_append]; simp
theorem catF_one (F : Nat → List B8) (a : Nat) : catF F a 1 = F a := by rw [catF_succ]; rfl
theorem catF_len {F : Nat → List B8} {a : Nat} : ∀ {k : Nat}, (∀ j, j < k → (F (a + j)).length = 64) → (catF F a k).length = 64 * k
  | 0, _ => rfl
  | k + 1, h => by rw [catF_succ, List.length_append, catF_len (fun j hj => h j (by omega)), h k (by omega)]; omega
set_option maxRecDepth 100000 in
set_option maxHeartbeats 4000000 in
theorem stlook_any (w0 : World) (g gl : Nat) (x : Slv) (S p : Nat) (w : World) (h : SlO w0 w g gl x) (hS : x.secs.length = S) (hS4 : 4 ≤ S) (hS2 : S ≤ 4096) (ho : x.out = false) (hp : p < 2) :
    Calls Try.prog 50 #[.pointer (some ⟨g, 0, none⟩), .int .u64 (p : Int)] w (RetLok w (Sto.lookF Sha.sum (Sto.faceN x) (Sto.areaF S p) p (64 * ((S - 2) / 2) - 44))) := by
  obtain ⟨R, hR⟩ : ∃ R, R = Sto.lookF Sha.sum (Sto.faceN x) (Sto.areaF S p) p (64 * ((S - 2) / 2) - 44) := ⟨_, rfl⟩
  rw [← hR]
  unfold Sto.lookF at hR
  obtain ⟨a, ha⟩ : ∃ a, a = Sto.areaF S p := ⟨_, rfl⟩
  obtain ⟨m, hm⟩ : ∃ m, m = (S - 2) / 2 := ⟨_, rfl⟩
  obtain ⟨room, hroom⟩ : ∃ room, room = 64 * ((S - 2) / 2) - 44 := ⟨_, rfl⟩
  have ham : a + m ≤ S ∧ 1 ≤ m ∧ m ≤ 2048 ∧ room = 64 * m - 44 := by
    unfold Sto.areaF at ha
    rcases Nat.mod_two_eq_zero_or_one p with h0 | h0
    · rw [h0, Nat.zero_mul] at ha; omega
    · rw [h0, Nat.one_mul] at ha; omega
  rw [← ha, ← hroom] at hR
  have harea := sarea_any w0 g gl x p S
  have hroomc := sroom_any w0 g gl x S
  rw [← ha, ← hm] at harea
  rw [← hroom] at hroomc
  have H := hide h
  have HS := hide hS
  have HR := hide hR
  have Ha := hide ha
  have Hm := hide hm
  have Hroom := hide hroom
  have Ham := hide ham
  have hpi : IntKind.i64.wrap (p : Int) = (p : Int) := IntWalk.i64_in _ (by omega)
  have hpm : (p : Int).tmod 2 = (p : Int) := by rw [Int.tmod_eq_emod_of_nonneg (by omega)]; omega
  clear h hS hR ha hm hroom ham
  go_enter Try.func50, Try.ntmps50
  go_wp2_with (go_at_call 8; refine (sfc_any w0 g gl x p w H.out ho (by have := HS.out; omega)).mono ?_; rintro e w1 ⟨A1, c1, rfl, hO1, hE1⟩; have HO1 := hide hO1; have HE1 := hide hE1; clear hO1 hE1)
  refine (sup_any A1 c1 (Sto.faceN x p) w1 HO1.out.sl (H.out.face64 (by have := HS.out; omega))).mono ?_
  rintro e w2 ⟨rfl, rfl⟩
  by_cases hz : Sto.faceN x p = zero64B
  · have hd : decide (Sto.faceN x p ≠ zero64B) = false := by simp [hz]
    rw [hd]
    have hr := HR.out
    rw [if_pos hz] at hr
    go_wp2_with fail
    refine bodyPost_ret (v := .tuple #[.int .u64 0, .slice none 0 0, .bool false, .int .i64 0]) ?_ rfl (RetLok.none_ hr HE1.out)
    simp [results, Try.results50, go_sem]
  have hd : decide (Sto.faceN x p ≠ zero64B) = true := by simp [hz]
  rw [hd]
  have hr := HR.out
  rw [if_neg hz] at hr
  clear HR
  have HR := hide hr
  clear hr hz hd
  obtain ⟨F, hF⟩ : ∃ F, F = Sto.faceN x := ⟨_, rfl⟩
  have h64 : (F a).length = 64 := by rw [hF]; exact H.out.face64 (by have := HS.out; have := Ham.out; omega)
  have hr := HR.out
  rw [← hF] at hr
  clear HR
  have HF := hide hF
  have H64 := hide h64
  have HR := hide hr
  clear hF h64 hr
  go_wp2_with (first
    | (go_at_call 45; refine (harea _ (H.out.keep HE1.out) HS.out hS4 hS2 (by omega)).mono ?_; rintro e w2 ⟨rfl, rfl⟩)
    | (go_at_call 8; refine (sfc_any w0 g gl x a _ (H.out.keep HE1.out) ho (by have := HS.out; have := Ham.out; omega)).mono ?_; rintro e w3 ⟨A3, c3, rfl, hO3, hE3⟩; rw [← HF.out] at hO3; have hE03 := HE1.out.trans hE3; have HO3 := hide hO3; have HE3 := hide hE3; have HE03 := hide hE03; have hc3 : 64 ≤ c3 := (by have := hO3.cap.1; rw [List.length_map, H64.out] at this; exact this); clear hO3 hE3 hE03))
  obtain ⟨N, hN⟩ : ∃ N, N = Sto.getB ((F a).take 8) := ⟨_, rfl⟩
  obtain ⟨sz, hsz⟩ : ∃ sz, sz = Sto.getB (((F a).drop 8).take 4) := ⟨_, rfl⟩
  have hNb : N < 18446744073709551616 := by
    have := Sto.getB_lt ((F a).take 8)
    rw [List.length_take, H64.out] at this
    rw [hN]; exact this
  have hszb : sz < 4294967296 := by
    have := Sto.getB_lt (((F a).drop 8).take 4)
    rw [List.length_take, List.length_drop, H64.out] at this
    rw [hsz]; exact this
  have hr := HR.out
  rw [← hN, ← hsz] at hr
  clear HR
  have HR := hide hr
  clear hr
  have hs1 : ∀ w, (Instr.sliceAt 26 (.slice A3 64 c3) none (some (.int .i64 8)) none).run Try.prog w = .ok (.slice A3 8 c3) w := fun w => run_cut_h Try.el8.under Try.sz8 A3 64 c3 8 .i64 (by omega) w
  have hs2 : ∀ w, (Instr.sliceAt 26 (.slice A3 64 c3) (some (.int .i64 8)) (some (.int .i64 12)) none).run Try.prog w = .ok (.slice (shA A3 c3 8) 4 (c3 - 8)) w := fun w => run_cut_lh Try.el8.under Try.sz8 A3 64 c3 8 12 .i64 .i64 (by omega) (by omega) w
  have HN := hide hN
  have Hsz := hide hsz
  have HNb := hide hNb
  have Hszb := hide hszb
  clear hN hsz hNb hszb
  refine wp_region_plan (Same _) 8 [(false,0), (false,1), (false,3), (false,4), (true,2), (true,5), (false,6), (false,7)] (by kernel_rfl) (by kernel_rfl) rfl (fun hne => ?_)
  repeat (refine head_q rfl (fun K hK => ?_); have hK2 := hide hK; clear hK; go_simp; refine hK2.out _ ?_; clear hK2 K)
  refine head_l rfl ?_
  go_wp2_with (go_at_call 59; refine (sget_any A3 8 c3 ((F a).take 8) _ ((HO3.out.sl.ext (Upd.refl _ _).drew).take 8) (by rw [List.length_take, H64.out]; rfl) (by omega)).mono ?_; rintro e w4 ⟨rfl, rfl⟩; rw [← HN.out])
  refine ⟨_, fun _ h => h, ⟨⟨_, rfl⟩, rfl⟩, ?_⟩
  repeat (refine head_q rfl (fun K hK => ?_); have hK2 := hide hK; clear hK; go_simp; refine hK2.out _ ?_; clear hK2 K)
  refine head_l rfl ?_
  go_wp2_with (go_at_call 59; refine (sget_any (shA A3 c3 8) 4 (c3 - 8) (((F a).drop 8).take 4) _ (((HO3.out.sl.ext (Upd.refl _ _).drew).shA (k := 8) (by rw [H64.out]; exact hc3)).take 4) (by rw [List.length_take, List.length_drop, H64.out]; rfl) (by omega)).mono ?_; rintro e w4 ⟨rfl, rfl⟩; rw [← Hsz.out])
  refine ⟨_, fun _ h => h, ⟨⟨_, rfl⟩, rfl⟩, ?_⟩
  repeat (refine head_q rfl (fun K hK => ?_); have hK2 := hide hK; clear hK; go_simp; refine hK2.out _ ?_; clear hK2 K)
  refine head_nil ?_
  try simp only [List.drop_succ_cons, List.drop_zero]
  clear hs1 hs2
  have hsi : IntKind.i64.wrap (sz : Int) = (sz : Int) := IntWalk.i64_in _ (by have := Hszb.out; omega)
  obtain ⟨q, hq⟩ : ∃ q, q = N % 2 := ⟨_, rfl⟩
  have hNm : (N : Int).tmod 2 = (q : Int) := by rw [Int.tmod_eq_emod_of_nonneg (by omega)]; omega
  have Hq := hide hq
  clear hq
  obtain ⟨wx, hwx⟩ : ∃ wx, wx = w3.drew := ⟨_, rfl⟩
  have hE3x : Ext w wx := by rw [hwx]; exact HE03.out.drew
  have hO3x : Own wx w.heap.size 5 A3 c3 ((F a).map by8) := by rw [hwx]; exact (HO3.out.ext (Upd.refl _ _).drew).mono HE1.out.size
  rw [← hwx]
  have HEx := hide hE3x
  have HOx := hide hO3x
  clear hE3x hO3x hwx
  by_cases hqp : q = p
  rotate_left
  · have hqi : ¬ (q : Int) = (p : Int) := by omega
    have hr := HR.out
    rw [if_pos (.inl (by rw [← Hq.out]; exact hqp))] at hr
    go_wp2_with fail
    refine bodyPost_ret (v := .tuple #[.int .u64 0, .slice none 0 0, .bool false, .int .i64 0]) ?_ rfl (RetLok.none_ hr HEx.out)
    simp [results, Try.results50, go_sem]
  subst hqp
  by_cases hrs : room < sz
  · have hri : (room : Int) < (sz : Int) := by omega
    have hr := HR.out
    rw [if_pos (.inr hrs)] at hr
    go_wp2_with (go_at_call 44; refine (hroomc _ (H.out.keep HEx.out) HS.out hS4 hS2).mono ?_; rintro e w4 ⟨rfl, rfl⟩)
    refine bodyPost_ret (v := .tuple #[.int .u64 0, .slice none 0 0, .bool false, .int .i64 0]) ?_ rfl (RetLok.none_ hr HEx.out)
    simp [results, Try.results50, go_sem]
  have hri : ¬ (room : Int) < (sz : Int) := by omega
  have hr := HR.out
  rw [if_neg (by rw [← Hq.out]; omega)] at hr
  clear HR
  have HR := hide hr
  clear hr
  go_wp2_with (go_at_call 44; refine (hroomc _ (H.out.keep HEx.out) HS.out hS4 hS2).mono ?_; rintro e w4 ⟨rfl, rfl⟩)
  obtain ⟨M, hM⟩ : ∃ M, M = (44 + sz + 63) / 64 := ⟨_, rfl⟩
  have hMb : 1 ≤ M ∧ M ≤ m ∧ M ≤ 2048 ∧ 44 + sz ≤ 64 * M ∧ 64 * M < 44 + sz + 64 ∧ sz ≤ 131072 := by have := Ham.out; omega
  have hr := HR.out
  rw [← hM] at hr
  clear HR
  have HR := hide hr
  have HMb := hide hMb
  clear hr hM hMb
  have h64 : ∀ j, j < M → (F (a + j)).length = 64 := fun j hj => by
    rw [HF.out]; exact H.out.face64 (by have := HS.out; have := Ham.out; have := HMb.out; omega)
  have H64a := hide h64
  clear h64
  have hw44 : wrap64 (44 + (sz : Int)) = 44 + (sz : Int) := IntWalk.wrap64_in _ (by have := Hszb.out; omega)
  go_loopw [4, 11] (fun nv bv wr => ∃ (k L : Nat) (D : Option Addr) (cD : Nat), nv = .int .u64 (N : Int) ∧ 1 ≤ k ∧ k ≤ M ∧ L = 64 * k ∧ bv = .slice D L cD ∧ Own wr w.heap.size 5 D cD ((catF F a k).map by8) ∧ Ext w wr) (fun _ bv _ => 64 * M - lenLk bv)
  case atStart => exact ⟨1, 64, A3, c3, rfl, by omega, HMb.out.1, rfl, rfl, by rw [catF_one]; exact HOx.out, HEx.out⟩
  case round =>
    obtain ⟨k, L, D, cD, rfl, hk1, hkM, hL, rfl, hO, hE⟩ := hrel
    have hcl : (catF F a k).length = L := by rw [catF_len (fun j hj => H64a.out j (by omega)), hL]
    have HO := hide hO
    have HE := hide hE
    have HL := hide hL
    have Hcl := hide hcl
    have hLb : L ≤ 131072 ∧ 64 ≤ L := by have := HMb.out; omega
    clear hO hE hL hcl
    by_cases hlt : k < M
    · have hlti : (L : Int) < 44 + (sz : Int) := by have := HMb.out; have := HL.out; omega
      have hdiv : (L : Int).tdiv 64 = (k : Int) := by rw [Int.tdiv_eq_ediv_of_nonneg (by omega)]; have := HL.out; omega
      have hjS : a + k < x.secs.length := by have := HS.out; have := Ham.out; have := HMb.out; omega
      obtain ⟨j, hj⟩ : ∃ j, j = a + k := ⟨_, rfl⟩
      have hji : wrap64 ((a : Int) + (k : Int)) = (j : Int) := by rw [hj]; exact wrap64_addN (Nat.lt_of_lt_of_le hjS (by rw [HS.out]; exact Nat.le_trans hS2 (by decide)))
      have hwk : wrap64 (k : Int) = (k : Int) := wrap64_N (Nat.lt_of_le_of_lt hkM (Nat.lt_of_le_of_lt HMb.out.2.2.1 (by decide)))
      have hjS2 : j < x.secs.length := by rw [hj]; exact hjS
      have Hj := hide hj
      clear hj
      go_wp2_with (first
        | (go_at_call 8; refine (sfc_any w0 g gl x j _ (H.out.keep HE.out) ho hjS2).mono ?_; rintro e w5 ⟨A5, c5, rfl, hO5, hE5⟩; rw [← HF.out, Hj.out] at hO5; have hE05 := HE.out.trans hE5; have HO5 := hide hO5; have HE5 := hide hE5; have HE05 := hide hE05; clear hO5 hE5 hE05 hji hwk hdiv hw44)
        | (at_builtin; go_must (refine wpList_apd by8 one8 Try.el8 (catF F a k) (F (a + k)) (catF F a (k + 1)) (64 * (k + 1)) (catF_succ F a k).symm (catF_len (fun j hj => H64a.out j (by omega))) (by have := HMb.out; omega) (by unfold maxLen; have := HMb.out; omega) rfl rfl rfl Hcl.out (HO.out.ext HE5.out) rfl (H64a.out k hlt) HO5.out.sl (Nat.le_trans HE.out.size HE5.out.size) ?_); intro D6 c6 w6 hO6 hU6 hin6; have HE6 := hide (upd_new hU6 HE05.out (fun z hz => (HO.out.in_ hz).1)); have HO6 := hide hO6; clear hO6 hU6 hin6))
      go_roundw
      case rel => exact ⟨k + 1, _, D6, c6, rfl, by omega, by omega, rfl, rfl, HO6.out, HE6.out⟩
      case measure =>
        have h1 := HL.out
        show 64 * M - 64 * (k + 1) < 64 * M - L
        omega
    · obtain rfl : k = M := by omega
      have hlti : ¬ (L : Int) < 44 + (sz : Int) := by have := HMb.out; have := HL.out; omega
      have hcap : L ≤ cD := by have := HO.out.cap.1; rw [List.length_map, Hcl.out] at this; exact this
      obtain ⟨gd, od, rfl, -, -⟩ := HO.out.sl.open_ (by rw [Hcl.out]; omega)
      have hs3 : ∀ w, (Instr.sliceAt 26 (.slice (some ⟨gd, od, none⟩) L cD) (some (.int .i64 44)) (some (.int .i64 (44 + (sz : Int)))) none).run Try.prog w = .ok (.slice (some ⟨gd, od + 44, none⟩) sz (cD - 44)) w := fun w => by
        have := run_cut_lh Try.el8.under Try.sz8 (some ⟨gd, od, none⟩) L cD 44 (44 + sz) .i64 .i64 (by omega) (by have := HMb.out; have := HL.out; omega) w
        rw [shA_some, if_neg (by omega), show 44 + sz - 44 = sz by omega] at this
        exact this
      have hs4 : ∀ w, (Instr.sliceAt 26 (.slice (some ⟨gd, od, none⟩) L cD) (some (.int .i64 12)) (some (.int .i64 44)) none).run Try.prog w = .ok (.slice (some ⟨gd, od + 12, none⟩) 32 (cD - 12)) w := fun w => by
        have := run_cut_lh Try.el8.under Try.sz8 (some ⟨gd, od, none⟩) L cD 12 44 .i64 .i64 (by omega) (by omega) w
        rw [shA_some, if_neg (by omega)] at this
        exact this
      have hLs : 44 + sz ≤ L := by have := HMb.out; have := HL.out; omega
      have hcm : cD ≤ maxLen := HO.out.cap.2
      obtain ⟨st, hst⟩ : ∃ st, st = ((catF F a k).drop 44).take sz := ⟨_, rfl⟩
      obtain ⟨sm, hsm⟩ : ∃ sm, sm = ((catF F a k).drop 12).take 32 := ⟨_, rfl⟩
      have hstl : st.length = sz := by rw [hst, List.length_take, List.length_drop, Hcl.out]; omega
      have hsml : sm.length = 32 := by rw [hsm, List.length_take, List.length_drop, Hcl.out]; omega
      have hSst : Sl by8 wr (some ⟨gd, od + 44, none⟩) st := by rw [hst]; exact (HO.out.sl.drop 44).take sz
      have hSsm : Sl by8 wr (some ⟨gd, od + 12, none⟩) sm := by rw [hsm]; exact (HO.out.sl.drop 12).take 32
      have hr : R = if Sha.sum st = sm then some (N, st) else none := by rw [hst, hsm]; exact HR.out
      obtain ⟨vs, hvs⟩ : ∃ vs, vs = sm.map by8 := ⟨_, rfl⟩
      have hld1 : ∀ z : Wd (Ext wr.drew), (Instr.loadAt 110 (.pointer (some ⟨gd, od + 12, none⟩))).run Try.prog z.w = .ok (.agg vs.toArray) z.w := fun z => by
        rw [hvs]; exact load32 z.w _ _ sm hsml (hSsm.ext (Upd.drew (Upd.refl _ _) |>.trans z.ok))
      have Hvs := hide hvs
      clear hvs
      have har1 := fun w : World => run_arrayAt (P := Try.prog) (w := w) 110 5 32 (some ⟨gd, od + 12, none⟩) 32 (cD - 12) Try.underlying110 (Nat.le_refl _)
      have Hst := hide hst
      have Hsm := hide hsm
      have Hstl := hide hstl
      have Hsml := hide hsml
      have HSst := hide hSst
      have HR2 := hide hr
      have hcD : sz ≤ cD - 44 ∧ cD - 44 ≤ maxLen := by omega
      clear HR hst hsm hstl hsml hSst hSsm hr
      go_wp2_with fail
      refine wp_region_plan (Ext _) 9 [(false,0), (false,5), (false,6), (false,7), (false,8), (true,1), (true,2), (false,3), (false,4)] (by kernel_rfl) (by kernel_rfl) (Upd.refl _ _) (fun hne => ?_)
      repeat (refine head_q rfl (fun K hK => ?_); have hK2 := hide hK; clear hK; go_simp; refine hK2.out _ ?_; clear hK2 K)
      refine head_load (.agg vs.toArray) rfl rfl rfl rfl (by rintro _ ⟨z, rfl⟩; exact hld1 z) ?_
      repeat (refine head_q rfl (fun K hK => ?_); have hK2 := hide hK; clear hK; go_simp; refine hK2.out _ ?_; clear hK2 K)
      refine head_l rfl ?_
      go_wp2_with fail
      refine ⟨Cls (Ext _), fun _ h => h, ⟨⟨_, ((Upd.refl _ _).alloc _)⟩, rfl⟩, ?_⟩
      repeat (refine head_q rfl (fun K hK => ?_); have hK2 := hide hK; clear hK; go_simp; refine hK2.out _ ?_; clear hK2 K)
      refine head_l rfl ?_
      go_wp2_with (go_at_call 58; go_must (refine (psum_any _ _ _ [⟨some ⟨gd, od + 44, none⟩, sz, cD - 44, st⟩] _ (one_part wr.drew _ _ _ st (HSst.out.ext (Upd.refl _ _).drew) Hstl.out hcD.1 hcD.2) rfl (by rw [flat_one]; simp only; rw [Hstl.out]; have := HMb.out; omega) (by simp [maxLen])).mono ?_); rintro e w7 ⟨A7, c7, rfl, hO7, hE7⟩)
      rw [flat_one] at hO7
      have hE7b : Ext wr.drew w7 := ((Upd.refl _ _).alloc _).trans hE7
      have hS7 := hO7.sl
      obtain ⟨g7, o7, rfl, -, -⟩ := hS7.open_ (by rw [sum_length]; omega)
      obtain ⟨v7, hv7⟩ : ∃ v7, v7 = (Sha.sum st).map by8 := ⟨_, rfl⟩
      have hld2 : ∀ z : Wd (Ext w7), (Instr.loadAt 110 (.pointer (some ⟨g7, o7, none⟩))).run Try.prog z.w = .ok (.agg v7.toArray) z.w := fun z => by
        rw [hv7]; exact load32 z.w _ _ (Sha.sum st) (sum_length _) (hS7.ext z.ok)
      have har2 := fun w : World => run_arrayAt (P := Try.prog) (w := w) 110 5 32 (some ⟨g7, o7, none⟩) 32 c7 Try.underlying110 (Nat.le_refl _)
      have hneq : ∀ w : World, (binOp .neq 110 (.agg v7.toArray) (.agg vs.toArray)).run Try.prog w = .ok (.bool (decide (Sha.sum st ≠ sm))) w := fun w => by
        rw [hv7, Hvs.out]
        exact run_neq_b8 w 110 5 32 Try.underlying110 Try.underlying5 (run_sizeOf_of Try.sz8) (Sha.sum st) sm (sum_length _) Hsml.out
      have HE7 := hide ((HE.out.drew).trans hE7b)
      refine ⟨Cls (Ext _), cls_narrow hE7b, ⟨⟨_, Upd.refl _ _⟩, rfl⟩, ?_⟩
      have HSt7 := hide (HSst.out.ext ((Upd.refl _ _).drew.trans hE7b))
      clear hO7 hE7 hE7b hS7 hv7 hld1 har1
      repeat (refine head_q rfl (fun K hK => ?_); have hK2 := hide hK; clear hK; go_simp; refine hK2.out _ ?_; clear hK2 K)
      refine head_load (.agg v7.toArray) rfl rfl rfl rfl (by rintro _ ⟨z, rfl⟩; exact hld2 z) ?_
      repeat (refine head_q rfl (fun K hK => ?_); have hK2 := hide hK; clear hK; go_simp; refine hK2.out _ ?_; clear hK2 K)
      refine head_nil ?_
      try simp only [List.drop_succ_cons, List.drop_zero]
      clear hld2 har2
      by_cases hss : Sha.sum st = sm
      rotate_left
      · have hr := HR2.out
        rw [if_neg hss] at hr
        go_wp2_with fail
        refine bodyPost_ret (v := .tuple #[.int .u64 0, .slice none 0 0, .bool false, .int .i64 0]) ?_ rfl (RetLok.none_ hr HE7.out)
        simp [results, Try.results50, go_sem]
      · have hr := HR2.out
        rw [if_pos hss] at hr
        go_wp2_with fail
        refine (bclone_any _ sz _ st w7 Hstl.out (by have := HMb.out; omega) HSt7.out).mono ?_
        rintro e w8 ⟨A8, c8, rfl, -, hO8, hE8⟩
        go_wp2_with fail
        refine bodyPost_ret (v := .tuple #[.int .u64 (N : Int), .slice A8 sz c8, .bool true, .int .i64 0]) ?_ rfl ?_
        · simp [results, Try.results50, go_sem]
        · subst hr
          exact ⟨HE7.out.trans hE8, A8, c8, by rw [Hstl.out], hO8.mono HE7.out.size⟩
end Go.Proofs.Ytejjofjhcgdedaa
