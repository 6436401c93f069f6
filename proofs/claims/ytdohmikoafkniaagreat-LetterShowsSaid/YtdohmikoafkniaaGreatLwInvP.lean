/- Inverses, plainly. -/
import Derived.Test.YtdohmikoafkniaaGreatLwLetF
set_option maxRecDepth 100000
set_option maxHeartbeats 8000000
namespace Go.Proofs.YtdohmikoafkniaaGreat
set_option linter.unusedSimpArgs false
set_option linter.unusedVariables false
open Go.RowKit
open Nt Sha Strm
attribute [local go_sem] steady steadyUpon Cls same_cell anyW
attribute [local irreducible] wpHead wpTree wpHeadR Sha.sum chalOf
section
variable (w : World)
def RetZn (w:World) (e:Ending) (w':World):Prop:=e=.returned (.tuple #[.agg #[.slice none 0 0],.int .i64 1])∧Ext w w'
theorem swrong_none (A:Option Addr) (l c:Nat):Calls Tryz.prog 89 #[.pointer none,.agg #[.slice A l c]] w fun e w'=>e=.returned (.bool true)∧Ext w w':=by
  go_enter Tryz.func89,Tryz.ntmps89
  go_wp2_with fail
  refine name_w (fun X hX=>?_)
  have b3:Box X w.heap.size 34 (.slice A l c):=by rw[hX];exact Box.new _ _ _
  have hE:Ext w X:=by rw[hX];exact(Upd.refl _ w).alloc _
  clear hX
  have hd:Ext X.drew X.drew:=uR_
  have q3:=fun y:Wd (Ext X.drew)=>y.ok.cellv b3.drew.cell
  refine wp_region_plan (Ext _) 14 [(false,0),(false,1),(false,2),(false,3),(true,4),(false,5),(false,6),(false,7),(false,8),(true,9),(true,10),(true,11),(false,12),(false,13)] (by kernel_rfl) (by kernel_rfl) (uR_) (fun hne=>?_)
  repeat (refine hq_ rfl fun K k=>?_;go_simp;refine k.out _ ?_;clear k K)
  refine head_l rfl ?_
  go_wp2_with fail
  refine kx_ hd ?_
  repeat (refine hq_ rfl fun K k=>?_;go_simp;refine k.out _ ?_;clear k K)
  refine head_l rfl ?_
  go_wp2_with fail
  refine kx_ hd ?_
  repeat (refine hq_ rfl fun K k=>?_;go_simp;refine k.out _ ?_;clear k K)
  refine head_l rfl ?_
  go_wp2_with fail
  refine kx_ hd ?_
  repeat (refine hq_ rfl fun K k=>?_;go_simp;refine k.out _ ?_;clear k K)
  refine head_l rfl ?_
  go_wp2_with fail
  refine kx_ hd ?_
  repeat (refine hq_ rfl fun K k=>?_;go_simp;refine k.out _ ?_;clear k K)
  refine head_nil ?_
  try simp only[dS_,dZ_]
  clear q3
  go_wp2_with fail
  go_ret
  exact⟨rfl,hE.drew⟩
theorem spub_nil (A:Option Addr) (l c:Nat):Calls Tryz.prog 33 #[.pointer none,.agg #[.slice A l c]] w (RetZn w):=by
 go_enter Tryz.func33,Tryz.ntmps33
 go_wp2_with fail
 refine name_c (fun W hW=>?_)
 have b4:Box W (w.heap.size+1) 34 (.slice none 0 0):=by rw[hW];exact Box.new_at (by simp)
 have hE:Ext w W:=by rw[hW];exact((Upd.refl _ w).alloc _).alloc _
 clear hW
 refine(swrong_none W A l c).mono ?_
 rintro e w1 ⟨rfl,hU1⟩
 have b4n:=b4.ext hU1
 have z2:=b4n.cell
 have z3:=b4n.frozen
 have hG:=hE.trans hU1
 go_wp2_with fail
 have q:=(b4n.set (.slice none 0 0)).cell
 exact bodyPost_ret (v:=.tuple #[.agg #[.slice none 0 0],.int .i64 1]) (by simp[results,Tryz.results33,go_sem,q]) rfl ⟨rfl,hG.setCell (p:=⟨w.heap.size+1,0,none⟩) (.inr (by simp)) _⟩
theorem lshared_nil (A0 A1:Option Addr) (l0 c0 l1 c1:Nat):Calls Tryz.prog 46 #[.pointer none,.agg #[.slice A0 l0 c0],.agg #[.slice A1 l1 c1]] w (RetZn w):=by
 go_enter Tryz.func46,Tryz.ntmps46
 obtain⟨W,hW⟩:∃W,W=((w.alloc (.cells #[.slice A0 l0 c0] 34)).alloc (.cells #[.slice A1 l1 c1] 34)).alloc (.cells #[.slice none 0 0] 34):=⟨_,rfl⟩
 have b4:Box W w.heap.size 34 (.slice A0 l0 c0):=by rw[hW];exact((Box.new _ _ _).alloc _).alloc _
 have b6:Box W (w.heap.size+1+1) 34 (.slice none 0 0):=by rw[hW];exact Box.new_at (by simp)
 have hE:Ext w W:=by rw[hW];exact(((Upd.refl _ w).alloc _).alloc _).alloc _
 have q4:=b4.cell
 rw[hW]at q4
 go_wp2_with fail
 clear q4
 rw[←hW]
 clear hW
 refine(spub_nil W A0 l0 c0).mono ?_
 rintro e w1 ⟨rfl,hU1⟩
 have hE2:Ext W (w1.alloc (.cells #[.slice none 0 0] 34)):=hU1.alloc _
 have b6n:=b6.ext hE2
 have z2:=b6n.cell
 have z3:=b6n.frozen
 have hG:=hE.trans hE2
 go_wp2_with fail
 have q:=(b6n.set (.slice none 0 0)).cell
 exact bodyPost_ret (v:=.tuple #[.agg #[.slice none 0 0],.int .i64 1]) (by simp[results,Tryz.results46,go_sem,q]) rfl ⟨rfl,hG.setCell (p:=⟨w.heap.size+1+1,0,none⟩) (.inr (by simp;omega)) _⟩
end
end Go.Proofs.YtdohmikoafkniaaGreat
namespace Go.Proofs.YtdohmikoafkniaaGreat
theorem mod_cancel {A B C m:Nat} (h:(A+C) % m=(B+C) % m):A % m=B % m:=by
 have h1:((A+C:Nat):Int) % (m:Int)=((B+C:Nat):Int) % (m:Int):=by exact_mod_cast congrArg (fun n:Nat=>(n:Int)) h
 rw[Int.emod_eq_emod_iff_emod_sub_eq_zero]at h1
 have h2:((A+C:Nat):Int) - ((B+C:Nat):Int)=(A:Int) - (B:Int):=by omega
 rw[h2,←Int.emod_eq_emod_iff_emod_sub_eq_zero]at h1
 exact_mod_cast h1
structure EuI (m a u v x y:Nat):Prop where
 hx:x*a % m=u % m
 hy:y*a % m=v % m
 hg:Nat.gcd u v=Nat.gcd m (a % m)
theorem EuI.start (m a:Nat):EuI m a m (a % m) 0 1:=⟨by simp,by simp,rfl⟩
theorem EuI.step {m a u v x y z:Nat} (h:EuI m a u v x y) (hz:(z+u / v*y) % m=x % m):EuI m a v (u % v) y z:=by
 refine⟨h.hy,?_,by rw[←h.hg,Nat.gcd_comm v,Nat.gcd_comm u,←Nat.gcd_rec]⟩
 refine mod_cancel (C:=u / v*v) ?_
 have e1:u % v+u / v*v=u:=Nat.mod_add_div' u v
 rw[e1,←h.hx,Nat.mul_mod x a,←hz,←Nat.mul_mod,Nat.add_mul,Nat.add_mod,Nat.add_mod (z*a)]
 congr 2
 rw[Nat.mul_assoc,Nat.mul_mod,Nat.mul_mod (u / v) (y*a),h.hy]
theorem EuI.last {m a u x y b:Nat} (h:EuI m a u 0 x y) (hm:2≤m) (hb:b<m) (hab:a*b % m=1):u=1∧x % m=b:=by
 have hg:Nat.gcd m (a % m)=1:=by
  have hd1:=Nat.gcd_dvd_left m (a % m)
  have hd2:=Nat.gcd_dvd_right m (a % m)
  obtain⟨d,hd⟩:∃d,d=Nat.gcd m (a % m):=⟨_,rfl⟩
  rw[←hd]at hd1 hd2 ⊢
  have hda:d ∣ m*(a / m)+a % m:=Nat.dvd_add (Nat.dvd_trans hd1 (Nat.dvd_mul_right _ _)) hd2
  rw[Nat.div_add_mod]at hda
  have hd3:d ∣ m*(a*b / m)+1:=by
   have e:=Nat.div_add_mod (a*b) m
   rw[hab]at e
   rw[e];exact Nat.dvd_trans hda (Nat.dvd_mul_right a b)
  exact Nat.dvd_one.1 ((Nat.dvd_add_right (Nat.dvd_trans hd1 (Nat.dvd_mul_right m _))).1 hd3)
 have hu:u=1:=by have:=h.hg;rw[hg,Nat.gcd_zero_right]at this;exact this
 refine⟨hu,?_⟩
 have h1:x*a % m=1:=by rw[h.hx,hu,Nat.mod_eq_of_lt (by omega)]
 have h2:x*(a*b) % m=b % m:=by rw[←Nat.mul_assoc,Nat.mul_mod,h1,Nat.one_mul,Nat.mod_mod]
 rw[Nat.mul_mod,hab,Nat.mul_one,Nat.mod_mod,Nat.mod_eq_of_lt hb]at h2
 exact h2
theorem subm_spec (x q y m:Nat) (hm:0<m):(subm x (q*y % m) m+q*y) % m=x % m:=by
 unfold subm
 have h1:=Nat.mod_lt x hm
 have h2:=Nat.mod_lt (q*y) hm
 rw[Nat.mod_mod,Nat.add_mod,Nat.mod_mod,←Nat.mod_mod (q*y) m,←Nat.add_mod,Nat.mod_mod]
 rw[show x % m+m - q*y % m+q*y % m=x % m+m by omega,Nat.add_mod_right,Nat.mod_mod]
end Go.Proofs.YtdohmikoafkniaaGreat
