/- Signatures, walked: sizes, keys, bytes, numbers. -/
import Derived.Test.YtdohmikoafkniaaGreatDpGrpo
import Derived.Test.YtdohmikoafkniaaGreatDpMonoL
namespace Go.Proofs.YtdohmikoafkniaaGreat
set_option linter.unusedSimpArgs false
set_option linter.unusedVariables false
open Go.RowKit
open Nt Sha
attribute [local go_sem] steady steadyUpon Cls same_cell
attribute [local irreducible] wpHead wpTree sum
section
variable (gr P Q G H k : Nat) (w : World)
theorem byteSz_int (n:Nat):((blen n:Int)+7) / 8=(byteSz n:Int):=by unfold byteSz;omega
theorem byteSz_le {k n:Nat} (h:Fit k n):byteSz n≤4*k:=by have:=Fit.blen h;unfold byteSz;omega
theorem byteSz_mono {a n:Nat} (h:a≤n):bytelen a≤byteSz n:=by
 show bytelen a≤bytelen n
 rw[bytelen_le_iff]
 exact Nat.lt_of_le_of_lt h (bytelen_le_iff.1 (Nat.le_refl _))
set_option maxRecDepth 100000 in
set_option maxHeartbeats 1000000 in
theorem swidth_any (h:GrpV w gr P Q G H) (hQ:Fit k Q) (hk:k≤1000000):Calls Tryz.prog 100 #[.pointer (some ⟨gr,0,none⟩)] w fun e w'=>e=.returned (.int .i64 (byteSz Q:Nat))∧Ext w w':=by
  have hLb:=byteSz_int Q
  have hbl:=Fit.blen hQ
  obtain⟨b,hb⟩:∃b,b=blen Q:=⟨_,rfl⟩
  obtain⟨z,hz⟩:∃z,z=byteSz Q:=⟨_,rfl⟩
  rw[←hb]at hLb hbl
  rw[←hz]at hLb ⊢
  have Hb:=hide hb
  clear hb hz
  go_enter Tryz.func100,Tryz.ntmps100
  go_wp2_with fail
  refine(gField_any gr P Q G H _ h).mono ?_
  rintro e w1 ⟨gq,rfl,hRq,rfl⟩
  go_wp2_with fail
  refine(mmod_any gq Q _ hRq).mono ?_
  rintro e w2 ⟨A,l,c,rfl,hV,hU⟩
  go_wp2_with fail
  refine(bits_any _ Q k _ hV hQ hk).mono ?_
  rintro e w3 ⟨rfl,hU3⟩
  rw[←Hb.out]
  have hG:=hU.trans hU3
  go_wp2_with fail
  go_ret
  exact⟨congrArg (fun x=>Ending.returned (.int .i64 x)) hLb,hG⟩
set_option maxRecDepth 100000 in
set_option maxHeartbeats 1000000 in
theorem ssize_any (h:GrpV w gr P Q G H) (hQ:Fit k Q) (hk:k≤1000000):Calls Tryz.prog 38 #[.pointer (some ⟨gr,0,none⟩)] w fun e w'=>e=.returned (.int .i64 ((2*byteSz Q:Nat):Int))∧Ext w w':=by
  have hbl:=byteSz_le hQ
  obtain⟨z,hz⟩:∃z,z=byteSz Q:=⟨_,rfl⟩
  obtain⟨Y,hY⟩:∃Y,Y=2*byteSz Q:=⟨_,rfl⟩
  rw[←hY]
  have h2:(2:Int)*(z:Int)=(Y:Int):=by omega
  have hYm:Y≤10000000:=by omega
  have Hz:=hide hz
  have HY:=hide hY
  clear hz hY
  go_enter Tryz.func38,Tryz.ntmps38
  go_wp2_with fail
  refine(swidth_any gr P Q G H k _ h hQ hk).mono ?_
  rw[←Hz.out]
  rintro e w1 ⟨rfl,hU⟩
  clear hbl
  go_wp2_with fail
  go_ret
  exact⟨rfl,hU⟩
/-! ### keys -/
/-! ### the number of bytes in the field -/
end
end Go.Proofs.YtdohmikoafkniaaGreat
