/- Inverses, plainly. -/
import Derived.Test.YtdohmikoafkniaaGreatLpMods
namespace Go.Proofs.YtdohmikoafkniaaGreat
set_option linter.unusedSimpArgs false
set_option linter.unusedVariables false
theorem mod_cancel {A B C m:Nat} (h:(A+C) % m=(B+C) % m):A % m=B % m:=by
 have h1:((A+C:Nat):Int) % (m:Int)=((B+C:Nat):Int) % (m:Int):=by exact_mod_cast congrArg (fun n:Nat=>(n:Int)) h
 rw[Int.emod_eq_emod_iff_emod_sub_eq_zero]at h1
 have h2:((A+C:Nat):Int) - ((B+C:Nat):Int)=(A:Int) - (B:Int):=by omega
 rw[h2,←Int.emod_eq_emod_iff_emod_sub_eq_zero]at h1
 exact_mod_cast h1
structure EuI (m a u v x y:Nat):Prop where
 hx:x*a % m=u % m
 hy:y*a % m=v % m
 hg:Nat.gcd u v=Nat.gcd m (a % m)
theorem EuI.start (m a:Nat):EuI m a m (a % m) 0 1:=⟨by simp,by simp,rfl⟩
theorem EuI.step {m a u v x y z:Nat} (h:EuI m a u v x y) (hz:(z+u / v*y) % m=x % m):EuI m a v (u % v) y z:=by
 refine⟨h.hy,?_,by rw[←h.hg,Nat.gcd_comm v,Nat.gcd_comm u,←Nat.gcd_rec]⟩
 refine mod_cancel (C:=u / v*v) ?_
 have e1:u % v+u / v*v=u:=Nat.mod_add_div' u v
 rw[e1,←h.hx,Nat.mul_mod x a,←hz,←Nat.mul_mod,Nat.add_mul,Nat.add_mod,Nat.add_mod (z*a)]
 congr 2
 rw[Nat.mul_assoc,Nat.mul_mod,Nat.mul_mod (u / v) (y*a),h.hy]
theorem EuI.last {m a u x y b:Nat} (h:EuI m a u 0 x y) (hm:2≤m) (hb:b<m) (hab:a*b % m=1):u=1∧x % m=b:=by
 have hg:Nat.gcd m (a % m)=1:=by
  have hd1:=Nat.gcd_dvd_left m (a % m)
  have hd2:=Nat.gcd_dvd_right m (a % m)
  obtain⟨d,hd⟩:∃d,d=Nat.gcd m (a % m):=⟨_,rfl⟩
  rw[←hd]at hd1 hd2 ⊢
  have hda:d ∣ m*(a / m)+a % m:=Nat.dvd_add (Nat.dvd_trans hd1 (Nat.dvd_mul_right _ _)) hd2
  rw[Nat.div_add_mod]at hda
  have hd3:d ∣ m*(a*b / m)+1:=by
   have e:=Nat.div_add_mod (a*b) m
   rw[hab]at e
   rw[e];exact Nat.dvd_trans hda (Nat.dvd_mul_right a b)
  exact Nat.dvd_one.1 ((Nat.dvd_add_right (Nat.dvd_trans hd1 (Nat.dvd_mul_right m _))).1 hd3)
 have hu:u=1:=by have:=h.hg;rw[hg,Nat.gcd_zero_right]at this;exact this
 refine⟨hu,?_⟩
 have h1:x*a % m=1:=by rw[h.hx,hu,Nat.mod_eq_of_lt (by omega)]
 have h2:x*(a*b) % m=b % m:=by rw[←Nat.mul_assoc,Nat.mul_mod,h1,Nat.one_mul,Nat.mod_mod]
 rw[Nat.mul_mod,hab,Nat.mul_one,Nat.mod_mod,Nat.mod_eq_of_lt hb]at h2
 exact h2
theorem subm_spec (x q y m:Nat) (hm:0<m):(subm x (q*y % m) m+q*y) % m=x % m:=by
 unfold subm
 have h1:=Nat.mod_lt x hm
 have h2:=Nat.mod_lt (q*y) hm
 rw[Nat.mod_mod,Nat.add_mod,Nat.mod_mod,←Nat.mod_mod (q*y) m,←Nat.add_mod,Nat.mod_mod]
 rw[show x % m+m - q*y % m+q*y % m=x % m+m by omega,Nat.add_mod_right,Nat.mod_mod]
end Go.Proofs.YtdohmikoafkniaaGreat
