/- A region whose order is open, in which rows of literals get their mark; all else as in XMono. -/
import Derived.Test.YtbhhjfhepkbfgaaGreatWsSgnP
import Derived.Test.YtbhhjfhepkbfgaaGreatWsGrpV
namespace Go.Proofs.YtbhhjfhepkbfgaaGreat
set_option linter.unusedSimpArgs false
set_option linter.unusedVariables false
open Go.RowKit
open Nt Sha
attribute [local go_sem] steady steadyUpon Cls same_cell
attribute [local irreducible] wpHead wpTree sum chalOf
theorem szQ (r:Nat):byteSz (grQ r)≤128:=Nat.le_trans (byteSz_le (fit_grQ r)) (by omega)
end Go.Proofs.YtbhhjfhepkbfgaaGreat
namespace Go.Proofs.YtbhhjfhepkbfgaaGreat
set_option linter.unusedSimpArgs false
set_option linter.unusedVariables false
theorem mod_cancel {A B C m:Nat} (h:(A+C) % m=(B+C) % m):A % m=B % m:=by
 have h1:((A+C:Nat):Int) % (m:Int)=((B+C:Nat):Int) % (m:Int):=by exact_mod_cast congrArg (fun n:Nat=>(n:Int)) h
 rw[Int.emod_eq_emod_iff_emod_sub_eq_zero]at h1
 have h2:((A+C:Nat):Int) - ((B+C:Nat):Int)=(A:Int) - (B:Int):=by omega
 rw[h2,←Int.emod_eq_emod_iff_emod_sub_eq_zero]at h1
 exact_mod_cast h1
structure EuI (m a u v x y:Nat):Prop where
 hx:x*a % m=u % m
 hy:y*a % m=v % m
 hg:Nat.gcd u v=Nat.gcd m (a % m)
theorem EuI.start (m a:Nat):EuI m a m (a % m) 0 1:=⟨by simp,by simp,rfl⟩
theorem EuI.step {m a u v x y z:Nat} (h:EuI m a u v x y) (hz:(z+u / v*y) % m=x % m):EuI m a v (u % v) y z:=by
 refine⟨h.hy,?_,by rw[←h.hg,Nat.gcd_comm v,Nat.gcd_comm u,←Nat.gcd_rec]⟩
 refine mod_cancel (C:=u / v*v) ?_
 have e1:u % v+u / v*v=u:=Nat.mod_add_div' u v
 rw[e1,←h.hx,Nat.mul_mod x a,←hz,←Nat.mul_mod,Nat.add_mul,Nat.add_mod,Nat.add_mod (z*a)]
 congr 2
 rw[Nat.mul_assoc,Nat.mul_mod,Nat.mul_mod (u / v) (y*a),h.hy]
theorem EuI.last {m a u x y b:Nat} (h:EuI m a u 0 x y) (hm:2≤m) (hb:b<m) (hab:a*b % m=1):u=1∧x % m=b:=by
 have hg:Nat.gcd m (a % m)=1:=by
  have hd1:=Nat.gcd_dvd_left m (a % m)
  have hd2:=Nat.gcd_dvd_right m (a % m)
  obtain⟨d,hd⟩:∃d,d=Nat.gcd m (a % m):=⟨_,rfl⟩
  rw[←hd]at hd1 hd2 ⊢
  have hda:d ∣ m*(a / m)+a % m:=Nat.dvd_add (Nat.dvd_trans hd1 (Nat.dvd_mul_right _ _)) hd2
  rw[Nat.div_add_mod]at hda
  have hd3:d ∣ m*(a*b / m)+1:=by
   have e:=Nat.div_add_mod (a*b) m
   rw[hab]at e
   rw[e];exact Nat.dvd_trans hda (Nat.dvd_mul_right a b)
  exact Nat.dvd_one.1 ((Nat.dvd_add_right (Nat.dvd_trans hd1 (Nat.dvd_mul_right m _))).1 hd3)
 have hu:u=1:=by have:=h.hg;rw[hg,Nat.gcd_zero_right]at this;exact this
 refine⟨hu,?_⟩
 have h1:x*a % m=1:=by rw[h.hx,hu,Nat.mod_eq_of_lt (by omega)]
 have h2:x*(a*b) % m=b % m:=by rw[←Nat.mul_assoc,Nat.mul_mod,h1,Nat.one_mul,Nat.mod_mod]
 rw[Nat.mul_mod,hab,Nat.mul_one,Nat.mod_mod,Nat.mod_eq_of_lt hb]at h2
 exact h2
theorem subm_spec (x q y m:Nat) (hm:0<m):(subm x (q*y % m) m+q*y) % m=x % m:=by
 unfold subm
 have h1:=Nat.mod_lt x hm
 have h2:=Nat.mod_lt (q*y) hm
 rw[Nat.mod_mod,Nat.add_mod,Nat.mod_mod,←Nat.mod_mod (q*y) m,←Nat.add_mod,Nat.mod_mod]
 rw[show x % m+m - q*y % m+q*y % m=x % m+m by omega,Nat.add_mod_right,Nat.mod_mod]
end Go.Proofs.YtbhhjfhepkbfgaaGreat
namespace Go.Proofs.YtbhhjfhepkbfgaaGreat
set_option linter.unusedSimpArgs false
set_option linter.unusedVariables false
open Go.RowKit
open Nt Sha
def Alike (x y:Option Obj):Prop:=x=y∨∃cs t m m',x=some (.cells cs t m)∧y=some (.cells cs t m')
theorem Alike.trans {x y z:Option Obj} (h:Alike x y) (k:Alike y z):Alike x z:=by
 rcases h with rfl | ⟨cs,t,m,m',h1,h2⟩
 · exact k
 · rcases k with rfl | ⟨cs2,t2,m2,m3,k1,k2⟩
   · exact .inr ⟨cs,t,m,m',h1,h2⟩
   · rw[h2]at k1
     injection k1 with k1
     injection k1 with e1 e2 e3
     subst e1 e2
     exact .inr ⟨cs,t,m,m3,h1,k2⟩
structure RF (B:Nat) (w w':World):Prop where
 os:w'.os=w.os
 tape:w'.tape=w.tape
 output:w'.output=w.output
 size:w.heap.size≤w'.heap.size
 old:∀k,k<w.heap.size→k<B→w'.heap[k]? =w.heap[k]?
 new:∀k,k<w.heap.size→Alike w.heap[k]? w'.heap[k]?
section
variable {B : Nat} {w w' : World}
theorem RF.refl (B:Nat) (w:World):RF B w w:=⟨rfl,rfl,rfl,Nat.le_refl _,fun _ _ _=>rfl,fun _ _=>.inl rfl⟩
theorem RF.trans (B:Nat) (a b c:World) (h:RF B a b) (k:RF B b c):RF B a c:=
 ⟨k.os.trans h.os,k.tape.trans h.tape,k.output.trans h.output,Nat.le_trans h.size k.size,fun i hi hB=>(k.old i (Nat.lt_of_lt_of_le hi h.size) hB).trans (h.old i hi hB),fun i hi=>(h.new i hi).trans (k.new i (Nat.lt_of_lt_of_le hi h.size))⟩
theorem RF.of (h:Ext w w'):RF B w w':=⟨h.os,h.tape,h.output,h.size,fun k hk _=>h.block k hk (fun h=>h),fun k hk=>.inl (h.block k hk (fun h=>h)).symm⟩
theorem RF.ext (h:RF B w w') (hB:w.heap.size≤B):Ext w w':=⟨h.os,h.tape,h.output,h.size,fun k hk _=>h.old k hk (Nat.lt_of_lt_of_le hk hB)⟩
theorem RF.cell (h:RF B w w') {p:Addr} (hp:p.block<w.heap.size):w'.cell? p=w.cell? p:=by
 rcases h.new p.block hp with e | ⟨cs,t,m,m',e1,e2⟩
 · simp only[World.cell?,e]
 · simp only[World.cell?,e1,e2]
theorem RF.sl (h:RF B w w') {α:Type} [Inhabited α] {f:α→Value} {A:Option Addr} {xs:List α} (hS:Sl f w A xs):Sl f w' A xs:=fun i hi=>by
  obtain⟨b,o,e,hc⟩:=hS i hi
  exact⟨b,o,e,(h.cell (World.block_lt_of_cell? w _ hc)).trans hc⟩
theorem RF.nums (h:RF B w w') {α:Type} [Inhabited α] {f:α→Value} {d:α→Nat} {β:Nat} {s:Value} {n:Nat} (hN:NumS f d β w s n):NumS f d β w' s n:=by
 obtain⟨A,c,xs,h1,h2,h3,h4,h5⟩:=hN
 exact⟨A,c,xs,h1,h2,h3,h.sl h4,h5⟩
theorem RF.ref (h:RF B w w') {v:Value} {n:Nat} (hN:RefV w v n):RefV w' v n:=h.nums hN
theorem RF.pts (h:RF B w w') {A:Option Addr} {ps:List Pt} (hP:Pts w A ps):Pts w' A ps:=⟨h.sl hP.1,fun i hi=>⟨h.sl (hP.2 i hi).1,(hP.2 i hi).2⟩⟩
theorem RF.freeze {g k:Nat} (hb:B≤g):RF B w (w.freeze ⟨g,k,none⟩ 1):=by
 unfold World.freeze
 rw[if_neg (by decide)]
 refine⟨rfl,rfl,rfl,by simp,fun i _ hi=>?_,fun i hi=>?_⟩
 · show(w.heap.modify g _)[i]? =_
   rw[Array.getElem?_modify,if_neg (by omega)]
 · show Alike _ (w.heap.modify g _)[i]?
   rw[Array.getElem?_modify]
   by_cases e:g=i
   · rw[if_pos e]
     cases hx:w.heap[i]? with
     | none=>exact .inl rfl
     | some o=>
       cases o with
       | cells cs t m=>exact .inr ⟨cs,t,m,_,rfl,rfl⟩
       | _=>exact .inl rfl
   · rw[if_neg e];exact .inl rfl
theorem run_convert_mark {P:Program} {w:World} {t e:TypeId} {C:Array Value} {m:Nat × Nat} {g n c:Nat} (hb:w.heap[g]? =some (.cells C e m)) (ht:P.underlying t=some (.slice e)) (he:P.underlying e=some (.int .u8)):
 (convert t t (.slice (some ⟨g,0,none⟩) n c)).run P w=.ok (.slice (some ⟨g,0,none⟩) n c) (w.freeze ⟨g,C.size,none⟩ 1):=by
 have hsh:w.shape? g=some (e,C.size):=by
  unfold World.shape?
  rw[hb]
 simp[convert,run_underlying ht,run_underlying he,markStringish,hsh]
end
/-! ### shapes -/
def litF (B:Nat) (e:TypeId) (n:Nat) (bs:List (BitVec 8)):MR (RF B):=⟨fun v w=>∃g m,v=.slice (some ⟨g,0,none⟩) n n∧B≤g∧bs.length=n∧w.heap[g]? =some (.cells (bs.map by8).toArray e m),fun _ w w' ⟨g,m,h1,h2,h3,h4⟩ hR=>by
  rcases hR.new g (Array.getElem?_eq_some_iff.1 h4).1 with e1 | ⟨cs,t,m1,m2,e1,e2⟩
  · exact⟨g,m,h1,h2,h3,e1▸h4⟩
  · rw[h4]at e1
    injection e1 with e1
    injection e1 with a1 a2 a3
    subst a1 a2
    exact⟨g,m2,h1,h2,h3,e2⟩⟩
def bytesF (B:Nat) (n:Nat) (bs:List (BitVec 8)):MR (RF B):=⟨fun v w=>∃A c,v=.slice A n c∧bs.length=n∧n≤c∧c≤maxLen∧Sl by8 w A bs,fun _ _ _ ⟨A,c,e,h1,h2,h3,h⟩ hR=>⟨A,c,e,h1,h2,h3,hR.sl h⟩⟩
def refF (B:Nat) (n:Nat):MR (RF B):=⟨fun v w=>∃A l c,v=.slice A l c∧RefV w (.slice A l c) n,fun _ _ _ ⟨A,l,c,e,h⟩ hR=>⟨A,l,c,e,hR.ref h⟩⟩
def bssF (B:Nat) (n:Nat) (bss:List (List (BitVec 8))):MR (RF B):=⟨fun v w=>∃(A:Option Addr) (c:Nat) (ps:List Pt),v=.slice A n c∧ps.length=n∧ps.map (·.bs)=bss∧(∀p∈ps,p.bs.length=p.n)∧Pts w A ps,fun _ _ _ ⟨A,c,ps,e,h1,h2,h3,h⟩ hR=>⟨A,c,ps,e,h1,h2,h3,hR.pts h⟩⟩
section
variable {B : Nat} {v : Value} {w : World}
theorem litF_mk {e:TypeId} {n:Nat} {bs:List (BitVec 8)} (h:∃g m,v=.slice (some ⟨g,0,none⟩) n n∧B≤g∧bs.length=n∧w.heap[g]? =some (.cells (bs.map by8).toArray e m)):(litF B e n bs).p v w:=h
theorem litF_out {e:TypeId} {n:Nat} {bs:List (BitVec 8)} (h:(litF B e n bs).p v w):∃g m,v=.slice (some ⟨g,0,none⟩) n n∧B≤g∧bs.length=n∧w.heap[g]? =some (.cells (bs.map by8).toArray e m):=h
theorem bytesF_mk {n:Nat} {bs:List (BitVec 8)} (h:∃A c,v=.slice A n c∧bs.length=n∧n≤c∧c≤maxLen∧Sl by8 w A bs):(bytesF B n bs).p v w:=h
theorem bytesF_out {n:Nat} {bs:List (BitVec 8)} (h:(bytesF B n bs).p v w):∃A c,v=.slice A n c∧bs.length=n∧n≤c∧c≤maxLen∧Sl by8 w A bs:=h
theorem refF_mk {n:Nat} (h:∃A l c,v=.slice A l c∧RefV w (.slice A l c) n):(refF B n).p v w:=h
theorem refF_out {n:Nat} (h:(refF B n).p v w):∃A l c,v=.slice A l c∧RefV w (.slice A l c) n:=h
theorem bssF_mk {n:Nat} {bss:List (List (BitVec 8))} (h:∃(A:Option Addr) (c:Nat) (ps:List Pt),v=.slice A n c∧ps.length=n∧ps.map (·.bs)=bss∧(∀p∈ps,p.bs.length=p.n)∧Pts w A ps):(bssF B n bss).p v w:=h
theorem bssF_out {n:Nat} {bss:List (List (BitVec 8))} (h:(bssF B n bss).p v w):∃(A:Option Addr) (c:Nat) (ps:List Pt),v=.slice A n c∧ps.length=n∧ps.map (·.bs)=bss∧(∀p∈ps,p.bs.length=p.n)∧Pts w A ps:=h
theorem lit_bytes {e:TypeId} {g:Nat} {m:Nat × Nat} {bs:List (BitVec 8)} (h:w.heap[g]? =some (.cells (bs.map by8).toArray e m)):Sl by8 w (some ⟨g,0,none⟩) bs:=fun i hi=>⟨g,0,rfl,by
  simp[World.cell?,h,gat,hi]⟩
end
end Go.Proofs.YtbhhjfhepkbfgaaGreat
