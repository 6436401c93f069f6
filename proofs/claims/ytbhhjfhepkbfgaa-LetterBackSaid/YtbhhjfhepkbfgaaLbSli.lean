/- slices.Clone and slices.Reverse over bytes, walked. -/
import Derived.Test.YtbhhjfhepkbfgaaLbNatX
import Derived.RegionTactic
import Derived.BigRegion
import Derived.ChangeAlike
import Derived.Lib.SliceRun
namespace Go.Proofs.Ytbhhjfhepkbfgaa
set_option linter.unusedSimpArgs false
set_option linter.unusedVariables false
open Go.RowKit
open Nt
attribute [local go_sem] steady steadyUpon Cls same_cell by8
attribute [local irreducible] wpHead
theorem own_none8 (w:World) {B:Nat} (hB:B≤w.heap.size):Own (w.alloc (.cells #[] 5)) B 5 (some ⟨w.heap.size,0,none⟩) 0 (([]:List (BitVec 8)).map by8):=
 Own.lit by8 w 5 [] hB (Nat.zero_le _)
set_option maxRecDepth 100000 in
set_option maxHeartbeats 1000000 in
theorem clone_any (A:Option Addr) (n c:Nat) (bs:List (BitVec 8)) (w:World) (hl:bs.length=n) (hn:n≤100000000) (hS:Sl by8 w A bs):
 Calls Try.prog 119 #[.slice A n c] w (RetL w n bs):=by
 have Hl:=hide hl
 have HS:=hide hS
 have hnl:=fun W:World=>Lib.run_eql_slice_nil (P:=Try.prog) W 23 5 A n c 0 0 Try.n_under_bs
 clear hl hS
 cases A with
 | none=>
   have h0:n=0:=by
    rcases Nat.eq_zero_or_pos n with h | h
    · exact h
    · obtain⟨b,o,e,_⟩:=HS.out 0 (by rw[Hl.out];exact h)
      cases e
   have hb:bs=[]:=by
    have:=Hl.out
    rw[h0]at this
    exact List.length_eq_zero_iff.1 this
   subst h0 hb
   go_enter Try.func119,Try.ntmps119
   go_wp2_with fail
   go_ret
   exact⟨none,0,rfl,rfl,Own.nil,Upd.refl _ _⟩
 | some ad=>
   go_enter Try.func119,Try.ntmps119
   go_wp2_with (at_builtin;go_must (refine wpList_apd by8 one8 Try.n_el8 [] bs bs n rfl Hl.out (by omega) (by unfold maxLen;omega) rfl rfl rfl rfl (own_none8 w (Nat.le_refl _)) rfl Hl.out (HS.out.ext ((Upd.refl _ _).alloc _)) (by simp) ?_);intro A2 c2 w2 hO2 hU2 hin2)
   go_ret
   exact⟨_,_,rfl,Hl.out,hO2,Upd.fresh hU2 ((Upd.refl _ _).alloc _) (fun k hk=>by unfold inA at hk;simp at hk;omega)⟩
def rvk (zs:List (BitVec 8)) (k:Nat):List (BitVec 8):=(List.range zs.length).map fun i=>if i<k∨zs.length - k≤i then gat zs (zs.length - 1 - i) else gat zs i
theorem rvk_length (zs:List (BitVec 8)) (k:Nat):(rvk zs k).length=zs.length:=by simp[rvk]
theorem rvk_at (zs:List (BitVec 8)) (k:Nat) {i:Nat} (h:i<zs.length):gat (rvk zs k) i=if i<k∨zs.length - k≤i then gat zs (zs.length - 1 - i) else gat zs i:=by
  unfold rvk
  rw[gat_lt (by simp[h])]
  simp
theorem ext_gat {a b:List (BitVec 8)} (hl:a.length=b.length) (h:∀i,i<a.length→gat a i=gat b i):a=b:=by
 refine List.ext_getElem hl fun i h1 h2=>?_
 have:=h i h1
 rwa [gat_lt h1,gat_lt h2]at this
theorem rvk_zero (zs:List (BitVec 8)):rvk zs 0=zs:=by
 refine ext_gat (rvk_length _ _) fun i hi=>?_
 rw[rvk_length]at hi
 rw[rvk_at zs 0 hi,if_neg (by omega)]
theorem gat_reverse (zs:List (BitVec 8)) {i:Nat} (h:i<zs.length):gat zs.reverse i=gat zs (zs.length - 1 - i):=by
 rw[gat_lt (by simp[h]),gat_lt (by omega),List.getElem_reverse]
theorem rvk_end (zs:List (BitVec 8)) {k:Nat} (h:zs.length≤2*k+1):rvk zs k=zs.reverse:=by
 refine ext_gat (by rw[rvk_length,List.length_reverse]) fun i hi=>?_
 rw[rvk_length]at hi
 rw[rvk_at zs k hi,gat_reverse zs hi]
 by_cases h1:i<k∨zs.length - k≤i
 · rw[if_pos h1]
 · rw[if_neg h1];congr 1;omega
theorem gat_set' (zs:List (BitVec 8)) (j:Nat) (x:BitVec 8) {i:Nat} (h:i<zs.length):gat (zs.set j x) i=if i=j then x else gat zs i:=by
  rw[gat_lt (by simp[h]),List.getElem_set,gat_lt h]
  by_cases e:j=i
  · rw[if_pos e,if_pos e.symm]
  · rw[if_neg e,if_neg (Ne.symm e)]
theorem rvk_step (zs:List (BitVec 8)) {k:Nat} (h:2*k+1<zs.length):((rvk zs k).set k (gat zs (zs.length - 1 - k))).set (zs.length - 1 - k) (gat zs k)=rvk zs (k+1):=by
 refine ext_gat (by simp[rvk_length]) fun i hi=>?_
 have hi':i<zs.length:=by simpa[rvk_length] using hi
 rw[gat_set' _ _ _ (by simpa[rvk_length] using hi'),gat_set' _ _ _ (by simpa[rvk_length] using hi'),rvk_at zs k hi',rvk_at zs (k+1) hi']
 by_cases h1:i=zs.length - 1 - k
 · rw[if_pos h1,if_pos (by omega)];congr 1;omega
 · rw[if_neg h1]
   by_cases h2:i=k
   · rw[if_pos h2,if_pos (by omega),h2]
   · rw[if_neg h2]
     by_cases h3:i<k∨zs.length - k≤i
     · rw[if_pos h3,if_pos (by omega)]
     · rw[if_neg h3,if_neg (by omega)]
set_option maxRecDepth 100000 in
set_option maxHeartbeats 2000000 in
theorem rev_some (g n c B:Nat) (zs:List (BitVec 8)) (w:World) (hl:zs.length=n) (hn:n≤100000000) (hO:Own w B 5 (some ⟨g,0,none⟩) c (zs.map by8)):
 Calls Try.prog 123 #[.slice (some ⟨g,0,none⟩) n c] w fun e w'=>e=.returned (.tuple #[])∧Own w' B 5 (some ⟨g,0,none⟩) c (zs.reverse.map by8)∧Upd (only g) w w':=by
 have Hl:=hide hl
 clear hl
 go_enter Try.func123,Try.ntmps123
 go_wp2_with fail
 go_loopw [2,3] (fun i j wr=>∃k:Nat,2*k≤n+1∧i=.int .i64 k∧j=.int .i64 ((n:Int) - 1 - k)∧Own wr B 5 (some ⟨g,0,none⟩) c ((rvk zs k).map by8)∧Upd (only g) w wr) (fun i _ _=>n - (intOf i).toNat)
 case atStart=>exact⟨0,by omega,rfl,by simp,by rw[rvk_zero];exact hO,Upd.refl _ _⟩
 case round=>
  clear hO
  obtain⟨k,hk,rfl,rfl,hO,hU⟩:=hrel
  by_cases hlt:2*k+1<n
  · obtain⟨m,hm⟩:∃m,m=n - 1 - k:=⟨_,rfl⟩
    have hmI:(n:Int) - 1 - (k:Int)=(m:Int):=by omega
    rw[hmI]
    have hkm:k<m:=by omega
    have hmn:m<n:=by omega
    have hcI:(k:Int)<(m:Int):=by omega
    have Hm:=hide hm
    clear hm hmI
    have hzl:(rvk zs k).length=n:=by rw[rvk_length];exact Hl.out
    have Hzl:=hide hzl
    clear hzl
    have ck:=hO.row.cell (i:=k) (by rw[Hzl.out];omega)
    have cm:=hO.row.cell (i:=m) (by rw[Hzl.out];omega)
    go_wp2_with fail
    have fk:=hO.row.frozen k
    have fm:=hO.row.frozen m
    have hne:¬k=m:=by omega
    have hkn:k<n:=by omega
    have hne2:¬m=k:=by omega
    go_region
    go_wp2_with fail
    have h1:=Hl.out
    have h2:=Hm.out
    have e1:gat (rvk zs k) m=gat zs (zs.length - 1 - k):=by rw[rvk_at zs k (by omega),if_neg (by omega),h1,h2]
    have e2:gat (rvk zs k) k=gat zs k:=by rw[rvk_at zs k (by omega),if_neg (by omega)]
    have hO2:=(hO.set (i:=k) (by rw[Hzl.out];omega) (gat (rvk zs k) m) rfl).set (i:=m) (by rw[List.length_set,Hzl.out];omega) (gat (rvk zs k) k) rfl
    have hst:=rvk_step zs (k:=k) (by omega)
    rw[show((rvk zs k).set k (gat (rvk zs k) m)).set m (gat (rvk zs k) k)=rvk zs (k+1) by rw[←hst,e1,e2,h2,h1]]at hO2
    clear e1 e2 hst ck cm fk fm
    go_roundw
    case rel=>exact⟨k+1,by omega,by go_num,by rw[show(n:Int) - 1 - ((k+1:Nat):Int)=(m:Int) - 1 by omega],hO2.ext (Upd.refl _ _).drew,((hU.setCell (p:=⟨g,k,none⟩) (.inl rfl) _).setCell (p:=⟨g,m,none⟩) (.inl rfl) _).drew⟩
    case measure=>simp[intOf];omega
  · have hge:¬(k:Int)<(n:Int) - 1 - (k:Int):=by omega
    go_wp2_with fail
    go_end0
    exact⟨rfl,by
     have hO':=hO
     rw[rvk_end zs (k:=k) (by rw[Hl.out];omega),List.map_reverse]at hO'
     exact hO',hU⟩
theorem rev_any (A:Option Addr) (n c B:Nat) (zs:List (BitVec 8)) (w:World) (hl:zs.length=n) (hn:n≤100000000) (hO:Own w B 5 A c (zs.map by8)):
 Calls Try.prog 123 #[.slice A n c] w fun e w'=>e=.returned (.tuple #[])∧Own w' B 5 A c (zs.reverse.map by8)∧Upd (inA A) w w':=by
 rcases Nat.eq_zero_or_pos n with h0 | h0
 · have hz:zs=[]:=List.length_eq_zero_iff.1 (by omega)
   subst h0 hz
   go_enter Try.func123,Try.ntmps123
   go_wp2_with fail
   go_loopw [2,3] (fun i j wr=>i=.int .i64 0∧j=.int .i64 (-1)∧wr=w) (fun _ _ _=>0)
   case atStart=>exact⟨rfl,rfl,rfl⟩
   case round=>
    obtain⟨rfl,rfl,rfl⟩:=hrel
    go_wp2_with fail
    go_end0
    exact⟨rfl,hO,Upd.refl _ _⟩
 · obtain⟨g,rfl, -, -⟩:=hO.open_ (by rw[List.length_map,hl];exact h0)
   refine(rev_some g n c B zs w hl hn hO).mono ?_
   rintro e w' ⟨h1,h2,h3⟩
   exact⟨h1,h2,h3.mono fun k _ hk=>by unfold only at hk;subst hk;simp[inA]⟩
end Go.Proofs.Ytbhhjfhepkbfgaa
