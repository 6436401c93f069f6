/- Small numbers in new memory, walked once more: trim, New; the document's Small. -/
import Derived.Test.YtbhhjfhepkbfgaaGnRefs
namespace Go.Proofs.Ytbhhjfhepkbfgaa
set_option linter.unusedSimpArgs false
set_option linter.unusedVariables false
section
open Go.RowKit
open Nt
attribute [local go_sem] steady steadyUpon Cls same_cell by32 by8 wrap_w32 or_u32
def RetNA2 (w:World) (A:Option Addr) (c n:Nat) (e:Ending) (w':World):Prop:=∃l,e=.returned (.agg #[.slice A l c])∧NatV w' (.agg #[.slice A l c]) n∧Ext w w'
set_option maxRecDepth 100000 in
set_option maxHeartbeats 1000000 in
theorem trim_at2 (A:Option Addr) (n c:Nat) (xs:List (BitVec 32)) (w:World) (hn:xs.length=n) (hc:n≤c) (hm:c≤maxLen) (hS:Sl by32 w A xs):
 Calls Try.prog 25 #[.slice A n c] w (RetNA2 w A c (numOf W32 d32 xs)):=by
 have hm':=hm
 unfold maxLen at hm'
 have hS':=hide (hS.ext ((Upd.refl _ w).alloc (.cells #[.slice none 0 0] 33)))
 have Hn:=hide hn
 have HS:=hide hS
 clear hn hS
 go_enter Try.func25,Try.ntmps25
 go_wp2
 go_loop [0] (fun v=>∃k:Nat,k≤n∧v=.slice A k c∧vf W32 (dig d32 xs) k=numOf W32 d32 xs) (fun v=>match v with | .slice _ k _=>k | _=>0)
 case atStart=>exact⟨n,Nat.le_refl _,rfl,by rw[←Hn.out];rfl⟩
 case round=>
  obtain⟨k,hk,rfl,hv⟩:=hrel
  have HV:=hide hv
  clear hv
  rcases Nat.eq_zero_or_pos k with h0 | h0
  · subst h0
    go_wp2
    refine bodyPost_ret (v:=.agg #[.slice A 0 c]) (by simp[results,Try.results25,go_sem]) rfl ⟨_,rfl,⟨_,rfl,NumS.cut (HS.out.ext ((Upd.refl _ _).alloc _)) (Nat.zero_le _) (Nat.zero_le _) hm HV.out (.inl rfl)⟩,(Upd.refl _ _).alloc _⟩
  · obtain⟨b,o,rfl,hb,hcells⟩:=hS'.out.open_ (by rw[Hn.out];omega)
    have hcell:=hcells (k - 1) (by rw[Hn.out];omega)
    obtain⟨k,rfl⟩:∃j,k=j+1:=⟨k - 1,by omega⟩
    simp only[Nat.add_sub_cancel]at hcell
    clear hcells
    by_cases hz:n32 (gat xs k)=0
    · have hzb:(n32 (gat xs k) == 0)=true:=by simpa using hz
      have hd:=hide (dig_zero.2 hz)
      clear hz
      go_wp2
      go_round
      case rel=>exact⟨k,by omega,rfl,by have:=HV.out;rw[vf_succ,hd.out]at this;omega⟩
      case measure=>simp
    · have hzb:(n32 (gat xs k) == 0)=false:=by simpa using hz
      have hd:=hide (fun e=>hz (dig_zero.1 e))
      clear hz
      go_wp2
      refine bodyPost_ret (v:=.agg #[.slice (some ⟨b,o,none⟩) (k+1) c]) (by simp[results,Try.results25,go_sem]) rfl ⟨_,rfl,⟨_,rfl,NumS.cut (HS.out.ext ((Upd.refl _ _).alloc _)) (by rw[Hn.out];exact hk) (by omega) hm HV.out (.inr hd.out)⟩,(Upd.refl _ _).alloc _⟩
def RetNF (w:World) (n:Nat) (e:Ending) (w':World):Prop:=∃A l c,e=.returned (.agg #[.slice A l c])∧(∀k,inA A k→w.heap.size≤k∧k<w'.heap.size)∧NatV w' (.agg #[.slice A l c]) n∧Ext w w'
def RetRF (w:World) (n:Nat) (e:Ending) (w':World):Prop:=∃A l c,e=.returned (.slice A l c)∧(∀k,inA A k→w.heap.size≤k∧k<w'.heap.size)∧RefV w' (.slice A l c) n∧Ext w w'
set_option maxRecDepth 100000 in
set_option maxHeartbeats 1000000 in
theorem new_fresh (N:Nat) (w:World) (hN:N<18446744073709551616):
 Calls Try.prog 6 #[.int .u64 N] w (RetNF w N):=by
 have hN':(N:Int)≤18446744073709551615:=by omega
 go_enter Try.func6,Try.ntmps6
 go_wp2_with fail
 refine(trim_at2 _ 2 2 [w32 N,w32 ((N:Int) / 4294967296)] _ rfl (by omega) (by unfold maxLen;omega) (Sl.new_at by32 [w32 N,w32 ((N:Int) / 4294967296)] (by simp) rfl)).mono ?_
 rintro e w1 ⟨n,rfl,hV,hU⟩
 rw[new_words N hN]at hV
 obtain⟨hc,hf,hz⟩:=ecell hU
 simp at hz
 go_wp2
 have hcell:w1.cell? ⟨w.heap.size,0,none⟩=some (.slice none 0 0):=by rw[hc _ _ (by simp;omega)];go_simp
 exact bodyPost_ret (v:=.agg #[.slice (some ⟨w.heap.size+1,0,none⟩) n 2]) (by simp[results,Try.results6,go_sem,hcell]) rfl ⟨_,_,_,rfl,fun k hk=>by simp[inA]at hk;simp;omega,hV.far hcell,(by repeat (first | (with_reducible exact Upd.refl _ _) | (with_reducible assumption) | (refine Upd.setCell ?_ (.inr (by first | exact Nat.le_refl _ | (dsimp only;omega) | (simp;done) | (simp;omega))) _) | (with_reducible refine Upd.alloc ?_ _) | (with_reducible refine Upd.drew ?_) | (with_reducible refine Upd.trans ?_ (by with_reducible assumption))))⟩
end
section
open Go.RowKit
open Nt
attribute [local go_sem] steady steadyUpon Cls same_cell by8 wrap_w8
set_option maxRecDepth 100000 in
set_option maxHeartbeats 1000000 in
theorem rsmall_fresh (N:Nat) (w:World) (hN:N<18446744073709551616):
 Calls Try.prog 7 #[.int .u64 N] w (RetRF w N):=by
 have HN:=hide hN
 clear hN
 go_enter Try.func7,Try.ntmps7
 go_wp2
 go_loopw [0,3] (fun u o wr=>∃(j v:Nat) (zs:List Bool) (Z:Option Addr) (cz:Nat),j≤64∧u=.int .u64 (v:Nat)∧o=.slice Z j cz∧zs.length=j∧Own wr w.heap.size 4 Z cz (zs.map Value.bool)∧v*2^j+vf 2 (dig d1 zs) j=N∧(v=0→j=0∨dig d1 zs (j - 1)≠0)∧Ext w wr) (fun u _ _=>(intOf u).toNat)
 case atStart=>exact⟨0,N,[],_,_,Nat.zero_le _,rfl,rfl,rfl,⟨rfl,.inr ⟨w.heap.size,0,#[],rfl,Nat.le_refl _,heap_alloc_new w _,Nat.le_refl _,Nat.zero_le _,rfl,rfl⟩⟩,by rw[Nat.pow_zero,Nat.mul_one];rfl,fun _=>.inl rfl,(Upd.refl _ _).alloc _⟩
 case round=>
  obtain⟨j,v,zs,Z,cz,hj,rfl,rfl,hzl,hO,hv,ht,hE⟩:=hrel
  have hvb:v≤18446744073709551615:=by
   have h1:v*1≤v*2^j:=Nat.mul_le_mul_left _ (Nat.pow_pos (by omega))
   have:=HN.out
   omega
  have hj64:0<v→j<64:=fun h=>small_bd (N:=N) (by omega) HN.out h
  have Hzl:=hide hzl
  have Hv:=hide hv
  have Ht:=hide ht
  clear hzl hv ht
  by_cases h0:0<v
  · have hj':=hj64 h0
    clear hj64
    have hvi:(0:Int)<(v:Int):=by omega
    have hvi2:(v:Int)≤18446744073709551615:=by omega
    clear hvb
    rcases Nat.mod_two_eq_zero_or_one v with hp | hp
    · skip
      have hs:=hide (rsmall_next (b:=false) Hzl.out Hv.out (by rw[hp];rfl))
      have hpi:=par_nat hp
      clear hp
      go_wp2_with (at_builtin;go_must (refine wpList_apd Value.bool one1 Try.n_el1 zs [false] (zs++[false]) (j+1) rfl (by rw[List.length_append,Hzl.out];rfl) (by omega) (by unfold maxLen;omega) rfl rfl rfl Hzl.out (hO.ext ((Upd.refl _ _).alloc _)) rfl rfl (Sl.new Value.bool _ _ [false]) (by have:=hE.size;simp;omega) ?_);intro Z2 c2 w3 hO3 hU3 hin3)
      go_roundw
      case rel=>exact⟨j+1,v / 2,zs++[false],_,_,by omega,(by congr 1),rfl,by rw[List.length_append,Hzl.out];rfl,hO3,hs.out,(fun h0=>by
        have h1:v=1:=by omega
        subst h1
        right
        rw[Nat.add_sub_cancel,dig_append_right (by rw[Hzl.out];exact Nat.le_refl _),Hzl.out,Nat.sub_self]
        first | (exact absurd hpi (by decide)) | decide),Upd.fresh hU3 (hE.alloc _) (fun i hi=>(hO.in_ hi).1)⟩
      case measure=>simp[intOf];omega
    · skip
      have hs:=hide (rsmall_next (b:=true) Hzl.out Hv.out (by rw[hp];rfl))
      have hpi:=par_nat hp
      clear hp
      go_wp2_with (at_builtin;go_must (refine wpList_apd Value.bool one1 Try.n_el1 zs [true] (zs++[true]) (j+1) rfl (by rw[List.length_append,Hzl.out];rfl) (by omega) (by unfold maxLen;omega) rfl rfl rfl Hzl.out (hO.ext ((Upd.refl _ _).alloc _)) rfl rfl (Sl.new Value.bool _ _ [true]) (by have:=hE.size;simp;omega) ?_);intro Z2 c2 w3 hO3 hU3 hin3)
      go_roundw
      case rel=>exact⟨j+1,v / 2,zs++[true],_,_,by omega,(by congr 1),rfl,by rw[List.length_append,Hzl.out];rfl,hO3,hs.out,(fun h0=>by
        have h1:v=1:=by omega
        subst h1
        right
        rw[Nat.add_sub_cancel,dig_append_right (by rw[Hzl.out];exact Nat.le_refl _),Hzl.out,Nat.sub_self]
        first | (exact absurd hpi (by decide)) | decide),Upd.fresh hU3 (hE.alloc _) (fun i hi=>(hO.in_ hi).1)⟩
      case measure=>simp[intOf];omega
  · obtain rfl:v=0:=by omega
    have Ht2:=hide (Ht.out rfl)
    clear hj64 hvb Ht
    go_wp2_with fail
    go_ret
    refine⟨_,_,_,rfl,fun k hk=>hO.in_ hk,NumS.cut hO.sl (by rw[Hzl.out];exact Nat.le_refl _) (by have:=hO.cap.1;rw[List.length_map,Hzl.out]at this;exact this) hO.cap.2 (by have:=Hv.out;rwa [Nat.zero_mul,Nat.zero_add]at this) Ht2.out,hE⟩
end
end Go.Proofs.Ytbhhjfhepkbfgaa
