/- Merged: RefA RefB RefC RefD RefE RefF LawA LawB. -/
import Derived.Test.YtbhhjfhepkbfgaaGnNatW
namespace Go.Proofs.Ytbhhjfhepkbfgaa
set_option linter.unusedSimpArgs false
set_option linter.unusedVariables false
/- The document's numbers, rows of truths, walked: Trim, at, Cmp, Shift. -/
section
open Go.RowKit
open Nt
attribute [local go_sem] steady steadyUpon Cls same_cell
def RetR (w:World) (n:Nat) (e:Ending) (w':World):Prop:=∃A l c,e=.returned (.slice A l c)∧RefV w' (.slice A l c) n∧Ext w w'
def RetT (w:World) (A:Option Addr) (c n:Nat) (e:Ending) (w':World):Prop:=∃l,e=.returned (.slice A l c)∧RefV w' (.slice A l c) n∧Ext w w'
def RetN1 (w:World) (n:Nat) (e:Ending) (w':World):Prop:=∃A l c,e=.returned (.slice A l c)∧RefV w' (.slice A l c) n∧Ext w w'∧∀k,inA A k→w.heap.size≤k
theorem RefV.upd {w w':World} {A:Option Addr} {l c n:Nat} {T:Nat→Prop} (h:RefV w (.slice A l c) n) (hu:Upd T w w') (hT:∀k,inA A k→¬T k):RefV w' (.slice A l c) n:=by
 obtain⟨A',c',xs,e,h2,h3,h4,h5⟩:=h
 cases e
 exact⟨A,c,xs,rfl,h2,h3,h4.upd hu (fun b o hb=>hT b (by rw[hb];simp[inA])),h5⟩
theorem Try.n_el1 :ElemI Try.prog 39 4 (.bool false) 1:=⟨by kernel_rfl,by kernel_rfl,rfl⟩
theorem one1 (x:Bool):(Value.bool x).oneCell'=true:=rfl
theorem d1_true :d1 true=1:=rfl
theorem d1_false :d1 false=0:=rfl
theorem d1_le (x:Bool):d1 x≤1:=by cases x<;>decide
theorem dig1_out {xs:List Bool} {i:Nat} (h:xs.length≤i):dig d1 xs i=0:=dig_out rfl h
set_option maxRecDepth 100000 in
set_option maxHeartbeats 1000000 in
theorem rtrim_at (A:Option Addr) (n c:Nat) (xs:List Bool) (w:World) (hn:xs.length=n) (hc:n≤c) (hm:c≤maxLen) (hS:Sl Value.bool w A xs):
 Calls Try.prog 73 #[.slice A n c] w (RetT w A c (numOf 2 d1 xs)):=by
 have hm':=hm
 unfold maxLen at hm'
 have Hn:=hide hn
 have HS:=hide hS
 clear hn hS
 go_enter Try.func73,Try.ntmps73
 go_wp2
 go_loop [0] (fun v=>∃k:Nat,k≤n∧v=.slice A k c∧vf 2 (dig d1 xs) k=numOf 2 d1 xs) (fun v=>match v with | .slice _ k _=>k | _=>0)
 case atStart=>exact⟨n,Nat.le_refl _,rfl,by rw[←Hn.out];rfl⟩
 case round=>
  obtain⟨k,hk,rfl,hv⟩:=hrel
  have HV:=hide hv
  clear hv
  rcases Nat.eq_zero_or_pos k with h0 | h0
  · subst h0
    go_wp2
    go_ret
    exact⟨_,rfl,NumS.cut HS.out (Nat.zero_le _) (Nat.zero_le _) hm HV.out (.inl rfl),Upd.refl _ _⟩
  · obtain⟨b,o,rfl,hb,hcells⟩:=HS.out.open_ (by rw[Hn.out];omega)
    have hcell:=hcells (k - 1) (by rw[Hn.out];omega)
    obtain⟨k,rfl⟩:∃j,k=j+1:=⟨k - 1,by omega⟩
    simp only[Nat.add_sub_cancel]at hcell
    clear hcells
    obtain⟨x,hx⟩:∃x,gat xs k=x:=⟨_,rfl⟩
    rw[hx]at hcell
    have hxd:dig d1 xs k=d1 x:=by unfold dig;rw[hx]
    have Hx:=hide hxd
    clear hx hxd
    cases x with
    | false=>
      have hd1:dig d1 xs k=0:=Hx.out
      have hd:=hide hd1
      clear hd1
      go_wp2
      go_round
      case rel=>exact⟨k,by omega,rfl,by have:=HV.out;rw[vf_succ,hd.out]at this;omega⟩
      case measure=>simp
    | true=>
      have hd1:dig d1 xs k≠0:=by rw[Hx.out];decide
      have hd:=hide hd1
      clear hd1
      go_wp2
      go_ret
      exact⟨_,rfl,NumS.cut HS.out (by rw[Hn.out];exact hk) (by omega) hm HV.out (.inr hd.out),Upd.refl _ _⟩
theorem rtrim_any (A:Option Addr) (n c:Nat) (xs:List Bool) (w:World) (hn:xs.length=n) (hc:n≤c) (hm:c≤maxLen) (hS:Sl Value.bool w A xs):
 Calls Try.prog 73 #[.slice A n c] w (RetR w (numOf 2 d1 xs)):=
 (rtrim_at A n c xs w hn hc hm hS).mono fun _ _ ⟨l,h1,h2,h3⟩=>⟨A,l,c,h1,h2,h3⟩
set_option maxRecDepth 100000 in
set_option maxHeartbeats 1000000 in
theorem at_any (A:Option Addr) (l c:Nat) (xs:List Bool) (i:Nat) (w:World) (hl:xs.length=l) (hm:l≤100000000) (hi:i≤100000000) (hS:Sl Value.bool w A xs):
 Calls Try.prog 74 #[.slice A l c,.int .i64 i] w fun e w'=>e=.returned (.int .i64 (dig d1 xs i:Nat))∧w=w':=by
 by_cases hil:i<l
 · obtain⟨b,o,rfl,hb,hcells⟩:=hS.open_ (by omega)
   have hcell:=hcells i (by omega)
   obtain⟨x,hx⟩:∃x,gat xs i=x:=⟨_,rfl⟩
   rw[hx]at hcell
   have hxd:dig d1 xs i=d1 x:=by unfold dig;rw[hx]
   rw[hxd]
   clear hcells hl hx hxd
   cases x with
   | false=>
     rw[d1_false]
     go_enter Try.func74,Try.ntmps74
     go_wp2
     go_ret
     exact⟨rfl,rfl⟩
   | true=>
     rw[d1_true]
     go_enter Try.func74,Try.ntmps74
     go_wp2
     go_ret
     exact⟨rfl,rfl⟩
 · rw[dig1_out (xs:=xs) (by omega)]
   clear hl hS
   go_enter Try.func74,Try.ntmps74
   go_wp2
   go_ret
   exact⟨rfl,rfl⟩
end
/- The document's sums, differences and order of rows of truths, walked: Add, Sub, Cmp. -/
section
open Go.RowKit
open Nt
attribute [local go_sem] steady steadyUpon Cls same_cell
theorem radd_next {xs ys zs:List Bool} {k c s:Nat} {b:Bool} (hz:zs.length=k) (h:vf 2 (dig d1 zs) k+c*2^k=vf 2 (dig d1 xs) k+vf 2 (dig d1 ys) k) (hs:c+dig d1 xs k+dig d1 ys k=s) (hb:d1 b=s % 2):
 vf 2 (dig d1 (zs++[b])) (k+1)+s / 2*2^(k+1)=vf 2 (dig d1 xs) (k+1)+vf 2 (dig d1 ys) (k+1):=by
 subst hs
 refine add_step (c:=c) ?_ ?_
 · rw[vf_append_left (by omega)];exact h
 · rw[dig_append_right (by omega),hz,Nat.sub_self]
   exact hb
theorem radd_end {xs ys zs:List Bool} {k:Nat} (hz:zs.length=k) (h:vf 2 (dig d1 zs) k+0*2^k=vf 2 (dig d1 xs) k+vf 2 (dig d1 ys) k) (hx:xs.length≤k) (hy:ys.length≤k):numOf 2 d1 zs=numOf 2 d1 xs+numOf 2 d1 ys:=by
 unfold numOf
 rw[Nat.zero_mul,Nat.add_zero,vf_out rfl hx,vf_out rfl hy]at h
 rw[hz,h];rfl
theorem par_int {x y c:Nat} {r:Nat} (h:(c+x+y) % 2=r):((x:Int)+(y:Int)+(c:Int)) % 2=(r:Int):=by omega
set_option maxRecDepth 100000 in
set_option maxHeartbeats 1000000 in
theorem radd_any (va vb:Value) (a b k:Nat) (w:World) (hVa:RefV w va a) (hVb:RefV w vb b) (hFa:blen a≤k) (hFb:blen b≤k) (hk:k≤10000000):
 Calls Try.prog 115 #[va,vb] w (RetR w (a+b)):=by
 obtain⟨A,la,ca,xs,rfl,hlx,hca,hma,hSa,hTa,hna⟩:=hVa.open_
 obtain⟨B,lb,cb,ys,rfl,hly,hcb,hmb,hSb,hTb,hnb⟩:=hVb.open_
 have hla:la≤k:=by have:=bits_len (hlx▸hTa);rw[hna,hlx]at this;omega
 have hlb:lb≤k:=by have:=bits_len (hly▸hTb);rw[hnb,hly]at this;omega
 have HSa:=hide hSa
 have HSb:=hide hSb
 have Hna:=hide hna
 have Hnb:=hide hnb
 have Hlx:=hide hlx
 have Hly:=hide hly
 clear hVa hVb hTa hTb hSa hSb hna hnb hFa hFb hlx hly
 go_enter Try.func115,Try.ntmps115
 go_wp2
 go_loopw [5,6,7] (fun o cr i wr=>∃(j cy:Nat) (zs:List Bool) (Z:Option Addr) (cz:Nat),j≤k+1∧i=.int .i64 j∧cr=.int .i64 (cy:Nat)∧cy≤1∧o=.slice Z j cz∧zs.length=j∧Own wr w.heap.size 4 Z cz (zs.map Value.bool)∧vf 2 (dig d1 zs) j+cy*2^j=vf 2 (dig d1 xs) j+vf 2 (dig d1 ys) j∧(j≤la∨j≤lb∨cy=0)∧Ext w wr) (fun _ _ i _=>k+1 - (intOf i).toNat)
 case atStart=>exact⟨0,0,[],_,_,Nat.zero_le _,rfl,rfl,Nat.zero_le _,rfl,rfl,⟨rfl,.inr ⟨w.heap.size,0,#[],rfl,Nat.le_refl _,heap_alloc_new w _,Nat.le_refl _,Nat.zero_le _,rfl,rfl⟩⟩,rfl,.inl (Nat.zero_le _),(Upd.refl _ _).alloc _⟩
 case round=>
  obtain⟨j,cy,zs,Z,cz,hj,rfl,rfl,hcy,rfl,hzl,hO,hv,hside,hE⟩:=hrel
  have Hzl:=hide hzl
  have Hv:=hide hv
  clear hzl hv
  obtain⟨x,hx⟩:∃x,dig d1 xs j=x:=⟨_,rfl⟩
  obtain⟨y,hy⟩:∃y,dig d1 ys j=y:=⟨_,rfl⟩
  have hx1:x≤1:=by rw[←hx];exact d1_le _
  have hy1:y≤1:=by rw[←hy];exact d1_le _
  have Hx:=hide hx
  have Hy:=hide hy
  clear hx hy
  have hcap:=hO.cap
  by_cases h1:j<la
  · skip
    rcases Nat.mod_two_eq_zero_or_one (cy+x+y)with hp | hp
    · have hpi:=par_int hp
      have hs:=hide (radd_next (b:=false) Hzl.out Hv.out (by rw[Hx.out,Hy.out]) (by rw[hp];rfl))
      clear hp
      go_wp2_with fail
      refine(at_any A la ca xs j _ Hlx.out (by omega) (by omega) (HSa.out.ext hE)).mono ?_
      rintro e w' ⟨rfl,rfl⟩
      rw[Hx.out]
      go_wp2_with fail
      refine(at_any B lb cb ys j _ Hly.out (by omega) (by omega) (HSb.out.ext hE)).mono ?_
      rintro e w' ⟨rfl,rfl⟩
      rw[Hy.out]
      go_wp2_with (at_builtin;go_must (refine wpList_apd Value.bool one1 Try.n_el1 zs [false] (zs++[false]) (j+1) rfl (by rw[List.length_append,Hzl.out];rfl) (by omega) (by unfold maxLen;omega) rfl rfl rfl Hzl.out (hO.ext ((Upd.refl _ _).alloc _)) rfl rfl (Sl.new Value.bool _ _ [false]) (by have:=hE.size;simp;omega) ?_);intro Z2 c2 w3 hO3 hU3 hin3)
      go_roundw
      case rel=>exact⟨j+1,(cy+x+y) / 2,zs++[false],_,_,by omega,by go_num,(by congr 1;omega),by omega,rfl,by rw[List.length_append,Hzl.out];rfl,hO3,hs.out,(by first | omega | (have h1:=Hx.out;have h2:=Hy.out;rw[dig1_out (by rw[Hlx.out];omega)]at h1;rw[dig1_out (by rw[Hly.out];omega)]at h2;omega)),Upd.fresh hU3 (hE.alloc _) (fun i hi=>(hO.in_ hi).1)⟩
      case measure=>simp[intOf];omega
    · have hpi:=par_int hp
      have hs:=hide (radd_next (b:=true) Hzl.out Hv.out (by rw[Hx.out,Hy.out]) (by rw[hp];rfl))
      clear hp
      go_wp2_with fail
      refine(at_any A la ca xs j _ Hlx.out (by omega) (by omega) (HSa.out.ext hE)).mono ?_
      rintro e w' ⟨rfl,rfl⟩
      rw[Hx.out]
      go_wp2_with fail
      refine(at_any B lb cb ys j _ Hly.out (by omega) (by omega) (HSb.out.ext hE)).mono ?_
      rintro e w' ⟨rfl,rfl⟩
      rw[Hy.out]
      go_wp2_with (at_builtin;go_must (refine wpList_apd Value.bool one1 Try.n_el1 zs [true] (zs++[true]) (j+1) rfl (by rw[List.length_append,Hzl.out];rfl) (by omega) (by unfold maxLen;omega) rfl rfl rfl Hzl.out (hO.ext ((Upd.refl _ _).alloc _)) rfl rfl (Sl.new Value.bool _ _ [true]) (by have:=hE.size;simp;omega) ?_);intro Z2 c2 w3 hO3 hU3 hin3)
      go_roundw
      case rel=>exact⟨j+1,(cy+x+y) / 2,zs++[true],_,_,by omega,by go_num,(by congr 1;omega),by omega,rfl,by rw[List.length_append,Hzl.out];rfl,hO3,hs.out,(by first | omega | (have h1:=Hx.out;have h2:=Hy.out;rw[dig1_out (by rw[Hlx.out];omega)]at h1;rw[dig1_out (by rw[Hly.out];omega)]at h2;omega)),Upd.fresh hU3 (hE.alloc _) (fun i hi=>(hO.in_ hi).1)⟩
      case measure=>simp[intOf];omega
  · by_cases h2:j<lb
    · skip
      rcases Nat.mod_two_eq_zero_or_one (cy+x+y)with hp | hp
      · have hpi:=par_int hp
        have hs:=hide (radd_next (b:=false) Hzl.out Hv.out (by rw[Hx.out,Hy.out]) (by rw[hp];rfl))
        clear hp
        go_wp2_with fail
        refine(at_any A la ca xs j _ Hlx.out (by omega) (by omega) (HSa.out.ext hE)).mono ?_
        rintro e w' ⟨rfl,rfl⟩
        rw[Hx.out]
        go_wp2_with fail
        refine(at_any B lb cb ys j _ Hly.out (by omega) (by omega) (HSb.out.ext hE)).mono ?_
        rintro e w' ⟨rfl,rfl⟩
        rw[Hy.out]
        go_wp2_with (at_builtin;go_must (refine wpList_apd Value.bool one1 Try.n_el1 zs [false] (zs++[false]) (j+1) rfl (by rw[List.length_append,Hzl.out];rfl) (by omega) (by unfold maxLen;omega) rfl rfl rfl Hzl.out (hO.ext ((Upd.refl _ _).alloc _)) rfl rfl (Sl.new Value.bool _ _ [false]) (by have:=hE.size;simp;omega) ?_);intro Z2 c2 w3 hO3 hU3 hin3)
        go_roundw
        case rel=>exact⟨j+1,(cy+x+y) / 2,zs++[false],_,_,by omega,by go_num,(by congr 1;omega),by omega,rfl,by rw[List.length_append,Hzl.out];rfl,hO3,hs.out,(by first | omega | (have h1:=Hx.out;have h2:=Hy.out;rw[dig1_out (by rw[Hlx.out];omega)]at h1;rw[dig1_out (by rw[Hly.out];omega)]at h2;omega)),Upd.fresh hU3 (hE.alloc _) (fun i hi=>(hO.in_ hi).1)⟩
        case measure=>simp[intOf];omega
      · have hpi:=par_int hp
        have hs:=hide (radd_next (b:=true) Hzl.out Hv.out (by rw[Hx.out,Hy.out]) (by rw[hp];rfl))
        clear hp
        go_wp2_with fail
        refine(at_any A la ca xs j _ Hlx.out (by omega) (by omega) (HSa.out.ext hE)).mono ?_
        rintro e w' ⟨rfl,rfl⟩
        rw[Hx.out]
        go_wp2_with fail
        refine(at_any B lb cb ys j _ Hly.out (by omega) (by omega) (HSb.out.ext hE)).mono ?_
        rintro e w' ⟨rfl,rfl⟩
        rw[Hy.out]
        go_wp2_with (at_builtin;go_must (refine wpList_apd Value.bool one1 Try.n_el1 zs [true] (zs++[true]) (j+1) rfl (by rw[List.length_append,Hzl.out];rfl) (by omega) (by unfold maxLen;omega) rfl rfl rfl Hzl.out (hO.ext ((Upd.refl _ _).alloc _)) rfl rfl (Sl.new Value.bool _ _ [true]) (by have:=hE.size;simp;omega) ?_);intro Z2 c2 w3 hO3 hU3 hin3)
        go_roundw
        case rel=>exact⟨j+1,(cy+x+y) / 2,zs++[true],_,_,by omega,by go_num,(by congr 1;omega),by omega,rfl,by rw[List.length_append,Hzl.out];rfl,hO3,hs.out,(by first | omega | (have h1:=Hx.out;have h2:=Hy.out;rw[dig1_out (by rw[Hlx.out];omega)]at h1;rw[dig1_out (by rw[Hly.out];omega)]at h2;omega)),Upd.fresh hU3 (hE.alloc _) (fun i hi=>(hO.in_ hi).1)⟩
        case measure=>simp[intOf];omega
    · by_cases h3:0<cy
      · skip
        rcases Nat.mod_two_eq_zero_or_one (cy+x+y)with hp | hp
        · have hpi:=par_int hp
          have hs:=hide (radd_next (b:=false) Hzl.out Hv.out (by rw[Hx.out,Hy.out]) (by rw[hp];rfl))
          clear hp
          go_wp2_with fail
          refine(at_any A la ca xs j _ Hlx.out (by omega) (by omega) (HSa.out.ext hE)).mono ?_
          rintro e w' ⟨rfl,rfl⟩
          rw[Hx.out]
          go_wp2_with fail
          refine(at_any B lb cb ys j _ Hly.out (by omega) (by omega) (HSb.out.ext hE)).mono ?_
          rintro e w' ⟨rfl,rfl⟩
          rw[Hy.out]
          go_wp2_with (at_builtin;go_must (refine wpList_apd Value.bool one1 Try.n_el1 zs [false] (zs++[false]) (j+1) rfl (by rw[List.length_append,Hzl.out];rfl) (by omega) (by unfold maxLen;omega) rfl rfl rfl Hzl.out (hO.ext ((Upd.refl _ _).alloc _)) rfl rfl (Sl.new Value.bool _ _ [false]) (by have:=hE.size;simp;omega) ?_);intro Z2 c2 w3 hO3 hU3 hin3)
          go_roundw
          case rel=>exact⟨j+1,(cy+x+y) / 2,zs++[false],_,_,by omega,by go_num,(by congr 1;omega),by omega,rfl,by rw[List.length_append,Hzl.out];rfl,hO3,hs.out,(by first | omega | (have h1:=Hx.out;have h2:=Hy.out;rw[dig1_out (by rw[Hlx.out];omega)]at h1;rw[dig1_out (by rw[Hly.out];omega)]at h2;omega)),Upd.fresh hU3 (hE.alloc _) (fun i hi=>(hO.in_ hi).1)⟩
          case measure=>simp[intOf];omega
        · have hpi:=par_int hp
          have hs:=hide (radd_next (b:=true) Hzl.out Hv.out (by rw[Hx.out,Hy.out]) (by rw[hp];rfl))
          clear hp
          go_wp2_with fail
          refine(at_any A la ca xs j _ Hlx.out (by omega) (by omega) (HSa.out.ext hE)).mono ?_
          rintro e w' ⟨rfl,rfl⟩
          rw[Hx.out]
          go_wp2_with fail
          refine(at_any B lb cb ys j _ Hly.out (by omega) (by omega) (HSb.out.ext hE)).mono ?_
          rintro e w' ⟨rfl,rfl⟩
          rw[Hy.out]
          go_wp2_with (at_builtin;go_must (refine wpList_apd Value.bool one1 Try.n_el1 zs [true] (zs++[true]) (j+1) rfl (by rw[List.length_append,Hzl.out];rfl) (by omega) (by unfold maxLen;omega) rfl rfl rfl Hzl.out (hO.ext ((Upd.refl _ _).alloc _)) rfl rfl (Sl.new Value.bool _ _ [true]) (by have:=hE.size;simp;omega) ?_);intro Z2 c2 w3 hO3 hU3 hin3)
          go_roundw
          case rel=>exact⟨j+1,(cy+x+y) / 2,zs++[true],_,_,by omega,by go_num,(by congr 1;omega),by omega,rfl,by rw[List.length_append,Hzl.out];rfl,hO3,hs.out,(by first | omega | (have h1:=Hx.out;have h2:=Hy.out;rw[dig1_out (by rw[Hlx.out];omega)]at h1;rw[dig1_out (by rw[Hly.out];omega)]at h2;omega)),Upd.fresh hU3 (hE.alloc _) (fun i hi=>(hO.in_ hi).1)⟩
          case measure=>simp[intOf];omega
      · obtain rfl:cy=0:=by omega
        go_wp2_with fail
        refine(rtrim_any Z j cz zs _ Hzl.out (by have:=hO.cap.1;rw[List.length_map,Hzl.out]at this;exact this) hO.cap.2 hO.sl).mono ?_
        rintro e w4 ⟨A4,l4,c4,rfl,hV4,hU4⟩
        go_wp2
        go_ret
        exact⟨_,_,_,rfl,hV4.of_eq (by rw[radd_end Hzl.out Hv.out (by rw[Hlx.out];omega) (by rw[Hly.out];omega),Hna.out,Hnb.out]),hE.trans hU4⟩
end
/- The document's differences and order of rows of truths, walked: Sub, Cmp. -/
section
open Go.RowKit
open Nt
attribute [local go_sem] steady steadyUpon Cls same_cell
theorem rsub_next {xs ys zs:List Bool} {k c c':Nat} {b:Bool} (hz:zs.length=k) (h:vf 2 (dig d1 zs) k+vf 2 (dig d1 ys) k=vf 2 (dig d1 xs) k+c*2^k) (hs:d1 b+dig d1 ys k+c=dig d1 xs k+c'*2):
 vf 2 (dig d1 (zs++[b])) (k+1)+vf 2 (dig d1 ys) (k+1)=vf 2 (dig d1 xs) (k+1)+c'*2^(k+1):=by
 refine sub_step (w:=c) ?_ ?_
 · rw[vf_append_left (by omega)];exact h
 · rw[dig_append_right (by omega),hz,Nat.sub_self]
   exact hs
theorem rsub_end {xs ys zs:List Bool} {k c:Nat} (hz:zs.length=k) (h:vf 2 (dig d1 zs) k+vf 2 (dig d1 ys) k=vf 2 (dig d1 xs) k+c*2^k) (hx:xs.length=k) (hab:numOf 2 d1 ys≤numOf 2 d1 xs) (hyl:ys.length≤k):numOf 2 d1 zs=numOf 2 d1 xs - numOf 2 d1 ys:=by
 have hy:vf 2 (dig d1 ys) k=numOf 2 d1 ys:=vf_out rfl hyl
 have hx':vf 2 (dig d1 xs) k=numOf 2 d1 xs:=by unfold numOf;rw[hx]
 have hc:=sub_end h (fun i _=>d1_lt _) (by rw[hy,hx'];exact hab)
 rw[hc,Nat.zero_mul,Nat.add_zero,hy,hx']at h
 have:numOf 2 d1 zs=vf 2 (dig d1 zs) k:=by unfold numOf;rw[hz]
 omega
theorem len_le_of {xs ys:List Bool} (hT:Trd (dig d1 ys) ys.length) (h:numOf 2 d1 ys≤numOf 2 d1 xs):ys.length≤xs.length:=by
 rcases Nat.lt_or_ge xs.length ys.length with h1 | h1
 · have:=Trd.len_lt (β:=2) (f:=dig d1 xs) (g:=dig d1 ys) (by decide) (fun i _=>d1_lt _) hT h1
   unfold numOf at h
   omega
 · exact h1
set_option maxRecDepth 100000 in
set_option maxHeartbeats 1000000 in
theorem rsub_new (va vb:Value) (a b k:Nat) (w:World) (hVa:RefV w va a) (hVb:RefV w vb b) (hFa:blen a≤k) (hk:k≤10000000) (hab:b≤a):
 Calls Try.prog 40 #[va,vb] w (RetN1 w (a - b)):=by
 obtain⟨A,la,ca,xs,rfl,hlx,hca,hma,hSa,hTa,hna⟩:=hVa.open_
 obtain⟨B,lb,cb,ys,rfl,hly,hcb,hmb,hSb,hTb,hnb⟩:=hVb.open_
 have hla:la≤k:=by have:=bits_len (hlx▸hTa);rw[hna,hlx]at this;omega
 have hlb:lb≤la:=by
  have:=len_le_of (xs:=xs) (ys:=ys) (by rw[hly];exact hTb) (by rw[hna,hnb];exact hab)
  omega
 have HSa:=hide hSa
 have HSb:=hide hSb
 have Hna:=hide hna
 have Hnb:=hide hnb
 have Hlx:=hide hlx
 have Hly:=hide hly
 have Hab:=hide hab
 clear hVa hVb hTa hTb hSa hSb hna hnb hFa hlx hly hab
 go_enter Try.func40,Try.ntmps40
 go_wp2
 go_loopw [5,6,7] (fun o cr i wr=>∃(j cy:Nat) (zs:List Bool) (Z:Option Addr) (cz:Nat),j≤la∧i=.int .i64 j∧cr=.int .i64 (cy:Nat)∧cy≤1∧o=.slice Z j cz∧zs.length=j∧Own wr w.heap.size 4 Z cz (zs.map Value.bool)∧vf 2 (dig d1 zs) j+vf 2 (dig d1 ys) j=vf 2 (dig d1 xs) j+cy*2^j∧Ext w wr) (fun _ _ i _=>la - (intOf i).toNat)
 case atStart=>exact⟨0,0,[],_,_,Nat.zero_le _,rfl,rfl,Nat.zero_le _,rfl,rfl,⟨rfl,.inr ⟨w.heap.size,0,#[],rfl,Nat.le_refl _,heap_alloc_new w _,Nat.le_refl _,Nat.zero_le _,rfl,rfl⟩⟩,rfl,(Upd.refl _ _).alloc _⟩
 case round=>
  obtain⟨j,cy,zs,Z,cz,hj,rfl,rfl,hcy,rfl,hzl,hO,hv,hE⟩:=hrel
  have Hzl:=hide hzl
  have Hv:=hide hv
  clear hzl hv
  by_cases h1:j<la
  · obtain⟨x,hx⟩:∃x,dig d1 xs j=x:=⟨_,rfl⟩
    obtain⟨y,hy⟩:∃y,dig d1 ys j=y:=⟨_,rfl⟩
    have hx1:x≤1:=by rw[←hx];exact d1_le _
    have hy1:y≤1:=by rw[←hy];exact d1_le _
    have Hx:=hide hx
    have Hy:=hide hy
    clear hx hy
    have hcases:(x:Int) - (y:Int) - (cy:Int)= -2∨(x:Int) - (y:Int) - (cy:Int)= -1∨(x:Int) - (y:Int) - (cy:Int)=0∨(x:Int) - (y:Int) - (cy:Int)=1:=by omega
    rcases hcases with hd | hd | hd | hd
    · skip
      have hs:=hide (rsub_next (b:=false) (c':=1) Hzl.out Hv.out (by rw[Hx.out,Hy.out];simp only[d1_true,d1_false];omega))
      go_wp2_with fail
      refine(at_any A la ca xs j _ Hlx.out (by omega) (by omega) (HSa.out.ext hE)).mono ?_
      rintro e w' ⟨rfl,rfl⟩
      rw[Hx.out]
      go_wp2_with fail
      refine(at_any B lb cb ys j _ Hly.out (by omega) (by omega) (HSb.out.ext hE)).mono ?_
      rintro e w' ⟨rfl,rfl⟩
      rw[Hy.out]
      go_wp2_with (at_builtin;go_must (refine wpList_apd Value.bool one1 Try.n_el1 zs [false] (zs++[false]) (j+1) rfl (by rw[List.length_append,Hzl.out];rfl) (by omega) (by unfold maxLen;omega) rfl rfl rfl Hzl.out (hO.ext ((Upd.refl _ _).alloc _)) rfl rfl (Sl.new Value.bool _ _ [false]) (by have:=hE.size;simp;omega) ?_);intro Z2 c2 w3 hO3 hU3 hin3)
      go_roundw
      case rel=>exact⟨j+1,1,zs++[false],_,_,by omega,by go_num,rfl,by omega,rfl,by rw[List.length_append,Hzl.out];rfl,hO3,hs.out,Upd.fresh hU3 (hE.alloc _) (fun i hi=>(hO.in_ hi).1)⟩
      case measure=>simp[intOf];omega
    · skip
      have hs:=hide (rsub_next (b:=true) (c':=1) Hzl.out Hv.out (by rw[Hx.out,Hy.out];simp only[d1_true,d1_false];omega))
      go_wp2_with fail
      refine(at_any A la ca xs j _ Hlx.out (by omega) (by omega) (HSa.out.ext hE)).mono ?_
      rintro e w' ⟨rfl,rfl⟩
      rw[Hx.out]
      go_wp2_with fail
      refine(at_any B lb cb ys j _ Hly.out (by omega) (by omega) (HSb.out.ext hE)).mono ?_
      rintro e w' ⟨rfl,rfl⟩
      rw[Hy.out]
      go_wp2_with (at_builtin;go_must (refine wpList_apd Value.bool one1 Try.n_el1 zs [true] (zs++[true]) (j+1) rfl (by rw[List.length_append,Hzl.out];rfl) (by omega) (by unfold maxLen;omega) rfl rfl rfl Hzl.out (hO.ext ((Upd.refl _ _).alloc _)) rfl rfl (Sl.new Value.bool _ _ [true]) (by have:=hE.size;simp;omega) ?_);intro Z2 c2 w3 hO3 hU3 hin3)
      go_roundw
      case rel=>exact⟨j+1,1,zs++[true],_,_,by omega,by go_num,rfl,by omega,rfl,by rw[List.length_append,Hzl.out];rfl,hO3,hs.out,Upd.fresh hU3 (hE.alloc _) (fun i hi=>(hO.in_ hi).1)⟩
      case measure=>simp[intOf];omega
    · skip
      have hs:=hide (rsub_next (b:=false) (c':=0) Hzl.out Hv.out (by rw[Hx.out,Hy.out];simp only[d1_true,d1_false];omega))
      go_wp2_with fail
      refine(at_any A la ca xs j _ Hlx.out (by omega) (by omega) (HSa.out.ext hE)).mono ?_
      rintro e w' ⟨rfl,rfl⟩
      rw[Hx.out]
      go_wp2_with fail
      refine(at_any B lb cb ys j _ Hly.out (by omega) (by omega) (HSb.out.ext hE)).mono ?_
      rintro e w' ⟨rfl,rfl⟩
      rw[Hy.out]
      go_wp2_with (at_builtin;go_must (refine wpList_apd Value.bool one1 Try.n_el1 zs [false] (zs++[false]) (j+1) rfl (by rw[List.length_append,Hzl.out];rfl) (by omega) (by unfold maxLen;omega) rfl rfl rfl Hzl.out (hO.ext ((Upd.refl _ _).alloc _)) rfl rfl (Sl.new Value.bool _ _ [false]) (by have:=hE.size;simp;omega) ?_);intro Z2 c2 w3 hO3 hU3 hin3)
      go_roundw
      case rel=>exact⟨j+1,0,zs++[false],_,_,by omega,by go_num,rfl,by omega,rfl,by rw[List.length_append,Hzl.out];rfl,hO3,hs.out,Upd.fresh hU3 (hE.alloc _) (fun i hi=>(hO.in_ hi).1)⟩
      case measure=>simp[intOf];omega
    · skip
      have hs:=hide (rsub_next (b:=true) (c':=0) Hzl.out Hv.out (by rw[Hx.out,Hy.out];simp only[d1_true,d1_false];omega))
      go_wp2_with fail
      refine(at_any A la ca xs j _ Hlx.out (by omega) (by omega) (HSa.out.ext hE)).mono ?_
      rintro e w' ⟨rfl,rfl⟩
      rw[Hx.out]
      go_wp2_with fail
      refine(at_any B lb cb ys j _ Hly.out (by omega) (by omega) (HSb.out.ext hE)).mono ?_
      rintro e w' ⟨rfl,rfl⟩
      rw[Hy.out]
      go_wp2_with (at_builtin;go_must (refine wpList_apd Value.bool one1 Try.n_el1 zs [true] (zs++[true]) (j+1) rfl (by rw[List.length_append,Hzl.out];rfl) (by omega) (by unfold maxLen;omega) rfl rfl rfl Hzl.out (hO.ext ((Upd.refl _ _).alloc _)) rfl rfl (Sl.new Value.bool _ _ [true]) (by have:=hE.size;simp;omega) ?_);intro Z2 c2 w3 hO3 hU3 hin3)
      go_roundw
      case rel=>exact⟨j+1,0,zs++[true],_,_,by omega,by go_num,rfl,by omega,rfl,by rw[List.length_append,Hzl.out];rfl,hO3,hs.out,Upd.fresh hU3 (hE.alloc _) (fun i hi=>(hO.in_ hi).1)⟩
      case measure=>simp[intOf];omega
  · obtain rfl:j=la:=by omega
    go_wp2_with fail
    refine(rtrim_at Z j cz zs _ Hzl.out (by have:=hO.cap.1;rw[List.length_map,Hzl.out]at this;exact this) hO.cap.2 hO.sl).mono ?_
    rintro e w4 ⟨l4,rfl,hV4,hU4⟩
    go_wp2
    go_ret
    exact⟨_,_,_,rfl,hV4.of_eq (by rw[rsub_end Hzl.out Hv.out Hlx.out (by rw[Hna.out,Hnb.out];exact Hab.out) (by rw[Hly.out];exact hlb),Hna.out,Hnb.out]),hE.trans hU4,fun k hk=>(hO.in_ hk).1⟩
theorem rsub_any (va vb:Value) (a b k:Nat) (w:World) (hVa:RefV w va a) (hVb:RefV w vb b) (hFa:blen a≤k) (hk:k≤10000000) (hab:b≤a):
 Calls Try.prog 40 #[va,vb] w (RetR w (a - b)):=
 (rsub_new va vb a b k w hVa hVb hFa hk hab).mono fun _ _ ⟨A,l,c,h1,h2,h3,_⟩=>⟨A,l,c,h1,h2,h3⟩
theorem rcmp_same {xs ys:List Bool} {l:Nat} (hx:xs.length=l) (hy:ys.length=l) (h:∀i,i<l→gat ys i=gat xs i):cmpI (numOf 2 d1 xs) (numOf 2 d1 ys)=0:=by
 have:numOf 2 d1 xs=numOf 2 d1 ys:=by
  unfold numOf;rw[hx,hy];exact vf_congr fun i hi=>by unfold dig;rw[h i hi]
 unfold cmpI;rw[this,if_neg (Nat.lt_irrefl _),if_pos rfl]
theorem rcmp_less {xs ys:List Bool} {l j:Nat} (hx:xs.length=l) (hy:ys.length=l) (hj:j<l) (h:∀i,j+1≤i→i<l→gat ys i=gat xs i) (h1:gat xs j=false) (h2:gat ys j=true):cmpI (numOf 2 d1 xs) (numOf 2 d1 ys)= -1:=by
 have:numOf 2 d1 xs<numOf 2 d1 ys:=by
  unfold numOf;rw[hx,hy]
  exact vf_lt_of_digit hj (fun i _=>d1_lt _) (fun i a b=>by unfold dig;rw[h i a b]) (by unfold dig;rw[h1,h2];decide)
 unfold cmpI;rw[if_pos this]
theorem rcmp_more {xs ys:List Bool} {l j:Nat} (hx:xs.length=l) (hy:ys.length=l) (hj:j<l) (h:∀i,j+1≤i→i<l→gat ys i=gat xs i) (h1:gat xs j=true) (h2:gat ys j=false):cmpI (numOf 2 d1 xs) (numOf 2 d1 ys)=1:=by
 have:numOf 2 d1 ys<numOf 2 d1 xs:=by
  unfold numOf;rw[hx,hy]
  exact vf_lt_of_digit hj (fun i _=>d1_lt _) (fun i a b=>by unfold dig;rw[h i a b]) (by unfold dig;rw[h1,h2];decide)
 unfold cmpI;rw[if_neg (by omega),if_neg (by omega)]
set_option maxRecDepth 100000 in
set_option maxHeartbeats 1000000 in
theorem rcmp_any (va vb:Value) (a b k:Nat) (w:World) (hVa:RefV w va a) (hVb:RefV w vb b) (hFa:blen a≤k) (hFb:blen b≤k) (hk:k≤10000000):
 Calls Try.prog 41 #[va,vb] w fun e w'=>e=.returned (.int .i64 (cmpI a b))∧Ext w w':=by
 obtain⟨A,la,ca,xs,rfl,hlx,hca,hma,hSa,hTa,hna⟩:=hVa.open_
 obtain⟨B,lb,cb,ys,rfl,hly,hcb,hmb,hSb,hTb,hnb⟩:=hVb.open_
 have hla:la≤k:=by have:=bits_len (hlx▸hTa);rw[hna,hlx]at this;omega
 have hlb:lb≤k:=by have:=bits_len (hly▸hTb);rw[hnb,hly]at this;omega
 rcases Nat.lt_trichotomy la lb with hl | hl | hl
 · have hc:cmpI a b= -1:=by
    have:=Trd.len_lt (β:=2) (f:=dig d1 xs) (g:=dig d1 ys) (by decide) (fun i _=>d1_lt _) hTb (n:=la) hl
    rw[←hna,←hnb]
    unfold cmpI numOf
    rw[hlx,hly,if_pos this]
   rw[hc]
   clear hVa hVb hTa hTb hSa hSb hna hnb hFa hlx hly
   go_enter Try.func41,Try.ntmps41
   go_wp2
   go_ret
   exact⟨rfl,Upd.refl _ _⟩
 · subst hl
   have HSa:=hide hSa
   have HSb:=hide hSb
   have Hlx:=hide hlx
   have Hly:=hide hly
   have Hna:=hide hna
   have Hnb:=hide hnb
   clear hVa hVb hTa hTb hSa hSb hna hnb hFa hlx hly
   go_enter Try.func41,Try.ntmps41
   go_wp2
   go_loopw [5] (fun c wr=>∃(j:Nat) (cc:Int),j≤la∧cc=(j:Int) - 1∧c=.int .i64 cc∧(∀i,j≤i→i<la→gat ys i=gat xs i)∧Sl Value.bool wr A xs∧Sl Value.bool wr B ys∧Ext w wr) (fun c _=>(intOf c+1).toNat)
   case atStart=>exact⟨la,_,Nat.le_refl _,(by omega),rfl,fun i h1 h2=>by omega,HSa.out,HSb.out,Upd.refl _ _⟩
   case round=>
    obtain⟨j,cc,hj,hcc,rfl,hsame,hSa,hSb,hE⟩:=hrel
    have Hs:=hide hsame
    clear HSa HSb
    have HSa:=hide hSa
    have HSb:=hide hSb
    clear hsame hSa hSb
    rcases j with _ | j
    · obtain rfl:cc= -1:=by omega
      clear hcc
      go_wp2_with fail
      go_ret
      exact⟨by rw[←Hna.out,←Hnb.out,rcmp_same Hlx.out Hly.out (fun i hi=>Hs.out i (Nat.zero_le _) hi)];rfl,hE⟩
    · obtain rfl:cc=(j:Int):=by omega
      clear hcc
      have hj0:(0:Int)≤(j:Int):=by omega
      have hjl:(j:Int)<(la:Int):=by omega
      cases hx0:gat xs j<;>cases hy0:gat ys j
      · have hnext:∀i,j≤i→i<la→gat ys i=gat xs i:=fun i h1 h2=>by
          rcases Nat.eq_or_lt_of_le h1 with h | h
          · subst h;rw[hx0,hy0]
          · exact Hs.out i h h2
        have Hn:=hide hnext
        clear hnext
        obtain⟨b1,o1,rfl,hbl1,hcells1⟩:=HSa.out.open_ (by rw[Hlx.out];omega)
        obtain⟨b2,o2,rfl,hbl2,hcells2⟩:=HSb.out.open_ (by rw[Hly.out];omega)
        have hx:=hcells1 j (by rw[Hlx.out];omega)
        have hy:=hcells2 j (by rw[Hly.out];omega)
        rw[hx0]at hx
        rw[hy0]at hy
        have c1:=fun x:Wd (Same wr.drew)=>(same_cell x ⟨b1,o1+j,none⟩).trans hx
        have c2:=fun x:Wd (Same wr.drew)=>(same_cell x ⟨b2,o2+j,none⟩).trans hy
        have Hx:=hide hx0
        have Hy:=hide hy0
        clear hcells1 hcells2 hx0 hy0
        go_wp2_with fail
        refine wp_region_plan (Same _) 8 [(false,0),(false,1),(false,2),(false,3),(false,4),(false,5),(false,6),(false,7)] (by kernel_rfl) (by kernel_rfl) rfl (fun hne=>?_)
        repeat (refine head_q rfl (fun K hK=>?_);have hK2:=hide hK;clear hK;go_simp;refine hK2.out _ ?_;clear hK2 K)
        refine head_nil ?_
        try simp only[List.drop_succ_cons,List.drop_zero]
        go_wp2_with fail
        go_roundw
        case rel=>exact⟨j,_,by omega,rfl,rfl,Hn.out,HSa.out,HSb.out,hE.drew⟩
        case measure=>simp[intOf]
      · have hr:=rcmp_less Hlx.out Hly.out (by omega) Hs.out hx0 hy0
        rw[Hna.out,Hnb.out]at hr
        have Hr:=hide hr
        clear hr
        obtain⟨b1,o1,rfl,hbl1,hcells1⟩:=HSa.out.open_ (by rw[Hlx.out];omega)
        obtain⟨b2,o2,rfl,hbl2,hcells2⟩:=HSb.out.open_ (by rw[Hly.out];omega)
        have hx:=hcells1 j (by rw[Hlx.out];omega)
        have hy:=hcells2 j (by rw[Hly.out];omega)
        rw[hx0]at hx
        rw[hy0]at hy
        have c1:=fun x:Wd (Same wr.drew)=>(same_cell x ⟨b1,o1+j,none⟩).trans hx
        have c2:=fun x:Wd (Same wr.drew)=>(same_cell x ⟨b2,o2+j,none⟩).trans hy
        have Hx:=hide hx0
        have Hy:=hide hy0
        clear hcells1 hcells2 hx0 hy0
        go_wp2_with fail
        refine wp_region_plan (Same _) 8 [(false,0),(false,1),(false,2),(false,3),(false,4),(false,5),(false,6),(false,7)] (by kernel_rfl) (by kernel_rfl) rfl (fun hne=>?_)
        repeat (refine head_q rfl (fun K hK=>?_);have hK2:=hide hK;clear hK;go_simp;refine hK2.out _ ?_;clear hK2 K)
        refine head_nil ?_
        try simp only[List.drop_succ_cons,List.drop_zero]
        go_wp2_with fail
        go_ret
        exact⟨by rw[Hr.out];rfl,hE.drew⟩
      · have hr:=rcmp_more Hlx.out Hly.out (by omega) Hs.out hx0 hy0
        rw[Hna.out,Hnb.out]at hr
        have Hr:=hide hr
        clear hr
        obtain⟨b1,o1,rfl,hbl1,hcells1⟩:=HSa.out.open_ (by rw[Hlx.out];omega)
        obtain⟨b2,o2,rfl,hbl2,hcells2⟩:=HSb.out.open_ (by rw[Hly.out];omega)
        have hx:=hcells1 j (by rw[Hlx.out];omega)
        have hy:=hcells2 j (by rw[Hly.out];omega)
        rw[hx0]at hx
        rw[hy0]at hy
        have c1:=fun x:Wd (Same wr.drew)=>(same_cell x ⟨b1,o1+j,none⟩).trans hx
        have c2:=fun x:Wd (Same wr.drew)=>(same_cell x ⟨b2,o2+j,none⟩).trans hy
        have Hx:=hide hx0
        have Hy:=hide hy0
        clear hcells1 hcells2 hx0 hy0
        go_wp2_with fail
        refine wp_region_plan (Same _) 8 [(false,0),(false,1),(false,2),(false,3),(false,4),(false,5),(false,6),(false,7)] (by kernel_rfl) (by kernel_rfl) rfl (fun hne=>?_)
        repeat (refine head_q rfl (fun K hK=>?_);have hK2:=hide hK;clear hK;go_simp;refine hK2.out _ ?_;clear hK2 K)
        refine head_nil ?_
        try simp only[List.drop_succ_cons,List.drop_zero]
        go_wp2_with fail
        go_ret
        exact⟨by rw[Hr.out];rfl,hE.drew⟩
      · have hnext:∀i,j≤i→i<la→gat ys i=gat xs i:=fun i h1 h2=>by
          rcases Nat.eq_or_lt_of_le h1 with h | h
          · subst h;rw[hx0,hy0]
          · exact Hs.out i h h2
        have Hn:=hide hnext
        clear hnext
        obtain⟨b1,o1,rfl,hbl1,hcells1⟩:=HSa.out.open_ (by rw[Hlx.out];omega)
        obtain⟨b2,o2,rfl,hbl2,hcells2⟩:=HSb.out.open_ (by rw[Hly.out];omega)
        have hx:=hcells1 j (by rw[Hlx.out];omega)
        have hy:=hcells2 j (by rw[Hly.out];omega)
        rw[hx0]at hx
        rw[hy0]at hy
        have c1:=fun x:Wd (Same wr.drew)=>(same_cell x ⟨b1,o1+j,none⟩).trans hx
        have c2:=fun x:Wd (Same wr.drew)=>(same_cell x ⟨b2,o2+j,none⟩).trans hy
        have Hx:=hide hx0
        have Hy:=hide hy0
        clear hcells1 hcells2 hx0 hy0
        go_wp2_with fail
        refine wp_region_plan (Same _) 8 [(false,0),(false,1),(false,2),(false,3),(false,4),(false,5),(false,6),(false,7)] (by kernel_rfl) (by kernel_rfl) rfl (fun hne=>?_)
        repeat (refine head_q rfl (fun K hK=>?_);have hK2:=hide hK;clear hK;go_simp;refine hK2.out _ ?_;clear hK2 K)
        refine head_nil ?_
        try simp only[List.drop_succ_cons,List.drop_zero]
        go_wp2_with fail
        go_roundw
        case rel=>exact⟨j,_,by omega,rfl,rfl,Hn.out,HSa.out,HSb.out,hE.drew⟩
        case measure=>simp[intOf]
 · have hc:cmpI a b=1:=by
    have:=Trd.len_lt (β:=2) (f:=dig d1 ys) (g:=dig d1 xs) (by decide) (fun i _=>d1_lt _) hTa (n:=lb) hl
    rw[←hna,←hnb]
    unfold cmpI numOf
    rw[hlx,hly,if_neg (by omega),if_neg (by omega)]
   rw[hc]
   have hnl:¬la<lb:=by omega
   clear hVa hVb hTa hTb hSa hSb hna hnb hFa hlx hly
   go_enter Try.func41,Try.ntmps41
   go_wp2
   go_ret
   exact⟨rfl,Upd.refl _ _⟩
end
/- The document's numbers out of bytes and small numbers, and back, walked: Of, Small, Bytes, Get. -/
section
open Go.RowKit
open Nt
attribute [local go_sem] steady steadyUpon Cls same_cell by8 wrap_w8
theorem par_nat {v:Nat} {r:Nat} (h:v % 2=r):(v:Int) % 2=(r:Int):=by omega
theorem small_bd {v j N:Nat} (h:v*2^j≤N) (hN:N<18446744073709551616) (hv:0<v):j<64:=by
 have h1:2^j≤v*2^j:=Nat.le_mul_of_pos_left _ hv
 have h2:2^j<2^64:=by omega
 exact(Nat.pow_lt_pow_iff_right (by omega)).1 h2
theorem rsmall_next {zs:List Bool} {v j N:Nat} {b:Bool} (hz:zs.length=j) (h:v*2^j+vf 2 (dig d1 zs) j=N) (hb:d1 b=v % 2):v / 2*2^(j+1)+vf 2 (dig d1 (zs++[b])) (j+1)=N:=by
 rw[vf_succ,vf_append_left (by omega),dig_append_right (by omega),hz,Nat.sub_self,←h]
 show _+(_+d1 b*2^j)=_
 rw[hb,Nat.pow_succ]
 have e:=congrArg (·*2^j) (Nat.div_add_mod v 2)
 simp only[Nat.add_mul]at e
 have e2:v / 2*(2^j*2)=2*(v / 2)*2^j:=by ac_rfl
 omega
set_option maxRecDepth 100000 in
set_option maxHeartbeats 1000000 in
theorem rsmall_any (N:Nat) (w:World) (hN:N<18446744073709551616):
 Calls Try.prog 7 #[.int .u64 N] w (RetR w N):=by
 have HN:=hide hN
 clear hN
 go_enter Try.func7,Try.ntmps7
 go_wp2
 go_loopw [0,3] (fun u o wr=>∃(j v:Nat) (zs:List Bool) (Z:Option Addr) (cz:Nat),j≤64∧u=.int .u64 (v:Nat)∧o=.slice Z j cz∧zs.length=j∧Own wr w.heap.size 4 Z cz (zs.map Value.bool)∧v*2^j+vf 2 (dig d1 zs) j=N∧(v=0→j=0∨dig d1 zs (j - 1)≠0)∧Ext w wr) (fun u _ _=>(intOf u).toNat)
 case atStart=>exact⟨0,N,[],_,_,Nat.zero_le _,rfl,rfl,rfl,⟨rfl,.inr ⟨w.heap.size,0,#[],rfl,Nat.le_refl _,heap_alloc_new w _,Nat.le_refl _,Nat.zero_le _,rfl,rfl⟩⟩,by rw[Nat.pow_zero,Nat.mul_one];rfl,fun _=>.inl rfl,(Upd.refl _ _).alloc _⟩
 case round=>
  obtain⟨j,v,zs,Z,cz,hj,rfl,rfl,hzl,hO,hv,ht,hE⟩:=hrel
  have hvb:v≤18446744073709551615:=by
   have h1:v*1≤v*2^j:=Nat.mul_le_mul_left _ (Nat.pow_pos (by omega))
   have:=HN.out
   omega
  have hj64:0<v→j<64:=fun h=>small_bd (N:=N) (by omega) HN.out h
  have Hzl:=hide hzl
  have Hv:=hide hv
  have Ht:=hide ht
  clear hzl hv ht
  by_cases h0:0<v
  · have hj':=hj64 h0
    clear hj64
    have hvi:(0:Int)<(v:Int):=by omega
    have hvi2:(v:Int)≤18446744073709551615:=by omega
    clear hvb
    rcases Nat.mod_two_eq_zero_or_one v with hp | hp
    · skip
      have hs:=hide (rsmall_next (b:=false) Hzl.out Hv.out (by rw[hp];rfl))
      have hpi:=par_nat hp
      clear hp
      go_wp2_with (at_builtin;go_must (refine wpList_apd Value.bool one1 Try.n_el1 zs [false] (zs++[false]) (j+1) rfl (by rw[List.length_append,Hzl.out];rfl) (by omega) (by unfold maxLen;omega) rfl rfl rfl Hzl.out (hO.ext ((Upd.refl _ _).alloc _)) rfl rfl (Sl.new Value.bool _ _ [false]) (by have:=hE.size;simp;omega) ?_);intro Z2 c2 w3 hO3 hU3 hin3)
      go_roundw
      case rel=>exact⟨j+1,v / 2,zs++[false],_,_,by omega,(by congr 1),rfl,by rw[List.length_append,Hzl.out];rfl,hO3,hs.out,(fun h0=>by
        have h1:v=1:=by omega
        subst h1
        right
        rw[Nat.add_sub_cancel,dig_append_right (by rw[Hzl.out];exact Nat.le_refl _),Hzl.out,Nat.sub_self]
        first | (exact absurd hpi (by decide)) | decide),Upd.fresh hU3 (hE.alloc _) (fun i hi=>(hO.in_ hi).1)⟩
      case measure=>simp[intOf];omega
    · skip
      have hs:=hide (rsmall_next (b:=true) Hzl.out Hv.out (by rw[hp];rfl))
      have hpi:=par_nat hp
      clear hp
      go_wp2_with (at_builtin;go_must (refine wpList_apd Value.bool one1 Try.n_el1 zs [true] (zs++[true]) (j+1) rfl (by rw[List.length_append,Hzl.out];rfl) (by omega) (by unfold maxLen;omega) rfl rfl rfl Hzl.out (hO.ext ((Upd.refl _ _).alloc _)) rfl rfl (Sl.new Value.bool _ _ [true]) (by have:=hE.size;simp;omega) ?_);intro Z2 c2 w3 hO3 hU3 hin3)
      go_roundw
      case rel=>exact⟨j+1,v / 2,zs++[true],_,_,by omega,(by congr 1),rfl,by rw[List.length_append,Hzl.out];rfl,hO3,hs.out,(fun h0=>by
        have h1:v=1:=by omega
        subst h1
        right
        rw[Nat.add_sub_cancel,dig_append_right (by rw[Hzl.out];exact Nat.le_refl _),Hzl.out,Nat.sub_self]
        first | (exact absurd hpi (by decide)) | decide),Upd.fresh hU3 (hE.alloc _) (fun i hi=>(hO.in_ hi).1)⟩
      case measure=>simp[intOf];omega
  · obtain rfl:v=0:=by omega
    have Ht2:=hide (Ht.out rfl)
    clear hj64 hvb Ht
    go_wp2_with fail
    go_ret
    refine⟨_,_,_,rfl,NumS.cut hO.sl (by rw[Hzl.out];exact Nat.le_refl _) (by have:=hO.cap.1;rw[List.length_map,Hzl.out]at this;exact this) hO.cap.2 (by have:=Hv.out;rwa [Nat.zero_mul,Nat.zero_add]at this) Ht2.out,hE⟩
theorem rof_bit {zs:List Bool} {x:BitVec 8} {q m V:Nat} {b:Bool} (hz:zs.length=8*q+m) (h:vf 2 (dig d1 zs) (8*q+m)=V+d8 x % 2^m*2^(8*q)) (hb:d1 b=d8 x / 2^m % 2):
 vf 2 (dig d1 (zs++[b])) (8*q+m+1)=V+d8 x % 2^(m+1)*2^(8*q):=by
 rw[vf_succ,vf_append_left (by omega),dig_append_right (by omega),hz,Nat.sub_self,h]
 show _+d1 b*2^(8*q+m)=_
 rw[hb,bits_step (d:=d8 x) (k:=m),Nat.add_mul,Nat.pow_add]
 have e:d8 x / 2^m % 2*(2^(8*q)*2^m)=d8 x / 2^m % 2*2^m*2^(8*q):=by ac_rfl
 omega
theorem rof_byte {zs:List Bool} {bs:List (BitVec 8)} {n q:Nat} (hn:bs.length=n) (hq:q<n) (h:vf 2 (dig d1 zs) (8*q+8)=vf 256 (bdig bs) q+d8 (gat bs (n - 1 - q)) % 2^8*2^(8*q)):vf 2 (dig d1 zs) (8*(q+1))=vf 256 (bdig bs) (q+1):=by
 rw[show 8*(q+1)=8*q+8 by omega,h,vf_succ,pow256,Nat.mod_eq_of_lt (d8_lt _)]
 unfold bdig dig
 rw[hn]
theorem bit_int {x:BitVec 8} {m r:Nat} (h:d8 x / 2^m % 2=r):(n8 x / 2^m).tmod 2=(r:Int):=by
 rw[n8_d,show((d8 x:Nat):Int) / 2^m=((d8 x / 2^m:Nat):Int) by simp,Int.tmod_eq_emod_of_nonneg (Int.natCast_nonneg _)]
 omega
set_option maxRecDepth 100000 in
set_option maxHeartbeats 1000000 in
theorem rof_any (A:Option Addr) (n c:Nat) (bs:List (BitVec 8)) (w:World) (hn:bs.length=n) (hl:n≤1000000) (hS:Sl by8 w A bs):
 Calls Try.prog 45 #[.slice A n c] w (RetR w (ofB bs)):=by
 have Hn:=hide hn
 have HS:=hide hS
 clear hn hS
 go_enter Try.func45,Try.ntmps45
 go_wp2
 go_loopw [4,3] (fun i o wr=>∃(j q l:Nat) (cc:Int) (zs:List Bool) (Z:Option Addr) (cz:Nat),j+q=n∧cc=(j:Int) - 1∧i=.int .i64 cc∧l=8*q∧o=.slice Z l cz∧zs.length=l∧Own wr w.heap.size 4 Z cz (zs.map Value.bool)∧vf 2 (dig d1 zs) (8*q)=vf 256 (bdig bs) q∧Ext w wr) (fun i _ _=>(intOf i+1).toNat)
 case atStart=>exact⟨n,0,0,_,[],_,_,by omega,by omega,rfl,rfl,rfl,rfl,⟨rfl,.inr ⟨w.heap.size,0,#[],rfl,Nat.le_refl _,heap_alloc_new w _,Nat.le_refl _,Nat.zero_le _,rfl,rfl⟩⟩,rfl,(Upd.refl _ _).alloc _⟩
 case round=>
  obtain⟨j,q,l,cc,zs,Z,cz,hj,hcc,rfl,hlq,rfl,hzl,hO,hv,hE⟩:=hrel
  subst hlq
  have Hzl:=hide hzl
  have Hv:=hide hv
  clear hzl hv
  rcases j with _ | j
  · obtain rfl:cc= -1:=by omega
    obtain rfl:q=n:=by omega
    clear hcc
    go_wp2_with fail
    refine(rtrim_any Z (8*q) cz zs _ Hzl.out (by have:=hO.cap.1;rw[List.length_map,Hzl.out]at this;exact this) hO.cap.2 hO.sl).mono ?_
    rintro e w4 ⟨A4,l4,c4,rfl,hV4,hU4⟩
    go_wp2
    go_ret
    exact⟨_,_,_,rfl,hV4.of_eq (by unfold numOf ofB;rw[Hzl.out,Hv.out,Hn.out]),hE.trans hU4⟩
  · obtain rfl:cc=(j:Int):=by omega
    clear hcc
    have hj0:(0:Int)≤(j:Int):=by omega
    obtain⟨V,hV⟩:∃V,V=vf 256 (bdig bs) q:=⟨_,rfl⟩
    have hHV:=hide hV
    have hv0:=Hv.out
    rw[←hV]at hv0
    have Hv0:=hide hv0
    clear hV hv0 Hv
    obtain⟨x,hx⟩:∃x,gat bs j=x:=⟨_,rfl⟩
    have Hx:=hide hx
    clear hx
    go_wp2_with fail
    go_loopw [5,3] (fun i o wr=>∃(m l:Nat) (zs:List Bool) (Z:Option Addr) (cz:Nat),m≤8∧i=.int .i64 (m:Nat)∧l=8*q+m∧o=.slice Z l cz∧zs.length=8*q+m∧Own wr w.heap.size 4 Z cz (zs.map Value.bool)∧vf 2 (dig d1 zs) (8*q+m)=V+d8 x % 2^m*2^(8*q)∧Ext w wr) (fun i _ _=>8 - (intOf i).toNat)
    case atStart=>exact⟨0,_,zs,Z,cz,by omega,rfl,rfl,rfl,Hzl.out,hO,by rw[Nat.pow_zero,Nat.mod_one,Nat.zero_mul];exact Hv0.out,hE⟩
    case round=>
     clear hO hE Hzl Hv0
     obtain⟨m,l,zs,Z,cz,hm,rfl,hlm,rfl,hzl,hO,hv,hE⟩:=hrel
     subst hlm
     have Hzl:=hide hzl
     have Hv:=hide hv
     clear hzl hv
     by_cases hm8:m<8
     · obtain⟨b1,o1,rfl,hbl1,hcells⟩:=(HS.out.ext hE).open_ (by rw[Hn.out];omega)
       have hcell:=hcells j (by rw[Hn.out];omega)
       rw[Hx.out]at hcell
       obtain⟨hx1,hx2⟩:=n8_bd x
       clear hcells
       rcases Nat.mod_two_eq_zero_or_one (d8 x / 2^m)with hp | hp
       · skip
         have hs:=hide (rof_bit (b:=false) Hzl.out Hv.out (by rw[hp];rfl))
         have hpi:=bit_int hp
         clear hp
         go_wp2_with (at_builtin;go_must (refine wpList_apd Value.bool one1 Try.n_el1 zs [false] (zs++[false]) (8*q+m+1) rfl (by rw[List.length_append,Hzl.out];rfl) (by omega) (by unfold maxLen;omega) rfl rfl rfl Hzl.out (hO.ext ((Upd.refl _ _).alloc _)) rfl rfl (Sl.new Value.bool _ _ [false]) (by have:=hE.size;simp;omega) ?_);intro Z2 c2 w3 hO3 hU3 hin3)
         go_roundw
         case rel=>exact⟨m+1,_,zs++[false],_,_,by omega,by go_num,rfl,rfl,by rw[List.length_append,Hzl.out];rfl,hO3,hs.out,Upd.fresh hU3 (hE.alloc _) (fun i hi=>(hO.in_ hi).1)⟩
         case measure=>simp[intOf];omega
       · skip
         have hs:=hide (rof_bit (b:=true) Hzl.out Hv.out (by rw[hp];rfl))
         have hpi:=bit_int hp
         clear hp
         go_wp2_with (at_builtin;go_must (refine wpList_apd Value.bool one1 Try.n_el1 zs [true] (zs++[true]) (8*q+m+1) rfl (by rw[List.length_append,Hzl.out];rfl) (by omega) (by unfold maxLen;omega) rfl rfl rfl Hzl.out (hO.ext ((Upd.refl _ _).alloc _)) rfl rfl (Sl.new Value.bool _ _ [true]) (by have:=hE.size;simp;omega) ?_);intro Z2 c2 w3 hO3 hU3 hin3)
         go_roundw
         case rel=>exact⟨m+1,_,zs++[true],_,_,by omega,by go_num,rfl,rfl,by rw[List.length_append,Hzl.out];rfl,hO3,hs.out,Upd.fresh hU3 (hE.alloc _) (fun i hi=>(hO.in_ hi).1)⟩
         case measure=>simp[intOf];omega
     · obtain rfl:m=8:=by omega
       have hfin:=rof_byte (zs:=zs) (bs:=bs) Hn.out (show q<n by omega) (by rw[Hv.out,hHV.out,←Hx.out,show n - 1 - q=j by omega])
       have Hfin:=hide hfin
       clear hfin
       go_wp2_with fail
       go_roundw
       case rel=>exact⟨j,q+1,_,_,zs,_,_,by omega,rfl,rfl,rfl,rfl,Hzl.out,hO,Hfin.out,hE⟩
       case measure=>simp[intOf]
theorem ofB_inj {bs cs:List (BitVec 8)} (hl:bs.length=cs.length) (h:ofB bs=ofB cs):bs=cs:=by
 have hd:∀i,i<bs.length→bdig bs i=bdig cs i:=fun i hi=>vf_inj (β:=256) (f:=bdig bs) (g:=bdig cs) (by decide) (n:=bs.length) (fun i _=>d8_lt _) (fun i _=>d8_lt _) (by unfold ofB at h;rw[h,hl]) hi
 apply List.ext_getElem hl
 intro i h1 h2
 have:=hd (bs.length - 1 - i) (by omega)
 unfold bdig dig at this
 rw[←hl,show bs.length - 1 - (bs.length - 1 - i)=i by omega,gat_lt h1,gat_lt h2]at this
 exact BitVec.eq_of_toNat_eq this
theorem rbytes_step {zs:List (BitVec 8)} {xs:List Bool} {size i:Nat} (hz:zs.length=size) (hi:i / 8<size) (h:ofB zs=vf 2 (dig d1 xs) i) (hx:dig d1 xs i=1):
 ofB (zs.set (size - 1 - i / 8) (w8 (n8 (gat zs (size - 1 - i / 8))+n8 (w8 (2^(i % 8))))))=vf 2 (dig d1 xs) (i+1):=by
 unfold ofB at h ⊢
 rw[List.length_set,hz]
 rw[hz]at h
 have hp:=part_digit (β:=256) (γ:=2) (m:=8) (N:=size) (i:=i) (l:=bdig zs) (by decide) (by decide) (by decide) (fun j _=>d8_lt _) h (vf_lt fun i _=>d1_lt _) hi
 have hb:bdig zs (i / 8)=d8 (gat zs (size - 1 - i / 8)):=by unfold bdig dig;rw[hz]
 have h8:2^(i % 8)≤2^7:=Nat.pow_le_pow_right (by omega) (by omega)
 have h28:(2:Nat)^7=128:=rfl
 have hc:vf 256 (bdig (zs.set (size - 1 - i / 8) (w8 (n8 (gat zs (size - 1 - i / 8))+n8 (w8 (2^(i % 8))))))) size=vf 256 (fun j=>if j=i / 8 then bdig zs j+1*2^(i % 8) else bdig zs j) size:=vf_congr fun j hj=>by
   have hd:bdig (zs.set (size - 1 - i / 8) (w8 (n8 (gat zs (size - 1 - i / 8))+n8 (w8 (2^(i % 8)))))) j=if size - 1 - j=size - 1 - i / 8 then d8 (w8 (n8 (gat zs (size - 1 - i / 8))+n8 (w8 (2^(i % 8))))) else dig d8 zs (size - 1 - j):=by
     unfold bdig
     rw[List.length_set,hz,dig_set (by omega)]
   rw[hd]
   by_cases e:j=i / 8
   · subst e
     rw[if_pos rfl,if_pos rfl]
     have e1:n8 (w8 ((2:Int)^(i % 8)))=((2^(i % 8):Nat):Int):=by
      rw[show(2:Int)^(i % 8)=((2^(i % 8):Nat):Int) by simp,n8_d,d8_w8,Nat.mod_eq_of_lt (by omega)]
     have hlt:d8 (gat zs (size - 1 - i / 8))+2^(i % 8)<256:=by
      rw[hb]at hp
      have h9:i % 8+1≤8:=by omega
      have h10:2^(i % 8+1)≤2^8:=Nat.pow_le_pow_right (by omega) h9
      rw[Nat.pow_succ]at h10
      omega
     rw[e1,n8_d,show(((d8 (gat zs (size - 1 - i / 8)):Nat):Int)+((2^(i % 8):Nat):Int))=((d8 (gat zs (size - 1 - i / 8))+2^(i % 8):Nat):Int) by omega,d8_w8,Nat.mod_eq_of_lt hlt,Nat.one_mul,hb]
   · rw[if_neg e,if_neg (by omega)]
     unfold bdig
     rw[hz]
 rw[hc]
 exact part_step (γ:=2) (m:=8) (l:=bdig zs) (f:=dig d1 xs) (d:=1) (by decide) h hi hx rfl
theorem toB_of {zs:List (BitVec 8)} {n size:Nat} (hz:zs.length=size) (h:ofB zs=n):zs=toB n size:=by
 refine ofB_inj (by rw[hz,toB_length]) ?_
 rw[ofB_toB n size (by rw[←h,←hz];exact ofB_lt zs),h]
theorem ofB_zeros (size:Nat):ofB (List.replicate size (default:BitVec 8))=0:=by
 unfold ofB
 rw[vf_zero_tail (Nat.zero_le _) (fun i _ hi=>by
   unfold bdig dig
   rw[List.length_replicate]at hi ⊢
   rw[gat_replicate (by omega)];rfl)]
 rfl
def RetBo (w:World) (l:Nat) (bs:List (BitVec 8)) (m:Bool) (e:Ending) (w':World):Prop:=
 ∃A c,e=.returned (.tuple #[.slice A l c,.bool m])∧bs.length=l∧Own w' w.heap.size 5 A c (bs.map by8)∧Ext w w'
set_option maxRecDepth 100000 in
set_option maxHeartbeats 1000000 in
theorem rbytes_short (v:Value) (n k size:Nat) (w:World) (hV:RefV w v n) (hF:blen n≤k) (hk:k≤10000000) (hs:size<bytelen n):
 Calls Try.prog 46 #[v,.int .i64 size] w (RetBo w 0 [] false):=by
 obtain⟨A,la,ca,xs,rfl,hlx,hca,hma,hSa,hTa,hna⟩:=hV.open_
 have hla:la=blen n:=by have:=bits_len (hlx▸hTa);rw[hna,hlx]at this;exact this
 have hs':(size:Int)<((la:Int)+7) / 8:=by unfold bytelen at hs;omega
 have hlk:la≤k:=by omega
 clear hV hTa hSa hlx hna hs hF hla
 go_enter Try.func46,Try.ntmps46
 go_wp2
 go_ret2
 exact⟨none,0,rfl,rfl,Own.nil,Upd.refl _ _⟩
set_option maxRecDepth 100000 in
set_option maxHeartbeats 1000000 in
theorem rbytes_any (v:Value) (n k size:Nat) (w:World) (hV:RefV w v n) (hF:blen n≤k) (hk:k≤10000000) (hs:bytelen n≤size) (hs2:size≤100000000):
 Calls Try.prog 46 #[v,.int .i64 size] w (RetBo w size (toB n size) true):=by
 obtain⟨A,la,ca,xs,rfl,hlx,hca,hma,hSa,hTa,hna⟩:=hV.open_
 have hla:la=blen n:=by have:=bits_len (hlx▸hTa);rw[hna,hlx]at this;exact this
 have hs':¬(size:Int)<((la:Int)+7) / 8:=by unfold bytelen at hs;omega
 have hlk:la≤k:=by omega
 have hl8:la≤8*size:=by unfold bytelen at hs;omega
 have HSa:=hide hSa
 have Hna:=hide hna
 have Hlx:=hide hlx
 clear hV hTa hSa hlx hna hs hF hla
 go_enter Try.func46,Try.ntmps46
 go_wp2_with (at_make;go_must (refine wpList_mk _ _ _ Try.n_el8 rfl rfl size rfl rfl rfl rfl (by omega) (by unfold maxLen;omega) by8 rfl rfl (B:=w.heap.size) (by simp) ?_);intro g w2 hO hg hU)
 subst hg
 go_loopw [19] (fun i wr=>∃(j:Nat) (zs:List (BitVec 8)),j≤la∧i=.int .i64 j∧zs.length=size∧Own wr w.heap.size 5 (some ⟨w.heap.size,0,none⟩) size (zs.map by8)∧ofB zs=vf 2 (dig d1 xs) j∧Ext w wr) (fun i _=>la - (intOf i).toNat)
 case atStart=>exact⟨0,_,Nat.zero_le _,rfl,List.length_replicate,hO,ofB_zeros _,hU⟩
 case round=>
  clear hO hU
  obtain⟨j,zs,hj,rfl,hzl,hO,hv,hE⟩:=hrel
  have Hzl:=hide hzl
  have Hv:=hide hv
  clear hzl hv
  by_cases hjl:j<la
  · obtain⟨b1,o1,rfl,hbl1,hcells⟩:=(HSa.out.ext hE).open_ (by rw[Hlx.out];omega)
    have hcell:=hcells j (by rw[Hlx.out];omega)
    obtain⟨x,hx⟩:∃x,gat xs j=x:=⟨_,rfl⟩
    rw[hx]at hcell
    have hxd:dig d1 xs j=d1 x:=by unfold dig;rw[hx]
    have Hx:=hide hxd
    clear hcells hx hxd
    cases x with
    | false=>
      have hnx:ofB zs=vf 2 (dig d1 xs) (j+1):=by rw[vf_succ,Hx.out,Hv.out];show _=_+0*_;omega
      have Hnx:=hide hnx
      clear hnx
      go_wp2_with fail
      go_roundw
      case rel=>exact⟨j+1,zs,by omega,by go_num,Hzl.out,hO,Hnx.out,hE⟩
      case measure=>simp[intOf];omega
    | true=>
      have hnx:=rbytes_step (xs:=xs) (i:=j) Hzl.out (by omega) Hv.out Hx.out
      obtain⟨q,hqd⟩:∃q,q=j / 8:=⟨_,rfl⟩
      obtain⟨r,hr⟩:∃r,r=j % 8:=⟨_,rfl⟩
      obtain⟨I,hI⟩:∃I,I=size - 1 - q:=⟨_,rfl⟩
      have hIs:I<size:=by omega
      have hcx:=(hO.row.ext (Upd.refl _ _).drew).cell (i:=I) (by rw[Hzl.out];omega)
      go_wp2_with fail
      have e1:IntKind.i64.wrap ((j:Int) / 8)=(q:Int):=by rw[hqd];exact IntWalk.i64_in _ (by omega)
      have e2:(j:Int).tmod 8=(r:Int):=by rw[hr];exact IntWalk.rem_in _ _ (by omega)
      have e2':(j:Int) % 8=(r:Int):=by rw[hr];rfl
      have e3:IntKind.i64.wrap ((size:Int) - 1)=(size:Int) - 1:=IntWalk.i64_in _ (by omega)
      have e4:IntKind.i64.wrap ((size:Int) - 1 - (q:Int))=(I:Int):=by rw[show(size:Int) - 1 - (q:Int)=(I:Int) by omega];exact IntWalk.i64_in _ (by omega)
      have p0:(0:Int)≤(I:Int):=by omega
      have p1:(I:Int)<(size:Int):=by omega
      have p2:(0:Int)≤(r:Int):=by omega
      rw[←hqd,←hr,←hI]at hnx
      have Hnx:=hide hnx
      have c1:=fun x:Wd (Same wr.drew)=>(same_cell x ⟨w.heap.size,I,none⟩).trans hcx
      clear hqd hr hI hnx
      refine wp_region_plan (Same _) 13 [(false,0),(false,1),(false,2),(false,3),(false,4),(false,5),(false,6),(false,7),(false,8),(false,9),(false,10),(false,11),(false,12)] (by kernel_rfl) (by kernel_rfl) rfl (fun hne=>?_)
      repeat (refine head_q rfl (fun K hK=>?_);have hK2:=hide hK;clear hK;go_simp;refine hK2.out _ ?_;clear hK2 K)
      clear e1 e2 e2' e3 e4 c1
      refine head_nil ?_
      try simp only[List.drop_succ_cons,List.drop_zero]
      refine wpList_store_own by8 one8 (w8 (n8 (gat zs I)+n8 (w8 (2^r)))) rfl rfl Try.n_sz8 rfl rfl (hO.ext (Upd.refl _ _).drew) (by rw[Hzl.out];exact hIs) ?_
      intro w3 hO3 hU3
      go_wp2_with fail
      go_roundw
      case rel=>exact⟨j+1,_,by omega,by go_num,by rw[List.length_set];exact Hzl.out,hO3,Hnx.out,Upd.fresh hU3.undrew hE (fun i hi=>by unfold only at hi;omega)⟩
      case measure=>simp[intOf];omega
  · obtain rfl:j=la:=by omega
    have hfin:zs=toB n size:=toB_of Hzl.out (by rw[Hv.out,←Hna.out];unfold numOf;rw[Hlx.out])
    subst hfin
    go_wp2_with fail
    go_ret2
    exact⟨_,_,rfl,toB_length _ _,hO,hE⟩
end
/- The document's products of rows of truths, walked: Shift, Mul. -/
section
open Go.RowKit
open Nt
attribute [local go_sem] steady steadyUpon Cls same_cell
theorem numOf_shift {xs:List Bool} {n:Nat}:numOf 2 d1 (List.replicate n (default:Bool)++xs)=numOf 2 d1 xs*2^n:=by
 unfold numOf
 rw[List.length_append,List.length_replicate,vf_split]
 have h0:vf 2 (dig d1 (List.replicate n (default:Bool)++xs)) n=0:=by
  rw[vf_zero_tail (Nat.zero_le _) (fun i _ hi=>by rw[dig_append_left (by rw[List.length_replicate];exact hi)];unfold dig;rw[gat_replicate hi];rfl)];rfl
 rw[h0,Nat.zero_add]
 congr 1
 exact vf_congr fun i hi=>by rw[dig_append_right (by rw[List.length_replicate];omega),List.length_replicate,Nat.add_sub_cancel_left]
set_option maxRecDepth 100000 in
set_option maxHeartbeats 1000000 in
theorem rshift_any (va:Value) (a n k:Nat) (w:World) (hVa:RefV w va a) (hFa:blen a≤k) (hk:k≤10000000) (hn:n≤10000000):
 Calls Try.prog 116 #[va,.int .i64 n] w (RetR w (a*2^n)):=by
 obtain⟨A,la,ca,xs,rfl,hlx,hca,hma,hSa,hTa,hna⟩:=hVa.open_
 have hla:la≤k:=by have:=bits_len (hlx▸hTa);rw[hna,hlx]at this;omega
 by_cases h0:la=0
 · subst h0
   have ha:a=0:=by rw[←hna];unfold numOf;rw[hlx];rfl
   subst ha
   clear hVa hTa hSa hna hFa hlx
   go_enter Try.func116,Try.ntmps116
   go_wp2
   go_ret
   exact⟨_,_,_,rfl,NumS.cut (xs:=[]) Sl.nil (Nat.le_refl 0) (Nat.le_refl 0) (Nat.zero_le _) (by rw[Nat.zero_mul];rfl) (.inl rfl),(Upd.refl _ _).alloc _⟩
 · have HSa:=hide hSa
   have Hlx:=hide hlx
   have Hna:=hide hna
   have HTa:=hide hTa
   have h0i:((la:Int) == 0)=false:=by rw[beq_eq_false_iff_ne];omega
   clear hVa hTa hSa hna hFa hlx
   go_enter Try.func116,Try.ntmps116
   go_wp2_with (first
    | (at_make;go_must (refine wpList_mk _ _ _ Try.n_el1 rfl rfl n rfl rfl rfl rfl (by omega) (by unfold maxLen;omega) Value.bool rfl rfl (B:=w.heap.size) (Nat.le_refl _) ?_);intro g w2 hO hg hU;have Hg:=hide hg;clear hg)
    | (at_builtin;go_must (refine wpList_apd Value.bool one1 Try.n_el1 (List.replicate n (default:Bool)) xs (List.replicate n (default:Bool)++xs) (n+la) rfl (by rw[List.length_append,List.length_replicate,Hlx.out]) (by omega) (by unfold maxLen;omega) rfl rfl rfl List.length_replicate hO rfl Hlx.out (HSa.out.ext hU) (by have:=hU.size;omega) ?_);intro Z2 c2 w3 hO3 hU3 hin3))
   go_ret
   have hcap:=hO3.cap
   rw[List.length_map,List.length_append,List.length_replicate,Hlx.out]at hcap
   refine⟨_,_,_,rfl,NumS.cut hO3.sl (by rw[List.length_append,List.length_replicate,Hlx.out];exact Nat.le_refl _) hcap.1 hcap.2 ?_ (.inr ?_),Upd.fresh hU3 hU (fun i hi=>by unfold inA at hi;simp at hi;rw[←hi,Hg.out];exact Nat.le_refl _)⟩
   · have h1:=numOf_shift (xs:=xs) (n:=n)
     unfold numOf at h1
     rw[List.length_append,List.length_replicate,Hlx.out]at h1
     rw[h1,←Hna.out]
     unfold numOf
     rw[Hlx.out]
   · rw[dig_append_right (by rw[List.length_replicate];omega),List.length_replicate,show n+la - 1 - n=la - 1 by omega]
     rcases HTa.out with h | h
     · exact absurd h h0
     · exact h
theorem blen_mul {a b m n:Nat} (ha:blen a≤m) (hb:blen b≤n):blen (a*b)≤m+n:=by
 rw[blen_le_iff]at*
 rw[Nat.pow_add]
 exact Nat.mul_lt_mul'' ha hb
set_option maxRecDepth 100000 in
set_option maxHeartbeats 1000000 in
theorem rmul_any (va vb:Value) (a b k:Nat) (w:World) (hVa:RefV w va a) (hVb:RefV w vb b) (hFa:blen a≤k) (hFb:blen b≤k) (hk:k≤4000000):
 Calls Try.prog 95 #[va,vb] w (RetR w (a*b)):=by
 obtain⟨A,la,ca,xs,rfl, -⟩:=hVa.open_
 obtain⟨B,lb,cb,ys,rfl,hly,hcb,hmb,hSb,hTb,hnb⟩:=hVb.open_
 have hlb:lb≤k:=by have:=bits_len (hly▸hTb);rw[hnb,hly]at this;omega
 have HVa:=hide hVa
 have HSb:=hide hSb
 have Hnb:=hide hnb
 have Hly:=hide hly
 clear hVb hTb hSb hnb hFb hly hVa
 go_enter Try.func95,Try.ntmps95
 go_wp2
 go_loopw [5,11] (fun o i wr=>∃(j:Nat) (Z:Option Addr) (l c:Nat),j≤lb∧i=.int .i64 j∧o=.slice Z l c∧RefV wr (.slice Z l c) (a*vf 2 (dig d1 ys) j)∧Ext w wr) (fun _ i _=>lb - (intOf i).toNat)
 case atStart=>exact⟨0,_,_,_,Nat.zero_le _,rfl,rfl,NumS.cut (xs:=[]) Sl.nil (Nat.le_refl 0) (Nat.le_refl 0) (Nat.zero_le _) (by show _=a*0;rw[Nat.mul_zero];rfl) (.inl rfl),(Upd.refl _ _).alloc _⟩
 case round=>
  obtain⟨j,Z,l,c,hj,rfl,rfl,hV,hE⟩:=hrel
  by_cases h1:j<lb
  · obtain⟨b2,o2,rfl,hbl2,hcells⟩:=(HSb.out.ext hE).open_ (by rw[Hly.out];omega)
    have hcell:=hcells j (by rw[Hly.out];omega)
    obtain⟨x,hx⟩:∃x,gat ys j=x:=⟨_,rfl⟩
    rw[hx]at hcell
    have hxd:dig d1 ys j=d1 x:=by unfold dig;rw[hx]
    have Hx:=hide hxd
    clear hcells hx hxd
    cases x with
    | false=>
      have hnx:a*vf 2 (dig d1 ys) (j+1)=a*vf 2 (dig d1 ys) j:=by rw[vf_succ,Hx.out];show a*(_+0*_)=_;rw[Nat.zero_mul,Nat.add_zero]
      have Hnx:=hide hnx
      clear hnx
      go_wp2_with fail
      go_roundw
      case rel=>exact⟨j+1,_,_,_,by omega,by go_num,rfl,by rw[Hnx.out];exact hV,hE⟩
      case measure=>simp[intOf];omega
    | true=>
      have hnx:a*vf 2 (dig d1 ys) (j+1)=a*vf 2 (dig d1 ys) j+a*2^j:=by rw[vf_succ,Hx.out];show a*(_+1*_)=_;rw[Nat.one_mul,Nat.mul_add]
      have Hnx:=hide hnx
      have hb1:blen (a*vf 2 (dig d1 ys) j)≤k+j:=blen_mul hFa (blen_le_iff.2 (vf_lt fun i _=>d1_lt _))
      have hb2:blen (a*2^j)≤k+(j+1):=blen_mul hFa (blen_le_iff.2 (Nat.pow_lt_pow_right (by omega) (by omega)))
      have Hb1:=hide hb1
      have Hb2:=hide hb2
      clear hnx hb1 hb2
      go_wp2_with fail
      refine(rshift_any (.slice A la ca) a j k _ (HVa.out.ext hE) hFa (by omega) (by omega)).mono ?_
      rintro e w1 ⟨A1,l1,c1,rfl,hV1,hU1⟩
      go_wp2_with fail
      refine(radd_any _ _ _ _ (k+j+1) _ (hV.ext hU1) hV1 (by have:=Hb1.out;omega) (by have:=Hb2.out;omega) (by omega)).mono ?_
      rintro e w2 ⟨A2,l2,c2,rfl,hV2,hU2⟩
      go_wp2_with fail
      go_roundw
      case rel=>exact⟨j+1,_,_,_,by omega,by go_num,rfl,by rw[Hnx.out];exact hV2,(hE.trans hU1).trans hU2⟩
      case measure=>simp[intOf];omega
  · obtain rfl:j=lb:=by omega
    go_wp2_with fail
    go_ret
    exact⟨_,_,_,rfl,hV.of_eq (by rw[←Hnb.out];unfold numOf;rw[Hly.out]),hE⟩
end
/- The document's quotients and greatest divisors of rows of truths, walked: Div, Gcd. -/
section
open Go.RowKit
open Nt
attribute [local go_sem] steady steadyUpon Cls same_cell
theorem Own.one {α:Type} (f:α→Value) (w:World) (t:TypeId) (x:α) {B:Nat} (hB:B≤w.heap.size):Own (w.alloc (.cells #[f x] t)) B t (some ⟨w.heap.size,0,none⟩) 1 ([x].map f):=
 ⟨rfl,.inr ⟨w.heap.size,1,#[f x],rfl,hB,heap_alloc_new w _,Nat.le_refl _,by decide,rfl,rfl⟩⟩
theorem RefV.uniq {w:World} {v:Value} {n m:Nat} (h:RefV w v n) (h':RefV w v m):n=m:=by
 obtain⟨A,l,c,xs,rfl,hl,_,_,hS,_,hn⟩:=h.open_
 obtain⟨A',l',c',ys,e,hl',_,_,hS',_,hn'⟩:=h'.open_
 cases e
 rw[←hn,←hn']
 unfold numOf
 rw[hl,hl']
 refine vf_congr fun i hi=>?_
 obtain⟨b,o,rfl,h1⟩:=hS i (by omega)
 obtain⟨b',o',e,h2⟩:=hS' i (by omega)
 cases e
 rw[h1]at h2
 unfold dig
 injection h2 with h2
 injection h2 with h2
 rw[h2]
noncomputable def refOf (w:World) (v:Value):Nat:=by
 classical
 exact if h:∃n,RefV w v n then Classical.choose h else 0
theorem refOf_eq {w:World} {v:Value} {n:Nat} (h:RefV w v n):refOf w v=n:=by
 have hex:∃n,RefV w v n:=⟨n,h⟩
 unfold refOf
 rw[dif_pos hex]
 exact(Classical.choose_spec hex).uniq h
def RetQ (w:World) (q r:Nat) (e:Ending) (w':World):Prop:=∃A1 l1 c1 A2 l2 c2,e=.returned (.tuple #[.slice A1 l1 c1,.slice A2 l2 c2])∧RefV w' (.slice A1 l1 c1) q∧RefV w' (.slice A2 l2 c2) r∧Ext w w'
theorem numOf_cons {x:Bool} {xs:List Bool}:numOf 2 d1 ([x]++xs)=d1 x+2*numOf 2 d1 xs:=by
 unfold numOf
 rw[List.length_append,List.length_singleton,vf_split]
 have h0:vf 2 (dig d1 ([x]++xs)) 1=d1 x:=by
  rw[vf_succ]
  show 0+d1 x*2^0=_
  omega
 rw[h0,Nat.pow_one,Nat.mul_comm]
 congr 2
 exact vf_congr fun i hi=>by rw[dig_append_right (by simp),List.length_singleton,Nat.add_sub_cancel_left]
theorem half {a j x:Nat} (h:a / 2^j % 2=x):a / 2^j=2*(a / 2^(j+1))+x:=by
 rw[Nat.pow_succ,←Nat.div_div_eq_div_mul]
 have:=Nat.div_add_mod (a / 2^j) 2
 omega
theorem rdiv_yes {X b x R:Nat} (hb:0<b) (hR:R=x+2*(X % b)) (hx:x≤1) (h:b≤R):(2*X+x) / b=2*(X / b)+1∧(2*X+x) % b=R - b:=by
 have h1:=Nat.div_add_mod X b
 have h2:=Nat.mod_lt X hb
 refine divmod_of ?_ (by omega)
 have h3:(2*(X / b)+1)*b=2*(b*(X / b))+b:=by rw[Nat.add_mul,Nat.one_mul,Nat.mul_assoc,Nat.mul_comm (X / b)]
 rw[h3]
 omega
theorem rdiv_no {X b x R:Nat} (hb:0<b) (hR:R=x+2*(X % b)) (h:R<b):(2*X+x) / b=2*(X / b)∧(2*X+x) % b=R:=by
 have h1:=Nat.div_add_mod X b
 refine divmod_of ?_ h
 have h3:2*(X / b)*b=2*(b*(X / b)):=by rw[Nat.mul_assoc,Nat.mul_comm (X / b)]
 rw[h3]
 omega
theorem rq_set {qs:List Bool} {l j Y:Nat} (hl:qs.length=l) (hj:j<l) (h:vf 2 (dig d1 qs) l=Y*2^(j+1)) (h0:dig d1 qs j=0):vf 2 (dig d1 (qs.set j true)) l=(2*Y+1)*2^j:=by
 have h1:=vf_set (β:=2) (f:=dig d1 qs) (v:=1) hj
 rw[h0,Nat.zero_mul,Nat.add_zero,Nat.one_mul,h]at h1
 have h2:vf 2 (dig d1 (qs.set j true)) l=vf 2 (fun i=>if i=j then 1 else dig d1 qs i) l:=vf_congr fun i hi=>by rw[dig_set (by omega)];rfl
 rw[h2,h1,Nat.add_mul,Nat.one_mul,Nat.pow_succ]
 have:Y*(2^j*2)=2*Y*2^j:=by ac_rfl
 omega
theorem rq_keep {Y V j:Nat} (h:V=Y*2^(j+1)):V=2*Y*2^j:=by
 rw[h,Nat.pow_succ];ac_rfl
set_option maxRecDepth 100000 in
set_option maxHeartbeats 2000000 in
theorem rdiv_any (va vb:Value) (a b k:Nat) (w:World) (hVa:RefV w va a) (hVb:RefV w vb b) (hFa:blen a≤k) (hFb:blen b≤k) (hk:k≤4000000) (hb0:0<b):
 Calls Try.prog 39 #[va,vb] w (RetQ w (a / b) (a % b)):=by
 obtain⟨A,la,ca,xs,rfl,hlx,hca,hma,hSa,hTa,hna⟩:=hVa.open_
 obtain⟨B,lb,cb,ys,rfl, -⟩:=hVb.open_
 have hbits:la=blen a:=by have:=bits_len (hlx▸hTa);rw[hna,hlx]at this;exact this
 have hla:la≤k:=by omega
 have HVb:=hide hVb
 have HSa:=hide hSa
 have Hna:=hide hna
 have Hlx:=hide hlx
 have Hlt:Hid (a<2^la):=hide (by rw[hbits];exact blen_lt a)
 clear hVa hTa hSa hna hlx hVb hbits
 go_enter Try.func39,Try.ntmps39
 go_wp2_with (at_make;go_must (refine wpList_mk _ _ _ Try.n_el1 rfl rfl la rfl rfl rfl rfl (by omega) (by unfold maxLen;omega) Value.bool rfl rfl (B:=w.heap.size) (Nat.le_refl _) ?_);intro g w2 hO hg hU;have Hg:=hide hg;clear hg)
 have hgw:w.heap.size≤g:=by rw[Hg.out];exact Nat.le_refl _
 have hgx:g<w2.heap.size:=(hO.in_ (k:=g) (by simp[inA])).2
 go_loopw [8,7] (fun i r wr=>∃(j:Nat) (cc:Int) (R:Option Addr) (l c:Nat) (qs:List Bool),j≤la∧cc=(j:Int) - 1∧i=.int .i64 cc∧r=.slice R l c∧qs.length=la∧Own wr w.heap.size 4 (some ⟨g,0,none⟩) la (qs.map Value.bool)∧RefV wr (.slice R l c) (a / 2^j % b)∧vf 2 (dig d1 qs) la=a / 2^j / b*2^j∧(∀i,i<j→dig d1 qs i=0)∧(∀k,inA R k→k≠g)∧Ext w wr) (fun i _ _=>(intOf i+1).toNat)
 case atStart=>
  have h0:a / 2^la=0:=Nat.div_eq_of_lt Hlt.out
  refine⟨la,_,_,_,_,_,Nat.le_refl _,(by omega),rfl,rfl,List.length_replicate,hO.ext ((Upd.refl _ _).alloc _),NumS.cut (xs:=[]) Sl.nil (Nat.le_refl 0) (Nat.le_refl 0) (Nat.zero_le _) (by rw[h0,Nat.zero_mod];rfl) (.inl rfl),?_,fun i hi=>by unfold dig;rw[gat_replicate hi];rfl,fun k hk=>by simp[inA]at hk;omega,hU.alloc _⟩
  rw[h0,Nat.zero_div,Nat.zero_mul,vf_zero_tail (Nat.zero_le _) (fun i _ hi=>by unfold dig;rw[gat_replicate hi];rfl)]
  rfl
 case round=>
  clear hO hU hgx
  obtain⟨j,cc,R,l,c,qs,hj,hcc,rfl,rfl,hql,hO,hV,hv,hz,hR,hE⟩:=hrel
  have Hql:=hide hql
  have Hv:=hide hv
  have Hz:=hide hz
  clear hql hv hz
  have hgr:=(hO.in_ (k:=g) (by simp[inA])).2
  rcases j with _ | j
  · obtain rfl:cc= -1:=by omega
    clear hcc
    go_wp2_with fail
    refine(rtrim_any (some ⟨g,0,none⟩) la la qs _ Hql.out (Nat.le_refl _) (by unfold maxLen;omega) hO.sl).mono ?_
    rintro e w4 ⟨A4,l4,c4,rfl,hV4,hU4⟩
    go_wp2
    go_ret2
    exact⟨_,_,_,_,_,_,rfl,hV4.of_eq (by unfold numOf;rw[Hql.out,Hv.out,Nat.pow_zero,Nat.div_one,Nat.mul_one]),(hV.ext hU4).of_eq (by rw[Nat.pow_zero,Nat.div_one]),hE.trans hU4⟩
  · obtain rfl:cc=(j:Int):=by omega
    clear hcc
    have hj0:(0:Int)≤(j:Int):=by omega
    obtain⟨b1,o1,rfl,hbl1,hcells⟩:=(HSa.out.ext hE).open_ (by rw[Hlx.out];omega)
    have hcell:=hcells j (by rw[Hlx.out];omega)
    obtain⟨x,hx⟩:∃x,gat xs j=x:=⟨_,rfl⟩
    rw[hx]at hcell
    have hxd:a / 2^j % 2=d1 x:=by
     have:=vf_digit (β:=2) (f:=dig d1 xs) (by decide) (n:=la) (i:=j) (fun i _=>d1_lt _) (by omega)
     rw[show vf 2 (dig d1 xs) la=a by have:=Hna.out;unfold numOf at this;rw[Hlx.out]at this;exact this]at this
     rw[this];unfold dig;rw[hx]
    have Hx:=hide hxd
    have Hh:=hide (half hxd)
    obtain⟨R1,lr,cr,rs,e1,hrl,hrc,hrm,hSr,hTr,hrn⟩:=hV.open_
    injection e1 with h1 h2 h3
    subst h1 h2 h3
    obtain⟨N,hN⟩:∃N,N=d1 x+2*(a / 2^(j+1) % b):=⟨_,rfl⟩
    have hNn:numOf 2 d1 ([x]++rs)=N:=by rw[numOf_cons,hrn,hN]
    have hlr:l≤k:=by
     have h5:=bits_len (hrl▸hTr)
     rw[hrn,hrl]at h5
     have h7:a / 2^(j+1) % b≤b:=Nat.le_of_lt (Nat.mod_lt _ hb0)
     have:=blen_mono h7
     omega
    have hbN:blen N≤k+1:=by
     have h7:a / 2^(j+1) % b<b:=Nat.mod_lt _ hb0
     have h8:=blen_lt b
     have h9:2^blen b≤2^k:=Nat.pow_le_pow_right (by omega) hFb
     have h10:=d1_le x
     rw[blen_le_iff,Nat.pow_succ]
     omega
    have HN:=hide hN
    have HNn:=hide hNn
    have Hrl:=hide hrl
    have hz0:=hide (Hz.out j (by omega))
    clear hcells hx hxd hN hNn hrl hrn hTr
    have hgl:=hO.cap
    have hgne:g≠wr.heap.size:=by omega
    by_cases hbn:b≤N
    · have hc0:0≤cmpI N b:=by
       rcases Int.lt_or_le (cmpI N b) 0 with h | h
       · rw[cmpI_neg]at h;omega
       · exact h
      obtain⟨hq,hr⟩:=rdiv_yes hb0 HN.out (d1_le _) hbn
      have Hq:=hide hq
      have Hr:=hide hr
      have hbn2:=hide hbn
      clear hq hr hbn
      go_wp2_with (first
       | (at_builtin;go_must (refine wpList_apd Value.bool one1 Try.n_el1 [x] rs ([x]++rs) (1+l) rfl (by rw[List.length_append,Hrl.out];rfl) (by omega) (by unfold maxLen;omega) rfl rfl rfl rfl (Own.one Value.bool wr 4 x (Nat.le_refl _)) rfl Hrl.out (hSr.ext ((Upd.refl _ _).alloc _)) (by simp) ?_);intro Z2 c2 w3 hO3 hU3 hin3)
       | (go_at_call 73;go_must (refine(rtrim_at Z2 (1+l) c2 ([x]++rs) _ (by rw[List.length_append,Hrl.out];rfl) (by have:=hO3.cap.1;rw[List.length_map,List.length_append,Hrl.out]at this;exact this) hO3.cap.2 hO3.sl).mono ?_);rintro e w4 ⟨l4,rfl,hV4,hU4⟩;rw[HNn.out]at hV4;have hE4:Ext wr w4:=(Upd.fresh hU3 ((Upd.refl _ _).alloc _) (fun i hi=>by unfold inA at hi;simp at hi;omega)).trans hU4)
       | (go_at_call 41;go_must (refine(rcmp_any _ _ N b (k+1) _ hV4 ((HVb.out.ext hE).ext hE4) hbN (by omega) (by omega)).mono ?_);rintro e w5 ⟨rfl,hU5⟩)
       | (go_at_call 40;go_must (refine(rsub_new _ _ N b (k+1) _ (hV4.ext hU5) (((HVb.out.ext hE).ext hE4).ext hU5) hbN (by omega) hbn2.out).mono ?_);rintro e w6 ⟨A6,l6,c6,rfl,hV6,hU6,hN6⟩;have hE6:Ext wr w6:=(hE4.trans hU5).trans hU6;have hO6:=hO.ext hE6)
       | (refine wpList_store_own Value.bool one1 true rfl rfl Try.n_sz1 rfl rfl hO6 (by rw[Hql.out];omega) ?_;intro w7 hO7 hU7))
      go_roundw
      case rel=>exact⟨j,_,_,_,_,qs.set j true,by omega,rfl,rfl,rfl,by rw[List.length_set];exact Hql.out,hO7,(RefV.upd hV6 hU7 (fun k hk hk2=>by have:=hN6 k hk;have:=hE4.size;have:=hU5.size;unfold only at hk2;omega)).of_eq (by rw[Hh.out,Hr.out]),by rw[rq_set Hql.out (by omega) Hv.out hz0.out,Hh.out,Hq.out],fun i hi=>by rw[dig_set (by rw[Hql.out];omega),if_neg (by omega)];exact Hz.out i (by omega),fun k hk=>by(have:=hN6 k hk;have:=hE4.size;have:=hU5.size;omega),Upd.fresh hU7 (hE.trans hE6) (fun i hi=>by unfold only at hi;omega)⟩
      case measure=>simp[intOf]
    · have hc0:¬0≤cmpI N b:=by
       have:cmpI N b<0:=by rw[cmpI_neg];omega
       omega
      obtain⟨hq,hr⟩:=rdiv_no hb0 HN.out (by omega)
      have Hq:=hide hq
      have Hr:=hide hr
      clear hq hr hbn
      go_wp2_with (first
       | (at_builtin;go_must (refine wpList_apd Value.bool one1 Try.n_el1 [x] rs ([x]++rs) (1+l) rfl (by rw[List.length_append,Hrl.out];rfl) (by omega) (by unfold maxLen;omega) rfl rfl rfl rfl (Own.one Value.bool wr 4 x (Nat.le_refl _)) rfl Hrl.out (hSr.ext ((Upd.refl _ _).alloc _)) (by simp) ?_);intro Z2 c2 w3 hO3 hU3 hin3)
       | (go_at_call 73;go_must (refine(rtrim_at Z2 (1+l) c2 ([x]++rs) _ (by rw[List.length_append,Hrl.out];rfl) (by have:=hO3.cap.1;rw[List.length_map,List.length_append,Hrl.out]at this;exact this) hO3.cap.2 hO3.sl).mono ?_);rintro e w4 ⟨l4,rfl,hV4,hU4⟩;rw[HNn.out]at hV4;have hE4:Ext wr w4:=(Upd.fresh hU3 ((Upd.refl _ _).alloc _) (fun i hi=>by unfold inA at hi;simp at hi;omega)).trans hU4)
       | (go_at_call 41;go_must (refine(rcmp_any _ _ N b (k+1) _ hV4 ((HVb.out.ext hE).ext hE4) hbN (by omega) (by omega)).mono ?_);rintro e w5 ⟨rfl,hU5⟩))
      go_roundw
      case rel=>exact⟨j,_,_,_,_,qs,by omega,rfl,rfl,rfl,Hql.out,hO.ext (hE4.trans hU5),(hV4.ext hU5).of_eq (by rw[Hh.out,Hr.out]),by rw[Hh.out,Hq.out];exact rq_keep Hv.out,fun i hi=>Hz.out i (by omega),fun k hk=>by(have:=(hO3.in_ hk).1;omega),(hE.trans hE4).trans hU5⟩
      case measure=>simp[intOf]
theorem blen_mod {a b k:Nat} (h:blen b≤k) (hb:0<b):blen (a % b)≤k:=Nat.le_trans (blen_mono (Nat.le_of_lt (Nat.mod_lt _ hb))) h
set_option maxRecDepth 100000 in
set_option maxHeartbeats 2000000 in
theorem rgcd_any (va vb:Value) (a b k:Nat) (w:World) (hVa:RefV w va a) (hVb:RefV w vb b) (hFa:blen a≤k) (hFb:blen b≤k) (hk:k≤4000000):
 Calls Try.prog 111 #[va,vb] w (RetR w (Nat.gcd a b)):=by
 obtain⟨A,la,ca,xs,rfl, -⟩:=hVa.open_
 obtain⟨B,lb,cb,ys,rfl, -⟩:=hVb.open_
 go_enter Try.func111,Try.ntmps111
 go_wp2
 go_loopw [0,1] (fun u v wx=>∃(x y:Nat) (X:Option Addr) (lx cx:Nat) (Y:Option Addr) (ly cy:Nat),u=.slice X lx cx∧v=.slice Y ly cy∧RefV wx (.slice X lx cx) x∧RefV wx (.slice Y ly cy) y∧blen x≤k∧blen y≤k∧Nat.gcd x y=Nat.gcd a b∧Ext w wx) (fun _ v wx=>refOf wx v)
 case atStart=>exact⟨a,b,_,_,_,_,_,_,rfl,rfl,hVa,hVb,hFa,hFb,rfl,Upd.refl _ _⟩
 case round=>
  obtain⟨x,y,X,lx,cx,Y,ly,cy,rfl,rfl,hVx,hVy,hFx,hFy,hg,hE⟩:=hrel
  have Hg:=hide hg
  clear hg
  have hly:ly=blen y:=by
   obtain⟨Y2,l2,c2,zs,e,h1, -, -, -,h2,h3⟩:=hVy.open_
   injection e with e1 e2 e3
   subst e2
   have:=bits_len (h1▸h2)
   rw[h3,h1]at this
   exact this
  by_cases hy:y=0
  · subst hy
    have hl0:ly=0:=by rw[hly];rfl
    subst hl0
    clear hly
    have hgx:x=Nat.gcd a b:=by rw[←Hg.out,Nat.gcd_zero_right]
    have Hgx:=hide hgx
    clear hgx
    go_wp2_with fail
    go_ret
    exact⟨_,_,_,rfl,hVx.of_eq Hgx.out,hE⟩
  · have hlp:0<ly:=by
     rcases Nat.eq_zero_or_pos ly with h | h
     · rw[h]at hly;exact absurd (blen_eq_zero.1 hly.symm) hy
     · exact h
    have hlk:ly≤4000000:=by omega
    clear hly
    go_wp2_with fail
    refine(rdiv_any _ _ x y k _ hVx hVy hFx hFy hk (by omega)).mono ?_
    rintro e w1 ⟨A1,l1,c1,A2,l2,c2,rfl,hV1,hV2,hU1⟩
    go_wp2_with fail
    go_roundw
    case rel=>exact⟨y,x % y,_,_,_,_,_,_,rfl,rfl,hVy.ext hU1,hV2,hFy,blen_mod hFy (by omega),by rw[←Hg.out,Nat.gcd_comm x y,Nat.gcd_rec y x,Nat.gcd_comm],hE.trans hU1⟩
    case measure=>
     have e1:=refOf_eq hV2
     have e2:=refOf_eq hVy
     show refOf _ _<refOf _ _
     rw[e1,e2]
     exact Nat.mod_lt _ (by omega)
end
/- The helpers of the laws on numbers, walked: Same, Num, ref, lives. -/
section
open Go.RowKit
open Nt
attribute [local go_sem] steady steadyUpon Cls same_cell by8 str_eq
theorem nstr_cls {W:World} {A:Option Addr} {n c:Nat} {bs:List (BitVec 8)} (hS:Sl by8 W A bs) (hn:bs.length=n) (x:Wd (Ext W)):
 (convert 23 9 (.slice A n c)).run Try.prog x.w=.ok (.string (str bs)) x.w:=
 run_str Try.n_under_bs Try.n_under8 Try.n_underS (hS.ext x.ok) hn
theorem toB_eq (x y:Nat):decide (toB x (bytelen x)=toB y (bytelen y))=decide (x=y):=by
 rw[Bool.eq_iff_iff]
 simp only[decide_eq_true_eq]
 constructor
 · intro h
   have:=congrArg ofB h
   rwa [ofB_toB x _ (lt_bytelen x),ofB_toB y _ (lt_bytelen y)]at this
 · intro h;rw[h]
theorem Fit.blen {k n:Nat} (h:Fit k n):blen n≤32*k:=by
 rw[blen_le_iff,Nat.pow_mul];exact h
set_option maxRecDepth 100000 in
set_option maxHeartbeats 1000000 in
theorem lsame_any (va vb:Value) (x y k:Nat) (w:World) (hVa:NatV w va x) (hVb:RefV w vb y) (hFa:Fit k x) (hFb:Fit k y) (hk:k≤100000):
 Calls Try.prog 10 #[va,vb] w fun e w'=>e=.returned (.bool (decide (x=y)))∧Ext w w':=by
 obtain⟨A,la,ca,xs,rfl, -⟩:=hVa.open_
 obtain⟨B,lb,cb,ys,rfl,hly, -, -, -,hTb,hnb⟩:=hVb.open_
 have hlb:lb=blen y:=by have:=bits_len (hly▸hTb);rw[hnb,hly]at this;exact this
 have hbl:=Fit.blen hFb
 have hlk:lb≤3200000:=by omega
 have hL:((lb:Int)+7) / 8=(bytelen y:Int):=by unfold bytelen;omega
 have hL2:bytelen y≤400000:=by unfold bytelen;omega
 obtain⟨L,hLd⟩:∃L,L=bytelen y:=⟨_,rfl⟩
 rw[←hLd]at hL hL2
 have HLd:=hide hLd
 clear hTb hnb hly hlb hLd
 go_enter Try.func10,Try.ntmps10
 go_wp2_with fail
 refine(rbytes_any (.slice B lb cb) y 3200000 L _ (hVb.ext (by repeat (first | (with_reducible exact Upd.refl _ _) | (with_reducible assumption) | (refine Upd.setCell ?_ (.inr (by first | exact Nat.le_refl _ | (dsimp only;omega) | (simp;done) | (simp;omega))) _) | (with_reducible refine Upd.alloc ?_ _) | (with_reducible refine Upd.drew ?_) | (with_reducible refine Upd.trans ?_ (by with_reducible assumption))))) (by omega) (by omega) (by rw[HLd.out];exact Nat.le_refl _) (by omega)).mono ?_
 rintro e w1 ⟨A1,c1,rfl,hl1,hO1,hU1⟩
 go_wp2_with fail
 have hE1:Ext w w1:=(by repeat (first | (with_reducible exact Upd.refl _ _) | (with_reducible assumption) | (refine Upd.setCell ?_ (.inr (by first | exact Nat.le_refl _ | (dsimp only;omega) | (simp;done) | (simp;omega))) _) | (with_reducible refine Upd.alloc ?_ _) | (with_reducible refine Upd.drew ?_) | (with_reducible refine Upd.trans ?_ (by with_reducible assumption))))
 have hB2:Box w1 w.heap.size 33 (.slice A la ca):=(Box.new w 33 (.slice A la ca)).ext hU1
 have hcb:=nstr_cls (c:=c1) (hO1.sl.ext (Upd.refl _ w1).drew) hl1
 have c2:=fun x:Wd (Ext w1.drew)=>(x.ok.cell (p:=⟨w.heap.size,0,none⟩) hB2.drew.lt (fun h=>h)).trans hB2.drew.cell
 have Hl1:=hide hl1
 clear hL hl1 hU1
 refine wp_region_plan (Ext _) 6 [(false,0),(false,3),(false,4),(true,1),(false,2),(false,5)] (by kernel_rfl) (by kernel_rfl) (Upd.refl _ _) (fun hne=>?_)
 repeat (refine head_q rfl (fun K hK=>?_);have hK2:=hide hK;clear hK;go_simp;refine hK2.out _ ?_;clear hK2 K)
 refine head_l rfl ?_
 go_wp2_with (go_at_call 47;go_must (refine(least_any (.agg #[.slice A la ca]) x k _ (hVa.ext hE1.drew) hFa (by omega)).mono ?_);rintro e w2 ⟨A2,c2,rfl,hl2,hO2,hU2⟩)
 refine⟨Cls (Ext _),cls_narrow hU2,⟨⟨_,Upd.refl _ _⟩,rfl⟩,?_⟩
 have hca:=nstr_cls (c:=c2) hO2.sl hl2
 repeat (refine head_q rfl (fun K hK=>?_);have hK2:=hide hK;clear hK;go_simp;refine hK2.out _ ?_;clear hK2 K)
 refine head_nil ?_
 try simp only[List.drop_succ_cons,List.drop_zero]
 go_wp2
 go_ret
 exact⟨by rw[HLd.out,toB_eq];rfl,hE1.drew.trans hU2⟩
end
/- Words for the laws on numbers. -/
section
open Go.RowKit
open Nt
theorem name_c {P:Program} {K:Nat} {args:Array Value} {Q:Ending→World→Prop} {W:World} (h:∀W',W'=W→Calls P K args W' Q):Calls P K args W Q:=h W rfl
theorem sub_yes (va vb:Value) (a b k:Nat) (w:World) (hVa:NatV w va a) (hVb:NatV w vb b) (hFa:Fit k a) (hFb:Fit k b) (hk:k≤1000000) (h:b≤a):
 Calls Try.prog 28 #[va,vb] w (RetO w (a - b) true):=by
 have:=sub_any va vb a b k w hVa hVb hFa hFb hk
 rwa [if_neg (by omega)]at this
theorem sub_no (va vb:Value) (a b k:Nat) (w:World) (hVa:NatV w va a) (hVb:NatV w vb b) (hFa:Fit k a) (hFb:Fit k b) (hk:k≤1000000) (h:a<b):
 Calls Try.prog 28 #[va,vb] w (RetO w 0 false):=by
 have:=sub_any va vb a b k w hVa hVb hFa hFb hk
 rwa [if_pos h]at this
theorem cmpI_ge {a b:Nat} (h:b≤a):0≤cmpI a b:=by
 rcases Int.lt_or_le (cmpI a b) 0 with h1 | h1
 · rw[cmpI_neg]at h1;omega
 · exact h1
theorem cmpI_lt {a b:Nat} (h:a<b):cmpI a b= -1:=by unfold cmpI;rw[if_pos h]
theorem cmpI_eq {a:Nat}:cmpI a a=0:=by unfold cmpI;rw[if_neg (Nat.lt_irrefl a),if_pos rfl]
end
end Go.Proofs.Ytbhhjfhepkbfgaa
