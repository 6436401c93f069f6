/- The document's power, walked: Exp. -/
import Derived.Test.YtbhhjfhepkbfgaaGnMods
namespace Go.Proofs.Ytbhhjfhepkbfgaa
set_option linter.unusedSimpArgs false
set_option linter.unusedVariables false
open Go.RowKit
open Nt
attribute [local go_sem] steady steadyUpon Cls same_cell
attribute [local irreducible] wpHead wpTree
theorem rexp_two (a n y:Nat):a^y % n*(a^y % n) % n=a^(2*y) % n:=by
 rw[←Nat.mul_mod,←Nat.pow_add,Nat.two_mul]
theorem rexp_odd (a n y:Nat):a^y % n*(a % n) % n=a^(y+1) % n:=by
 rw[←Nat.mul_mod,Nat.pow_succ]
set_option maxRecDepth 100000 in
set_option maxHeartbeats 2000000 in
theorem rexp_any (va ve vn:Value) (a y n k:Nat) (w:World) (hVa:RefV w va a) (hVe:RefV w ve y) (hVn:RefV w vn n) (hFa:blen a≤k) (hFe:blen y≤k) (hFn:blen n≤k) (hk:k≤1000000) (hn:0<n):
 Calls Try.prog 44 #[va,ve,vn] w (RetR w (a^y % n)):=by
 obtain⟨A,la,ca,xs,rfl, -⟩:=hVa.open_
 obtain⟨B,lb,cb,ys,rfl,hly,hcb,hmb,hSb,hTb,hnb⟩:=hVe.open_
 obtain⟨D,ld,cd,zs,rfl, -⟩:=hVn.open_
 have hbits:lb=blen y:=by have:=bits_len (hly▸hTb);rw[hnb,hly]at this;exact this
 have hlb:lb≤k:=by omega
 have hk1:1≤k:=by
  rcases Nat.eq_zero_or_pos k with h | h
  · rw[h]at hFn
    have:=blen_le_iff.1 hFn
    omega
  · exact h
 have hF1:blen 1≤k:=Nat.le_trans (by decide) hk1
 have HSb:=hide hSb
 have Hnb:=hide hnb
 have Hly:=hide hly
 have Hlt:Hid (y<2^lb):=hide (by rw[hbits];exact blen_lt y)
 have hG:Ext w w:=Upd.refl _ _
 clear hTb hSb hnb hly hbits
 go_enter Try.func44,Try.ntmps44
 go_wp2_with fail
 refine(rsmall_any 1 _ (by omega)).mono ?_
 rintro e w1 ⟨A1,l1,c1,rfl,hV1,hU⟩
 replace hG:=hG.trans hU
 go_wp2_with fail
 refine(rmof_any _ _ 1 n k _ hV1 (hVn.ext hG) hF1 hFn (by omega) hn).mono ?_
 rintro e w2 ⟨A2,l2,c2,rfl,hV2,hU⟩
 replace hG:=hG.trans hU
 go_wp2_with fail
 refine(rmof_any _ _ a n k _ (hVa.ext hG) (hVn.ext hG) hFa hFn (by omega) hn).mono ?_
 rintro e w3 ⟨A3,l3,c3,rfl,hV3,hU⟩
 replace hG:=hG.trans hU
 have hV2':=hV2.ext hU
 have HV3:=hide hV3
 have HVn:=hide (hVn.ext hG)
 have HSb3:=hide (HSb.out.ext hG)
 clear hU hV1 hV2 hV3 HSb hVa hVe hVn
 go_wp2_with fail
 go_loopw [7,8] (fun o i wr=>∃(j:Nat) (cc:Int) (R:Option Addr) (l c:Nat),j≤lb∧cc=(j:Int) - 1∧i=.int .i64 cc∧o=.slice R l c∧RefV wr (.slice R l c) (a^(y / 2^j) % n)∧Ext w3 wr) (fun _ i _=>(intOf i+1).toNat)
 case atStart=>exact⟨lb,_,_,_,_,Nat.le_refl _,(by omega),rfl,rfl,hV2'.of_eq (by rw[Nat.div_eq_of_lt Hlt.out,Nat.pow_zero]),Upd.refl _ _⟩
 case round=>
  clear hV2'
  obtain⟨j,cc,R,l,c,hj,hcc,rfl,rfl,hV,hE⟩:=hrel
  rcases j with _ | j
  · obtain rfl:cc= -1:=by omega
    clear hcc
    go_wp2_with fail
    go_ret
    exact⟨_,_,_,rfl,hV.of_eq (by rw[Nat.pow_zero,Nat.div_one]),hG.trans hE⟩
  · obtain rfl:cc=(j:Int):=by omega
    clear hcc
    have hj0:(0:Int)≤(j:Int):=by omega
    obtain⟨b1,o1,rfl,hbl1,hcells⟩:=(HSb3.out.ext hE).open_ (by rw[Hly.out];omega)
    have hcell:=hcells j (by rw[Hly.out];omega)
    obtain⟨x,hx⟩:∃x,gat ys j=x:=⟨_,rfl⟩
    rw[hx]at hcell
    have hxd:y / 2^j % 2=d1 x:=by
     have:=vf_digit (β:=2) (f:=dig d1 ys) (by decide) (n:=lb) (i:=j) (fun i _=>d1_lt _) (by omega)
     rw[show vf 2 (dig d1 ys) lb=y by have:=Hnb.out;unfold numOf at this;rw[Hly.out]at this;exact this]at this
     rw[this];unfold dig;rw[hx]
    have Hh:=hide (half hxd)
    have hFm:blen (a^(y / 2^(j+1)) % n)≤k:=blen_mod hFn hn
    have hFm2:blen (a^(y / 2^(j+1)) % n*(a^(y / 2^(j+1)) % n) % n)≤k:=blen_mod hFn hn
    clear hcells hxd hx
    go_wp2_with fail
    refine(rmmul_any _ _ _ _ _ n k _ hV hV (HVn.out.ext hE) hFm hFm hFn hk hn).mono ?_
    rintro e w4 ⟨R4,l4,c4,rfl,hV4,hU4⟩
    have hcell4:=hU4.cellv hcell
    have hE4:=hE.trans hU4
    clear hcell
    cases x with
    | false=>
      go_wp2_with fail
      go_roundw
      case rel=>exact⟨j,_,_,_,_,by omega,rfl,rfl,rfl,hV4.of_eq (by rw[rexp_two,Hh.out];rfl),hE4⟩
      case measure=>simp[intOf]
    | true=>
      go_wp2_with fail
      refine(rmmul_any _ _ _ _ (a % n) n k _ hV4 (HV3.out.ext hE4) (HVn.out.ext hE4) hFm2 (blen_mod hFn hn) hFn hk hn).mono ?_
      rintro e w5 ⟨R5,l5,c5,rfl,hV5,hU5⟩
      clear hcell4
      go_wp2_with fail
      go_roundw
      case rel=>exact⟨j,_,_,_,_,by omega,rfl,rfl,rfl,hV5.of_eq (by rw[rexp_two,rexp_odd,Hh.out];rfl),hE4.trans hU5⟩
      case measure=>simp[intOf]
end Go.Proofs.Ytbhhjfhepkbfgaa
