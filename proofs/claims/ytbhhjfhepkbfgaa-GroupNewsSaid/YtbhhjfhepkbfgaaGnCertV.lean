/- The document's small primes, walked: Value, Small, same. -/
import Derived.Test.YtbhhjfhepkbfgaaGnCers
import Derived.Test.YtbhhjfhepkbfgaaGnRexp
namespace Go.Proofs.Ytbhhjfhepkbfgaa
set_option linter.unusedSimpArgs false
set_option linter.unusedVariables false
open Go.RowKit
open Nt
attribute [local go_sem] steady steadyUpon Cls same_cell
attribute [local irreducible] wpHead wpTree
theorem shl_one (j:Nat) (hj:j≤16):wrap64 (2^j)=((2^j:Nat):Int):=by
 have h:∀j:Fin 17,wrap64 (2^(j:Nat))=((2^(j:Nat):Nat):Int):=by decide+kernel
 exact h ⟨j,by omega⟩
set_option maxRecDepth 100000 in
set_option maxHeartbeats 2000000 in
theorem rvalue_any (v:Value) (n k:Nat) (w:World) (hV:RefV w v n) (hF:blen n≤k) (hk:k≤1000000):
 Calls Try.prog 91 #[v] w fun e w'=>e=.returned (.int .i64 (if n<65536 then (n:Int) else -1))∧Ext w w':=by
 obtain⟨A,la,ca,xs,rfl,hlx,hca,hma,hSa,hTa,hna⟩:=hV.open_
 have hbits:la=blen n:=by have:=bits_len (hlx▸hTa);rw[hna,hlx]at this;exact this
 have hla:la≤k:=by omega
 have HSa:=hide hSa
 have Hna:=hide hna
 have Hlx:=hide hlx
 have Hb:=hide hbits
 clear hSa hTa hna hlx hbits hV
 go_enter Try.func91,Try.ntmps91
 by_cases h16:16<la
 · have h16I:(16:Int)<(la:Int):=by omega
   have hno:¬n<65536:=fun h=>by
     have:blen n≤16:=blen_le_iff.2 h
     have:=Hb.out
     omega
   rw[if_neg hno]
   clear hno
   go_wp2_with fail
   go_ret
   exact⟨rfl,Upd.refl _ _⟩
 · have h16I:¬(16:Int)<(la:Int):=by omega
   have hyes:n<65536:=by
    have:blen n≤16:=by have:=Hb.out;omega
    exact blen_le_iff.1 this
   rw[if_pos hyes]
   have Hy:=hide hyes
   clear hyes
   go_wp2_with fail
   go_loopw [3,11] (fun o i wr=>∃(j s:Nat),j≤la∧i=.int .i64 (j:Int)∧o=.int .i64 (s:Int)∧s=vf 2 (dig d1 xs) j∧Ext w wr) (fun _ i _=>la - (intOf i).toNat)
   case atStart=>exact⟨0,0,Nat.zero_le _,rfl,rfl,rfl,Upd.refl _ _⟩
   case round=>
    obtain⟨j,s,hj,rfl,rfl,hs,hE⟩:=hrel
    have Hs:=hide hs
    have hs2:s<2^j:=by rw[hs];exact vf_lt fun i _=>d1_lt _
    clear hs
    by_cases hlt:j<la
    · have hltI:(j:Int)<(la:Int):=by omega
      have hj16:j≤15:=by omega
      have hs3:s<65536:=Nat.lt_of_lt_of_le hs2 (Nat.pow_le_pow_right (by decide) (show j≤16 by omega))
      obtain⟨b1,o1,rfl,hbl1,hcells⟩:=(HSa.out.ext hE).open_ (by rw[Hlx.out];omega)
      have hcell:=hcells j (by rw[Hlx.out];omega)
      obtain⟨x,hx⟩:∃x,gat xs j=x:=⟨_,rfl⟩
      rw[hx]at hcell
      have hd:dig d1 xs j=d1 x:=by unfold dig;rw[hx]
      have hsh:=shl_one j (by omega)
      have hp:2^j≤2^15:=Nat.pow_le_pow_right (by decide) hj16
      obtain⟨q,hq⟩:∃q,q=2^j:=⟨_,rfl⟩
      rw[←hq]at hsh hp
      have hq2:q≤32768:=hp
      have Hq:=hide hq
      clear hq hp hcells hx hs2
      cases x with
      | false=>
        go_wp2_with fail
        go_roundw
        case rel=>exact⟨j+1,s,by omega,by go_num,rfl,by rw[vf_succ,←Hs.out,hd];simp[d1],hE⟩
        case measure=>simp[intOf];omega
      | true=>
        go_wp2_with fail
        go_roundw
        case rel=>exact⟨j+1,s+q,by omega,by go_num,by go_num,by rw[vf_succ,←Hs.out,hd,Hq.out];simp[d1],hE⟩
        case measure=>simp[intOf];omega
    · obtain rfl:j=la:=by omega
      have hltI:¬(j:Int)<(j:Int):=by omega
      have hsn:s=n:=by
       rw[Hs.out,←Hna.out]
       unfold numOf
       rw[Hlx.out]
      subst hsn
      go_wp2_with fail
      go_ret
      exact⟨rfl,hE⟩
set_option maxRecDepth 100000 in
set_option maxHeartbeats 2000000 in
theorem rsmallp_any (v:Value) (n k:Nat) (w:World) (hV:RefV w v n) (hF:blen n≤k) (hk:k≤1000000):Calls Try.prog 71 #[v] w fun e w'=>e=.returned (.bool (smallB n))∧Ext w w':=by
  obtain⟨A,la,ca,xs,rfl, -⟩:=hV.open_
  obtain⟨t,ht⟩:∃t,t=smallB n:=⟨_,rfl⟩
  rw[←ht]
  have Ht:=hide ht
  clear ht
  go_enter Try.func71,Try.ntmps71
  go_wp2_with fail
  refine(rvalue_any _ n k _ hV hF hk).mono ?_
  rintro e w1 ⟨rfl,hE⟩
  by_cases h16:n<65536
  · rw[if_pos h16]
    by_cases h2:n<2
    · have h2I:(n:Int)<2:=by omega
      obtain rfl:t=false:=Ht.out.trans (smallB_false (.inl h2))
      go_wp2_with fail
      go_ret
      exact⟨rfl,hE⟩
    · have h2I:¬(n:Int)<2:=by omega
      have H16:=hide h16
      clear h16 h2
      go_wp2_with fail
      go_loopw [4] (fun dv wr=>∃d:Nat,2≤d∧d≤256∧dv=.int .i64 (d:Int)∧(∀e,2≤e→e<d→n % e≠0)∧Ext w wr) (fun dv _=>257 - (intOf dv).toNat)
      case atStart=>exact⟨2,by omega,by omega,rfl,fun e h1 h2=>by omega,hE⟩
      case round=>
       clear hE
       obtain⟨d,hd2,hd,rfl,hno,hE⟩:=hrel
       obtain⟨s,hs⟩:∃s,s=d*d:=⟨_,rfl⟩
       have hsI:(d:Int)*(d:Int)=(s:Int):=by rw[hs];push_cast;rfl
       have hsb:s≤65536:=by rw[hs];exact Nat.mul_le_mul hd hd
       have Hno:=hide hno
       have Hs:=hide hs
       clear hno hs
       by_cases hle:s≤n
       · have hleI:(s:Int)≤(n:Int):=by omega
         have hd255:d≤255:=Nat.le_of_lt_succ (Nat.lt_of_le_of_ne hd fun e=>by have:=Hs.out;have:=H16.out;rw[e]at*;omega)
         obtain⟨r,hr⟩:∃r,r=n % d:=⟨_,rfl⟩
         have hr1:(n:Int).tmod (d:Int)=(r:Int):=by rw[Int.tmod_eq_emod_of_nonneg (by omega),hr];rfl
         have hr2:(n:Int) % (d:Int)=(r:Int):=by rw[hr];rfl
         have hrb:r≤65536:=by rw[hr];exact Nat.le_trans (Nat.mod_le _ _) (Nat.le_of_lt H16.out)
         have Hr:=hide hr
         have hd0:¬(d:Int)=0:=by omega
         clear hr
         by_cases hr0:r=0
         · have hr0I:(r:Int)=0:=by omega
           obtain rfl:t=false:=Ht.out.trans (smallB_div hd2 (by rw[←Hs.out];exact hle) (by rw[←Hr.out];exact hr0))
           go_wp2_with fail
           go_ret
           exact⟨rfl,hE⟩
         · have hr0I:¬(r:Int)=0:=by omega
           go_wp2_with fail
           go_roundw
           case rel=>exact⟨d+1,by omega,by omega,by go_num,fun e h1 h2=>by
               by_cases h:e=d
               · subst h;rw[←Hr.out];exact hr0
               · exact Hno.out e h1 (by omega),hE⟩
           case measure=>simp[intOf];omega
       · have hleI:¬(s:Int)≤(n:Int):=by omega
         obtain rfl:t=true:=Ht.out.trans (smallB_iff.2 ⟨by omega,H16.out,fun e h1 h2=>Hno.out e h1 (Nat.lt_of_not_ge fun h=>by
           have h3:=Nat.mul_le_mul h h
           rw[←Hs.out]at h3
           omega)⟩)
         go_wp2_with fail
         go_ret
         exact⟨rfl,hE⟩
  · rw[if_neg h16]
    obtain rfl:t=false:=Ht.out.trans (smallB_false (.inr (by omega)))
    clear h16
    go_wp2_with fail
    go_ret
    exact⟨rfl,hE⟩
set_option maxHeartbeats 1000000 in
theorem rsame_any (va vb:Value) (a b k:Nat) (w:World) (hVa:RefV w va a) (hVb:RefV w vb b) (hFa:blen a≤k) (hFb:blen b≤k) (hk:k≤1000000):
 Calls Try.prog 110 #[va,vb] w fun e w'=>e=.returned (.bool (decide (a=b)))∧Ext w w':=by
 obtain⟨A,la,ca,xs,rfl, -⟩:=hVa.open_
 obtain⟨B,lb,cb,ys,rfl, -⟩:=hVb.open_
 obtain⟨t,ht⟩:∃t,t=decide (a=b):=⟨_,rfl⟩
 rw[←ht]
 have Ht:=hide ht
 clear ht
 go_enter Try.func110,Try.ntmps110
 go_wp2_with fail
 refine(rcmp_any _ _ a b k _ hVa hVb hFa hFb (by omega)).mono ?_
 rintro e w1 ⟨rfl,hE⟩
 by_cases h:a=b
 · rw[cmpI_zero.2 h]
   obtain rfl:t=true:=Ht.out.trans (decide_eq_true h)
   go_wp2_with fail
   go_ret
   exact⟨rfl,hE⟩
 · have hz:¬cmpI a b=0:=fun h'=>h (cmpI_zero.1 h')
   obtain rfl:t=false:=Ht.out.trans (decide_eq_false h)
   generalize cmpI a b=z at hz ⊢
   have hz2:(z == 0)=false:=beq_eq_false_iff_ne.2 hz
   go_wp2_with fail
   go_ret
   exact⟨rfl,hE⟩
end Go.Proofs.Ytbhhjfhepkbfgaa
