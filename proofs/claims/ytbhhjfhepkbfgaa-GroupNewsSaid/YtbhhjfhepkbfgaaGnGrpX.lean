/- The document's group, walked: prime. -/
import Derived.Test.YtbhhjfhepkbfgaaGnCertX
import Derived.Test.YtbhhjfhepkbfgaaGnSgnV
namespace Go.Proofs.Ytbhhjfhepkbfgaa
set_option linter.unusedSimpArgs false
set_option linter.unusedVariables false
open Go.RowKit
open Nt Sha Pk
attribute [local go_sem] steady steadyUpon Cls same_cell
attribute [local irreducible] wpHead wpTree Sha.sum
def rprimeB (n:Nat) (ss:List St):Bool:=smallB n || ((ss.any fun s=>s.N == n) && holdAll [] ss)
theorem rprimeB_eq {n:Nat} {ss:List St} (h1:ss.length≤64) (h2:ss.any longB=false):primeB n ss=rprimeB n ss:=by
 have hc:decide (checkE ss=0)=holdAll [] ss:=by
  unfold checkE
  rw[if_neg (fun h=>h.elim (fun h=>by omega) (fun h=>by rw[h2]at h;cases h))]
  cases holdAll [] ss
  · rw[if_neg (by decide)];rfl
  · rw[if_pos rfl];rfl
 unfold rprimeB primeB
 rw[hc,Bool.and_comm (holdAll [] ss)]
set_option maxRecDepth 100000 in
set_option maxHeartbeats 8000000 in
theorem rgprime_any (v:Value) (x K:Nat) (A:Option Addr) (n c:Nat) (ss:List St) (w:World) (hV:RefV w v x) (hFx:Fit K x) (hL:RStepL w A ss) (hn:ss.length=n) (hn2:n≤1000) (hF:∀i,i<ss.length→FitS K (gat ss i)) (hK1:1≤K) (hK:K≤100):
 Calls Try.prog 38 #[v,.slice A n c] w fun e w'=>e=.returned (.bool (rprimeB x ss))∧Ext w w':=by
 obtain⟨Ax,lx,cx,xs,rfl, -⟩:=hV.open_
 obtain⟨t,ht⟩:∃t,t=rprimeB x ss:=⟨_,rfl⟩
 rw[←ht]
 have Ht:=hide ht
 have Hn:=hide hn
 have HL:=hide hL
 have HF:=hide hF
 have hbx:blen x≤3200:=by have:=hFx.blen;omega
 clear ht hn hL hF
 go_enter Try.func38,Try.ntmps38
 go_wp2_with fail
 refine(rsmallp_any _ x 3200 _ hV hbx (by omega)).mono ?_
 rintro e w1 ⟨rfl,hE⟩
 cases hs:smallB x with
 | true=>
   obtain rfl:t=true:=Ht.out.trans (by unfold rprimeB;rw[hs];rfl)
   clear hs
   go_wp2_with fail
   go_ret
   exact⟨rfl,hE⟩
 | false=>
   have Hs:=hide hs
   clear hs
   go_wp2_with fail
   go_loopw [5,12] (fun bv i wr=>∃(j:Nat) (tb:Bool),j≤n∧i=.int .i64 (j:Int)∧bv=.bool tb∧Hid (tb=((ss.take j).any fun s=>s.N == x))∧Ext w wr) (fun _ i _=>n - (intOf i).toNat)
   case atStart=>exact⟨0,false,Nat.zero_le _,rfl,rfl,hide rfl,hE⟩
   case round=>
    clear hE
    obtain⟨j,tb,hj,rfl,rfl,Htb,hE⟩:=hrel
    by_cases hlt:j<n
    · have hltI:(j:Int)<(n:Int):=by omega
      obtain⟨b,o,A1,l1,c1,A2,l2,c2,A3,n3,c3,rfl,q0,q1,q2,hV1,hV2,hV3,hn3,hn3c,hc3⟩:=(HL.out.ext hE) j (by rw[Hn.out];exact hlt)
      obtain⟨s,hs⟩:∃s,s=gat ss j:=⟨_,rfl⟩
      obtain⟨hFN, -⟩:=HF.out j (by rw[Hn.out];exact hlt)
      rw[←hs]at hV1 hFN
      have hbN:blen s.N≤3200:=by have:=hFN.blen;omega
      have htk:((ss.take (j+1)).any fun s=>s.N == x)=(tb || (s.N == x)):=by rw[any_take _ (by rw[Hn.out];exact hlt),Htb.out,hs]
      have Htk:=hide htk
      clear hs hV2 hV3 htk hFN
      cases tb with
      | true=>
        go_wp2_with fail
        go_roundw
        case rel=>exact⟨j+1,true,by omega,by go_num,rfl,hide (by rw[Htk.out];rfl),hE.alloc _⟩
        case measure=>simp[intOf];omega
      | false=>
        go_wp2_with fail
        refine name_c (fun W hW=>?_)
        have hEW:Ext wr W:=by rw[hW];exact(Upd.refl _ _).alloc _
        clear hW q0 q1 q2
        refine(rcmp_any _ _ s.N x 3200 _ (hV1.ext hEW) (hV.ext (hE.trans hEW)) hbN hbx (by omega)).mono ?_
        rintro e w3 ⟨rfl,hU3⟩
        have hE3:=(hE.trans hEW).trans hU3
        clear hEW hU3 hV1
        by_cases hxn:s.N=x
        · rw[cmpI_zero.2 hxn]
          have hxb:Hid ((s.N == x)=true):=hide (beq_iff_eq.2 hxn)
          clear hxn
          go_wp2_with fail
          go_roundw
          case rel=>exact⟨j+1,true,by omega,by go_num,by first | rfl | simp,hide (by rw[Htk.out,hxb.out];rfl),hE3⟩
          case measure=>simp[intOf];omega
        · have hz:¬cmpI s.N x=0:=fun h=>hxn (cmpI_zero.1 h)
          have hxb:Hid ((s.N == x)=false):=hide (beq_eq_false_iff_ne.2 hxn)
          clear hxn
          generalize cmpI s.N x=z at hz ⊢
          have hz2:(z == 0)=false:=beq_eq_false_iff_ne.2 hz
          go_wp2_with fail
          go_roundw
          case rel=>exact⟨j+1,false,by omega,by go_num,by first | rfl | simp[hz],hide (by rw[Htk.out,hxb.out];rfl),hE3⟩
          case measure=>simp[intOf];omega
    · obtain rfl:j=n:=by omega
      have hltI:¬(j:Int)<(j:Int):=by omega
      have htb:tb=(ss.any fun s=>s.N == x):=by rw[Htb.out,List.take_of_length_le (by rw[Hn.out];exact Nat.le_refl _)]
      have Htb2:=hide htb
      clear htb Htb
      cases tb with
      | false=>
        obtain rfl:t=false:=Ht.out.trans (by unfold rprimeB;rw[Hs.out,←Htb2.out];rfl)
        go_wp2_with fail
        go_ret
        exact⟨rfl,hE⟩
      | true=>
        go_wp2_with fail
        refine(rcheck_any A j c K ss _ (HL.out.ext hE) Hn.out hn2 HF.out hK1 hK).mono ?_
        rintro e w4 ⟨rfl,hU4⟩
        obtain⟨ho,hho⟩:∃ho,ho=holdAll [] ss:=⟨_,rfl⟩
        rw[←hho]
        obtain rfl:t=ho:=Ht.out.trans (by unfold rprimeB;rw[Hs.out,←Htb2.out,hho];rfl)
        clear hho
        have hEf:=hE.trans hU4
        go_wp2_with fail
        go_ret
        exact⟨rfl,hEf⟩
end Go.Proofs.Ytbhhjfhepkbfgaa
