/- The document's chain, walked: Check. -/
import Derived.Test.YtbhhjfhepkbfgaaGnCertJ
import Derived.Test.YtbhhjfhepkbfgaaGnCertW
import Derived.Test.YtbhhjfhepkbfgaaGnCertL
namespace Go.Proofs.Ytbhhjfhepkbfgaa
set_option linter.unusedSimpArgs false
set_option linter.unusedVariables false
open Go.RowKit
open Nt Pk
attribute [local go_sem] steady steadyUpon Cls same_cell
attribute [local irreducible] wpHead wpTree
set_option maxRecDepth 100000 in
set_option maxHeartbeats 8000000 in
theorem rcheck_any (A:Option Addr) (n c K:Nat) (ss:List St) (w:World) (hL:RStepL w A ss) (hn:ss.length=n) (hn2:n≤1000) (hF:∀i,i<ss.length→FitS K (gat ss i)) (hK1:1≤K) (hK:K≤100):
 Calls Try.prog 72 #[.slice A n c] w fun e w'=>e=.returned (.bool (holdAll [] ss))∧Ext w w':=by
 obtain⟨t,ht⟩:∃t,t=holdAll [] ss:=⟨_,rfl⟩
 rw[←ht]
 have Ht:=hide ht
 have Hn:=hide hn
 have HL:=hide hL
 clear ht hn hL
 go_enter Try.func72,Try.ntmps72
 go_wp2_with fail
 go_loopw [3,9] (fun bv i wr=>∃(q lq:Nat) (D:Option Addr) (cD:Nat) (tb:List Tri),q≤n∧lq=q∧i=.int .i64 (q:Int)∧bv=.slice D lq cD∧tb.length=lq∧Own wr w.heap.size 39 D cD (tb.map svt)∧(∀i,i<lq→RefV w (svt (gat tb i)) (gat ss i).N)∧holdAll [] ss=holdAll ((ss.take q).map St.N) (ss.drop q)∧Ext w wr) (fun _ i _=>n - (intOf i).toNat)
 case atStart=>exact⟨0,0,_,0,[],Nat.zero_le _,rfl,rfl,rfl,rfl,Own.lit svt w 39 [] (Nat.le_refl _) (Nat.zero_le _),fun i hi=>absurd hi (by omega),rfl,(Upd.refl _ _).alloc _⟩
 case round=>
  obtain⟨q,lq,D,cD,tb,hq,hlq,rfl,rfl,htb,hOb,hNb,hho,hE⟩:=hrel
  subst hlq
  have Hho:=hide hho
  have Htb:=hide htb
  clear hho htb
  by_cases hqj:lq<n
  · have hqI:(lq:Int)<(n:Int):=by omega
    obtain⟨b,o,A1,l1,c1,A2,l2,c2,A3,n3,c3,rfl,q0,q1,q2,hV1,hV2,hV3,hn3,hn3c,hc3⟩:=HL.out lq (by rw[Hn.out];exact hqj)
    replace q0:=hE.cellv q0
    replace q1:=hE.cellv q1
    replace q2:=hE.cellv q2
    replace hV2:=hV2.ext hE
    replace hV3:=hV3.ext hE
    obtain⟨s,hs⟩:∃s,s=gat ss lq:=⟨_,rfl⟩
    obtain⟨hFN,hFb,hFp,hpl⟩:=hF lq (by rw[Hn.out];exact hqj)
    obtain⟨bs,hbs⟩:∃bs,bs=(ss.take lq).map St.N:=⟨_,rfl⟩
    have hbl:bs.length=lq:=by rw[hbs,List.length_map,List.length_take,Hn.out];omega
    have hbg:∀i,i<lq→gat bs i=(gat ss i).N:=fun i hi=>by
      have h1:i<ss.length:=by rw[Hn.out];omega
      rw[hbs,gat_lt (by rw[List.length_map,List.length_take];omega),List.getElem_map,List.getElem_take,gat_lt h1]
    have hLb:RefL wr D bs:=⟨tb,by rw[hbl];exact Htb.out,hOb.sl,fun i hi=>by rw[hbg i (by omega)];exact(hNb i (by omega)).ext hE⟩
    have hFbs:FitL K bs:=fun i hi=>by rw[hbg i (by omega)];exact(hF i (by rw[Hn.out];omega)).1
    rw[←hs]at hV1 hV2 hV3 hn3 hFN hFb hFp hpl
    have hdrop:ss.drop lq=s :: ss.drop (lq+1):=by
     rw[hs,gat_lt (by rw[Hn.out];exact hqj)]
     exact List.drop_eq_getElem_cons (by rw[Hn.out];exact hqj)
    have htake:(ss.take (lq+1)).map St.N=bs++[s.N]:=by rw[List.take_succ_eq_append_getElem (by rw[Hn.out];exact hqj),List.map_append,hbs,hs,gat_lt (by rw[Hn.out];exact hqj)];rfl
    have hho:=Hho.out
    rw[←hbs,hdrop]at hho
    have Hho2:=hide hho
    have Htake:=hide htake
    have Hs:=hide hs
    clear hs hbs hdrop htake hho hbg
    go_wp2_with fail
    refine name_c (fun W hW=>?_)
    have hEW:Ext wr W:=by rw[hW];exact(Upd.refl _ _).alloc _
    have s9:Three W wr.heap.size 43 (.slice A1 l1 c1) (.slice A2 l2 c2) (.slice A3 n3 c3):=by rw[hW];exact Three.new _ _ _ _ _
    clear hW q0 q1 q2
    refine(rholds_any A1 A2 A3 D l1 c1 l2 c2 n3 c3 lq cD s.N s.b K s.ps bs _ ((hV1.ext hE).ext hEW) (hV2.ext hEW) (hV3.ext hEW) hn3 hn3c hc3 (hLb.ext hEW) hbl (by omega) hFN hFb hFp hFbs hK1 hK).mono ?_
    rintro e w5 ⟨rfl,hU5⟩
    have hE5:=hEW.trans hU5
    replace s9:=s9.ext hU5
    have hOb5:=hOb.ext hE5
    have HV1:=hide hV1
    have hEw:=hE.trans hE5
    clear hLb hEW hU5 hV1 hV2 hV3 hOb
    cases hh:holdsB s.N s.b s.ps bs with
    | false=>
      obtain rfl:t=false:=Ht.out.trans (by
       have:=Hho2.out
       rw[holdAll,hh,Bool.false_and]at this
       exact this)
      clear hh
      go_wp2_with fail
      go_ret
      exact⟨rfl,hEw⟩
    | true=>
      have Hhh:=hide hh
      have k0:=s9.cell0
      clear hh
      go_wp2_with (at_builtin;refine name_l2 (fun W hW=>?_);have hEW:Ext w5 W:=(by rw[hW];exact(Upd.refl _ _).alloc _);have hSW:Sl svt W (some ⟨w5.heap.size,0,none⟩) [((A1,l1,c1):Tri)]:=(by rw[hW];exact Sl.new svt w5 39 [((A1,l1,c1):Tri)]);have HW:=hide hW;clear hW;go_must (refine wpList_apd svt svt_one Try.n_elR tb [((A1,l1,c1):Tri)] (tb++[((A1,l1,c1):Tri)]) (lq+1) rfl (by rw[List.length_append,Htb.out];rfl) (by omega) (by unfold maxLen;omega) rfl rfl rfl Htb.out (hOb5.ext hEW) rfl rfl hSW (hEw.trans hEW).size ?_);intro A6 c6 w6 hO6 hU6 hin6)
      have hE6:Ext w w6:=Upd.fresh hU6 (hEw.trans hEW) (fun k hk=>(hOb5.in_ hk).1)
      have hN6:∀i,i<lq+1→RefV w (svt (gat (tb++[((A1,l1,c1):Tri)]) i)) (gat ss i).N:=fun i hi=>by
        by_cases h:i<lq
        · rw[gat_append_left (by rw[Htb.out];exact h)]
          exact hNb i h
        · obtain rfl:i=lq:=by omega
          rw[gat_append_right (by rw[Htb.out];exact Nat.le_refl _),Htb.out,Nat.sub_self,←Hs.out]
          exact HV1.out
      have HN6:=hide hN6
      have HE6:=hide hE6
      have HO6:=hide hO6
      clear hN6 hE6 hO6 hU6 hin6 hOb5 hSW hEW HW k0 hNb
      go_roundw
      case rel=>exact⟨lq+1,lq+1,A6,c6,tb++[((A1,l1,c1):Tri)],hqj,rfl,by go_num,rfl,by rw[List.length_append,Htb.out];rfl,HO6.out,HN6.out,by rw[Htake.out,Hho2.out,holdAll,Hhh.out,Bool.true_and],HE6.out⟩
      case measure=>simp[intOf];omega
  · obtain rfl:lq=n:=by omega
    have hqI:¬(lq:Int)<(lq:Int):=by omega
    obtain rfl:t=true:=Ht.out.trans (by
     have:=Hho.out
     rw[List.drop_of_length_le (by rw[Hn.out];omega),holdAll]at this
     exact this)
    go_wp2_with fail
    go_ret
    exact⟨rfl,hE⟩
theorem anyLong_no {w:World} {A:Option Addr} {cs:List Cl} (h:ClL w A cs):(cs.map Cl.st).any longB=false:=by
 rw[List.any_eq_false]
 intro s0 hm0
 obtain⟨y,hy,rfl⟩:=List.mem_map.1 hm0
 obtain⟨i,hi,rfl⟩:=List.getElem_of_mem hy
 obtain⟨b,o, -, -, -, -,g1,g2,g3, -⟩:=h i hi
 have:=longB_no (s:=(gat cs i).st) g1.out g2.out g3.out
 rw[gat_lt hi]at this
 rw[this]
 decide
end Go.Proofs.Ytbhhjfhepkbfgaa
