/- Signed bytes, walked: Sign, whose, Open of package wire. -/
import Derived.Test.YtbhhjfhepkbfgaaGreatWsWirX
import Derived.Test.YtbhhjfhepkbfgaaGreatWsSgnC
import Derived.Test.YtbhhjfhepkbfgaaGreatWsSgnD
namespace Go.Proofs.YtbhhjfhepkbfgaaGreat
set_option linter.unusedSimpArgs false
set_option linter.unusedVariables false
open Go.RowKit
open Nt Sha
attribute [local go_sem] steady steadyUpon Cls same_cell
attribute [local irreducible] wpHead wpTree sum chalOf En.ok En.bytes Vo.ok Vo.bytes entryR voteR
def IsE (b:List B8):Prop:=∃(w:World) (x:En),EnOk w x∧x.ok=true∧x.bytes=b
def IsV (b:List B8):Prop:=∃x:Vo,x.ok=true∧x.pr.length=x.lp∧x.bytes=b
theorem IsE.head {b:List B8} (h:IsE b):∃t,b=69#8 :: t:=by
 obtain⟨w,x, -, -,rfl⟩:=h
 unfold En.bytes
 exact⟨_,rfl⟩
theorem RetDec.ways {w w':World} {b:List B8} {e:Ending} (h:RetDec w b e w'):Ext w w'∧((∃z:En,e=.returned (.tuple #[.agg z.cs,.int .i64 0])∧EnOk w' z∧z.ok=true∧z.bytes=b)∨e=.returned (.tuple #[.agg (ecl 0 0 0 0 0 0 (.slice none 0 0) (.slice none 0 0) (.slice none 0 0)),.int .i64 3])):=by
 obtain⟨L1,c1,L2,c2,ps,P,c3,hz, -,hU,h1,h2⟩:=h
 refine⟨hU,?_⟩
 cases hg:goodE b ((entryR (b,false)).1.en L1 c1 L2 c2 ps P c3)with
 | false=>exact .inr (h2 hg)
 | true=>
   refine .inl ⟨_,h1 hg,hz,?_⟩
   unfold goodE at hg
   simp only[Bool.and_eq_true,decide_eq_true_eq]at hg
   exact⟨hg.2.1,hg.2.2⟩
theorem RetDecV.ways {w w':World} {b:List B8} {e:Ending} (h:RetDecV w b e w'):Ext w w'∧((∃z:Vo,e=.returned (.tuple #[.agg z.cs,.int .i64 0])∧VoOk w' z∧z.ok=true∧z.bytes=b)∨e=.returned (.tuple #[.agg (vcl 0 0 0 0 0 (.slice none 0 0)),.int .i64 3])):=by
 obtain⟨P,c,hz,hU,h1,h2⟩:=h
 refine⟨hU,?_⟩
 cases hg:goodV b ((voteR (b,false)).1.vo P c)with
 | false=>exact .inr (h2 hg)
 | true=>
   refine .inl ⟨_,h1 hg,hz,?_⟩
   unfold goodV at hg
   simp only[Bool.and_eq_true,decide_eq_true_eq]at hg
   exact⟨hg.2.1,hg.2.2⟩
def WhoOk (b:List B8) (who er:Int):Prop:=(er=3∧who=0∧¬IsE b)∨(er=0∧(1≤who∧who≤64)∧(IsE b∨IsV b)∧∀(w0:World) (x:En),EnOk w0 x→x.ok=true→x.bytes=b→who=x.au)
def RetWho (w:World) (b:List B8) (e:Ending) (w':World):Prop:=∃who er:Int,e=.returned (.tuple #[.int .i64 who,.int .i64 er])∧WhoOk b who er∧Ext w w'
theorem n8_69 {x:B8} (h:x≠69#8):(n8 x == (69:Int))=false:=by
 refine beq_eq_false_iff_ne.2 fun e=>h ?_
 unfold n8 at e
 apply BitVec.eq_of_toNat_eq
 show x.toNat=69
 omega
set_option maxRecDepth 100000 in
set_option maxHeartbeats 4000000 in
theorem wwhose_any (A:Option Addr) (n c:Nat) (b:List B8) (w:World) (hM:Pt.ok w ⟨A,n,c,b⟩):
 Calls Tryz.prog 40 #[.slice A n c] w (RetWho w b):=by
 have HM:=hide hM
 have hbn:b.length=n:=hM.2.1
 have Hbn:=hide hbn
 clear hM
 cases b with
 | nil=>
   obtain rfl:n=0:=hbn.symm
   have Hno:Hid (¬IsE []):=hide (fun h=>by obtain⟨t,ht⟩:=h.head;cases ht)
   obtain⟨b,hb⟩:∃b:List B8,b=[]:=⟨_,rfl⟩
   rw[←hb]at HM Hno ⊢
   obtain⟨n,hn⟩:∃n,n=0:=⟨_,rfl⟩
   clear hb hbn Hbn
   go_enter Tryz.func40,Tryz.ntmps40
   go_wp2_with fail
   rw[←hn]at HM ⊢
   clear hn
   refine(decV_any A n c b w HM.out.1 HM.out.2.1 HM.out.2.2.1 HM.out.2.2.2).mono ?_
   rintro e w1 hr
   obtain⟨hU1,⟨z,rfl,hz,hzk,hzb⟩ | rfl⟩:=hr.ways
   · have hB:=Blk.new w1 63 z.cs
     have q1:=hB.at 1 (v:=.int .i64 z.from_) rfl
     have hrg:=(Vo.range hzk).2.1
     have hW:WhoOk b z.from_ 0:=.inr ⟨rfl,hrg,.inr ⟨z,hzk,hz.len,hzb⟩,fun w0 x h1 h2 h3=>absurd ⟨w0,x,h1,h2,h3⟩ Hno.out⟩
     have HW:=hide hW
     have hE:Ext w (w1.alloc (.cells z.cs 63)):=hU1.alloc _
     unfold Vo.cs at q1 hE ⊢
     clear hB hW hrg hr
     go_wp2_with fail
     refine bodyPost_ret (v:=.tuple #[.int .i64 z.from_,.int .i64 0]) (by simp[results,Tryz.results40,go_sem]) rfl ⟨_,_,rfl,HW.out,hE⟩
   · have hB:=Blk.new w1 63 (vcl 0 0 0 0 0 (.slice none 0 0))
     have q1:=hB.at 1 (v:=.int .i64 0) rfl
     have hE:Ext w (w1.alloc (.cells (vcl 0 0 0 0 0 (.slice none 0 0)) 63)):=hU1.alloc _
     have HW:Hid (WhoOk b 0 3):=hide (.inl ⟨rfl,rfl,Hno.out⟩)
     unfold vcl at q1 hE ⊢
     clear hB hr
     go_wp2_with fail
     refine bodyPost_ret (v:=.tuple #[.int .i64 0,.int .i64 3]) (by simp[results,Tryz.results40,go_sem]) rfl ⟨_,_,rfl,HW.out,hE⟩
 | cons x t=>
   have hpos:(0:Int)<(n:Int):=by rw[List.length_cons]at hbn;omega
   obtain⟨bk,o,rfl, -,hcs⟩:=Sl.open_ (f:=by8) (xs:=x :: t) HM.out.1 (by simp)
   have q0:w.cell? ⟨bk,o,none⟩=some (.int .u8 (n8 x)):=hcs 0 (by simp)
   obtain⟨b,hb⟩:∃b:List B8,b=x :: t:=⟨_,rfl⟩
   obtain⟨A,hA⟩:∃A:Option Addr,A=some ⟨bk,o,none⟩:=⟨_,rfl⟩
   have Hb:=hide hb
   rw[←hb]at HM Hbn ⊢
   clear hcs hbn hb
   by_cases hx:x=69#8
   case pos=>
    have h69:n8 x=69:=by rw[hx];rfl
    rw[h69]at q0
    go_enter Tryz.func40,Tryz.ntmps40
    go_wp2_with fail
    refine(decE_any (some ⟨bk,o,none⟩) n c b w HM.out.1 HM.out.2.1 HM.out.2.2.1 HM.out.2.2.2).mono ?_
    by_cases hE:IsE b
    · obtain⟨w0,x0,hx1,hx2,rfl⟩:=hE
      rintro e w1 hr
      obtain⟨z,rfl,hz,hU1,hzk,hzb, -⟩:=hr.back hx2 hx1
      have hB:=Blk.new w1 48 z.cs
      have q1:=hB.at 1 (v:=.int .i64 z.au) rfl
      have hrg:=(En.range (En.ok_bad hzk)).2.1
      have hW:WhoOk x0.bytes z.au 0:=.inr ⟨rfl,hrg,.inl ⟨w0,x0,hx1,hx2,rfl⟩,fun w2 x2 h1 h2 h3=>((en_fields h2 h1 hzk hz (h3.trans hzb.symm)).2.1)⟩
      have HW:=hide hW
      have hE:Ext w (w1.alloc (.cells z.cs 48)):=hU1.alloc _
      unfold En.cs at q1 hE ⊢
      clear hB hW hrg hr hzb hzk hz
      go_wp2_with fail
      refine bodyPost_ret (v:=.tuple #[.int .i64 z.au,.int .i64 0]) (by simp[results,Tryz.results40,go_sem]) rfl ⟨_,_,rfl,HW.out,hE⟩
    · rintro e w1 hr
      obtain⟨hU1,⟨z,rfl,hz,hzk,hzb⟩ | rfl⟩:=hr.ways
      · exact absurd ⟨w1,z,hz,hzk,hzb⟩ hE
      · have hB:=Blk.new w1 48 (ecl 0 0 0 0 0 0 (.slice none 0 0) (.slice none 0 0) (.slice none 0 0))
        have q1:=hB.at 1 (v:=.int .i64 0) rfl
        have HW:Hid (WhoOk b 0 3):=hide (.inl ⟨rfl,rfl,hE⟩)
        have hE1:Ext w (w1.alloc (.cells (ecl 0 0 0 0 0 0 (.slice none 0 0) (.slice none 0 0) (.slice none 0 0)) 48)):=hU1.alloc _
        unfold ecl at q1 hE1 ⊢
        clear hB hr hE
        go_wp2_with fail
        refine bodyPost_ret (v:=.tuple #[.int .i64 0,.int .i64 3]) (by simp[results,Tryz.results40,go_sem]) rfl ⟨_,_,rfl,HW.out,hE1⟩
   case neg=>
    have h69:=n8_69 hx
    have Hno:Hid (¬IsE b):=hide (fun h=>by
      obtain⟨t',ht⟩:=h.head
      rw[Hb.out]at ht
      injection ht with h1 _
      exact hx h1)
    clear hx Hb
    go_enter Tryz.func40,Tryz.ntmps40
    go_wp2_with fail
    rw[←hA]at HM ⊢
    clear hA
    refine(decV_any A n c b w HM.out.1 HM.out.2.1 HM.out.2.2.1 HM.out.2.2.2).mono ?_
    rintro e w1 hr
    obtain⟨hU1,⟨z,rfl,hz,hzk,hzb⟩ | rfl⟩:=hr.ways
    · have hB:=Blk.new w1 63 z.cs
      have q1:=hB.at 1 (v:=.int .i64 z.from_) rfl
      have hrg:=(Vo.range hzk).2.1
      have hW:WhoOk b z.from_ 0:=.inr ⟨rfl,hrg,.inr ⟨z,hzk,hz.len,hzb⟩,fun w0 x h1 h2 h3=>absurd ⟨w0,x,h1,h2,h3⟩ Hno.out⟩
      have HW:=hide hW
      have hE:Ext w (w1.alloc (.cells z.cs 63)):=hU1.alloc _
      unfold Vo.cs at q1 hE ⊢
      clear hB hW hrg hr
      go_wp2_with fail
      refine bodyPost_ret (v:=.tuple #[.int .i64 z.from_,.int .i64 0]) (by simp[results,Tryz.results40,go_sem]) rfl ⟨_,_,rfl,HW.out,hE⟩
    · have hB:=Blk.new w1 63 (vcl 0 0 0 0 0 (.slice none 0 0))
      have q1:=hB.at 1 (v:=.int .i64 0) rfl
      have hE:Ext w (w1.alloc (.cells (vcl 0 0 0 0 0 (.slice none 0 0)) 63)):=hU1.alloc _
      have HW:Hid (WhoOk b 0 3):=hide (.inl ⟨rfl,rfl,Hno.out⟩)
      unfold vcl at q1 hE ⊢
      clear hB hr
      go_wp2_with fail
      refine bodyPost_ret (v:=.tuple #[.int .i64 0,.int .i64 3]) (by simp[results,Tryz.results40,go_sem]) rfl ⟨_,_,rfl,HW.out,hE⟩
section
variable (gr P Q G H : Nat) (w : World)
set_option maxRecDepth 100000 in
set_option maxHeartbeats 2000000 in
theorem wsign_any (A0 A:Option Addr) (l0 c0 x n c:Nat) (b:List B8) (h:GrpV w gr P Q G H) (hV:NatV w (.agg #[.slice A0 l0 c0]) x) (hM:Pt.ok w ⟨A,n,c,b⟩) (hF:Fit 32 x) (hQ:Fit 32 Q) (hP:Fit 32 P) (hGf:Fit 32 G) (hn:n≤100000) (hx0:0<x) (hxQ:x<Q) (hP0:0<P):
 Calls Tryz.prog 15 #[.pointer (some ⟨gr,0,none⟩),.agg #[.slice A0 l0 c0],.slice A n c] w (RetB w (n+2*byteSz Q) (b++signB P Q G x b) 0):=by
 have HM:=hide hM
 obtain⟨N2,hN2⟩:∃N2,N2=2*byteSz Q:=⟨_,rfl⟩
 obtain⟨sg,hsg⟩:∃sg,sg=signB P Q G x b:=⟨_,rfl⟩
 obtain⟨N,hN⟩:∃N,N=n+N2:=⟨_,rfl⟩
 have hszm:N2≤10000:=by have:=byteSz_le hQ;omega
 rw[←hN2,←hsg,←hN]
 have HN2:=hide hN2
 have Hsg:=hide hsg
 have HN:=hide hN
 clear hM hN2 hsg hN
 go_enter Tryz.func15,Tryz.ntmps15
 obtain⟨W,hW⟩:∃W,W=w.alloc (.cells #[.slice A0 l0 c0] 39):=⟨_,rfl⟩
 have b4:Box W w.heap.size 39 (.slice A0 l0 c0):=by rw[hW];exact Box.new _ _ _
 have hE:Ext w W:=by rw[hW];exact(Upd.refl _ w).alloc _
 have q4:=b4.cell
 rw[hW]at q4
 go_wp2_with fail
 rw[←hW]
 clear q4 hW b4
 refine(ssign_any gr P Q G _ 32 _ _ x A n c b (h.ext hE) (hV.ext hE) (HM.out.ext hE) hF hQ hP hGf (by omega) (by omega) (by omega) hx0 hxQ hP0).mono ?_
 rw[←HN2.out,←Hsg.out]
 rintro e w1 ⟨A1,c1,rfl,hl1,hO1,hU1⟩
 have hE1:=hE.trans hU1
 have Hl1:=hide hl1
 have hS1:=hide hO1.sl
 clear hl1 hO1
 go_wp2_with fail
 refine(clone_any A n c b w1 HM.out.2.1 (by omega) (HM.out.1.ext hE1)).mono ?_
 rintro e w2 ⟨A2,c2,rfl,hl2,hO2,hU2⟩
 have Hl2:=hide hl2
 have hNl:(b++sg).length=N:=by rw[List.length_append,hl2,Hl1.out,HN.out]
 have HNl:=hide hNl
 have hNm:N≤200000:=by have:=HN.out;omega
 have HO2:=hide hO2
 clear hl2 hNl hO2
 go_wp2_with (at_builtin;refine wpList_apd by8 one8 Tryz.el8 b sg (b++sg) N rfl HNl.out (by omega) (by unfold maxLen;omega) rfl rfl rfl Hl2.out HO2.out rfl Hl1.out (hS1.out.ext hU2) hU2.size ?_;intro A3 c3 w3 hO3 hU3 hin3;have hE3:=upd_new (w0:=w) hU3 (hE1.trans hU2) (fun q hq=>Nat.le_trans hE1.size (HO2.out.in_ hq).1))
 have hO:=hO3.mono (B':=w.heap.size) hE1.size
 have HO:=hide hO
 clear hO3 hin3 hU3 hO
 refine bodyPost_ret (v:=.tuple #[.slice A3 N c3,.int .i64 0]) (by simp[results,Tryz.results15,go_sem]) rfl ⟨_,_,rfl,HNl.out,HO.out,hE3⟩
def OpnOk (w':World) (z2 m:Nat) (V:List B8→List B8→Bool) (b:List B8) (A:Option Addr) (n c:Nat) (who er:Int):Prop:=
 ((n=0∧who=0∧(er=3∨er=6∨er=7))∨(er=0∧n+z2=b.length∧Pt.ok w' ⟨A,n,c,b.take n⟩∧1≤who∧who≤(m:Int)∧(IsE (b.take n)∨IsV (b.take n))∧V (b.take n) (b.drop n)=true))∧
 ∀(w0:World) (x:En) (sig:List B8),EnOk w0 x→x.ok=true→b=x.bytes++sig→sig.length=z2→V x.bytes sig=true→(x.au≤(m:Int)→er=0∧who=x.au)∧((m:Int)<x.au→er=6)
def RetOpn (w:World) (z2 m:Nat) (V:List B8→List B8→Bool) (b:List B8) (e:Ending) (w':World):Prop:=∃A n c who er,e=.returned (.tuple #[.slice A n c,.int .i64 who,.int .i64 er])∧OpnOk w' z2 m V b A n c who er∧Ext w w'
theorem take_cat {x sig b:List B8} {k:Nat} (h:b=x++sig) (hk:k+sig.length=b.length):b.take k=x∧b.drop k=sig:=by
 have hx:k=x.length:=by rw[h,List.length_append]at hk;omega
 rw[h,hx]
 exact⟨List.take_left' rfl,List.drop_left' rfl⟩
set_option maxRecDepth 100000 in
set_option maxHeartbeats 8000000 in
theorem wopen_any (D A:Option Addr) (m cD n c y:Nat) (b:List B8) (h:GrpV w gr P Q G H) (hL:NatL w D (List.replicate m y)) (hM:Pt.ok w ⟨A,n,c,b⟩) (hm:m≤1000) (hn:n≤100000) (hFy:Fit 32 y) (hQ:Fit 32 Q) (hP:Fit 32 P) (hGf:Fit 32 G) (hz128:byteSz Q≤128) (hP2:2≤P):
 Calls Tryz.prog 16 #[.pointer (some ⟨gr,0,none⟩),.slice D m cD,.slice A n c] w (RetOpn w (2*byteSz Q) m (verB P Q G y) b):=by
 have HM:=hide hM
 have HL:=hide hL
 obtain⟨N2,hN2⟩:∃N2,N2=2*byteSz Q:=⟨_,rfl⟩
 obtain⟨V,hV⟩:∃V,V=verB P Q G y:=⟨_,rfl⟩
 have hszm:N2≤10000:=by have:=byteSz_le hQ;omega
 have hbl:b.length=n:=hM.2.1
 rw[←hN2,←hV]
 have HN2:=hide hN2
 have HV:=hide hV
 have Hbl:=hide hbl
 clear hM hL hN2 hV hbl
 go_enter Tryz.func16,Tryz.ntmps16
 go_wp2_with fail
 refine(ssize_any gr P Q G H 32 w h hQ (by omega)).mono ?_
 rw[←HN2.out]
 rintro e w1 ⟨rfl,hU1⟩
 by_cases hlt:n<N2
 case pos=>
  have hI:(n:Int) - (N2:Int)<0:=by omega
  have HR:Hid (OpnOk w1 N2 m V b none 0 0 0 3):=hide ⟨.inl ⟨rfl,rfl,.inl rfl⟩,fun w0 x sig _ _ h3 h4 _=>by
    have:=Hbl.out
    rw[h3,List.length_append]at this
    omega⟩
  go_wp2_with fail
  refine bodyPost_ret (v:=.tuple #[.slice none 0 0,.int .i64 0,.int .i64 3]) (by simp[results,Tryz.results16,go_sem]) rfl ⟨_,_,_,_,_,rfl,HR.out,hU1⟩
 case neg=>
  obtain⟨k,hk⟩:∃k,n=k+N2:=⟨n - N2,by omega⟩
  have hkI:(n:Int) - (N2:Int)=(k:Int):=by omega
  have hk0:¬((k:Int)<0):=by omega
  have hkn:k≤n:=by omega
  have hnc:n≤c:=HM.out.2.2.1
  have hcm:c≤maxLen:=HM.out.2.2.2
  have hwk:IntKind.i64.wrap (k:Int)=(k:Int):=IntWalk.i64_in _ (by omega)
  have hs1:∀w,(Instr.sliceAt 24 (.slice A n c) none (some (.int .i64 (k:Int))) none).run Tryz.prog w=.ok (.slice A k c) w:=fun w=>run_cut_h Tryz.n_el8.under Tryz.n_sz8 A n c k .i64 (by omega) w
  have hs2:∀w,(Instr.sliceAt 24 (.slice A n c) (some (.int .i64 (k:Int))) none none).run Tryz.prog w=.ok (.slice (shA A c k) N2 (c - k)) w:=fun w=>by
    have:=run_cut_l Tryz.n_el8.under Tryz.n_sz8 A n c k .i64 hkn w
    rwa [show n - k=N2 by omega]at this
  have hpt:Pt.ok w ⟨A,k,c,b.take k⟩:=⟨HM.out.1.take k,by rw[List.length_take,Hbl.out];exact Nat.min_eq_left hkn,by show k≤c;omega,hcm⟩
  have hpd:Pt.ok w ⟨shA A c k,N2,c - k,b.drop k⟩:=⟨HM.out.1.shA (by rw[Hbl.out];exact hnc),by rw[List.length_drop,Hbl.out];show n - k=N2;omega,by show N2≤c - k;omega,by show c - k≤maxLen;omega⟩
  have Hpt:=hide hpt
  have Hpd:=hide hpd
  have hcat:∀(x:En) (sig:List B8),b=x.bytes++sig→sig.length=N2→b.take k=x.bytes∧b.drop k=sig:=fun x sig h1 h2=>take_cat h1 (by rw[h2,Hbl.out,hk])
  have Hcat:=hide hcat
  have hkb:k+N2=b.length:=by rw[Hbl.out,hk]
  have Hkb:=hide hkb
  have Hk:=hide hk
  obtain⟨bt,hbt⟩:∃t,t=b.take k:=⟨_,rfl⟩
  obtain⟨bd,hbd⟩:∃t,t=b.drop k:=⟨_,rfl⟩
  rw[←hbt]at Hpt Hcat
  rw[←hbd]at Hpd Hcat
  have Hbt:=hide hbt
  have Hbd:=hide hbd
  clear hpt hpd hcat hkb hk hbt hbd
  go_wp2_with fail
  refine(wwhose_any A k c bt w1 (Hpt.out.ext hU1)).mono ?_
  rintro e w2 ⟨who,er,rfl,hw2,hU2⟩
  have hE2:=hU1.trans hU2
  rcases hw2 with ⟨rfl,rfl,hno⟩ | ⟨rfl,⟨hw1,hw64⟩,hEV,hau⟩
  · have HR:Hid (OpnOk w2 N2 m V b none 0 0 0 3):=hide ⟨.inl ⟨rfl,rfl,.inl rfl⟩,fun w0 x sig h1 h2 h3 h4 _=>absurd ⟨w0,x,h1,h2,((Hcat.out x sig h3 h4).1).symm⟩ hno⟩
    clear hno
    go_wp2_with fail
    refine bodyPost_ret (v:=.tuple #[.slice none 0 0,.int .i64 0,.int .i64 3]) (by simp[results,Tryz.results16,go_sem]) rfl ⟨_,_,_,_,_,rfl,HR.out,hE2⟩
  · have hau':∀(w0:World) (x:En) (sig:List B8),EnOk w0 x→x.ok=true→b=x.bytes++sig→sig.length=N2→who=x.au:=fun w0 x sig h1 h2 h3 h4=>hau w0 x h1 h2 ((Hcat.out x sig h3 h4).1).symm
    have Hau:=hide hau'
    have HEV:=hide hEV
    clear hau hau' hEV
    by_cases hwm:(m:Int)<who
    · have HR:Hid (OpnOk w2 N2 m V b none 0 0 0 6):=hide ⟨.inl ⟨rfl,rfl,.inr (.inl rfl)⟩,fun w0 x sig h1 h2 h3 h4 _=>by
        have:=Hau.out w0 x sig h1 h2 h3 h4
        exact⟨fun h=>by omega,fun _=>rfl⟩⟩
      go_wp2_with fail
      refine bodyPost_ret (v:=.tuple #[.slice none 0 0,.int .i64 0,.int .i64 6]) (by simp[results,Tryz.results16,go_sem]) rfl ⟨_,_,_,_,_,rfl,HR.out,hE2⟩
    · obtain⟨j,hj⟩:∃j:Nat,who=(j:Int)+1:=⟨(who - 1).toNat,by omega⟩
      have hjm:j<m:=by omega
      obtain⟨kb,ko,B1,m1,d1,rfl,q0,hVj⟩:=HL.out.at (i:=j) (by rw[List.length_replicate];exact hjm)
      rw[gat_replicate hjm]at hVj
      subst hj
      have hj1:(j:Int)+1 - 1=(j:Int):=by omega
      have hjI:((j:Int)<(m:Int)):=by omega
      have hwj:IntKind.i64.wrap (j:Int)=(j:Int):=IntWalk.i64_in _ (by omega)
      go_wp2_with fail
      refine name_w (fun X hX=>?_)
      subst hX
      have hXd:Ext X X.drew:=(Upd.refl _ _).drew
      have hED:=hE2.trans hXd
      have q0':=fun y:Wd (Ext X.drew)=>y.ok.cellv (hED.cellv q0)
      obtain⟨t,ht⟩:∃t,t=V bt bd:=⟨_,rfl⟩
      have Ht:=hide ht
      clear ht
      refine wp_region_plan (Ext _) 14 [(false,0),(false,1),(false,2),(false,3),(false,4),(false,5),(false,6),(false,7),(false,8),(false,9),(false,10),(false,11),(true,12),(false,13)] (by kernel_rfl) (by kernel_rfl) (Upd.refl _ _) (fun hne=>?_)
      repeat (refine head_q rfl (fun K hK=>?_);have hK2:=hide hK;clear hK;go_simp;refine hK2.out _ ?_;clear hK2 K)
      refine head_l rfl ?_
      go_wp2_with (go_at_call 41;go_must (refine(sver_any gr P Q G H 32 _ _ y A (shA A c k) k c N2 (c - k) bt bd (h.ext hED) (hVj.ext hED) (Hpt.out.ext hED) (Hpd.out.ext hED) hFy hQ hP hGf (by omega) (by omega) hz128 (by omega) hP2).mono ?_);rw[←HV.out,←Ht.out];rintro e v1 ⟨rfl,hv1⟩)
      refine⟨Cls (Ext _),fun _ h=>h,⟨⟨_,hv1⟩,rfl⟩,?_⟩
      repeat (refine head_q rfl (fun K hK=>?_);have hK2:=hide hK;clear hK;go_simp;refine hK2.out _ ?_;clear hK2 K)
      refine head_nil ?_
      try simp only[List.drop_succ_cons,List.drop_zero]
      have hE3:=hED.trans hv1
      clear q0'
      cases t with
      | false=>
        have HR:Hid (OpnOk v1 N2 m V b none 0 0 0 7):=hide ⟨.inl ⟨rfl,rfl,.inr (.inr rfl)⟩,fun w0 x sig h1 h2 h3 h4 h5=>by
          have hc:=Hcat.out x sig h3 h4
          rw[←hc.1,←hc.2,←Ht.out]at h5
          cases h5⟩
        go_wp2_with fail
        refine bodyPost_ret (v:=.tuple #[.slice none 0 0,.int .i64 0,.int .i64 7]) (by simp[results,Tryz.results16,go_sem]) rfl ⟨_,_,_,_,_,rfl,HR.out,hE3⟩
      | true=>
        go_wp2_with fail
        refine(clone_any A k c bt v1 Hpt.out.2.1 (by omega) (Hpt.out.1.ext hE3)).mono ?_
        rintro e v2 ⟨A5,c5,rfl,hl5,hO5,hv2⟩
        have hE5:=hE3.trans hv2
        have HR:Hid (OpnOk v2 N2 m V b A5 k c5 ((j:Int)+1) 0):=hide ⟨.inr ⟨rfl,Hkb.out,by rw[←Hbt.out];exact Own.mpt hO5 hl5,by omega,by omega,by rw[←Hbt.out];exact HEV.out,by rw[←Hbt.out,←Hbd.out];exact Ht.out.symm⟩,fun w0 x sig h1 h2 h3 h4 _=>⟨fun _=>⟨rfl,Hau.out w0 x sig h1 h2 h3 h4⟩,fun h=>by
          have:=Hau.out w0 x sig h1 h2 h3 h4
          omega⟩⟩
        clear hl5 hO5
        go_wp2_with fail
        refine bodyPost_ret (v:=.tuple #[.slice A5 k c5,.int .i64 ((j:Int)+1),.int .i64 0]) (by simp[results,Tryz.results16,go_sem]) rfl ⟨_,_,_,_,_,rfl,HR.out,hE5⟩
end
end Go.Proofs.YtbhhjfhepkbfgaaGreat
