/- Numbers out of bytes that came in, in new memory; few entries: walked. -/
import Derived.Test.YtbhhjfhepkbfgaaGreatWsWirQ
import Derived.Test.YtbhhjfhepkbfgaaGreatWsNatV
namespace Go.Proofs.YtbhhjfhepkbfgaaGreat
set_option linter.unusedSimpArgs false
set_option linter.unusedVariables false
open Go.RowKit
open Nt
def RefL (w:World) (A:Option Addr) (ns:List Nat):Prop:=∃ts:List Tri,ts.length=ns.length∧Sl svt w A ts∧∀i,i<ns.length→RefV w (svt (gat ts i)) (gat ns i)
theorem RefL.ext {w w':World} {A:Option Addr} {ns:List Nat} (h:RefL w A ns) (hu:Ext w w'):RefL w' A ns:=by
 obtain⟨ts,h1,h2,h3⟩:=h
 exact⟨ts,h1,h2.ext hu,fun i hi=>(h3 i hi).ext hu⟩
theorem RefV.len {w:World} {A:Option Addr} {l c n:Nat} (h:RefV w (.slice A l c) n):l=blen n:=by
 obtain⟨A',l',c',xs,e,hlx,hca,hma,hSa,hTa,hna⟩:=h.open_
 injection e with _ e2 _
 subst e2
 have:=bits_len (hlx▸hTa)
 rw[hna,hlx]at this
 exact this
end Go.Proofs.YtbhhjfhepkbfgaaGreat
namespace Go.Proofs.YtbhhjfhepkbfgaaGreat
set_option linter.unusedSimpArgs false
set_option linter.unusedVariables false
open Go.RowKit
open Nt Sha
attribute [local go_sem] steady steadyUpon Cls same_cell
attribute [local irreducible] wpHead wpTree
def RetNN (w:World) (n:Nat) (e:Ending) (w':World):Prop:=∃A l c,e=.returned (.agg #[.slice A l c])∧NatV w' (.agg #[.slice A l c]) n∧Ext w w'∧∀k,inA A k→w.heap.size≤k
set_option maxRecDepth 100000 in
set_option maxHeartbeats 1000000 in
theorem num_new (A:Option Addr) (n c:Nat) (bs:List B8) (w:World) (h:In8 w A n c bs):
 Calls Tryz.prog 32 #[.slice A n c] w (RetNN w (ofB (bs.take 48))):=by
 obtain⟨hmin,hlen,hm48,hmn⟩:=cut_min h.1
 obtain⟨m,hm⟩:∃m,m=min n 48:=⟨_,rfl⟩
 rw[←hm]at hmin hlen hm48 hmn
 have hc:=h.2.2.1
 have hnc:=h.2.1
 unfold maxLen at hc
 have hs1:∀w,(Instr.sliceAt 24 (.slice A n c) none (some (.int .i64 (m:Int))) none).run Tryz.prog w=.ok (.slice A m c) w:=fun w=>run_cut_h Tryz.n_el8.under Tryz.n_sz8 A n c m .i64 (by omega) w
 have Hlen:=hide hlen
 have HS:=hide h.2.2.2
 clear hlen h hm
 go_enter Tryz.func32,Tryz.ntmps32
 go_wp2_with fail
 refine(from_new A m c (bs.take 48) _ Hlen.out (by omega) (((HS.out.take 48)).ext (by repeat (first | (with_reducible exact Upd.refl _ _) | (with_reducible assumption) | (refine Upd.setCell ?_ (.inr (by first | exact Nat.le_refl _ | (dsimp only;omega) | (simp;done) | (simp;omega))) _) | (with_reducible refine Upd.alloc ?_ _) | (with_reducible refine Upd.drew ?_) | (with_reducible refine Upd.trans ?_ (by with_reducible assumption)))))).mono ?_
 rintro e w1 ⟨A1,l1,c1,rfl,hV,hU,hnw⟩
 have hE:Ext w w1:=(by repeat (first | (with_reducible exact Upd.refl _ _) | (with_reducible assumption) | (refine Upd.setCell ?_ (.inr (by first | exact Nat.le_refl _ | (dsimp only;omega) | (simp;done) | (simp;omega))) _) | (with_reducible refine Upd.alloc ?_ _) | (with_reducible refine Upd.drew ?_) | (with_reducible refine Upd.trans ?_ (by with_reducible assumption))))
 have hB:=(Box.new w 39 (.slice none 0 0)).ext hU
 have q1:=hB.cell
 have q2:=hB.frozen
 have q3:=hB.lt
 clear hU
 go_wp2
 have q4:=((hB.set (.slice A1 l1 c1)).alloc (.cells #[.slice A1 l1 c1] 39)).cell
 exact bodyPost_ret (v:=.agg #[.slice A1 l1 c1]) (by simp[results,Tryz.results32,go_sem,q4]) rfl ⟨_,_,_,rfl,(hV.far (v:=.slice A1 l1 c1) hB.cell).ext ((Upd.refl _ _).alloc _),(hE.setCell (p:=⟨w.heap.size,0,none⟩) (.inr (by simp)) _).alloc _,fun k hk=>by have:=hnw k hk;simp at this;omega⟩
set_option maxRecDepth 100000 in
set_option maxHeartbeats 1000000 in
theorem lnum_new (v:Value) (n k:Nat) (w:World) (hV:NatV w v n) (hF:Fit k n) (hk:k≤1000):
 Calls Tryz.prog 21 #[v] w (RetN1 w n):=by
 obtain⟨A,l,c,xs,rfl, -⟩:=hV.open_
 go_enter Tryz.func21,Tryz.ntmps21
 go_wp2_with fail
 refine(least_any _ n k _ (hV.ext ((Upd.refl _ _).alloc _)) hF (by omega)).mono ?_
 rintro e w1 ⟨A1,c1,rfl,hl,hO,hU⟩
 have hb:bytelen n≤1000000:=Nat.le_trans (bytelen_le hF) (by omega)
 have hE:Ext w w1:=((Upd.refl _ w).alloc _).trans hU
 have HO:=hide hO
 have Hl:=hide hl
 clear hO hl
 go_wp2_with fail
 refine(rof_new A1 (bytelen n) c1 (toB n (bytelen n)) _ Hl.out hb HO.out.sl).mono ?_
 rintro e w2 ⟨A2,l2,c2,rfl,hV2,hU2,hn2⟩
 go_wp2_with fail
 go_ret
 exact⟨_,_,_,rfl,hV2.of_eq (ofB_toB n _ (lt_bytelen n)),hE.trans hU2,fun k hk=>by have:=hn2 k hk;have:=hE.size;omega⟩
def RetFew (w:World) (x:Pl) (e:Ending) (w':World):Prop:=∃b:Bool,e=.returned (.bool b)∧Ext w w'∧(b=true→x.ln≤100∧x.lt≤100∧x.lp≤2000)
set_option maxRecDepth 100000 in
set_option maxHeartbeats 2000000 in
theorem wfew_any (x:Pl) (w:World) (hx:PlOk w x):Calls Tryz.prog 5 #[.agg x.cs] w (RetFew w x):=by
 have HX:=hide hx
 have hmx:x.lt≤9223372036854775807:=by have:=hx.tcap;have:=hx.tmax;unfold maxLen at this;omega
 clear hx
 unfold Pl.cs
 go_enter Tryz.func5,Tryz.ntmps5
 go_upto_region 1 with fail
 refine name_w (fun W hW=>?_)
 have hb:Blk W w.heap.size 26 x.cs:=by rw[hW];exact Blk.new _ _ _
 have hE:Ext w W:=by rw[hW];exact(Upd.refl _ _).alloc _
 clear hW
 have q6:W.cell? ⟨w.heap.size,6,none⟩=some (.slice x.L1 x.ln x.c1):=hb.at 6 rfl
 have q7:W.cell? ⟨w.heap.size,7,none⟩=some (.slice x.L2 x.lt x.c2):=hb.at 7 rfl
 have q8:W.cell? ⟨w.heap.size,8,none⟩=some (.slice x.P x.lp x.c3):=hb.at 8 rfl
 by_cases h1:100<x.ln
 · have h1I:(100:Int)<(x.ln:Int):=by omega
   go_wp2_with fail
   go_ret
   exact⟨_,rfl,hE,fun h=>(by cases h)⟩
 by_cases h2:100<x.lt
 · have h1I:decide ((100:Int)<(x.ln:Int))=false:=decide_eq_false (by omega)
   have h2I:decide ((100:Int)<(x.lt:Int))=true:=decide_eq_true (by omega)
   go_wp2_with fail
   go_ret
   exact⟨_,rfl,hE,fun h=>(by cases h)⟩
 by_cases h3:2000<x.lp
 · have h1I:decide ((100:Int)<(x.ln:Int))=false:=decide_eq_false (by omega)
   have h2I:decide ((100:Int)<(x.lt:Int))=false:=decide_eq_false (by omega)
   have h3I:decide ((2000:Int)<(x.lp:Int))=true:=decide_eq_true (by omega)
   go_wp2_with fail
   go_ret
   exact⟨_,rfl,hE,fun h=>(by cases h)⟩
 have h1I:decide ((100:Int)<(x.ln:Int))=false:=decide_eq_false (by omega)
 have h2I:decide ((100:Int)<(x.lt:Int))=false:=decide_eq_false (by omega)
 have h3I:decide ((2000:Int)<(x.lp:Int))=false:=decide_eq_false (by omega)
 go_wp2_with fail
 go_loopw [3,25] (fun n i wr=>∃(j s:Nat),j≤x.lt∧i=.int .i64 (j:Int)∧n=.int .i64 (s:Int)∧s≤9000∧Ext w wr) (fun _ i _=>x.lt - (intOf i).toNat)
 case atStart=>exact⟨0,0,Nat.zero_le _,rfl,rfl,by omega,hE⟩
 case round=>
  clear q6 q7 q8 hb hE h1I h2I h3I
  obtain⟨j,s,hj,rfl,rfl,hs,hE⟩:=hrel
  by_cases hlt:j<x.lt
  · have hltI:(j:Int)<(x.lt:Int):=by omega
    obtain⟨b,o,eL,_,hc⟩:=(HX.out.texts.1.ext hE).open_ (by rw[HX.out.tlen];omega)
    have hck:=hc j (by rw[HX.out.tlen];exact hlt)
    obtain⟨p,hp⟩:∃p,p=gat x.ps j:=⟨_,rfl⟩
    rw[←hp]at hck
    obtain⟨P,sz,cP,pbs⟩:=p
    replace hck:wr.cell? ⟨b,o+j,none⟩=some (.slice P sz cP):=hck
    clear hp hc
    obtain⟨t,ht⟩:∃t,t=min sz 3000:=⟨_,rfl⟩
    have htI:min (sz:Int) 3000=(t:Int):=by omega
    have ht2:t≤3000:=by omega
    clear ht
    rw[eL]
    by_cases h9:9000<s+t
    · have h9I:(9000:Int)<(s:Int)+(t:Int):=by omega
      go_wp2_with fail
      go_ret
      exact⟨_,rfl,hE,fun h=>(by cases h)⟩
    · have h9I:¬(9000:Int)<(s:Int)+(t:Int):=by omega
      go_wp2_with fail
      go_roundw
      case rel=>exact⟨j+1,s+t,by omega,by go_num,by go_num,by omega,hE⟩
      case measure=>simp[intOf];omega
  · obtain rfl:j=x.lt:=by omega
    have hltI:¬(x.lt:Int)<(x.lt:Int):=by omega
    go_wp2_with fail
    go_ret
    exact⟨_,rfl,hE,fun _=>⟨by omega,by omega,by omega⟩⟩
end Go.Proofs.YtbhhjfhepkbfgaaGreat
