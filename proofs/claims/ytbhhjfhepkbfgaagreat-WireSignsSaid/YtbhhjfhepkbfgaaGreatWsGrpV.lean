/- Merged: GrpG GrpH MonoR GrpR GrpS GrpT. -/
import Derived.Test.YtbhhjfhepkbfgaaGreatWsGrpe
namespace Go.Proofs.YtbhhjfhepkbfgaaGreat
set_option linter.unusedSimpArgs false
set_option linter.unusedVariables false
/- A slice of numbers that grows. -/
section
open Go.RowKit
open Nt Sha
attribute [local go_sem] steady steadyUpon Cls same_cell
attribute [local irreducible] wpHead wpTree
end
/- The law on products of powers, walked. -/
section
open Go.RowKit
open Nt Sha
attribute [local go_sem] steady steadyUpon Cls same_cell
attribute [local irreducible] wpHead wpTree
end
/- A region whose order is open, as XMono, with any order of worlds R in Ext's place. -/
section
structure MR (R:World→World→Prop) where
 p:Value→World→Prop
 mono:∀v w w',p v w→R w w'→p v w'
def MR.eq (R:World→World→Prop) (x:Value):MR R:=⟨fun v _=>v=x,fun _ _ _ h _=>h⟩
def KnownR (R:World→World→Prop) (w0:World) (n:Nat) (J:Nat→MR R) (listed:Array Bool) (u:Nat→Value) (w:World):Prop:=
 R w0 w∧∀i,i<n→listed.getD i true=true→(J i).p (u i) w
def OpR (R:World→World→Prop) (P:Program) (ops:Array Oper) (a0:Act) (w0:World) (n:Nat) (J:Nat→MR R) (i:Nat):Prop:=
 ∀ (u:Nat→Value) (w:World) (o:Oper),ops[i]? =some o→R w0 w→(∀d,d<n→waitsOn ops i d=true→(J d).p (u d) w)→
   wpList P ops (Exit.then (fun a' w'=>∃v,a'=(fr ops a0 u n).put o.dst v∧R w w'∧(J i).p v w') noQ) [o] (fr ops a0 u n) w
section law
variable {P : Program} {ops : Array Oper} {a0 : Act} {w0 : World} {n : Nat} {R : World → World → Prop} {J : Nat → MR R}
theorem monor_run {Lq:Act→World→Prop} (htrans:∀a b c,R a b→R b c→R a c) (hB:monoB ops n=true) (hop:∀i,i<n→OpR R P ops a0 w0 n J i)
 (hL:∀u w,KnownR R w0 n J (doneA n ops.size) u w→Lq (fr ops a0 u n) w):
 ∀ (f:Nat) (listed:Array Bool) (u:Nat→Value) (w:World),HeadInv .any ops n listed→cnt listed n=f→KnownR R w0 n J listed u w→
   wpAnyC P .any ops n (fun listed' a' w'=>Region.seqB .any ops (ops.size - n) n listed'=true∧Lq a' w') f (fun _=>True) listed (fr ops a0 u n) w:=by
 simp only[monoB,Bool.and_eq_true,decide_eq_true_eq]at hB
 obtain⟨⟨⟨⟨⟨⟨hsel,hn⟩,hs⟩,hc⟩,hord⟩,hdst⟩,hseq⟩:=hB
 have hdist:∀i j,i<n→j<n→i≠j→∀x,dstOf ops i=some x→dstOf ops j≠some x:=fun i j hi hj hne x hx=>by
   have h1:=List.all_eq_true.1 (List.all_eq_true.1 hdst i (List.mem_range.2 hi)) j (List.mem_range.2 hj)
   simp only[hx,Bool.or_eq_true,decide_eq_true_eq]at h1
   rcases h1 with h1 | h1
   · exact absurd h1 hne
   · exact h1
 intro f
 induction f with
 | zero=>
   intro listed u w inv hcnt hK
   have hall:=cnt_zero hcnt
   have he:listed=doneA n ops.size:=by
    apply Array.ext
    · simp[doneA,inv.size];omega
    · intro i h1 h2
      have hi:i<ops.size:=by rw[←inv.size];exact h1
      by_cases hin:i<n
      · have:=hall i hin
        simp[h1]at this
        rw[this]
        simp[doneA,hin]
      · have:=inv.tail i (by omega) hi
        simp[h1]at this
        rw[this]
        simp[doneA,Array.getElem_append,hin]
   subst he
   exact⟨hseq,hL u w hK⟩
 | succ f ih=>
   intro listed u w inv hcnt hK
   obtain⟨i0,hi0,hun0,hbelow⟩:=cnt_pos (listed:=listed) (k:=n) (by omega)
   have hlt:∀i,i<n→i<listed.size:=fun i hi=>by rw[inv.size];omega
   have hboth:∀j,j<n→listed.getD j true=true→listed.getD j false=true:=fun j hj h=>by simpa[hlt j hj] using h
   have hr0:i0∈Region.ready .any ops listed:=by
    refine mem_ready.2 ⟨hun0,?_⟩
    have h1:=List.all_eq_true.1 hord i0 (List.mem_range.2 hi0)
    cases ho:ops[i0]? with
    | none=>simp[ho]at h1
    | some o=>
      refine⟨o,rfl,fun e he hb=>?_⟩
      simp only[ho]at h1
      have h2:=Array.all_eq_true'.1 h1 e he
      simp only[hb,Bool.not_true,Bool.false_or,decide_eq_true_eq]at h2
      exact hboth _ (by omega) (hbelow e.on h2)
   refine⟨(fun h=>by rw[h]at hr0;cases hr0),fun i hi=>?_⟩
   have hin:i<n:=by
    rcases Nat.lt_or_ge i n with h | h
    · exact h
    · exact absurd hi (tail_waits hs hc hn inv _ i0 rfl hi0 hun0 i h)
   refine⟨hin,?_⟩
   obtain⟨hun,o,ho,hall⟩:=mem_ready.1 hi
   obtain⟨hE,hJ⟩:=hK
   have hstep:=hop i hin u w o ho hE (fun d hdn hw=>by
     obtain⟨oj,hoj,e,he,hb,hon⟩:=Region.waitsFor_spec hw
     have:oj=o:=Option.some.inj (hoj.symm.trans ho)
     subst this
     have hl:=hall e he hb
     rw[hon]at hl
     exact hJ d hdn (by simpa[hlt d hdn] using hl))
   refine cOp_mono (fun a' w' h=>?_) (cOp_of_list ho hstep)
   obtain⟨v,rfl,hU,hv⟩:=h
   refine⟨fun _=>True,fun _ _=>trivial,trivial,?_⟩
   have hd':o.dst=dstOf ops i:=by simp[dstOf,ho]
   rw[hd',fr_put hdist hin]
   refine ih _ _ _ (inv.set hi hin) ?_ ⟨htrans _ _ _ hE hU,fun j hj hl=>?_⟩
   · have:=cnt_set (hlt i hin) hun hin
     omega
   · by_cases hji:j=i
     · subst hji;rw[updf_same];exact hv
     · rw[getD_set_ne true (Ne.symm hji)]at hl
       rw[updf_ne u v hji]
       exact(J j).mono _ _ _ (hJ j hj hl) hU
theorem wp_region_monor {id:Nat} {Q:Exit→Act→World→Prop} {w:World} {l:List Oper} (R:World→World→Prop) (hrefl:∀w,R w w) (htrans:∀a b c,R a b→R b c→R a c) (n:Nat) (J:Nat→MR R) (hm:P.follows .mixedOrders=true)
 (hB:monoB l.toArray n=true) (hop:∀i,i<n→OpR R P l.toArray a0 w.drew n J i)
 (hL:∀u w',R w.drew w'→(∀i,i<n→(J i).p (u i) w')→wpList P l.toArray Q (l.drop n) (fr l.toArray a0 u n) w'):(Code.region id l.toArray true).wp P Q a0 w:=by
 have hB':=hB
 simp only[monoB,Bool.and_eq_true,decide_eq_true_eq]at hB'
 obtain⟨⟨⟨⟨⟨⟨hsel,hn⟩,hs⟩,hc⟩,hord⟩,hdst⟩,hseq⟩:=hB'
 have hn2:n<l.length:=by simpa using hn
 have hdl:(l.drop n).length=l.toArray.size - n:=by simp
 have inv0:HeadInv .any l.toArray n (Array.replicate l.toArray.size false):=
  ⟨by simp,fun j oj _ hl=>(by rw[getD_replicate_false]at hl;cases hl),fun t _ ht=>getD_in (by simpa using ht) (getD_replicate_false _ _)⟩
 obtain⟨u0,hu0⟩:=fr_self (ops:=l.toArray) (a0:=a0) n
 have H:=monor_run (P:=P) (a0:=a0) (Lq:=fun a' w'=>wpList P l.toArray Q (l.drop n) a' w') htrans hB hop (fun u w' ⟨hE,hJ⟩=>hL u w' hE (fun i hi=>hJ i hi (doneA_at hi))) n _ u0 w.drew inv0 (cnt_new _ _ (by omega)) ⟨hrefl _,(fun i hi hl=>by
       have:(Array.replicate l.toArray.size false).getD i true=false:=by
        have:i<l.length:=by omega
        simp[this]
       rw[this]at hl;cases hl)⟩
 rw[hu0]at H
 refine wp_region_any hm ?_
 have:=wpAny_of_C (Q':=Q) (g:=l.toArray.size - n) (fun listed a' w' hL=>by
   have:=wpAny_of_seq (md:=.any) (Q':=Q) (l.drop n) n listed a' w' (fun j=>by simp[List.getElem?_drop]) (by rw[hdl];exact hL.1) hL.2
   rwa [hdl]at this) _ _ _ _ _ H
 rw[show n+(l.toArray.size - n)=l.toArray.size by omega]at this
 exact this
end law
end
/- The laws' numbers: the third group (a drawn region in which the result's own cells are written). -/
section
open Go.RowKit
open Nt
attribute [local go_sem] steady steadyUpon Cls same_cell
attribute [local irreducible] wpHead wpTree
def Sl4 (g:Nat) (w:World):Prop:=∃a0 l0 c0 a1 l1 c1 a2 l2 c2 a3 l3 c3,Blk w g 72 #[.slice a0 l0 c0,.slice a1 l1 c1,.slice a2 l2 c2,.slice a3 l3 c3]
theorem Sl4.ext {g:Nat} {w w':World} (h:Sl4 g w) (hu:Ext w w'):Sl4 g w':=by
 obtain⟨a0,l0,c0,a1,l1,c1,a2,l2,c2,a3,l3,c3,h⟩:=h
 exact⟨a0,l0,c0,a1,l1,c1,a2,l2,c2,a3,l3,c3,h.ext hu⟩
theorem Sl4.lt {g:Nat} {w:World} (h:Sl4 g w):g<w.heap.size:=by
 obtain⟨a0,l0,c0,a1,l1,c1,a2,l2,c2,a3,l3,c3,h⟩:=h
 exact h.lt
def Rt4 (g:Nat) (Ap:Option Addr) (lp cp:Nat) (Aq:Option Addr) (lq cq:Nat) (As:Option Addr) (ls cs P Q G:Nat) (w:World):Prop:=
 ∃Ag lg cg,Blk w g 72 #[.slice Ap lp cp,.slice Aq lq cq,.slice Ag lg cg,.slice As ls cs]∧NatV w (.agg #[.slice Ap lp cp]) P∧NatV w (.agg #[.slice Aq lq cq]) Q∧NatV w (.agg #[.slice Ag lg cg]) G
structure RR (g:Nat) (Rt:World→Prop) (w w':World):Prop where
 upd:Upd (fun k=>k=g) w w'
 sl:Sl4 g w→Sl4 g w'
 nat:Sl4 g w→∀v n,NatV w v n→NatV w' v n
 rt:Rt w→Rt w'
section
variable {g : Nat} {Rt : World → Prop}
theorem RR.refl (w:World):RR g Rt w w:=⟨Upd.refl _ _,id,fun _ _ _ h=>h,id⟩
theorem RR.trans (a b c:World) (h:RR g Rt a b) (k:RR g Rt b c):RR g Rt a c:=⟨h.upd.trans k.upd,fun x=>k.sl (h.sl x),fun x v n y=>k.nat (h.sl x) v n (h.nat x v n y),fun x=>k.rt (h.rt x)⟩
theorem RR.of {w w':World} (hx:∀a b,Ext a b→Rt a→Rt b) (h:Ext w w'):RR g Rt w w':=⟨Upd.ofExt h,fun x=>x.ext h,fun _ _ _ x=>x.ext h,hx _ _ h⟩
theorem RR.natL {w w':World} {A:Option Addr} {ns:List Nat} (h:RR g Rt w w') (hS:Sl4 g w) (hA:∀k,inA A k→k≠g) (hN:NatL w A ns):NatL w' A ns:=by
 obtain⟨ts,h1,h2,h3⟩:=hN
 exact⟨ts,h1,h2.upd h.upd (fun b o e=>hA b (by rw[e];simp[inA])),fun i hi=>h.nat hS _ _ (h3 i hi)⟩
theorem RR.natLb {w w':World} {b:Nat} {ns:List Nat} (h:RR g Rt w w') (hS:Sl4 g w) (hb:b≠g) (hN:NatL w (some ⟨b,0,none⟩) ns):NatL w' (some ⟨b,0,none⟩) ns:=
 h.natL hS (fun k hk => by have:b=k:=by simpa[inA] using hk
                           rw[←this];exact hb) hN
def NS (g:Nat) (Rt:World→Prop) (f:Option Addr→Nat→Nat→Value) (n:Nat):MR (RR g Rt):=⟨fun v w=>Sl4 g w∧∃A l c,v=f A l c∧NatV w (.agg #[.slice A l c]) n,fun _ _ _ ⟨h,A,l,c,e,hV⟩ k=>⟨k.sl h,A,l,c,e,k.nat h _ _ hV⟩⟩
def LS (g:Nat) (Rt:World→Prop) (m:Nat) (ns:List Nat):MR (RR g Rt):=⟨fun v w=>Sl4 g w∧∃b,v=.slice (some ⟨b,0,none⟩) m m∧b≠g∧NatL w (some ⟨b,0,none⟩) ns,fun _ _ _ ⟨h,b,e,hb,hV⟩ k=>⟨k.sl h,b,e,hb,k.natLb h hb hV⟩⟩
def TS (g:Nat) (Rt:World→Prop) (B:Option Addr) (m d k:Nat) (n:Nat) (ns:List Nat):MR (RR g Rt):=⟨fun v w=>Sl4 g w∧∃A l c b,v=.agg #[.slice B m d,.slice A l c,.slice (some ⟨b,0,none⟩) k k]∧b≠g∧NatV w (.agg #[.slice A l c]) n∧NatL w (some ⟨b,0,none⟩) ns,fun _ _ _ ⟨h,A,l,c,b,e,hb,hV,hN⟩ k=>⟨k.sl h,A,l,c,b,e,hb,k.nat h _ _ hV,k.natLb h hb hN⟩⟩
def SS (g:Nat) (Rt:World→Prop) (B:Option Addr) (m d:Nat) (C:Option Addr) (p q:Nat) (n1 k1:Nat) (ns1:List Nat) (n2 k2:Nat) (ns2:List Nat):MR (RR g Rt):=⟨fun v w=>Sl4 g w∧∃b A l c b1 A' l' c' b2,v=.slice (some ⟨b,0,none⟩) 2 2∧b≠g∧b1≠g∧b2≠g∧Blk w b 125 #[.slice B m d,.slice A l c,.slice (some ⟨b1,0,none⟩) k1 k1,.slice C p q,.slice A' l' c',.slice (some ⟨b2,0,none⟩) k2 k2]∧NatV w (.agg #[.slice A l c]) n1∧NatL w (some ⟨b1,0,none⟩) ns1∧NatV w (.agg #[.slice A' l' c']) n2∧NatL w (some ⟨b2,0,none⟩) ns2,
  fun _ _ _ ⟨h,b,A,l,c,b1,A',l',c',b2,e,hb,hb1,hb2,hB,hV,hN,hV',hN'⟩ k=>⟨k.sl h,b,A,l,c,b1,A',l',c',b2,e,hb,hb1,hb2,hB.upd k.upd hb,k.nat h _ _ hV,k.natLb h hb1 hN,k.nat h _ _ hV',k.natLb h hb2 hN'⟩⟩
def WS (g:Nat) (Rt:World→Prop):MR (RR g Rt):=⟨fun _ w=>Rt w,fun _ _ _ h k=>k.rt h⟩
end
end
/- The laws' numbers: the third group, walked. -/
section
open Go.RowKit
open Nt
attribute [local go_sem] steady steadyUpon Cls same_cell
attribute [local irreducible] wpHead wpTree
theorem Upd.cellw {T:Nat→Prop} {w w':World} (h:Upd T w w') {p:Addr} {v:Value} (hc:w.cell? p=some v) (hn:¬T p.block):w'.cell? p=some v:=(h.cell (World.block_lt_of_cell? w p hc) hn).trans hc
theorem natL1 {w:World} {b:Nat} {A:Option Addr} {l c n:Nat} (hb:Blk w b 39 #[.slice A l c]) (h:NatV w (.agg #[.slice A l c]) n):NatL w (some ⟨b,0,none⟩) [n]:=by
 refine⟨[⟨A,l,c⟩],rfl,fun j hj=>?_,fun j hj=>?_⟩
 · obtain rfl:j=0:=by
    have:j<1:=hj
    omega
   exact⟨b,0,rfl,hb.at 0 rfl⟩
 · obtain rfl:j=0:=by
    have:j<1:=hj
    omega
   exact h
theorem natL5 {w:World} {b:Nat} {A0 A1 A2 A3 A4:Option Addr} {l0 c0 n0 l1 c1 n1 l2 c2 n2 l3 c3 n3 l4 c4 n4:Nat} (hb:Blk w b 39 #[.slice A0 l0 c0,.slice A1 l1 c1,.slice A2 l2 c2,.slice A3 l3 c3,.slice A4 l4 c4])
 (h0:NatV w (.agg #[.slice A0 l0 c0]) n0) (h1:NatV w (.agg #[.slice A1 l1 c1]) n1) (h2:NatV w (.agg #[.slice A2 l2 c2]) n2) (h3:NatV w (.agg #[.slice A3 l3 c3]) n3) (h4:NatV w (.agg #[.slice A4 l4 c4]) n4):NatL w (some ⟨b,0,none⟩) [n0,n1,n2,n3,n4]:=by
 refine⟨[⟨A0,l0,c0⟩,⟨A1,l1,c1⟩,⟨A2,l2,c2⟩,⟨A3,l3,c3⟩,⟨A4,l4,c4⟩],rfl,fun j hj=>?_,fun j hj=>?_⟩
 · match j,hj with
   | 0,_=>exact⟨b,0,rfl,hb.at 0 rfl⟩
   | 1,_=>exact⟨b,0,rfl,hb.at 1 rfl⟩
   | 2,_=>exact⟨b,0,rfl,hb.at 2 rfl⟩
   | 3,_=>exact⟨b,0,rfl,hb.at 3 rfl⟩
   | 4,_=>exact⟨b,0,rfl,hb.at 4 rfl⟩
 · match j,hj with
   | 0,_=>exact h0
   | 1,_=>exact h1
   | 2,_=>exact h2
   | 3,_=>exact h3
   | 4,_=>exact h4
theorem rr_store {g:Nat} {Rt:World→Prop} {w:World} {a0 a1 a2 a3 b0 b1 b2 b3:Option Addr} {l0 l1 l2 l3 c0 c1 c2 c3 m0 m1 m2 m3 d0 d1 d2 d3:Nat} (hb:Blk w g 72 #[.slice a0 l0 c0,.slice a1 l1 c1,.slice a2 l2 c2,.slice a3 l3 c3])
 (hr:Rt ((((w.setCell ⟨g,0,none⟩ (.slice b0 m0 d0)).setCell ⟨g,1,none⟩ (.slice b1 m1 d1)).setCell ⟨g,2,none⟩ (.slice b2 m2 d2)).setCell ⟨g,3,none⟩ (.slice b3 m3 d3))):
 RR g Rt w ((((w.setCell ⟨g,0,none⟩ (.slice b0 m0 d0)).setCell ⟨g,1,none⟩ (.slice b1 m1 d1)).setCell ⟨g,2,none⟩ (.slice b2 m2 d2)).setCell ⟨g,3,none⟩ (.slice b3 m3 d3)):=
 ⟨((((Upd.refl (fun k=>k=g) w).setCell (p:=⟨g,0,none⟩) (.inl rfl) _).setCell (p:=⟨g,1,none⟩) (.inl rfl) _).setCell (p:=⟨g,2,none⟩) (.inl rfl) _).setCell (p:=⟨g,3,none⟩) (.inl rfl) _,fun _=>⟨_,_,_,_,_,_,_,_,_,_,_,_,blk4 hb _ _ _ _⟩,fun _ _ _ h=>nat4 h hb,fun _=>hr⟩
set_option maxRecDepth 100000 in
set_option maxHeartbeats 4000000 in
theorem gnums2_any (z:Int) (As:Option Addr) (ls cs:Nat) (w:World) (hz:(IntKind.u64.wrap z).tmod 3=((2:Nat):Int)):
 Calls Tryz.prog 23 #[.int .i64 z,.slice As ls cs] w (RetNums w 2 As ls cs):=by
 have hz':(IntKind.u64.wrap z).tmod 3=2:=hz
 clear hz
 go_enter Tryz.func23,Tryz.ntmps23
 go_wp2_with fail
 refine name_c (fun W hW=>?_)
 have b4:Blk W w.heap.size 72 #[.slice none 0 0,.slice none 0 0,.slice none 0 0,.slice none 0 0]:=by rw[hW];exact Blk.new _ _ _
 have hE:Ext w W:=by rw[hW];exact(Upd.refl _ _).alloc _
 clear hW
 refine(new_any 1152921504606847009 _ (by decide)).mono ?_
 rintro e w1 ⟨Aq,lq,cq,rfl,hVq,hU1⟩
 go_wp2_with fail
 refine(gbig_any 4831838208 595 _ (by decide) (by decide)).mono ?_
 rintro e w2 ⟨Ap,lp,cp,rfl,hVp,hU2⟩
 go_wp2_with fail
 refine name_w (fun X hX=>?_)
 have hg1:w.heap.size<w1.heap.size:=Nat.lt_of_lt_of_le b4.lt hU1.size
 have hg2:w1.heap.size<w2.heap.size:=by have:=hU2.size;simp at this;omega
 have b6:Box X w1.heap.size 39 (.slice Aq lq cq):=by rw[hX];exact((Box.new _ _ _).ext hU2).alloc _
 have b7:Box X w2.heap.size 39 (.slice Ap lp cp):=by rw[hX];exact Box.new _ _ _
 have hE2:Ext W X:=by rw[hX];exact(hU1.trans (Upd.trans (by repeat (first | (with_reducible exact Upd.refl _ _) | (with_reducible assumption) | (refine Upd.setCell ?_ (.inr (by first | exact Nat.le_refl _ | (dsimp only;omega) | (simp;done) | (simp;omega))) _) | (with_reducible refine Upd.alloc ?_ _) | (with_reducible refine Upd.drew ?_) | (with_reducible refine Upd.trans ?_ (by with_reducible assumption)))) hU2)).alloc _
 have hE3:Ext w1 X:=by rw[hX];exact(Upd.trans (by repeat (first | (with_reducible exact Upd.refl _ _) | (with_reducible assumption) | (refine Upd.setCell ?_ (.inr (by first | exact Nat.le_refl _ | (dsimp only;omega) | (simp;done) | (simp;omega))) _) | (with_reducible refine Upd.alloc ?_ _) | (with_reducible refine Upd.drew ?_) | (with_reducible refine Upd.trans ?_ (by with_reducible assumption)))) hU2).alloc _
 have b4':=b4.ext hE2
 replace hVq:=(hVq.ext hE3).ext (Upd.refl _ X).drew
 replace hVp:NatV X.drew (.agg #[.slice Ap lp cp]) (4831838208*4294967296+595):=by rw[hX];exact(hVp.ext ((Upd.refl _ _).alloc _)).ext (Upd.refl _ _).drew
 have hEX:=hE.trans hE2
 have qP:X.drew.cell? ⟨w2.heap.size,0,none⟩=some (.slice Ap lp cp):=b7.drew.cell
 have qQ:X.drew.cell? ⟨w1.heap.size,0,none⟩=some (.slice Aq lq cq):=b6.drew.cell
 obtain⟨g,hg⟩:∃g,g=w.heap.size:=⟨_,rfl⟩
 have neP:¬w2.heap.size=g:=by omega
 have neQ:¬w1.heap.size=g:=by omega
 rw[←hg]at b4'
 have Hg:=hide hg
 rw[←hg]
 have hS0:Sl4 g X.drew:=⟨none,0,0,none,0,0,none,0,0,none,0,0,b4'.ext (Upd.refl _ _).drew⟩
 obtain⟨Rt,hRt⟩:∃Rt,Rt=Rt4 g Ap lp cp Aq lq cq As ls cs (4831838208*4294967296+595) 1152921504606847009 262144:=⟨_,rfl⟩
 have HRt:=hide hRt
 have hRx:∀a b,Ext a b→Rt a→Rt b:=by
  rw[hRt]
  rintro a b hu ⟨Ag,lg,cg,h1,h2,h3,h4⟩
  exact⟨Ag,lg,cg,h1.ext hu,h2.ext hu,h3.ext hu,h4.ext hu⟩
 clear b4 b6 b7 hU1 hU2 hE hE2 hE3 hX hg hRt b4'
 refine wp_region_monor (RR g Rt) RR.refl RR.trans 21 (fun i=>([MR.eq _ (.agg #[.slice Ap lp cp]),MR.eq _ (.agg #[.slice Aq lq cq]),NS g Rt (fun A l c=>.agg #[.slice A l c]) 262144,MR.eq _ (.slice As ls cs),NS g Rt (fun A l c=>.agg #[.slice Ap lp cp,.slice Aq lq cq,.slice A l c,.slice As ls cs]) 262144,MR.eq _ (.agg #[.slice Aq lq cq]),NS g Rt (fun A l c=>.agg #[.slice A l c]) 13,NS g Rt (fun A l c=>.agg #[.slice A l c]) 2,NS g Rt (fun A l c=>.agg #[.slice A l c]) 3,NS g Rt (fun A l c=>.agg #[.slice A l c]) 11,NS g Rt (fun A l c=>.agg #[.slice A l c]) 683,NS g Rt (fun A l c=>.agg #[.slice A l c]) 2971,LS g Rt 5 [2,3,11,683,2971],TS g Rt Aq lq cq 5 13 [2,3,11,683,2971],MR.eq _ (.agg #[.slice Ap lp cp]),NS g Rt (fun A l c=>.agg #[.slice A l c]) 2,MR.eq _ (.agg #[.slice Aq lq cq]),LS g Rt 1 [1152921504606847009],TS g Rt Ap lp cp 1 2 [1152921504606847009],SS g Rt Aq lq cq Ap lp cp 13 5 [2,3,11,683,2971] 2 1 [1152921504606847009],WS g Rt]:List (MR (RR g Rt))).getD i (MR.eq _ undef)) (by kernel_rfl) (by kernel_rfl) ?_ ?_
 · intro i hi
   match i,hi with
   | 0,_=>
     intro u wx o ho hE hw
     injection (ho:some _=some o)with ho
     subst ho
     have hS:=hE.sl hS0
     have cx:=hE.upd.cellw qP neP
     simp only[fr,dstOf]
     go_simp
     go_wp2
     first | exact RR.refl _ | exact⟨_,rfl,RR.refl _,rfl⟩ | exact⟨RR.refl _,rfl⟩
   | 1,_=>
     intro u wx o ho hE hw
     injection (ho:some _=some o)with ho
     subst ho
     have hS:=hE.sl hS0
     have cx:=hE.upd.cellw qQ neQ
     simp only[fr,dstOf]
     go_simp
     go_wp2
     first | exact RR.refl _ | exact⟨_,rfl,RR.refl _,rfl⟩ | exact⟨RR.refl _,rfl⟩
   | 2,_=>
     intro u wx o ho hE hw
     injection (ho:some _=some o)with ho
     subst ho
     have hS:=hE.sl hS0
     simp only[fr,dstOf]
     go_simp
     go_wp2_with fail
     refine(new_any 262144 _ (by decide)).mono ?_
     rintro e wn ⟨A,l,c,rfl,hV,hU⟩
     go_wp2_with fail
     first | exact⟨_,rfl,RR.of hRx hU,hS.ext hU,A,l,c,rfl,hV⟩ | exact⟨RR.of hRx hU,hS.ext hU,A,l,c,rfl,hV⟩
   | 3,_=>
     intro u wx o ho hE hw
     injection (ho:some _=some o)with ho
     subst ho
     have hS:=hE.sl hS0
     simp only[fr,dstOf]
     go_simp
     go_wp2
     first | exact RR.refl _ | exact⟨_,rfl,RR.refl _,rfl⟩ | exact⟨RR.refl _,rfl⟩
   | 4,_=>
     intro u wx o ho hE hw
     injection (ho:some _=some o)with ho
     subst ho
     have hS:=hE.sl hS0
     have f0:u 0=.agg #[.slice Ap lp cp]:=hw 0 (by omega) (by kernel_rfl)
     have f1:u 1=.agg #[.slice Aq lq cq]:=hw 1 (by omega) (by kernel_rfl)
     have hq2:(NS g Rt (fun A l c=>.agg #[.slice A l c]) 262144).p (u 2) wx:=hw 2 (by omega) (by kernel_rfl)
     obtain⟨-,A2,l2,c2,f2,hV2⟩:=hq2
     replace f2:u 2=.agg #[.slice A2 l2 c2]:=f2
     have f3:u 3=.slice As ls cs:=hw 3 (by omega) (by kernel_rfl)
     simp only[fr,dstOf]
     go_simp
     go_wp2
     first | exact⟨_,rfl,RR.refl _,hS,A2,l2,c2,rfl,hV2⟩ | exact⟨RR.refl _,hS,A2,l2,c2,rfl,hV2⟩
   | 5,_=>
     intro u wx o ho hE hw
     injection (ho:some _=some o)with ho
     subst ho
     have hS:=hE.sl hS0
     have cx:=hE.upd.cellw qQ neQ
     simp only[fr,dstOf]
     go_simp
     go_wp2
     first | exact RR.refl _ | exact⟨_,rfl,RR.refl _,rfl⟩ | exact⟨RR.refl _,rfl⟩
   | 6,_=>
     intro u wx o ho hE hw
     injection (ho:some _=some o)with ho
     subst ho
     have hS:=hE.sl hS0
     simp only[fr,dstOf]
     go_simp
     go_wp2_with fail
     refine(new_any 13 _ (by decide)).mono ?_
     rintro e wn ⟨A,l,c,rfl,hV,hU⟩
     go_wp2_with fail
     first | exact⟨_,rfl,RR.of hRx hU,hS.ext hU,A,l,c,rfl,hV⟩ | exact⟨RR.of hRx hU,hS.ext hU,A,l,c,rfl,hV⟩
   | 7,_=>
     intro u wx o ho hE hw
     injection (ho:some _=some o)with ho
     subst ho
     have hS:=hE.sl hS0
     simp only[fr,dstOf]
     go_simp
     go_wp2_with fail
     refine(new_any 2 _ (by decide)).mono ?_
     rintro e wn ⟨A,l,c,rfl,hV,hU⟩
     go_wp2_with fail
     first | exact⟨_,rfl,RR.of hRx hU,hS.ext hU,A,l,c,rfl,hV⟩ | exact⟨RR.of hRx hU,hS.ext hU,A,l,c,rfl,hV⟩
   | 8,_=>
     intro u wx o ho hE hw
     injection (ho:some _=some o)with ho
     subst ho
     have hS:=hE.sl hS0
     simp only[fr,dstOf]
     go_simp
     go_wp2_with fail
     refine(new_any 3 _ (by decide)).mono ?_
     rintro e wn ⟨A,l,c,rfl,hV,hU⟩
     go_wp2_with fail
     first | exact⟨_,rfl,RR.of hRx hU,hS.ext hU,A,l,c,rfl,hV⟩ | exact⟨RR.of hRx hU,hS.ext hU,A,l,c,rfl,hV⟩
   | 9,_=>
     intro u wx o ho hE hw
     injection (ho:some _=some o)with ho
     subst ho
     have hS:=hE.sl hS0
     simp only[fr,dstOf]
     go_simp
     go_wp2_with fail
     refine(new_any 11 _ (by decide)).mono ?_
     rintro e wn ⟨A,l,c,rfl,hV,hU⟩
     go_wp2_with fail
     first | exact⟨_,rfl,RR.of hRx hU,hS.ext hU,A,l,c,rfl,hV⟩ | exact⟨RR.of hRx hU,hS.ext hU,A,l,c,rfl,hV⟩
   | 10,_=>
     intro u wx o ho hE hw
     injection (ho:some _=some o)with ho
     subst ho
     have hS:=hE.sl hS0
     simp only[fr,dstOf]
     go_simp
     go_wp2_with fail
     refine(new_any 683 _ (by decide)).mono ?_
     rintro e wn ⟨A,l,c,rfl,hV,hU⟩
     go_wp2_with fail
     first | exact⟨_,rfl,RR.of hRx hU,hS.ext hU,A,l,c,rfl,hV⟩ | exact⟨RR.of hRx hU,hS.ext hU,A,l,c,rfl,hV⟩
   | 11,_=>
     intro u wx o ho hE hw
     injection (ho:some _=some o)with ho
     subst ho
     have hS:=hE.sl hS0
     simp only[fr,dstOf]
     go_simp
     go_wp2_with fail
     refine(new_any 2971 _ (by decide)).mono ?_
     rintro e wn ⟨A,l,c,rfl,hV,hU⟩
     go_wp2_with fail
     first | exact⟨_,rfl,RR.of hRx hU,hS.ext hU,A,l,c,rfl,hV⟩ | exact⟨RR.of hRx hU,hS.ext hU,A,l,c,rfl,hV⟩
   | 12,_=>
     intro u wx o ho hE hw
     injection (ho:some _=some o)with ho
     subst ho
     have hS:=hE.sl hS0
     have hq7:(NS g Rt (fun A l c=>.agg #[.slice A l c]) 2).p (u 7) wx:=hw 7 (by omega) (by kernel_rfl)
     obtain⟨-,A7,l7,c7,f7,hV7⟩:=hq7
     replace f7:u 7=.agg #[.slice A7 l7 c7]:=f7
     have hq8:(NS g Rt (fun A l c=>.agg #[.slice A l c]) 3).p (u 8) wx:=hw 8 (by omega) (by kernel_rfl)
     obtain⟨-,A8,l8,c8,f8,hV8⟩:=hq8
     replace f8:u 8=.agg #[.slice A8 l8 c8]:=f8
     have hq9:(NS g Rt (fun A l c=>.agg #[.slice A l c]) 11).p (u 9) wx:=hw 9 (by omega) (by kernel_rfl)
     obtain⟨-,A9,l9,c9,f9,hV9⟩:=hq9
     replace f9:u 9=.agg #[.slice A9 l9 c9]:=f9
     have hq10:(NS g Rt (fun A l c=>.agg #[.slice A l c]) 683).p (u 10) wx:=hw 10 (by omega) (by kernel_rfl)
     obtain⟨-,A10,l10,c10,f10,hV10⟩:=hq10
     replace f10:u 10=.agg #[.slice A10 l10 c10]:=f10
     have hq11:(NS g Rt (fun A l c=>.agg #[.slice A l c]) 2971).p (u 11) wx:=hw 11 (by omega) (by kernel_rfl)
     obtain⟨-,A11,l11,c11,f11,hV11⟩:=hq11
     replace f11:u 11=.agg #[.slice A11 l11 c11]:=f11
     simp only[fr,dstOf]
     go_simp
     go_wp2
     have hX:=(Upd.refl (fun _=>False) wx).alloc (.cells #[.slice A7 l7 c7,.slice A8 l8 c8,.slice A9 l9 c9,.slice A10 l10 c10,.slice A11 l11 c11] 39)
     have hb:=Blk.new wx 39 #[.slice A7 l7 c7,.slice A8 l8 c8,.slice A9 l9 c9,.slice A10 l10 c10,.slice A11 l11 c11]
     refine⟨RR.of hRx hX,hS.ext hX,wx.heap.size,rfl,Nat.ne_of_gt hS.lt,natL5 hb (hV7.ext hX) (hV8.ext hX) (hV9.ext hX) (hV10.ext hX) (hV11.ext hX)⟩
   | 13,_=>
     intro u wx o ho hE hw
     injection (ho:some _=some o)with ho
     subst ho
     have hS:=hE.sl hS0
     have f5:u 5=.agg #[.slice Aq lq cq]:=hw 5 (by omega) (by kernel_rfl)
     have hq6:(NS g Rt (fun A l c=>.agg #[.slice A l c]) 13).p (u 6) wx:=hw 6 (by omega) (by kernel_rfl)
     obtain⟨-,A6,l6,c6,f6,hV6⟩:=hq6
     replace f6:u 6=.agg #[.slice A6 l6 c6]:=f6
     have hq12:(LS g Rt 5 [2,3,11,683,2971]).p (u 12) wx:=hw 12 (by omega) (by kernel_rfl)
     obtain⟨-,b12,f12,hb12,hN12⟩:=hq12
     simp only[fr,dstOf]
     go_simp
     go_wp2
     first | exact⟨_,rfl,RR.refl _,hS,A6,l6,c6,b12,rfl,hb12,hV6,hN12⟩ | exact⟨RR.refl _,hS,A6,l6,c6,b12,rfl,hb12,hV6,hN12⟩
   | 14,_=>
     intro u wx o ho hE hw
     injection (ho:some _=some o)with ho
     subst ho
     have hS:=hE.sl hS0
     have cx:=hE.upd.cellw qP neP
     simp only[fr,dstOf]
     go_simp
     go_wp2
     first | exact RR.refl _ | exact⟨_,rfl,RR.refl _,rfl⟩ | exact⟨RR.refl _,rfl⟩
   | 15,_=>
     intro u wx o ho hE hw
     injection (ho:some _=some o)with ho
     subst ho
     have hS:=hE.sl hS0
     simp only[fr,dstOf]
     go_simp
     go_wp2_with fail
     refine(new_any 2 _ (by decide)).mono ?_
     rintro e wn ⟨A,l,c,rfl,hV,hU⟩
     go_wp2_with fail
     first | exact⟨_,rfl,RR.of hRx hU,hS.ext hU,A,l,c,rfl,hV⟩ | exact⟨RR.of hRx hU,hS.ext hU,A,l,c,rfl,hV⟩
   | 16,_=>
     intro u wx o ho hE hw
     injection (ho:some _=some o)with ho
     subst ho
     have hS:=hE.sl hS0
     have cx:=hE.upd.cellw qQ neQ
     simp only[fr,dstOf]
     go_simp
     go_wp2
     first | exact RR.refl _ | exact⟨_,rfl,RR.refl _,rfl⟩ | exact⟨RR.refl _,rfl⟩
   | 17,_=>
     intro u wx o ho hE hw
     injection (ho:some _=some o)with ho
     subst ho
     have hS:=hE.sl hS0
     have f16:u 16=.agg #[.slice Aq lq cq]:=hw 16 (by omega) (by kernel_rfl)
     have hVq9:=hE.nat hS0 _ _ hVq
     simp only[fr,dstOf]
     go_simp
     go_wp2
     have hX:=(Upd.refl (fun _=>False) wx).alloc (.cells #[.slice Aq lq cq] 39)
     have hb:=Blk.new wx 39 #[.slice Aq lq cq]
     refine⟨RR.of hRx hX,hS.ext hX,wx.heap.size,rfl,Nat.ne_of_gt hS.lt,natL1 hb (hVq9.ext hX)⟩
   | 18,_=>
     intro u wx o ho hE hw
     injection (ho:some _=some o)with ho
     subst ho
     have hS:=hE.sl hS0
     have f14:u 14=.agg #[.slice Ap lp cp]:=hw 14 (by omega) (by kernel_rfl)
     have hq15:(NS g Rt (fun A l c=>.agg #[.slice A l c]) 2).p (u 15) wx:=hw 15 (by omega) (by kernel_rfl)
     obtain⟨-,A15,l15,c15,f15,hV15⟩:=hq15
     replace f15:u 15=.agg #[.slice A15 l15 c15]:=f15
     have hq17:(LS g Rt 1 [1152921504606847009]).p (u 17) wx:=hw 17 (by omega) (by kernel_rfl)
     obtain⟨-,b17,f17,hb17,hN17⟩:=hq17
     simp only[fr,dstOf]
     go_simp
     go_wp2
     first | exact⟨_,rfl,RR.refl _,hS,A15,l15,c15,b17,rfl,hb17,hV15,hN17⟩ | exact⟨RR.refl _,hS,A15,l15,c15,b17,rfl,hb17,hV15,hN17⟩
   | 19,_=>
     intro u wx o ho hE hw
     injection (ho:some _=some o)with ho
     subst ho
     have hS:=hE.sl hS0
     have hq13:(TS g Rt Aq lq cq 5 13 [2,3,11,683,2971]).p (u 13) wx:=hw 13 (by omega) (by kernel_rfl)
     obtain⟨-,A13,l13,c13,b13,f13,hb13,hV13,hN13⟩:=hq13
     have hq18:(TS g Rt Ap lp cp 1 2 [1152921504606847009]).p (u 18) wx:=hw 18 (by omega) (by kernel_rfl)
     obtain⟨-,A18,l18,c18,b18,f18,hb18,hV18,hN18⟩:=hq18
     simp only[fr,dstOf]
     go_simp
     go_wp2
     have hX:=(Upd.refl (fun _=>False) wx).alloc (.cells #[.slice Aq lq cq,.slice A13 l13 c13,.slice (some ⟨b13,0,none⟩) 5 5,.slice Ap lp cp,.slice A18 l18 c18,.slice (some ⟨b18,0,none⟩) 1 1] 125)
     have hb:=Blk.new wx 125 #[.slice Aq lq cq,.slice A13 l13 c13,.slice (some ⟨b13,0,none⟩) 5 5,.slice Ap lp cp,.slice A18 l18 c18,.slice (some ⟨b18,0,none⟩) 1 1]
     exact⟨RR.of hRx hX,hS.ext hX,wx.heap.size,A13,l13,c13,b13,A18,l18,c18,b18,rfl,Nat.ne_of_gt hS.lt,hb13,hb18,hb,hV13.ext hX,hN13.ext hX,hV18.ext hX,hN18.ext hX⟩
   | 20,_=>
     intro u wx o ho hE hw
     injection (ho:some _=some o)with ho
     subst ho
     have hS:=hE.sl hS0
     have hq4:(NS g Rt (fun A l c=>.agg #[.slice Ap lp cp,.slice Aq lq cq,.slice A l c,.slice As ls cs]) 262144).p (u 4) wx:=hw 4 (by omega) (by kernel_rfl)
     obtain⟨-,A4,l4,c4,f4,hV4⟩:=hq4
     replace f4:u 4=.agg #[.slice Ap lp cp,.slice Aq lq cq,.slice A4 l4 c4,.slice As ls cs]:=f4
     have hVq9:=hE.nat hS0 _ _ hVq
     have hVp9:=hE.nat hS0 _ _ hVp
     have hS9:=hS
     obtain⟨a0,m0,d0,a1,m1,d1,a2,m2,d2,a3,m3,d3,hB9⟩:=hS
     simp only[fr,dstOf]
     go_simp
     have y0:=hB9.at 0 rfl
     have y1:=hB9.at 1 rfl
     have y2:=hB9.at 2 rfl
     have y3:=hB9.at 3 rfl
     have x0:=hB9.frozen 0
     have x1:=hB9.frozen 1
     have x2:=hB9.frozen 2
     have x3:=hB9.frozen 3
     go_wp2
     have hr:Rt ((((wx.setCell ⟨g,0,none⟩ (.slice Ap lp cp)).setCell ⟨g,1,none⟩ (.slice Aq lq cq)).setCell ⟨g,2,none⟩ (.slice A4 l4 c4)).setCell ⟨g,3,none⟩ (.slice As ls cs)):=by
      rw[HRt.out]
      exact⟨A4,l4,c4,blk4 hB9 _ _ _ _,nat4 hVp9 hB9,nat4 hVq9 hB9,nat4 hV4 hB9⟩
     exact⟨rr_store hB9 hr,undef,hr⟩
   | k+21,h=>exact absurd h (by omega)
 · intro u wx hE hJ
   have hq19:(SS g Rt Aq lq cq Ap lp cp 13 5 [2,3,11,683,2971] 2 1 [1152921504606847009]).p (u 19) wx:=hJ 19 (by omega)
   obtain⟨-,b19,A19,l19,c19,d19,B19,m19,e19,d29,f19,hb19,hb29,hb39,hB19,hV19,hN19,hV29,hN29⟩:=hq19
   have hR:Rt wx:=hJ 20 (by omega)
   clear hJ
   simp only[fr,dstOf]
   go_simp
   try simp only[List.drop_succ_cons,List.drop_zero]
   go_wp2_with fail
   rw[HRt.out]at hR
   obtain⟨Ag,lg,cg,hB,hP,hQ,hG⟩:=hR
   have q0:=hB.at 0 rfl
   have q1:=hB.at 1 rfl
   have q2:=hB.at 2 rfl
   have q3:=hB.at 3 rfl
   have hEf:Ext w wx:=hE.upd.fresh hEX.drew (fun k hk=>by have:=Hg.out;omega)
   have eP:(4831838208*4294967296+595:Nat)=grP 2:=by decide
   rw[eP]at hP
   refine bodyPost_ret (v:=.tuple #[.agg #[.slice Ap lp cp,.slice Aq lq cq,.slice Ag lg cg,.slice As ls cs],.slice (some ⟨b19,0,none⟩) 2 2]) ?_ rfl ⟨Ap,lp,cp,Aq,lq,cq,Ag,lg,cg,_,2,2,rfl,hP,hQ,hG,?_,rfl,hEf⟩
   · simp[results,Tryz.results23,go_sem,q0,q1,q2,q3]
   · intro i hi
     match i,hi with
     | 0,_=>exact⟨b19,0,Aq,lq,cq,A19,l19,c19,some ⟨d19,0,none⟩,5,5,rfl,hB19.at 0 rfl,hB19.at 1 rfl,hB19.at 2 rfl,hQ,hV19,hN19,rfl,Nat.le_refl _,by decide⟩
     | 1,_=>exact⟨b19,0,Ap,lp,cp,B19,m19,e19,some ⟨d29,0,none⟩,1,1,rfl,hB19.at 3 rfl,hB19.at 4 rfl,hB19.at 5 rfl,hP,hV29,hN29,rfl,Nat.le_refl _,by decide⟩
end
/- The law on products of powers. -/
section
open Go.RowKit
open Nt Sha
attribute [local go_sem] steady steadyUpon Cls same_cell
attribute [local irreducible] wpHead wpTree
theorem gnums_any (z:Int):∃r,r<3∧∀(As:Option Addr) (ls cs:Nat) w,Calls Tryz.prog 23 #[.int .i64 z,.slice As ls cs] w (RetNums w r As ls cs):=by
 obtain⟨K,hK,hlt⟩:=u64_mod3 z
 match K,hlt,hK with
 | 0,_,h=>exact⟨0,by omega,fun As ls cs w=>gnums0_any z As ls cs w h⟩
 | 1,_,h=>exact⟨1,by omega,fun As ls cs w=>gnums1_any z As ls cs w h⟩
 | 2,_,h=>exact⟨2,by omega,fun As ls cs w=>gnums2_any z As ls cs w h⟩
end
end Go.Proofs.YtbhhjfhepkbfgaaGreat
