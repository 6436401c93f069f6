/- The reader of package wire, walked: take, num, text. -/
import Derived.Test.YtbhhjfhepkbfgaaGreatWsSli
namespace Go.Proofs.YtbhhjfhepkbfgaaGreat
set_option linter.unusedSimpArgs false
set_option linter.unusedVariables false
open Go.RowKit
open Nt Sha
attribute [local go_sem] steady steadyUpon Cls same_cell
attribute [local irreducible] wpHead wpTree
structure RdA (w:World) (O g:Nat) (A:Option Addr) (l c:Nat) (rest:List B8) (bad:Bool):Prop where
 cells:Two w g 102 (.slice A l c) (.bool bad)
 sl:Sl by8 w A rest
 len:rest.length=l
 cap:l≤c
 max:c≤maxLen
 old:0<rest.length→∀k,inA A k→k<O
theorem Sl.keep {α:Type} [Inhabited α] {f:α→Value} {w w':World} {A:Option Addr} {xs:List α} {T:Nat→Prop} (h:Sl f w A xs) (hu:Upd T w w') (hT:0<xs.length→∀k,inA A k→¬T k):Sl f w' A xs:=by
 rcases Nat.eq_zero_or_pos xs.length with h0 | h0
 · rw[List.eq_nil_of_length_eq_zero h0];exact Sl.nil
 · exact h.upd hu (fun b o e=>hT h0 b (by rw[e];simp[inA]))
def Rd (w:World) (O g:Nat) (s:RdS):Prop:=O≤g∧∃A l c,RdA w O g A l c s.1 s.2
theorem Rd.keep {w w':World} {O g:Nat} {s:RdS} {T:Nat→Prop} (h:Rd w O g s) (hu:Upd T w w') (hg:¬T g) (hO:∀k,k<O→¬T k):Rd w' O g s:=by
 obtain⟨h0,A,l,c,h⟩:=h
 exact⟨h0,A,l,c,h.cells.upd hu hg,h.sl.keep hu (fun hp k hk=>hO k (h.old hp k hk)),h.len,h.cap,h.max,h.old⟩
theorem Rd.ext {w w':World} {O g:Nat} {s:RdS} (h:Rd w O g s) (hu:Ext w w'):Rd w' O g s:=h.keep hu (fun h=>h) (fun _ _ h=>h)
theorem Rd.lt {w:World} {O g:Nat} {s:RdS} (h:Rd w O g s):O≤g∧g<w.heap.size:=by
 obtain⟨h0,A,l,c,h⟩:=h
 exact⟨h0,h.cells.lt⟩
def RetTake (w:World) (O g n:Nat) (bs:List B8) (s:RdS) (e:Ending) (w':World):Prop:=
 ∃A c,e=.returned (.slice A n c)∧bs.length=n∧Own w' w.heap.size 5 A c (bs.map by8)∧Rd w' O g s∧Upd (only g) w w'
theorem takeR_length (n:Nat) (s:RdS):(takeR n s).1.length=n:=by
 unfold takeR
 split
 · simp
 · simp;omega
set_option maxRecDepth 100000 in
set_option maxHeartbeats 1000000 in
theorem rdtake_any (O g n:Nat) (s:RdS) (w:World) (h:Rd w O g s) (hn:n≤1000000):
 Calls Tryz.prog 83 #[.pointer (some ⟨g,0,none⟩),.int .i64 (n:Int)] w (RetTake w O g n (takeR n s).1 (takeR n s).2):=by
 obtain⟨rest,bad⟩:=s
 obtain⟨hO,A,l,c,h⟩:=h
 obtain⟨r,hr⟩:∃r,r=takeR n (rest,bad):=⟨_,rfl⟩
 rw[←hr]
 have Hr:=hide hr
 have H:=hide h
 have p0:=h.cells.cell0
 have p1:=h.cells.cell1
 have f0:=h.cells.frozen 0
 have f1:=h.cells.frozen 1
 have hlc:l≤c∧c≤9223372036854775807:=⟨h.cap,h.max⟩
 clear hr h
 go_enter Tryz.func83,Tryz.ntmps83
 by_cases hlt:l<n
 · have hI:(l:Int)<(n:Int):=by omega
   have hR:=Hr.out
   unfold takeR at hR
   rw[if_pos (by rw[H.out.len];exact hlt)]at hR
   have hU1:Upd (only g) w (w.setCell ⟨g,1,none⟩ (.bool true)):=(Upd.refl _ _).setCell (T:=only g) (p:=⟨g,1,none⟩) (.inl rfl) _
   have hR1:RdA (w.setCell ⟨g,1,none⟩ (.bool true)) O g A l c rest true:=⟨H.out.cells.set1 _,H.out.sl.keep hU1 (fun h0 k hk e=>by
     have h1:=H.out.old h0 k hk
     have:k=g:=e
     omega),H.out.len,H.out.cap,H.out.max,H.out.old⟩
   have HR:=hide hR
   have HR1:=hide hR1
   have HU1:=hide hU1
   have hsz:=hU1.size
   clear hR hR1 hU1 hlt
   go_wp2_with (at_make;go_must (refine wpList_mk _ _ _ Tryz.n_el8 rfl rfl n rfl rfl rfl rfl (by omega) (by unfold maxLen;omega) by8 rfl rfl (B:=w.heap.size) hsz ?_);intro gz w2 hOz hgz hU2)
   go_ret
   obtain rfl:gz=w.heap.size:=by rw[hgz];simp
   rw[HR.out]
   exact⟨_,_,rfl,List.length_replicate,hOz,Rd.ext ⟨hO,_,_,_,HR1.out⟩ hU2,HU1.out.trans (Upd.ofExt hU2)⟩
 · have hI:¬(l:Int)<(n:Int):=by omega
   have hR:=Hr.out
   unfold takeR at hR
   rw[if_neg (by rw[H.out.len];exact hlt)]at hR
   have hs1:∀w,(Instr.sliceAt 24 (.slice A l c) none (some (.int .i64 (n:Int))) none).run Tryz.prog w=.ok (.slice A n c) w:=fun w=>run_cut_h Tryz.n_el8.under Tryz.n_sz8 A l c n .i64 (by omega) w
   have hs2:∀w,(Instr.sliceAt 24 (.slice A l c) (some (.int .i64 (n:Int))) none none).run Tryz.prog w=.ok (.slice (shA A c n) (l - n) (c - n)) w:=fun w=>run_cut_l Tryz.n_el8.under Tryz.n_sz8 A l c n .i64 (by omega) w
   have htl:(rest.take n).length=n:=by rw[List.length_take,H.out.len];omega
   have HR:=hide hR
   have Htl:=hide htl
   clear hR hlt htl
   go_wp2_with fail
   refine(clone_any A n c (rest.take n) w Htl.out (by omega) (H.out.sl.take n)).mono ?_
   rintro e w1 ⟨A1,c1,rfl,hl1,hO1,hU1⟩
   have hT1:=H.out.cells.ext hU1
   replace p0:=hT1.cell0
   replace f0:=hT1.frozen 0
   have hU2:Upd (only g) w1 (w1.setCell ⟨g,0,none⟩ (.slice (shA A c n) (l - n) (c - n))):=(Upd.refl _ _).setCell (T:=only g) (p:=⟨g,0,none⟩) (.inl rfl) _
   have hR2:RdA (w1.setCell ⟨g,0,none⟩ (.slice (shA A c n) (l - n) (c - n))) O g (shA A c n) (l - n) (c - n) (rest.drop n) bad:=
    ⟨hT1.put0 _,((H.out.sl.ext hU1).shA (by rw[H.out.len];exact H.out.cap)).keep hU2 (fun h0 k hk e=>by
      have h1:=H.out.old (by rw[List.length_drop]at h0;omega) k (inA_shA.1 hk)
      have:k=g:=e
      omega),by rw[List.length_drop,H.out.len],by omega,by have:=H.out.max;omega,fun h0 k hk=>H.out.old (by rw[List.length_drop]at h0;omega) k (inA_shA.1 hk)⟩
   have HR2:=hide hR2
   have HU2:=hide hU2
   have HO1:=hide hO1
   have HU1:=hide hU1
   have hg1:g<w.heap.size:=H.out.cells.lt
   clear hU1 hO1 hU2 hR2 hT1 p1 f1
   go_wp2_with fail
   go_ret
   rw[HR.out]
   exact⟨_,_,rfl,hl1,HO1.out.upd HU2.out (fun k hk hk2=>by
     have h1:k=g:=hk2
     have h2:=(HO1.out.in_ hk).1
     omega),⟨hO,_,_,_,HR2.out⟩,(Upd.ofExt HU1.out).trans HU2.out⟩
theorem beN_snoc (xs:List B8) (x:B8):beN (xs++[x])=beN xs*256+x.toNat:=by
 unfold beN
 rw[List.foldl_append]
 rfl
theorem beN_take {xs:List B8} {k:Nat} (h:k<xs.length):beN (xs.take (k+1))=beN (xs.take k)*256+(gat xs k).toNat:=by
 rw[List.take_succ_eq_append_getElem h,beN_snoc,gat_lt h]
theorem beN_lt' :∀(xs:List B8) (a:Nat),xs.foldl (fun a b=>a*256+b.toNat) a<(a+1)*256^xs.length
  | [],a=>by simp
  | x :: xs,a=>by
    have h:=beN_lt' xs (a*256+x.toNat)
    have hx:=x.isLt
    refine Nat.lt_of_lt_of_le h ?_
    rw[List.length_cons,Nat.pow_succ,Nat.mul_comm (256^xs.length) 256,←Nat.mul_assoc]
    exact Nat.mul_le_mul_right _ (by omega)
theorem beN_lt (xs:List B8):beN xs<256^xs.length:=by
 have h:=beN_lt' xs 0
 rw[Nat.zero_add,Nat.one_mul]at h
 exact h
theorem or_i64 {a b:Nat} (ha:a<4294967296) (hb:b<256):bits .or .i64 ((a:Int)*256) (b:Int)=((a*256+b:Nat):Int):=by
 have h1:a*256<2^64:=by omega
 have h2:b<2^64:=by omega
 have e:(BitVec.ofNat 64 (a*256) ||| BitVec.ofNat 64 b).toNat=a*256+b:=by
  rw[BitVec.toNat_or,BitVec.toNat_ofNat,BitVec.toNat_ofNat,Nat.mod_eq_of_lt h1,Nat.mod_eq_of_lt h2]
  have h3:=Nat.shiftLeft_add_eq_or_of_lt (i:=8) (show b<2^8 from hb) a
  rw[Nat.shiftLeft_eq]at h3
  exact h3.symm
 have e0:((a:Int)*256)=((a*256:Nat):Int):=(Int.natCast_mul a 256).symm
 rw[e0]
 show IntKind.i64.wrap ((BitVec.ofInt 64 ((a*256:Nat):Int) ||| BitVec.ofInt 64 (b:Int)).toNat:Int)=_
 rw[BitVec.ofInt_natCast,BitVec.ofInt_natCast,e,IntKind.wrap_i64]
 omega
def RetNum (w:World) (O g n:Nat) (s:RdS) (e:Ending) (w':World):Prop:=e=.returned (.int .i64 (n:Int))∧Rd w' O g s∧Upd (only g) w w'
set_option maxRecDepth 100000 in
set_option maxHeartbeats 1000000 in
theorem rdnum_any (O g n:Nat) (s:RdS) (w:World) (h:Rd w O g s) (hn:n≤4):
 Calls Tryz.prog 45 #[.pointer (some ⟨g,0,none⟩),.int .i64 (n:Int)] w (RetNum w O g (numR n s).1 (numR n s).2):=by
 have H:=hide h
 have hb:beN (takeR n s).1<4294967296:=by
  have h1:=beN_lt (takeR n s).1
  rw[takeR_length]at h1
  have h2:256^n≤256^4:=Nat.pow_le_pow_right (by decide) hn
  have h3:256^4=4294967296:=by decide
  omega
 obtain⟨r,hr⟩:∃r,r=(takeR n s).1:=⟨_,rfl⟩
 obtain⟨t,ht⟩:∃t,t=(takeR n s).2:=⟨_,rfl⟩
 have hm:(numR n s).1=beN r:=by rw[hr];rfl
 have hm2:(numR n s).2=t:=by rw[ht];rfl
 rw[hm,hm2]
 rw[←hr]at hb
 have Hr:=hide hr
 have Ht:=hide ht
 have Hb:=hide hb
 clear h hb hr ht hm hm2
 go_enter Tryz.func45,Tryz.ntmps45
 go_wp2_with fail
 refine(rdtake_any O g n s w H.out (by omega)).mono ?_
 rintro e w1 ⟨A,c,rfl,hl,hO,hRd,hU⟩
 rw[←Hr.out]at hl hO
 rw[←Ht.out]at hRd
 have Hl:=hide hl
 have HO:=hide hO
 have HRd:=hide hRd
 have HU:=hide hU
 clear hl hO hRd hU
 go_wp2_with fail
 go_loopw [5,12] (fun v i wr=>∃(k a:Nat),k≤n∧a=beN (r.take k)∧v=.int .i64 (a:Int)∧i=.int .i64 (k:Int)∧wr=w1) (fun _ i _=>n - (intOf i).toNat)
 case atStart=>exact⟨0,0,Nat.zero_le _,rfl,rfl,rfl,rfl⟩
 case round=>
  obtain⟨k,a,hk,ha,rfl,rfl,rfl⟩:=hrel
  have Ha:=hide ha
  clear ha
  by_cases hlt:k<n
  · have hltI:(k:Int)<(n:Int):=by omega
    obtain⟨gb,rfl, -, -⟩:=HO.out.open_ (by rw[List.length_map,Hl.out];omega)
    have hc:=HO.out.row.cell (i:=k) (by rw[Hl.out];exact hlt)
    obtain⟨y,hy⟩:∃y,y=(gat r k).toNat:=⟨_,rfl⟩
    have hyb:y<256:=by rw[hy];exact(gat r k).isLt
    have hn8:by8 (gat r k)=.int .u8 (y:Int):=by unfold by8 n8;rw[hy]
    rw[hn8]at hc
    have ha2:beN (r.take (k+1))=a*256+y:=by rw[beN_take (by rw[Hl.out];exact hlt),Ha.out,hy]
    have ha3:a<16777216:=by
     have h1:=beN_lt (r.take k)
     rw[List.length_take,Hl.out,←Ha.out]at h1
     have h2:256^(min k n)≤256^3:=Nat.pow_le_pow_right (by decide) (by omega)
     have h3:256^3=16777216:=by decide
     omega
    have hor:=or_i64 (a:=a) (b:=y) (by omega) hyb
    have Ha2:=hide ha2
    clear hn8 ha2 hy
    go_wp2_with fail
    go_roundw
    case rel=>exact⟨k+1,a*256+y,hlt,Ha2.out.symm,rfl,by go_num,trivial⟩
    case measure=>simp[intOf];omega
  · obtain rfl:k=n:=by omega
    have hltI:¬(k:Int)<(k:Int):=by omega
    clear hlt
    have ha:a=beN r:=by rw[Ha.out,List.take_of_length_le (by rw[Hl.out];exact Nat.le_refl _)]
    go_wp2_with fail
    go_ret
    exact⟨rfl,HRd.out,HU.out⟩
def RetBs (w:World) (O g:Nat) (bs:List B8) (s:RdS) (e:Ending) (w':World):Prop:=
 ∃A l c,e=.returned (.slice A l c)∧bs.length=l∧Own w' w.heap.size 5 A c (bs.map by8)∧Rd w' O g s∧Upd (only g) w w'
set_option maxRecDepth 100000 in
set_option maxHeartbeats 1000000 in
theorem rdtext_any (O g:Nat) (s:RdS) (w:World) (h:Rd w O g s):
 Calls Tryz.prog 46 #[.pointer (some ⟨g,0,none⟩)] w (RetBs w O g (textR s).1 (textR s).2):=by
 have H:=hide h
 obtain⟨r,hr⟩:∃r,r=textR s:=⟨_,rfl⟩
 rw[←hr]
 obtain⟨n,hn⟩:∃n,n=(numR 2 s).1:=⟨_,rfl⟩
 obtain⟨t,ht⟩:∃t,t=(numR 2 s).2:=⟨_,rfl⟩
 have hnb:n<65536:=by
  rw[hn]
  have h1:=beN_lt (takeR 2 s).1
  rw[takeR_length]at h1
  exact h1
 have hr2:r=if t.2 then ([],t) else takeR n t:=by rw[hr,hn,ht];rfl
 have Hn:=hide hn
 have Ht:=hide ht
 have Hr:=hide hr2
 clear h hr hn ht hr2
 go_enter Tryz.func46,Tryz.ntmps46
 go_wp2_with fail
 refine(rdnum_any O g 2 s w H.out (by omega)).mono ?_
 rintro e w1 ⟨rfl,hRd,hU⟩
 rw[←Ht.out]at hRd
 rw[←Hn.out]
 obtain⟨rest,bad⟩:=t
 have hRd0:=hRd
 obtain⟨hO,A,l,c,hA⟩:=hRd0
 have p1:w1.cell? ⟨g,1,none⟩=some (.bool bad):=hA.cells.cell1
 have HRd:=hide hRd
 have HU:=hide hU
 clear hRd hA hU
 cases bad with
 | true=>
   have e:r=([],(rest,true)):=Hr.out
   go_wp2_with fail
   go_ret
   rw[e]
   exact⟨_,_,_,rfl,rfl,Own.nil,HRd.out,HU.out⟩
 | false=>
   have e:r=takeR n (rest,false):=Hr.out
   go_wp2_with fail
   refine(rdtake_any O g n (rest,false) w1 HRd.out (by omega)).mono ?_
   rintro e2 w2 ⟨A2,c2,rfl,hl2,hO2,hR2,hU2⟩
   go_wp2_with fail
   go_ret
   rw[e]
   exact⟨_,_,_,rfl,hl2,hO2.mono HU.out.size,hR2,HU.out.trans hU2⟩
end Go.Proofs.YtbhhjfhepkbfgaaGreat
