/- Merged: Box NatA NatB NatC FreeS NatD NatE. -/
import Derived.Test.YtbhhjfhepkbfgaaGnNatZ
import Derived.Test.YtbhhjfhepkbfgaaGnShelf
namespace Go.Proofs.Ytbhhjfhepkbfgaa
set_option linter.unusedSimpArgs false
set_option linter.unusedVariables false
/- Blocks of one cell (variables and results in memory), and what the program's table says of rows of words, bytes and truths. -/
section
open Go.RowKit
theorem Upd.fresh {w0 w w':World} {T:Nat→Prop} (h:Upd T w w') (h0:Ext w0 w) (hT:∀k,T k→w0.heap.size≤k):Ext w0 w':=
 h0.trans' h (fun i hi ht=>absurd (hT i ht) (by omega))
def Box (w:World) (g:Nat) (t:TypeId) (v:Value):Prop:=w.heap[g]? =some (.cells #[v] t (0,0))
section box
variable {w w' : World} {g : Nat} {t : TypeId} {v u : Value} {T : Nat → Prop}
theorem Box.lt (h:Box w g t v):g<w.heap.size:=(Array.getElem?_eq_some_iff.1 h).1
theorem Box.cell (h:Box w g t v):w.cell? ⟨g,0,none⟩=some v:=by
 unfold Box at h;simp[World.cell?,h]
theorem Box.frozen (h:Box w g t v):w.frozen? ⟨g,0,none⟩=false:=by
 unfold Box at h;simp[World.frozen?,h]
theorem Box.upd (h:Box w g t v) (hu:Upd T w w') (hT:¬T g):Box w' g t v:=(hu.block g h.lt hT).trans h
theorem Box.ext (h:Box w g t v) (hu:Ext w w'):Box w' g t v:=h.upd hu (fun h=>h)
theorem Box.new (w:World) (t:TypeId) (v:Value):Box (w.alloc (.cells #[v] t)) w.heap.size t v:=heap_alloc_new w _
theorem Box.new_at {b:Nat} (hb:w.heap.size=b):Box (w.alloc (.cells #[v] t)) b t v:=by subst hb;exact Box.new w t v
theorem Box.alloc (h:Box w g t v) (o:Obj):Box (w.alloc o) g t v:=h.ext ((Upd.refl _ w).alloc o)
theorem Box.drew (h:Box w g t v):Box w.drew g t v:=h
theorem Box.set (h:Box w g t v) (u:Value):Box (w.setCell ⟨g,0,none⟩ u) g t u:=by
 unfold Box at*;simp[World.setCell,Array.getElem?_modify,h]
theorem Box.far (h:Box w g t v) {p:Addr} (hp:g≠p.block) (u:Value):Box (w.setCell p u) g t v:=(Below.heap_setCell w p u g hp).trans h
theorem Own.ne_box {B:Nat} {e:TypeId} {A:Option Addr} {c:Nat} {xs:List Value} (h:Own w B e A c xs) (hb:Box w g t v) (hne:e≠t):¬inA A g:=
 h.ne_arr (n:=1) (F:=fun _=>v) (by unfold Arr;exact hb) hne
end box
theorem wpList_mk0 {P:Program} (w:World) {ops:Array Oper} {rest:List Oper} {o:Oper} {a:Act} {Q:Exit→Act→World→Prop} (l c:Operand) {T e:TypeId} {z:Value} {bytes:Nat} (E:ElemI P T e z bytes)
 (hgd:o.guard=none) (ho:o.op=.makeSlice T l c) (n:Nat) {kl kc:IntKind} {C:Int} (hl:a.eval l=.int kl 0) (hc:a.eval c=.int kc C) (hC:C=(n:Int)) (b2:bytes*n≤281474976710656) (b3:n≤maxLen) {B:Nat} (hB:B≤w.heap.size)
 (h:∀g w',Own w' B e (some ⟨g,0,none⟩) n []→g=w.heap.size→Ext w w'→wpList P ops Q rest (a.put o.dst (.slice (some ⟨g,0,none⟩) 0 n)) w'):wpList P ops Q (o :: rest) a w:=by
 obtain⟨i,hi,hz',hs,hb⟩:=info_parts E.info
 exact wpList_make_own w hgd l c T ho B e i z 1 E.under hi hz' hs kl kc C n hl hc hC (by rw[hb];exact b2) b3 hB fun w' hown hg=>h w.heap.size w' (by simpa[Own] using hown) rfl ⟨hg.os,hg.tape,hg.output,hg.size,fun k hk _=>hg.block k hk (by simp)⟩
theorem Try.n_el8 :ElemI Try.prog 23 5 (.int .u8 0) 1:=⟨by kernel_rfl,by kernel_rfl,rfl⟩
theorem Try.n_el32 :ElemI Try.prog 31 71 (.int .u32 0) 4:=⟨by kernel_rfl,by kernel_rfl,rfl⟩
theorem Try.n_sz8 :(Try.prog.info? 5).map (·.size)=some 1:=by kernel_rfl
theorem Try.n_sz32 :(Try.prog.info? 71).map (·.size)=some 1:=by kernel_rfl
theorem Try.n_sz1 :(Try.prog.info? 4).map (·.size)=some 1:=by kernel_rfl
theorem Try.n_under8 :Try.prog.underlying 5=some (.int .u8):=by kernel_rfl
theorem Try.n_underS :Try.prog.underlying 9=some .string:=by kernel_rfl
theorem Try.n_under_bs :Try.prog.underlying 23=some (.slice 5):=by kernel_rfl
end
/- The small functions on numbers, walked: trim, New, Zero. -/
section
open Go.RowKit
open Nt
attribute [local go_sem] by32
def RetN (w:World) (n:Nat) (e:Ending) (w':World):Prop:=∃A l c,e=.returned (.agg #[.slice A l c])∧NatV w' (.agg #[.slice A l c]) n∧Ext w w'
theorem dig_zero {xs:List (BitVec 32)} {k:Nat}:dig d32 xs k=0↔n32 (gat xs k)=0:=by
 unfold dig d32 n32;omega
set_option maxRecDepth 100000 in
set_option maxHeartbeats 1000000 in
theorem trim_any (A:Option Addr) (n c:Nat) (xs:List (BitVec 32)) (w:World) (hn:xs.length=n) (hc:n≤c) (hm:c≤maxLen) (hS:Sl by32 w A xs):
 Calls Try.prog 25 #[.slice A n c] w (RetN w (numOf W32 d32 xs)):=by
 have hm':=hm
 unfold maxLen at hm'
 have hS':=hide (hS.ext ((Upd.refl _ w).alloc (.cells #[.slice none 0 0] 33)))
 have Hn:=hide hn
 have HS:=hide hS
 clear hn hS
 go_enter Try.func25,Try.ntmps25
 go_wp2
 go_loop [0] (fun v=>∃k:Nat,k≤n∧v=.slice A k c∧vf W32 (dig d32 xs) k=numOf W32 d32 xs) (fun v=>match v with | .slice _ k _=>k | _=>0)
 case atStart=>exact⟨n,Nat.le_refl _,rfl,by rw[←Hn.out];rfl⟩
 case round=>
  obtain⟨k,hk,rfl,hv⟩:=hrel
  have HV:=hide hv
  clear hv
  rcases Nat.eq_zero_or_pos k with h0 | h0
  · subst h0
    go_wp2
    refine bodyPost_ret (v:=.agg #[.slice A 0 c]) (by simp[results,Try.results25,go_sem]) rfl ⟨_,_,_,rfl,⟨_,rfl,NumS.cut (HS.out.ext ((Upd.refl _ _).alloc _)) (Nat.zero_le _) (Nat.zero_le _) hm HV.out (.inl rfl)⟩,(Upd.refl _ _).alloc _⟩
  · obtain⟨b,o,rfl,hb,hcells⟩:=hS'.out.open_ (by rw[Hn.out];omega)
    have hcell:=hcells (k - 1) (by rw[Hn.out];omega)
    obtain⟨k,rfl⟩:∃j,k=j+1:=⟨k - 1,by omega⟩
    simp only[Nat.add_sub_cancel]at hcell
    clear hcells
    by_cases hz:n32 (gat xs k)=0
    · have hzb:(n32 (gat xs k) == 0)=true:=by simpa using hz
      have hd:=hide (dig_zero.2 hz)
      clear hz
      go_wp2
      go_round
      case rel=>exact⟨k,by omega,rfl,by have:=HV.out;rw[vf_succ,hd.out]at this;omega⟩
      case measure=>simp
    · have hzb:(n32 (gat xs k) == 0)=false:=by simpa using hz
      have hd:=hide (fun e=>hz (dig_zero.1 e))
      clear hz
      go_wp2
      refine bodyPost_ret (v:=.agg #[.slice (some ⟨b,o,none⟩) (k+1) c]) (by simp[results,Try.results25,go_sem]) rfl ⟨_,_,_,rfl,⟨_,rfl,NumS.cut (HS.out.ext ((Upd.refl _ _).alloc _)) (by rw[Hn.out];exact hk) (by omega) hm HV.out (.inr hd.out)⟩,(Upd.refl _ _).alloc _⟩
def w32 (x:Int):BitVec 32:=BitVec.ofInt 32 x
theorem wrap_w32 (x:Int):IntKind.u32.wrap x=n32 (w32 x):=by
 unfold n32 w32
 rw[IntKind.wrap_u32,BitVec.toNat_ofInt]
 omega
theorem d32_w32 (x:Nat):d32 (w32 x)=x % W32:=by
 unfold d32 w32 W32
 rw[BitVec.toNat_ofInt]
 omega
attribute [local go_sem] wrap_w32
theorem new_words (N:Nat) (hN:N<18446744073709551616):numOf W32 d32 [w32 N,w32 ((N:Int) / 4294967296)]=N:=by
 show 0+d32 (w32 N)*W32^0+d32 (w32 ((N:Int) / 4294967296))*W32^1=N
 rw[show(N:Int) / 4294967296=((N / 4294967296:Nat):Int) by omega,d32_w32,d32_w32]
 unfold W32
 omega
set_option maxRecDepth 100000 in
set_option maxHeartbeats 1000000 in
theorem new_any (N:Nat) (w:World) (hN:N<18446744073709551616):
 Calls Try.prog 6 #[.int .u64 N] w (RetN w N):=by
 have hN':(N:Int)≤18446744073709551615:=by omega
 go_enter Try.func6,Try.ntmps6
 go_wp2_with fail
 refine(trim_any _ 2 2 [w32 N,w32 ((N:Int) / 4294967296)] _ rfl (by omega) (by unfold maxLen;omega) (Sl.new_at by32 [w32 N,w32 ((N:Int) / 4294967296)] (by simp) rfl)).mono ?_
 rintro e w1 ⟨A,n,c,rfl,hV,hU⟩
 rw[new_words N hN]at hV
 obtain⟨hc,hf,hz⟩:=ecell hU
 simp at hz
 go_wp2
 have hcell:w1.cell? ⟨w.heap.size,0,none⟩=some (.slice none 0 0):=by rw[hc _ _ (by simp;omega)];go_simp
 exact bodyPost_ret (v:=.agg #[.slice A n c]) (by simp[results,Try.results6,go_sem,hcell]) rfl ⟨_,_,_,rfl,hV.far hcell,(by repeat (first | (with_reducible exact Upd.refl _ _) | (with_reducible assumption) | (refine Upd.setCell ?_ (.inr (by first | exact Nat.le_refl _ | (dsimp only;omega) | (simp;done) | (simp;omega))) _) | (with_reducible refine Upd.alloc ?_ _) | (with_reducible refine Upd.drew ?_) | (with_reducible refine Upd.trans ?_ (by with_reducible assumption))))⟩
set_option maxRecDepth 100000 in
set_option maxHeartbeats 1000000 in
theorem zero_any (v:Value) (n:Nat) (w:World) (hV:NatV w v n):
 Calls Try.prog 30 #[v] w (fun e w'=>e=.returned (.bool (decide (n=0)))∧Ext w w'):=by
 obtain⟨A,c,xs,rfl,hc,hm,hS,hT,hn⟩:=hV.words
 have hz:decide (n=0)=((xs.length:Int) == 0):=by
  rw[Bool.eq_iff_iff]
  have:=Trd.zero_iff one_lt_W32 hT
  unfold numOf at hn
  simp only[decide_eq_true_eq,beq_iff_eq]
  omega
 rw[hz]
 clear hz
 go_enter Try.func30,Try.ntmps30
 go_wp2
 go_ret
 exact⟨rfl,(Upd.refl _ _).alloc _⟩
end
/- Bits of numbers, walked: Bits, Bit, Uint. -/
section
open Go.RowKit
open Nt
attribute [local go_sem] steady steadyUpon Cls same_cell by32 wrap_w32
def Fit (k n:Nat):Prop:=n<W32^k
theorem Fit.mono {j k n:Nat} (h:Fit j n) (hk:j≤k):Fit k n:=Nat.lt_of_lt_of_le h (Nat.pow_le_pow_right (by decide) hk)
theorem Fit.le {k m n:Nat} (h:Fit k n) (hm:m≤n):Fit k m:=Nat.lt_of_le_of_lt hm h
theorem Fit.len {xs:List (BitVec 32)} {k n:Nat} (ht:Trd (dig d32 xs) xs.length) (hn:numOf W32 d32 xs=n) (h:Fit k n):xs.length≤k:=by
 rcases Nat.eq_zero_or_pos xs.length with e | e
 · omega
 · have h1:=ht.low (β:=W32) e
   have h2:W32^(xs.length - 1)<W32^k:=Nat.lt_of_le_of_lt h1 (by subst hn;exact h)
   have:=(Nat.pow_lt_pow_iff_right (by decide:1<W32)).1 h2
   omega
theorem Fit.add {k a b:Nat} (ha:Fit k a) (hb:Fit k b):Fit (k+1) (a+b):=by
 unfold Fit at*
 rw[Nat.pow_succ]
 unfold W32 at*
 omega
theorem Fit.mul {j k a b:Nat} (ha:Fit j a) (hb:Fit k b):Fit (j+k) (a*b):=by
 unfold Fit at*
 rw[Nat.pow_add]
 exact Nat.mul_lt_mul'' ha hb
theorem blen_bitLen :∀(f x:Nat),x<2^f→Lib.bitLenAux f x=blen x
 | 0,x,h=>by
   have:x=0:=by simpa using h
   subst this;rfl
 | f+1,x,h=>by
   unfold Lib.bitLenAux
   split
   · subst_vars;rfl
   · rename_i h0
     rw[blen_bitLen f (x / 2) (by rw[Nat.pow_succ]at h;omega)]
     have h1:=blen_lt (x / 2)
     refine(blen_uniq (.inr ?_) ?_).symm
     · rw[Nat.add_sub_cancel_left]
       by_cases e:x / 2=0
       · rw[e];simp[blen_zero];omega
       · obtain⟨a,b⟩:=blen_le e
         obtain⟨L,hL⟩:∃L,blen (x / 2)=L+1:=⟨blen (x / 2) - 1,by omega⟩
         rw[hL]at b ⊢
         simp at b
         rw[Nat.pow_succ];omega
     · rw[Nat.add_comm,Nat.pow_succ];omega
theorem bits_val {xs:List (BitVec 32)} (ht:Trd (dig d32 xs) xs.length) (h0:0<xs.length):blen (numOf W32 d32 xs)=32*(xs.length - 1)+blen (d32 (gat xs (xs.length - 1))):=by
 obtain⟨m,hm⟩:∃m,xs.length=m+1:=⟨xs.length - 1,by omega⟩
 have hne:dig d32 xs m≠0:=by
  rcases ht with e | e
  · omega
  · rwa [hm]at e
 unfold numOf
 rw[hm,Nat.add_sub_cancel,vf_succ]
 have hl:vf W32 (dig d32 xs) m<W32^m:=vf_lt fun i _=>d32_lt _
 have ht1:=blen_lt (dig d32 xs m)
 obtain⟨ht2,ht3⟩:=blen_le hne
 have e:W32^m=2^(32*m):=by rw[Nat.pow_mul]
 show blen _=32*m+blen (dig d32 xs m)
 refine blen_uniq (.inr ?_) ?_
 · rw[show 32*m+blen (dig d32 xs m) - 1=32*m+(blen (dig d32 xs m) - 1) by omega,Nat.pow_add,←e,Nat.mul_comm]
   exact Nat.le_trans (Nat.mul_le_mul_right _ ht3) (Nat.le_add_left _ _)
 · rw[Nat.pow_add,←e,Nat.mul_comm (W32^m)]
   have:(dig d32 xs m+1)*W32^m≤2^blen (dig d32 xs m)*W32^m:=Nat.mul_le_mul_right _ ht1
   rw[Nat.add_mul,Nat.one_mul]at this
   omega
theorem len32_any (x:BitVec 32) (w:World):Calls Try.prog 65 #[.int .u32 (n32 x)] w fun e w'=>e=.returned (.int .i64 (blen (d32 x)))∧w=w':=by
  have hb:=n32_bd x
  refine(Try.bits_Len32 (n32 x) w hb.1 hb.2).mono ?_
  rintro e w' ⟨rfl,rfl⟩
  refine⟨?_,rfl⟩
  have:(n32 x).toNat=d32 x:=by unfold n32 d32;omega
  rw[this]
  unfold Lib.bitLen
  rw[blen_bitLen 64 _ (Nat.lt_trans (d32_lt x) (by decide))]
theorem lead32_any (x:BitVec 32) (w:World):Calls Try.prog 62 #[.int .u32 (n32 x)] w fun e w'=>e=.returned (.int .i64 ((32 - blen (d32 x):Nat):Int))∧w=w':=by
  have hb:=n32_bd x
  refine(Try.bits_LeadingZeros32 (n32 x) w hb.1 hb.2).mono ?_
  rintro e w' ⟨rfl,rfl⟩
  refine⟨?_,rfl⟩
  have h1:(n32 x).toNat=d32 x:=by unfold n32 d32;omega
  have h2:blen (d32 x)≤32:=blen_le_iff.2 (show d32 x<2^32 from d32_lt x)
  rw[h1]
  unfold Lib.bitLen
  rw[blen_bitLen 64 _ (Nat.lt_trans (d32_lt x) (by decide))]
  rw[Int.ofNat_sub h2]
  rfl
set_option maxRecDepth 100000 in
set_option maxHeartbeats 1000000 in
theorem bits_any (v:Value) (n k:Nat) (w:World) (hV:NatV w v n) (hF:Fit k n) (hk:k≤1000000):
 Calls Try.prog 31 #[v] w (fun e w'=>e=.returned (.int .i64 (blen n))∧Ext w w'):=by
 obtain⟨A,c,xs,rfl,hc,hm,hS,hT,hn⟩:=hV.words
 have hl:=Fit.len hT hn hF
 clear hV hF
 rcases Nat.eq_zero_or_pos xs.length with h0 | h0
 · have hx:xs=[]:=List.eq_nil_of_length_eq_zero h0
   subst hx
   have hb:blen n=0:=by rw[←hn];rfl
   rw[hb]
   clear hb hn h0 hT hS
   simp only[List.length_nil]
   go_enter Try.func31,Try.ntmps31
   go_wp2
   go_ret
   exact⟨rfl,(Upd.refl _ _).alloc _⟩
 · have hb:=bits_val hT h0
   rw[hn]at hb
   obtain⟨m,hm'⟩:∃m,xs.length=m+1:=⟨xs.length - 1,by omega⟩
   rw[hm',Nat.add_sub_cancel]at hb
   obtain⟨b,o,rfl,hbl,hcells⟩:=hS.open_ h0
   have hbx:=blen_le_iff.2 (show d32 (gat xs m)<2^32 from d32_lt _)
   rw[hb]
   have hcell:(w.alloc (.cells #[.slice (some ⟨b,o,none⟩) (m+1) c] 33)).drew.cell? ⟨b,o+m,none⟩=some (.int .u32 (n32 (gat xs m))):=by
    have:=hcells m (by omega)
    go_simp
   clear hb hn hT hS hcells h0
   rw[hm']at hl hc ⊢
   clear hm'
   go_enter Try.func31,Try.ntmps31
   go_wp2
   have e1:IntKind.i64.wrap (m:Int)=m:=IntWalk.i64_in _ (by omega)
   have e2:IntKind.i64.wrap (32*(m:Int))=32*m:=IntWalk.i64_in _ (by omega)
   have e3:IntKind.i64.wrap (32*(m:Int)+(blen (d32 (gat xs m)):Int))=32*m+(blen (d32 (gat xs m)):Int):=IntWalk.i64_in _ (by omega)
   have p1:(0:Int)≤m:=by omega
   have p2:(m:Int)<(m:Int)+1:=by omega
   refine wp_region_plan (Same _) 15 [(false,0),(false,1),(false,2),(false,3),(false,4),(false,5),(false,6),(false,7),(false,8),(false,9),(false,10),(false,11),(false,12),(true,13),(false,14)] (by kernel_rfl) (by kernel_rfl) rfl (fun hne=>?_)
   repeat (refine head_q rfl (fun K hK=>?_);have hK2:=hide hK;clear hK;go_simp;refine hK2.out _ ?_;clear hK2 K)
   refine head_l rfl ?_
   go_wp2_with (go_at_call 65;refine(len32_any _ _).mono ?_;rintro e w' ⟨rfl,rfl⟩)
   refine⟨_,fun _ h=>h,⟨⟨_,rfl⟩,rfl⟩,?_⟩
   repeat (refine head_q rfl (fun K hK=>?_);have hK2:=hide hK;clear hK;go_simp;refine hK2.out _ ?_;clear hK2 K)
   refine head_nil ?_
   try simp only[List.drop_succ_cons,List.drop_zero]
   go_wp2
   go_ret
   exact⟨by go_num,((Upd.refl _ _).alloc _).drew⟩
theorem and1_u32 (x:BitVec 32):bits .and .u32 (n32 x) 1=((d32 x % 2:Nat):Int):=by
 have h:=and_u32 x 1
 have e:n32 (1:BitVec 32)=1:=rfl
 rw[e]at h
 rw[h]
 unfold n32 d32
 rw[BitVec.toNat_and]
 show((x.toNat &&& 1:Nat):Int)=_
 rw[Nat.and_one_is_mod]
theorem bit_val {xs:List (BitVec 32)} {n j:Nat} (hn:numOf W32 d32 xs=n) (h:j / 32<xs.length):d32 (gat xs (j / 32)) / 2^(j % 32) % 2=n / 2^j % 2:=by
 have h1:=vf_digit one_lt_W32 (f:=dig d32 xs) (fun i _=>d32_lt _) h
 rw[show vf W32 (dig d32 xs) xs.length=n from hn]at h1
 rw[show d32 (gat xs (j / 32))=n / W32^(j / 32) % W32 from h1.symm]
 exact digit_digit (γ:=2) (m:=32) W32_pow (by omega)
set_option maxRecDepth 100000 in
set_option maxHeartbeats 1000000 in
theorem bit_any (v:Value) (n k:Nat) (i:Int) (w:World) (hV:NatV w v n) (hF:Fit k n) (hk:k≤1000000) (hi: -9223372036854775808≤i∧i≤9223372036854775807):
 Calls Try.prog 70 #[v,.int .i64 i] w (fun e w'=>e=.returned (.int .i64 (if 0≤i then (n / 2^i.toNat % 2:Nat) else (0:Int)))∧Ext w w'):=by
 obtain⟨A,c,xs,rfl,hc,hm,hS,hT,hn⟩:=hV.words
 have hl:=Fit.len hT hn hF
 obtain⟨hi1,hi2⟩:=hi
 clear hV hF
 by_cases h0:i<0
 · rw[if_neg (by omega)]
   clear hT hS hn
   go_enter Try.func70,Try.ntmps70
   go_wp2
   go_ret
   exact⟨rfl,(Upd.refl _ _).alloc _⟩
 · rw[if_pos (by omega)]
   obtain⟨j,rfl⟩:=Int.eq_ofNat_of_zero_le (show 0≤i by omega)
   rw[Int.toNat_natCast]
   by_cases h1:xs.length≤j / 32
   · have hz:n / 2^j % 2=0:=by
      rw[Nat.div_eq_of_lt,Nat.zero_mod]
      have h2:=numOf_lt (xs:=xs) d32_lt
      rw[hn,W32_pow,←Nat.pow_mul]at h2
      exact Nat.lt_of_lt_of_le h2 (Nat.pow_le_pow_right (by omega) (by omega))
     rw[hz]
     clear hz hT hS hn h0
     go_enter Try.func70,Try.ntmps70
     go_wp2
     go_ret
     exact⟨by go_num,(Upd.refl _ _).alloc _⟩
   · obtain⟨b,o,rfl,hbl,hcells⟩:=hS.open_ (by omega)
     have hcell:=hcells (j / 32) (by omega)
     clear hcells hS
     have hq:((j / 32:Nat):Int)<xs.length:=by omega
     clear h0 h1
     go_enter Try.func70,Try.ntmps70
     go_wp2
     go_ret
     refine⟨?_,(Upd.refl _ _).alloc _⟩
     rw[shr_u32',and1_u32]
     have e1:d32 (gat xs (j / 32) >>> (j % 32))=d32 (gat xs (j / 32)) / 2^(j % 32):=by
      unfold d32;rw[BitVec.toNat_ushiftRight,Nat.shiftRight_eq_div_pow]
     rw[e1,bit_val hn (by omega),IntWalk.wrap64_in _ (by omega)]
     rfl
end
/- Numbers as small ones and as bytes, walked: Uint, FromBytes, Bytes, Least. -/
section
open Go.RowKit
open Nt
attribute [local go_sem] steady steadyUpon Cls same_cell by32 by8 wrap_w32
theorem or_nat (k:IntKind) (hs:k.signed=false) {a b s:Nat} (ha:a<2^s) (h:a+b*2^s<2^k.bits):bits .or k (a:Int) ((b*2^s:Nat):Int)=((a+b*2^s:Nat):Int):=by
 have e:(BitVec.ofInt k.bits (a:Int) ||| BitVec.ofInt k.bits ((b*2^s:Nat):Int)).toNat=a+b*2^s:=by
  rw[BitVec.ofInt_natCast,BitVec.ofInt_natCast,BitVec.toNat_or,BitVec.toNat_ofNat,BitVec.toNat_ofNat,Nat.mod_eq_of_lt (by omega),Nat.mod_eq_of_lt (by omega),Nat.or_comm,←Nat.shiftLeft_eq,←Nat.shiftLeft_add_eq_or_of_lt ha,Nat.shiftLeft_eq,Nat.add_comm]
 show k.wrap ((BitVec.ofInt k.bits (a:Int) ||| BitVec.ofInt k.bits ((b*2^s:Nat):Int)).toNat:Int)=_
 rw[e,wrapu_nat k hs,Nat.mod_eq_of_lt h]
theorem or_nat' (k:IntKind) (hs:k.signed=false) {a b s:Nat} (ha:a<2^s) (h:a+b*2^s<2^k.bits):bits .or k ((b*2^s:Nat):Int) (a:Int)=((a+b*2^s:Nat):Int):=by
 rw[←or_nat k hs ha h]
 show k.wrap ((BitVec.ofInt k.bits _ ||| BitVec.ofInt k.bits _).toNat:Int)=k.wrap ((BitVec.ofInt k.bits _ ||| BitVec.ofInt k.bits _).toNat:Int)
 rw[BitVec.or_comm]
theorem u64_n32 (x:BitVec 32):IntKind.u64.wrap (n32 x)=((d32 x:Nat):Int):=by
 rw[IntWalk.u64_in _ (by have:=n32_bd x;omega)];rfl
theorem u64_nat {a:Nat} (h:a<18446744073709551616):IntKind.u64.wrap (a:Int)=(a:Int):=IntWalk.u64_in _ (by omega)
theorem uint_step {xs:List (BitVec 32)} {k:Nat} (hk:k+1≤2):bits .or .u64 ((vf W32 (dig d32 xs) k:Nat):Int) (IntKind.u64.wrap (IntKind.u64.wrap (n32 (gat xs k))*2^(32*k)))=((vf W32 (dig d32 xs) (k+1):Nat):Int):=by
 have h1:vf W32 (dig d32 xs) k<2^(32*k):=by
  rw[Nat.pow_mul];exact vf_lt fun i _=>d32_lt _
 have h2:vf W32 (dig d32 xs) (k+1)<2^64:=by
  have h3:vf W32 (dig d32 xs) (k+1)<W32^(k+1):=vf_lt fun i _=>d32_lt _
  have h4:W32^(k+1)≤W32^2:=Nat.pow_le_pow_right (by decide) hk
  have e:W32^2=2^64:=by decide
  omega
 have e1:vf W32 (dig d32 xs) (k+1)=vf W32 (dig d32 xs) k+d32 (gat xs k)*2^(32*k):=by
  rw[vf_succ,Nat.pow_mul];rfl
 rw[u64_n32,show((d32 (gat xs k):Nat):Int)*2^(32*k)=((d32 (gat xs k)*2^(32*k):Nat):Int) by simp,u64_nat (by omega),or_nat .u64 rfl h1 (by rw[←e1];exact h2),e1]
def RetU (w:World) (n:Nat) (e:Ending) (w':World):Prop:=e=.returned (.tuple #[.int .u64 (if n<18446744073709551616 then (n:Int) else 0),.bool (decide (n<18446744073709551616))])∧Ext w w'
set_option maxRecDepth 100000 in
set_option maxHeartbeats 1000000 in
theorem uint_any (v:Value) (n:Nat) (w:World) (hV:NatV w v n):
 Calls Try.prog 66 #[v] w (RetU w n):=by
 obtain⟨A,c,xs,rfl,hc,hm,hS,hT,hn⟩:=hV.words
 have hlc:xs.length≤9223372036854775807:=by unfold maxLen at hm;omega
 by_cases hl:2<xs.length
 · have hbig:¬n<18446744073709551616:=by
    have:=hT.low (β:=W32) (by omega)
    have h2:W32^2≤W32^(xs.length - 1):=Nat.pow_le_pow_right (by decide) (by omega)
    unfold numOf at hn
    have e:W32^2=18446744073709551616:=by decide
    omega
   unfold RetU
   rw[if_neg hbig,decide_eq_false hbig]
   clear hbig hn hT hS hV
   go_enter Try.func66,Try.ntmps66
   go_wp2
   go_ret2
   exact⟨rfl,(Upd.refl _ _).alloc _⟩
 · have hsm:n<18446744073709551616:=by
    have:=numOf_lt (xs:=xs) d32_lt
    have h2:W32^xs.length≤W32^2:=Nat.pow_le_pow_right (by decide) (by omega)
    have e:W32^2=18446744073709551616:=by decide
    omega
   unfold RetU
   rw[if_pos hsm,decide_eq_true hsm]
   have hn':vf W32 (dig d32 xs) xs.length=n:=hn
   have Hn:=hide hn'
   clear hsm hn hT hV hn'
   have HS:=hide (hS.ext ((Upd.refl _ w).alloc (.cells #[.slice A xs.length c] 33)))
   obtain⟨L,hL⟩:∃L,L=xs.length:=⟨_,rfl⟩
   rw[←hL]at hl hc HS Hn ⊢
   have HL:=hide hL
   clear hL hS
   go_enter Try.func66,Try.ntmps66
   go_wp2
   go_outline
   go_loop [14,4] (fun i r=>∃k:Nat,k≤L∧i=.int .i64 k∧r=.int .u64 ((vf W32 (dig d32 xs) k:Nat):Int)) (fun i _=>L - (intOf i).toNat)
   case atStart=>exact⟨0,Nat.zero_le _,rfl,rfl⟩
   case round=>
    obtain⟨k,hk,rfl,rfl⟩:=hrel
    by_cases hlt:k<L
    · obtain⟨b,o,rfl,hbl,hcells⟩:=HS.out.open_ (by rw[←HL.out];omega)
      have hcell:=hcells k (by rw[←HL.out];omega)
      clear hcells
      go_wp2
      go_round
      case rel=>exact⟨k+1,by omega,by go_num,by rw[uint_step (by omega)]⟩
      case measure=>simp[intOf];omega
    · obtain rfl:k=L:=by omega
      rw[Hn.out]
      go_wp2
      go_ret2
      exact⟨rfl,(Upd.refl _ _).alloc _⟩
end
/- A region whose order is open, by shapes: of each operation it is said which shape its value has (a known value, a number, bytes, two or three of them, a new block, a block that has been written); each is walked once. -/
section
open Go.RowKit
open Nt
def softB :Value→Bool
 | .int _ _=>false
 | .bool _=>false
 | _=>true
def Zs (w:World) (b:Nat):Prop:=∃t v,Box w b t v∧softB v=true
theorem Sl.change {α:Type} [Inhabited α] {f:α→Value} (hf:∀x,softB (f x)=false) {w w':World} {A:Option Addr} {xs:List α} {T:Nat→Prop} (h:Sl f w A xs) (hU:Upd T w w') (hT:∀b,T b→Zs w b):Sl f w' A xs:=fun i hi=>by
  obtain⟨b,o,e,hc⟩:=h i hi
  refine⟨b,o,e,?_⟩
  rw[←hc]
  refine hU.cell (p:=⟨b,o+i,none⟩) (World.block_lt_of_cell? w _ hc) (fun ht=>?_)
  obtain⟨t,v,hb,hs⟩:=hT _ ht
  unfold Box at hb
  simp only[World.cell?,hb]at hc
  rcases Nat.eq_zero_or_pos (o+i)with h0 | h0
  · rw[h0]at hc
    simp at hc
    rw[hc,hf]at hs
    cases hs
  · rw[Array.getElem?_eq_none (by simp only[List.size_toArray,List.length_cons,List.length_nil];omega)]at hc;cases hc
theorem NumS.change {α:Type} [Inhabited α] {f:α→Value} (hf:∀x,softB (f x)=false) {d:α→Nat} {β:Nat} {w w':World} {s:Value} {n:Nat} {T:Nat→Prop} (h:NumS f d β w s n) (hU:Upd T w w') (hT:∀b,T b→Zs w b):NumS f d β w' s n:=by
 obtain⟨A,c,xs,h1,h2,h3,h4,h5⟩:=h
 exact⟨A,c,xs,h1,h2,h3,h4.change hf hU hT,h5⟩
theorem NatV.change' {w w':World} {v:Value} {n:Nat} {T:Nat→Prop} (h:NatV w v n) (hU:Upd T w w') (hT:∀b,T b→Zs w b):NatV w' v n:=by
 obtain⟨s,h0,h⟩:=h
 exact⟨s,h0,h.change (fun _=>rfl) hU hT⟩
theorem RefV.change' {w w':World} {v:Value} {n:Nat} {T:Nat→Prop} (h:RefV w v n) (hU:Upd T w w') (hT:∀b,T b→Zs w b):RefV w' v n:=
 NumS.change (fun _=>rfl) h hU hT
inductive Sh
 | eq (v:Value)
 | nat (n:Nat)
 | ref (n:Nat)
 | bytes (bs:List (BitVec 8))
@[reducible] def Sh.H : Sh → Value → World → Prop
 | .eq x,v,_=>v=x
 | .nat n,v,w=>∃A l c,v=.agg #[.slice A l c]∧NatV w (.agg #[.slice A l c]) n
 | .ref n,v,w=>∃A l c,v=.slice A l c∧RefV w (.slice A l c) n
 | .bytes bs,v,w=>∃A l c,v=.slice A l c∧bs.length=l∧Sl by8 w A bs
theorem Sh.change {s:Sh} {v:Value} {w w':World} {T:Nat→Prop} (h:s.H v w) (hU:Upd T w w') (hT:∀b,T b→Zs w b):s.H v w':=by
 cases s with
 | eq x=>exact h
 | nat n=>obtain⟨A,l,c,e,h⟩:=h;exact⟨A,l,c,e,h.change' hU hT⟩
 | ref n=>obtain⟨A,l,c,e,h⟩:=h;exact⟨A,l,c,e,h.change' hU hT⟩
 | bytes bs=>obtain⟨A,l,c,e,hl,h⟩:=h;exact⟨A,l,c,e,hl,h.change (fun _=>rfl) hU hT⟩
inductive Fsh
 | val (s:Sh)
 | tup2 (a b:Sh)
 | tup3 (a b c:Sh)
 | new (t:TypeId) (v:Value)
 | set (d:Nat) (t:TypeId) (n:Nat)
@[reducible] def Fsh.J (i : Nat) : Fsh → FactU
 | .val s=>fun u w _=>s.H (u i) w
 | .tup2 a b=>fun u w _=>∃v1 v2,u i=.tuple #[v1,v2]∧a.H v1 w∧b.H v2 w
 | .tup3 a b c=>fun u w _=>∃v1 v2 v3,u i=.tuple #[v1,v2,v3]∧a.H v1 w∧b.H v2 w∧c.H v3 w
 | .new t v=>fun u w S=>∃g,u i=.pointer (some ⟨g,0,none⟩)∧Box w g t v∧S g∧∀b,S b→b=g
 | .set d t n=>fun u w S=>∃g A l c,u d=.pointer (some ⟨g,0,none⟩)∧Box w g t (.slice A l c)∧S g∧NatV w (.agg #[.slice A l c]) n
def fsAt (L:List Fsh) (i:Nat):FactU:=Fsh.J i (L.getD i (.val (.eq undef)))
def Fsh.on :Fsh→Option Nat
 | .set d _ _=>some d
 | _=>none
def Fsh.soft :Fsh→Bool
 | .new _ v=>softB v
 | _=>false
theorem Fsh.soft_new {f:Fsh} (h:f.soft=true):∃t v,f=.new t v∧softB v=true:=by
 cases f with
 | new t v=>exact⟨t,v,rfl,h⟩
 | _=>cases h
def fsCons (L:List Fsh):List (Nat × Nat):=(List.range L.length).filterMap fun i=>((L[i]?).bind Fsh.on).map fun d=>(i,d)
def fsB (ops:Array Oper) (L:List Fsh):Bool:=(fsCons L).all fun p=>decide (p.2<L.length) && waitsOn ops p.1 p.2 && ((L[p.2]?).map Fsh.soft).getD false
theorem fs_cons {L:List Fsh} {i d:Nat} {t:TypeId} {n:Nat} (h:L[i]? =some (.set d t n)):(i,d)∈fsCons L:=by
 unfold fsCons
 refine List.mem_filterMap.2 ⟨i,List.mem_range.2 ?_,by simp[h,Fsh.on]⟩
 rcases Nat.lt_or_ge i L.length with h1 | h1
 · exact h1
 · rw[List.getElem?_eq_none h1]at h;cases h
theorem fs_at {L:List Fsh} {i:Nat} (hi:i<L.length):∃f,L[i]? =some f∧fsAt L i=Fsh.J i f:=⟨L[i],by simp[hi],by unfold fsAt;simp[hi]⟩
theorem wp_region_fs {P:Program} {a0:Act} {id:Nat} {Q:Exit→Act→World→Prop} {w:World} {l:List Oper} (n:Nat) (L:List Fsh) (cons:List (Nat × Nat)) (hm:P.follows .mixedOrders=true) (hn:L.length=n) (hcs:fsCons L=cons)
 (hB:freeB2 l.toArray n cons=true) (hF:fsB l.toArray L=true) (hop:∀i,i<n→OpOkV P l.toArray a0 w.drew n (fsAt L) cons i)
 (hL:∀u w' (S:Nat→Nat→Prop),Ext w.drew w'→(∀i,i<n→(∀c,(c,i) ∉ cons)→fsAt L i u w' (S i))→(∀i b,S i b→w.drew.heap.size≤b∧b<w'.heap.size)→(∀i j b,S i b→S j b→i=j)→wpList P l.toArray Q (l.drop n) (fr l.toArray a0 u n) w'):(Code.region id l.toArray true).wp P Q a0 w:=by
 subst hn hcs
 have hF':∀p,p∈fsCons L→p.2<L.length∧waitsOn l.toArray p.1 p.2=true∧∃t v,L[p.2]? =some (.new t v)∧softB v=true:=fun p hp=>by
   have:=List.all_eq_true.1 hF p hp
   simp only[Bool.and_eq_true,decide_eq_true_eq]at this
   obtain⟨⟨h1,h2⟩,h3⟩:=this
   refine⟨h1,h2,?_⟩
   rw[List.getElem?_eq_getElem h1]at h3 ⊢
   obtain⟨t,v,he,hv⟩:=Fsh.soft_new (f:=L[p.2]) h3
   exact⟨t,v,by rw[he],hv⟩
 refine wp_region_freeV Zs L.length (fsAt L) (fsCons L) hm hB ?_ ?_ (fun p hp=>⟨(hF' p hp).1,(hF' p hp).2.1⟩) ?_ hop hL
 · intro i hi
   obtain⟨f,hf,he⟩:=fs_at hi
   rw[he]
   intro u wx w' S h hU
   have hT:∀b,(w.drew.heap.size≤b∧¬S b∧Zs wx b)→Zs wx b:=fun b hb=>hb.2.2
   cases f with
   | val s=>exact Sh.change h hU hT
   | tup2 a b=>obtain⟨v1,v2,e,h1,h2⟩:=h;exact⟨v1,v2,e,Sh.change h1 hU hT,Sh.change h2 hU hT⟩
   | tup3 a b c=>obtain⟨v1,v2,v3,e,h1,h2,h3⟩:=h;exact⟨v1,v2,v3,e,Sh.change h1 hU hT,Sh.change h2 hU hT,Sh.change h3 hU hT⟩
   | new t v=>obtain⟨g,e,hb,hs,hall⟩:=h;exact⟨g,e,hb.upd hU (fun h=>h.2.1 hs),hs,hall⟩
   | set d t n=>obtain⟨g,A,l,c,e,hb,hs,hv⟩:=h;exact⟨g,A,l,c,e,hb.upd hU (fun h=>h.2.1 hs),hs,hv.change' hU hT⟩
 · intro i hi
   obtain⟨f,hf,he⟩:=fs_at hi
   rw[he]
   intro u u' wx S hu h
   have hi':=hu i (.inl rfl)
   cases f with
   | val s=>exact(show s.H (u' i) wx from hi'▸(show s.H (u i) wx from h))
   | tup2 a b=>obtain⟨v1,v2,e,h1,h2⟩:=h;exact⟨v1,v2,hi'▸e,h1,h2⟩
   | tup3 a b c=>obtain⟨v1,v2,v3,e,h1,h2,h3⟩:=h;exact⟨v1,v2,v3,hi'▸e,h1,h2,h3⟩
   | new t v=>obtain⟨g,e,hb,hs,hall⟩:=h;exact⟨g,hi'▸e,hb,hs,hall⟩
   | set d t n=>
     obtain⟨g,A,l,c,e,hb,hs,hv⟩:=h
     obtain⟨h1,h2, -⟩:=hF' _ (fs_cons hf)
     exact⟨g,A,l,c,(hu d (.inr ⟨h1,h2⟩))▸e,hb,hs,hv⟩
 · intro p hp u wx S b hj hs
   obtain⟨h1, -,t,v,he,hv⟩:=hF' p hp
   obtain⟨f,hf,he2⟩:=fs_at h1
   rw[he]at hf
   injection hf with hf
   subst hf
   rw[he2]at hj
   obtain⟨g,e,hb,hs',hall⟩:=hj
   rw[hall b hs]
   exact⟨t,v,hb,hv⟩
end
/- Numbers out of bytes, walked: FromBytes. -/
section
open Go.RowKit
open Nt
attribute [local go_sem] steady steadyUpon Cls same_cell by32 by8 wrap_w32 or_u32
def bdig (bs:List (BitVec 8)):Nat→Nat:=fun i=>dig d8 bs (bs.length - 1 - i)
def ofB (bs:List (BitVec 8)):Nat:=vf 256 (bdig bs) bs.length
theorem ofB_lt (bs:List (BitVec 8)):ofB bs<256^bs.length:=vf_lt fun i _=>d8_lt _
theorem gat_replicate {α:Type} [Inhabited α] {x:α} {N i:Nat} (h:i<N):gat (List.replicate N x) i=x:=by
 simp[gat,h]
theorem dig_zeros (N i:Nat):dig d32 (List.replicate N default) i=0:=by
 unfold dig gat
 rw[List.getD_eq_getElem?_getD,List.getElem?_replicate]
 split<;>rfl
theorem vf_zeros {β N:Nat} {f0:Nat→Nat}:vf β (dig d32 (List.replicate N default)) N=vf 256 f0 0:=by
 rw[vf_zero_tail (Nat.zero_le N) (fun i _ h=>by unfold dig;rw[gat_replicate h];rfl)];rfl
theorem w32_nat {N:Nat} (h:N<W32):d32 (w32 (N:Int))=N:=by rw[d32_w32,Nat.mod_eq_of_lt h]
theorem d32_or {x y:BitVec 32} {a b s:Nat} (hx:d32 x=a) (hy:d32 y=b*2^s) (ha:a<2^s):d32 (x ||| y)=a+b*2^s:=by
 unfold d32 at*
 rw[BitVec.toNat_or,hx,hy,Nat.or_comm,←Nat.shiftLeft_eq,←Nat.shiftLeft_add_eq_or_of_lt ha,Nat.add_comm]
end
/- Numbers written as bytes, walked: Bytes, Least. -/
section
open Go.RowKit
open Nt
def w8 (x:Int):BitVec 8:=BitVec.ofInt 8 x
theorem wrap_w8 (x:Int):IntKind.u8.wrap x=n8 (w8 x):=by
 unfold n8 w8
 rw[IntKind.wrap_u8,BitVec.toNat_ofInt]
 omega
theorem d8_w8 (x:Nat):d8 (w8 x)=x % 256:=by
 unfold d8 w8
 rw[BitVec.toNat_ofInt]
 omega
attribute [local go_sem] steady steadyUpon Cls same_cell by32 by8 wrap_w32 wrap_w8
def byteOf (n i:Nat):BitVec 8:=BitVec.ofNat 8 (n / 256^i)
theorem d8_byteOf (n i:Nat):d8 (byteOf n i)=n / 256^i % 256:=by unfold d8 byteOf;rw[BitVec.toNat_ofNat]
def toB (n size:Nat):List (BitVec 8):=(List.range size).map fun j=>byteOf n (size - 1 - j)
theorem toB_length (n size:Nat):(toB n size).length=size:=by simp[toB]
def toBk (n size k:Nat):List (BitVec 8):=(List.range size).map fun j=>if size - 1 - j<k then byteOf n (size - 1 - j) else 0
theorem toBk_length (n size k:Nat):(toBk n size k).length=size:=by simp[toBk]
theorem toBk_zero (n size:Nat):toBk n size 0=List.replicate size 0:=by
 apply List.ext_getElem
 · simp[toBk]
 · intro i h1 h2;simp[toBk]
theorem toBk_succ (n size k:Nat) (hk:k<size):(toBk n size k).set (size - 1 - k) (byteOf n k)=toBk n size (k+1):=by
 apply List.ext_getElem
 · simp[toBk]
 · intro i h1 h2
   simp only[toBk,List.length_set,List.length_map,List.length_range]at h1
   rw[List.getElem_set]
   simp only[toBk,List.getElem_map,List.getElem_range]
   by_cases e:size - 1 - k=i
   · have e2:size - 1 - i=k:=by omega
     rw[if_pos e,e2,if_pos (by omega)]
   · rw[if_neg e]
     by_cases h:size - 1 - i<k
     · rw[if_pos h,if_pos (by omega)]
     · rw[if_neg h,if_neg (by omega)]
theorem toBk_all (n size k:Nat) (hk:n<256^k):toBk n size k=toB n size:=by
 apply List.ext_getElem
 · simp[toBk,toB]
 · intro i h1 h2
   simp only[toBk,toB,List.getElem_map,List.getElem_range]
   split
   · rfl
   · rename_i h
     have:n / 256^(size - 1 - i)=0:=Nat.div_eq_of_lt (Nat.lt_of_lt_of_le hk (Nat.pow_le_pow_right (by omega) (by omega)))
     unfold byteOf
     rw[this];rfl
theorem ofB_toB (n size:Nat) (h:n<256^size):ofB (toB n size)=n:=by
 unfold ofB
 rw[toB_length]
 have key:∀k,k≤size→vf 256 (bdig (toB n size)) k=n % 256^k:=by
  intro k
  induction k with
  | zero=>intro _;simp[vf,Nat.mod_one]
  | succ k ih=>
    intro hk
    rw[vf_succ,ih (by omega),Nat.mod_pow_succ]
    have:bdig (toB n size) k=n / 256^k % 256:=by
     unfold bdig dig
     rw[toB_length,gat_lt (by rw[toB_length];omega)]
     simp only[toB,List.getElem_map,List.getElem_range]
     rw[d8_byteOf,show size - 1 - (size - 1 - k)=k by omega]
    rw[this,Nat.mul_comm (256^k)]
 rw[key size (Nat.le_refl _),Nat.mod_eq_of_lt h]
theorem byte_word {xs:List (BitVec 32)} {n k:Nat} (hn:numOf W32 d32 xs=n) (h:k / 4<xs.length):w8 (n32 (gat xs (k / 4)) / 2^(8*(k % 4)))=byteOf n k:=by
 have h1:=vf_digit one_lt_W32 (f:=dig d32 xs) (fun i _=>d32_lt _) h
 rw[show vf W32 (dig d32 xs) xs.length=n from hn]at h1
 have e:n32 (gat xs (k / 4)) / 2^(8*(k % 4))=((d32 (gat xs (k / 4)) / 2^(8*(k % 4)):Nat):Int):=by
  rw[n32_d];simp
 have e2:d8 (w8 (n32 (gat xs (k / 4)) / 2^(8*(k % 4))))=d8 (byteOf n k):=by
  rw[e,d8_w8,d8_byteOf,←pow256,show d32 (gat xs (k / 4))=n / W32^(k / 4) % W32 from h1.symm]
  exact digit_digit (γ:=256) (m:=4) (by decide) (by decide)
 exact BitVec.eq_of_toNat_eq e2
def RetB (w:World) (l:Nat) (bs:List (BitVec 8)) (m:Int) (e:Ending) (w':World):Prop:=
 ∃A c,e=.returned (.tuple #[.slice A l c,.int .i64 m])∧bs.length=l∧Own w' w.heap.size 5 A c (bs.map by8)∧Ext w w'
set_option maxRecDepth 100000 in
set_option maxHeartbeats 1000000 in
theorem bytes_any (v:Value) (n k size:Nat) (w:World) (hV:NatV w v n) (hF:Fit k n) (hk:k≤1000000) (hs:bytelen n≤size) (hs2:size≤100000000):
 Calls Try.prog 79 #[v,.int .i64 size] w (RetB w size (toB n size) 0):=by
 obtain⟨A,c,xs,rfl,hc,hm,hS,hT,hn⟩:=hV.words
 have hxl:=words_len hT
 rw[hn]at hxl
 have hlb:=hide (lt_bytelen n)
 obtain⟨L,hL⟩:∃L,L=bytelen n:=⟨_,rfl⟩
 rw[←hL]at hs hlb
 have hLb:((blen n:Int)+7) / 8=(L:Int):=by rw[hL];unfold bytelen;omega
 have hbl2:blen n≤8*L:=by rw[hL];unfold bytelen;omega
 have hLx:∀i,i<L→i / 4<xs.length:=fun i hi=>by rw[hxl];rw[hL]at hi;unfold bytelen at hi;omega
 have HLx:=hide hLx
 have HLb:=hide hLb
 have HS:=hide (hS.ext ((Upd.refl _ w).alloc (.cells #[.slice A xs.length c] 33)))
 have Hn:=hide hn
 clear hT hn hL hS hxl hLx hLb
 have hB:=hide ((bits_any _ n k (w.alloc (.cells #[.slice A xs.length c] 33)) (hV.ext ((Upd.refl _ _).alloc _)) hF hk))
 clear hV
 go_enter Try.func79,Try.ntmps79
 go_wp2_with (first
  | (go_at_call 31;refine hB.out.mono ?_;rintro e w1 ⟨rfl,hU⟩;have hL2:=HLb.out)
  | (at_make;clear hL2;go_must (refine wpList_mk _ _ _ Try.n_el8 rfl rfl size rfl rfl rfl rfl (by omega) (by unfold maxLen;omega) by8 rfl rfl (B:=w1.heap.size) (Nat.le_refl _) ?_);intro g w2 hO hg hU2))
 subst hg
 rw[HLb.out]
 have hBx:=(Box.new w 33 (.slice A xs.length c)).ext (hU.trans hU2)
 have hUw:Ext w w1:=(by repeat (first | (with_reducible exact Upd.refl _ _) | (with_reducible assumption) | (refine Upd.setCell ?_ (.inr (by first | exact Nat.le_refl _ | (dsimp only;omega) | (simp;done) | (simp;omega))) _) | (with_reducible refine Upd.alloc ?_ _) | (with_reducible refine Upd.drew ?_) | (with_reducible refine Upd.trans ?_ (by with_reducible assumption))))
 have hw1:w.heap.size<w1.heap.size:=by have:=hU.size;simp at this;omega
 have HSw:=hide (HS.out.ext hU)
 rw[show(default:BitVec 8)=0 from rfl,←toBk_zero n size]at hO
 clear hU hB
 go_loopw [21] (fun i wr=>∃k:Nat,k≤L∧i=.int .i64 k∧Own wr w1.heap.size 5 (some ⟨w1.heap.size,0,none⟩) size ((toBk n size k).map by8)∧Box wr w.heap.size 33 (.slice A xs.length c)∧Ext w1 wr) (fun i _=>L - (intOf i).toNat)
 case atStart=>exact⟨0,Nat.zero_le _,rfl,hO,hBx,hU2⟩
 case round=>
  clear hO hBx hU2
  obtain⟨k,hk',rfl,hO,hBx,hU⟩:=hrel
  by_cases hlt:k<L
  · obtain⟨b,o,rfl,hbl,hcells⟩:=(HSw.out.ext hU).open_ (by have:=HLx.out k hlt;omega)
    have hcell:=hcells (k / 4) (HLx.out k hlt)
    have hq:(((k / 4:Nat):Int))<(xs.length:Int):=by have:=HLx.out k hlt;omega
    have hcx:=hBx.cell
    clear hcells
    go_wp2_with (refine wpList_store_own by8 one8 (w8 (n32 (gat xs (k / 4)) / 2^(8*(k % 4)))) rfl rfl Try.n_sz8 rfl rfl hO (by rw[toBk_length];omega) ?_;intro w3 hO3 hU3)
    go_roundw
    case rel=>exact⟨k+1,by omega,by go_num,by rw[←toBk_succ n size k (by omega),←byte_word Hn.out (HLx.out k hlt)];exact hO3,hBx.upd hU3 (fun h=>by unfold only at h;omega),Upd.fresh hU3 hU (fun i hi=>by unfold only at hi;omega)⟩
    case measure=>simp[intOf];omega
  · obtain rfl:k=L:=by omega
    go_wp2
    go_ret2
    exact⟨_,_,rfl,toB_length _ _,by rw[←toBk_all n size k hlb.out];exact hO.mono (by omega),hUw.trans hU⟩
theorem bytelen_int (n:Nat):((blen n:Int)+7) / 8=(bytelen n:Int):=by unfold bytelen;omega
theorem bytelen_le {k n:Nat} (hF:Fit k n):bytelen n≤4*k:=by
 rw[bytelen_le_iff]
 unfold Fit at hF
 rw[Nat.pow_mul];exact hF
def RetL (w:World) (l:Nat) (bs:List (BitVec 8)) (e:Ending) (w':World):Prop:=
 ∃A c,e=.returned (.slice A l c)∧bs.length=l∧Own w' w.heap.size 5 A c (bs.map by8)∧Ext w w'
set_option maxRecDepth 100000 in
set_option maxHeartbeats 1000000 in
theorem least_any (v:Value) (n k:Nat) (w:World) (hV:NatV w v n) (hF:Fit k n) (hk:k≤1000000):
 Calls Try.prog 47 #[v] w (RetL w (bytelen n) (toB n (bytelen n))):=by
 obtain⟨A,c,xs,hv, -⟩:=hV.words
 subst hv
 have hLb:=bytelen_int n
 have hLe:=bytelen_le hF
 obtain⟨L,hL⟩:∃L,L=bytelen n:=⟨_,rfl⟩
 have hls:bytelen n≤L:=by omega
 have Hls:=hide hls
 rw[←hL]at hLb hLe ⊢
 clear hls
 have hbl2:blen n≤8*L:=by omega
 have e1:IntKind.i64.wrap ((blen n:Int)+7)=(blen n:Int)+7:=IntWalk.i64_in _ (by omega)
 have e2:IntKind.i64.wrap (((blen n:Int)+7) / 8)=(L:Int):=by rw[hLb];exact IntWalk.i64_in _ (by omega)
 have e2t:IntKind.i64.wrap (((blen n:Int)+7).tdiv 8)=(L:Int):=by rw[Int.tdiv_eq_ediv_of_nonneg (by omega)];exact e2
 have HL:=hide hL
 have H2:=hide (And.intro e2 e2t)
 have H1:=hide e1
 have HV:=hide hV
 clear hL e1 e2 e2t hLb hV
 go_enter Try.func47,Try.ntmps47
 go_wp2
 have c0:=fun x:Wd (Ext (w.alloc (.cells #[.slice A xs.length c] 33)).drew)=>Upd.cellv x.ok (p:=⟨w.heap.size,0,none⟩) (v:=.slice A xs.length c) (by go_simp)
 have hVb:NatV (w.alloc (.cells #[.slice A xs.length c] 33)).drew (.agg #[.slice A xs.length c]) n:=HV.out.ext (by repeat (first | (with_reducible exact Upd.refl _ _) | (with_reducible assumption) | (refine Upd.setCell ?_ (.inr (by first | exact Nat.le_refl _ | (dsimp only;omega) | (simp;done) | (simp;omega))) _) | (with_reducible refine Upd.alloc ?_ _) | (with_reducible refine Upd.drew ?_) | (with_reducible refine Upd.trans ?_ (by with_reducible assumption))))
 have HVb:=hide hVb
 clear hVb HV
 have hz:(w.alloc (.cells #[.slice A xs.length c] 33)).drew.heap.size=w.heap.size+1:=by simp
 obtain⟨W,hW⟩:∃W,W=(w.alloc (.cells #[.slice A xs.length c] 33)).drew:=⟨_,rfl⟩
 have hWE:Ext w W:=by rw[hW];exact(by repeat (first | (with_reducible exact Upd.refl _ _) | (with_reducible assumption) | (refine Upd.setCell ?_ (.inr (by first | exact Nat.le_refl _ | (dsimp only;omega) | (simp;done) | (simp;omega))) _) | (with_reducible refine Upd.alloc ?_ _) | (with_reducible refine Upd.drew ?_) | (with_reducible refine Upd.trans ?_ (by with_reducible assumption))))
 refine wp_region_plan (Ext _) 10 [(false,0),(false,1),(true,2),(false,3),(false,4),(true,5),(false,6),(false,7),(false,8),(false,9)] (by kernel_rfl) (by kernel_rfl) (Upd.refl _ _) (fun hne=>?_)
 repeat (refine head_q rfl (fun K hK=>?_);have hK2:=hide hK;clear hK;go_simp;refine hK2.out _ ?_;clear hK2 K)
 rw[←hW]at HVb c0 hz ⊢
 clear hW
 refine head_l rfl ?_
 go_wp2_with fail
 refine(bits_any _ n k _ HVb.out hF hk).mono ?_
 rintro e w1 ⟨rfl,hU⟩
 go_wp2_with fail
 refine⟨Cls (Ext W),fun _ h=>h,⟨⟨_,hU⟩,rfl⟩,?_⟩
 have e1:=H1.out
 have e2:=H2.out.1
 have e2t:=H2.out.2
 repeat (refine head_q rfl (fun K hK=>?_);have hK2:=hide hK;clear hK;go_simp;refine hK2.out _ ?_;clear hK2 K)
 clear e1 e2 e2t
 refine head_l rfl ?_
 go_wp2_with fail
 refine(bytes_any _ n k L _ (HVb.out.ext hU) hF hk Hls.out (by omega)).mono ?_
 rintro e w2 ⟨A2,c2,rfl,hl2,hO2,hU2⟩
 clear hl2
 go_wp2_with fail
 refine⟨Cls (Ext W),fun _ h=>h,⟨⟨_,hU.trans hU2⟩,rfl⟩,?_⟩
 repeat (refine head_q rfl (fun K hK=>?_);have hK2:=hide hK;clear hK;go_simp;refine hK2.out _ ?_;clear hK2 K)
 refine head_nil ?_
 try simp only[List.drop_succ_cons,List.drop_zero]
 go_wp2
 go_ret
 exact⟨_,_,rfl,toB_length _ _,hO2.mono (by have:=hU.size;omega),(by repeat (first | (with_reducible exact Upd.refl _ _) | (with_reducible assumption) | (refine Upd.setCell ?_ (.inr (by first | exact Nat.le_refl _ | (dsimp only;omega) | (simp;done) | (simp;omega))) _) | (with_reducible refine Upd.alloc ?_ _) | (with_reducible refine Upd.drew ?_) | (with_reducible refine Upd.trans ?_ (by with_reducible assumption))))⟩
end
end Go.Proofs.Ytbhhjfhepkbfgaa
