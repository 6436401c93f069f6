/- Merged: MacM Mac MacE. -/
import Derived.Test.YtbhhjfhepkbfgaaGnShas
import Derived.Lib.SmallJoins
import Derived.Lib.SlBytesConst
namespace Go.Proofs.Ytbhhjfhepkbfgaa
set_option linter.unusedSimpArgs false
set_option linter.unusedVariables false
/- Tags and keys out of keys, as plain functions; words on memory for them. -/
section
open Go.RowKit
open Sha
theorem Own.of_arr {α:Type} [Inhabited α] {f:α→Value} {w:World} {B g n:Nat} {e:TypeId} {xs:List α} (h:Arr w g e n (fun i=>f (gat xs i))) (hn:xs.length=n) (hB:B≤g) (hm:n≤maxLen):Own w B e (some ⟨g,0,none⟩) n (xs.map f):=by
  subst hn
  refine⟨by simp,.inr ⟨g,xs.length,_,rfl,hB,h,by simp,hm,by simp,?_⟩⟩
  apply List.ext_getElem?
  intro i
  rw[List.getElem?_take]
  by_cases hi:i<xs.length
  · rw[if_pos (by simpa using hi),List.getElem?_map,gat_some hi]
    simp[hi]
  · rw[if_neg (by simpa using hi),List.getElem?_eq_none (by simp;omega)]
theorem Own.marr {α:Type} [Inhabited α] {f:α→Value} {w:World} {B g n:Nat} {e:TypeId} {xs:List α} (h:Own w B e (some ⟨g,0,none⟩) n (xs.map f)) (hn:xs.length=n):Arr w g e n (fun i=>f (gat xs i)):=by
  obtain⟨cs,h1,h2,h3⟩:=h.row
  rcases h.2 with ⟨h0,_⟩ | ⟨g',cap,cur,hv,hb,hg,hn',_,hcs,htake⟩
  · simp at h0
  · injection hv with hA _ hcc
    injection hA with hA
    injection hA with hA
    subst hA hcc
    rw[hg]at h1
    injection h1 with h1
    injection h1 with h1
    subst h1
    unfold Arr
    rw[hg]
    congr 2
    apply Array.ext
    · simp;omega
    · intro i h4 h5
      simp at h5
      have:=h3 i (by omega)
      rw[Array.getElem?_eq_getElem h4]at this
      simpa using this
theorem Ows.cut {α:Type} {f:α→Value} {w:World} {B c:Nat} {e:TypeId} {A:Option Addr} {xs:List α} (h:Ows w B e A c (xs.map f)) {n m:Nat} (hn:n≤xs.length) (hm:n≤m) (hc:m≤c):Ows w B e A m ((xs.take n).map f):=by
 refine⟨by simp;omega,by have:=h.2.1;omega,?_⟩
 rcases h.2.2 with ⟨rfl,h0⟩ | ⟨g,o,cur,rfl,hb,hg,hs,hcell⟩
 · exact .inl ⟨rfl,by omega⟩
 · refine .inr ⟨g,o,cur,rfl,hb,hg,by omega,fun i hi=>?_⟩
   simp at hi
   rw[hcell i (by simp;omega),List.getElem?_map,List.getElem?_map,List.getElem?_take,if_pos (by omega)]
theorem wpList_copy_any {P:Program} {w:World} {ops:Array Oper} {rest:List Oper} {o:Oper} {a:Act} {Q:Exit→Act→World→Prop} {α:Type} [Inhabited α] (enc:α→Value) (hone:∀x,(enc x).oneCell'=true) (xs:List α) (hgd:o.guard=none) {d s:Operand} {dT sT el:TypeId} (ho:o.op=.call {callee:=.builtin .copy,args:=#[d,s],argTypes:=#[dT,sT]})
 (hu:P.underlying dT=some (.slice el)) (hsz:(P.info? el).map (·.size)=some 1) {g p dl dc:Nat} (hd:a.eval d=.slice (some ⟨g,p,none⟩) dl dc) {A:Option Addr} {sl sc:Nat} (hsv:a.eval s=.slice A sl sc)
 (hx:Sl enc w A xs) (hl:xs.length=Nat.min sl dl) {t:TypeId} {n:Nat} {f:Nat→Value} (hA:Arr w g t n f) (hfit:p+xs.length≤n)
 (h:∀w',Arr w' g t n (fun j=>if p≤j∧j<p+xs.length then enc (gat xs (j - p)) else f j)→Upd (only g) w w'→wpList P ops Q rest (a.put o.dst (goInt xs.length)) w'):wpList P ops Q (o :: rest) a w:=by
 rcases Nat.eq_zero_or_pos xs.length with h0 | h0
 · refine wpList_copy_nothing hgd d s dT sT ho el hu hsz _ _ _ _ _ _ hd hsv (by rw[←hl];exact h0) ?_
   have:=h w (hA.congr fun j _=>by rw[if_neg (by omega)]) (Upd.refl _ _)
   rwa [h0]at this
 · exact wpList_copy_arr enc hone xs hgd ho hu hsz hd hsv hx h0 hl hA hfit h
theorem Pts.lit (w:World) (t:TypeId) (ps:List Pt) (h:∀p∈ps,p.ok w):Pts (w.alloc (.cells (ps.map Pt.val).toArray t)) (some ⟨w.heap.size,0,none⟩) ps:=
 ⟨Sl.new Pt.val w t ps,fun i hi=>by
   have h1:=h (gat ps i) (by rw[gat_lt hi];exact List.getElem_mem _)
   exact⟨h1.1.ext ((Upd.refl _ _).alloc _),h1.2⟩⟩
theorem Pts.one (w:World) (t:TypeId) (p:Pt) (h:p.ok w):Pts (w.alloc (.cells #[p.val] t)) (some ⟨w.heap.size,0,none⟩) [p]:=Pts.lit w t [p] (by simpa using h)
theorem Pts.two (w:World) (t:TypeId) (p q:Pt) (h:p.ok w) (h':q.ok w):Pts (w.alloc (.cells #[p.val,q.val] t)) (some ⟨w.heap.size,0,none⟩) [p,q]:=Pts.lit w t [p,q] (by simpa using ⟨h,h'⟩)
theorem Pts.three (w:World) (t:TypeId) (p q r:Pt) (h:p.ok w) (h':q.ok w) (h'':r.ok w):Pts (w.alloc (.cells #[p.val,q.val,r.val] t)) (some ⟨w.heap.size,0,none⟩) [p,q,r]:=Pts.lit w t [p,q,r] (by simpa using ⟨h,h',h''⟩)
theorem Pt.ok.ext {w w':World} {p:Pt} (h:p.ok w) (hu:Ext w w'):p.ok w':=⟨h.1.ext hu,h.2⟩
theorem Own.mpt {w:World} {B c:Nat} {A:Option Addr} {e:TypeId} {bs:List (BitVec 8)} (h:Own w B e A c (bs.map by8)) {n:Nat} (hn:bs.length=n):Pt.ok w ⟨A,n,c,bs⟩:=
 ⟨h.sl,hn,by have:=h.cap.1;rw[List.length_map,hn]at this;exact this,h.cap.2⟩
theorem gat_out {xs:List (BitVec 8)} {i:Nat} (h:xs.length≤i):gat xs i=0:=by
 simp[gat,List.getD_eq_getElem?_getD,List.getElem?_eq_none h];rfl
theorem flat2 (p q:Pt):flat [p,q]=p.bs++q.bs:=by simp[flat]
theorem mflat3 (p q r:Pt):flat [p,q,r]=p.bs++q.bs++r.bs:=by simp[flat]
def lenV :Value→Nat
 | .slice _ l _=>l
 | _=>0
namespace Mac
def kb (key:List (BitVec 8)):List (BitVec 8):=if 64<key.length then sum key else key
def padk (key:List (BitVec 8)) (x:BitVec 8):List (BitVec 8):=(List.range 64).map fun i=>gat (kb key) i ^^^ x
theorem padk_length (key:List (BitVec 8)) (x:BitVec 8):(padk key x).length=64:=by simp[padk]
theorem padk_gat (key:List (BitVec 8)) (x:BitVec 8) (i:Nat) (h:i<64):gat (padk key x) i=gat (kb key) i ^^^ x:=by simp[padk,gat,h]
def inner (key msg:List (BitVec 8)):List (BitVec 8):=sum (padk key 0x36++msg)
def tag (key msg:List (BitVec 8)):List (BitVec 8):=sum (padk key 0x5c++inner key msg)
theorem tag_length (key msg:List (BitVec 8)):(tag key msg).length=32:=sum_length _
def part (key info:List (BitVec 8)):Nat→List (BitVec 8)
 | 0=>[]
 | i+1=>tag key (part key info i++info++[BitVec.ofNat 8 (i+1)])
def plen :Nat→Nat
 | 0=>0
 | _+1=>32
theorem part_length (key info:List (BitVec 8)) (k:Nat):(part key info k).length=plen k:=by
 cases k with
 | zero=>rfl
 | succ k=>exact tag_length _ _
def parts (key info:List (BitVec 8)):Nat→List (BitVec 8)
 | 0=>[]
 | i+1=>parts key info i++part key info (i+1)
theorem parts_length (key info:List (BitVec 8)) (k:Nat):(parts key info k).length=32*k:=by
 induction k with
 | zero=>rfl
 | succ k ih=>rw[parts,List.length_append,ih,part_length];simp[plen];omega
def expand (key info:List (BitVec 8)) (n:Nat):List (BitVec 8):=(parts key info ((n+31) / 32)).take n
theorem expand_length (key info:List (BitVec 8)) (n:Nat):(expand key info n).length=n:=by rw[expand,List.length_take,parts_length];omega
theorem parts_take (key info:List (BitVec 8)) (k n:Nat) (h:n≤32*k):(parts key info k).take n=expand key info n:=by
 have key1:∀m,(n+31) / 32≤m→(parts key info m).take n=expand key info n:=by
  intro m hm
  induction m with
  | zero=>
    have h0:(n+31) / 32=0:=by omega
    unfold expand;rw[h0]
  | succ m ih=>
    by_cases hm2:(n+31) / 32=m+1
    · unfold expand;rw[hm2]
    · rw[←ih (by omega),parts,List.take_append_of_le_length (by rw[parts_length];omega)]
 exact key1 k (by omega)
end Mac
end
/- Tags, walked. -/
section
open Go.RowKit
open Sha
open Mac
attribute [local go_sem] steady steadyUpon Cls same_cell by8 by32
attribute [local go_sem] xor_u8
set_option maxRecDepth 100000 in
set_option maxHeartbeats 2000000 in
theorem pad_any (A:Option Addr) (n c:Nat) (key:List (BitVec 8)) (x:BitVec 8) (w:World) (hS:Sl by8 w A key) (hn:key.length=n) (hc:n≤c) (hm:c≤maxLen) (hl:n≤100000000):
 Calls Try.prog 107 #[.slice A n c,.int .u8 (n8 x)] w (RetS w 64 (padk key x)):=by
 have HS:=hide hS
 have Hn:=hide hn
 have Hm:=hide hm
 clear hS hn hm
 by_cases h64:64<n
 · have hd:decide ((64:Int)<(n:Int))=true:=decide_eq_true (by omega)
   go_enter Try.func107,Try.ntmps107
   go_wp2_with fail
   refine(psum_any _ _ _ [⟨A,n,c,key⟩] _ (Pts.one _ _ ⟨A,n,c,key⟩ ⟨HS.out,Hn.out,hc,Hm.out⟩) rfl (by rw[flat_one];simp only;rw[Hn.out];omega) (by simp[maxLen])).mono ?_
   rintro e w1 ⟨A1,c1,rfl,hO1,hU1⟩
   rw[flat_one]at hO1
   have hke:kb key=sum key:=by unfold kb;rw[if_pos (by rw[Hn.out];exact h64)]
   have hkl:(kb key).length=32:=by rw[hke];exact sum_length _
   have hKs:Hid (Sl by8 w1 A1 (kb key)):=hide (by rw[hke];exact hO1.sl)
   have Hkl:=hide hkl
   have hUw:Ext w w1:=((Upd.refl _ _).alloc _).trans hU1
   clear hke hkl hO1 hU1
   go_wp2_with (first
    | (at_make;go_must (refine wpList_mk _ _ _ Try.el8 rfl rfl 64 rfl rfl rfl rfl (by decide) (by decide) by8 rfl rfl (B:=w.heap.size) hUw.size ?_);rintro g w2 hO2 rfl hU2;have hA2:=hide (hO2.marr (by simp));clear hO2)
    | (refine wpList_copy_any by8 one8 (kb key) rfl rfl Try.under_bs Try.sz8 rfl rfl (hKs.out.ext hU2) (by rw[Hkl.out];exact(Nat.min_eq_left (by omega)).symm) hA2.out (by rw[Hkl.out];omega) ?_;intro w3 hA3 hU3))
   have hA4:=hA3.congr (f':=fun i=>by8 (if i<0 then gat (kb key) i ^^^ x else gat (kb key) i)) (fun j hj=>by
     rw[if_neg (Nat.not_lt_zero _)]
     by_cases h:j<(kb key).length
     · rw[if_pos ⟨Nat.zero_le _,by omega⟩];rfl
     · rw[if_neg (by omega)]
       have e1:gat (List.replicate 64 (default:BitVec 8)) j=0:=by rw[gat_lt (by simpa using hj),List.getElem_replicate];rfl
       have e2:gat (kb key) j=0:=gat_out (by omega)
       rw[e1,e2])
   have hU4:=upd_new hU3 (hUw.trans hU2) (fun i hi=>by unfold only at hi;have:=hUw.size;omega)
   obtain⟨g,hg⟩:∃g,g=w1.heap.size:=⟨_,rfl⟩
   have hgw:w.heap.size≤g:=by rw[hg];exact hUw.size
   rw[←hg]at hA4 ⊢
   have hA4':=hide hA4
   clear hA2 hA3 hA4 hU3 hU2 hKs hUw hg
   go_loopw [19,6] (fun i _ wx=>∃k:Nat,k≤64∧i=.int .i64 k∧Arr wx g 5 64 (fun i=>by8 (if i<k then gat (kb key) i ^^^ x else gat (kb key) i))∧Ext w wx) (fun i _ _=>64 - (intOf i).toNat)
   case atStart=>exact⟨0,by omega,rfl,hA4'.out,hU4⟩
   case round=>
    clear hA4' hU4
    obtain⟨k,hk,rfl,hA,hU⟩:=hrel
    by_cases hlt:k<64
    · have hlti:(k:Int)<64:=by omega
      have hd:decide ((k:Int)<64)=true:=decide_eq_true (by omega)
      have ck:wr.cell? ⟨g,k,none⟩=some (.int .u8 (n8 (gat (kb key) k))):=by rw[hA.cell hlt,if_neg (by omega)];rfl
      have hA':=hide hA
      clear hA
      go_wp2_with (refine wpList_store_arr rfl rfl Try.sz8 rfl (v:=by8 (gat (kb key) k ^^^ x)) rfl rfl hA'.out hlt ?_;intro w3 hA3 hU3)
      go_roundw
      case rel=>exact⟨k+1,by omega,by go_num,hA3.congr (fun j _=>by
        unfold put1
        by_cases h:j=k
        · subst h;rw[if_pos rfl,if_pos (by omega)]
        · rw[if_neg h]
          dsimp only
          by_cases h2:j<k
          · rw[if_pos h2,if_pos (by omega)]
          · rw[if_neg h2,if_neg (by omega)]),upd_new hU3 hU (fun i hi=>by unfold only at hi;omega)⟩
      case measure=>simp[intOf];omega
    · obtain rfl:k=64:=by omega
      clear hk hlt
      have hA':=hide hA
      clear hA
      go_wp2_with fail
      go_ret
      refine⟨some ⟨g,0,none⟩,64,rfl,Own.of_arr (hA'.out.congr fun i hi=>?_) (padk_length key x) hgw (by decide),hU⟩
      rw[if_pos hi,padk_gat key x i hi]
 · have hd:decide ((64:Int)<(n:Int))=false:=decide_eq_false (by omega)
   have hke:kb key=key:=by unfold kb;rw[if_neg (by rw[Hn.out];exact h64)]
   have hkl:(kb key).length=n:=by rw[hke];exact Hn.out
   have hKs:Hid (Sl by8 w A (kb key)):=hide (by rw[hke];exact HS.out)
   have Hkl:=hide hkl
   have hUw:Ext w w:=Upd.refl _ _
   clear hke hkl
   go_enter Try.func107,Try.ntmps107
   go_wp2_with (first
    | (at_make;go_must (refine wpList_mk _ _ _ Try.el8 rfl rfl 64 rfl rfl rfl rfl (by decide) (by decide) by8 rfl rfl (B:=w.heap.size) hUw.size ?_);rintro g w2 hO2 rfl hU2;have hA2:=hide (hO2.marr (by simp));clear hO2)
    | (refine wpList_copy_any by8 one8 (kb key) rfl rfl Try.under_bs Try.sz8 rfl rfl (hKs.out.ext hU2) (by rw[Hkl.out];exact(Nat.min_eq_left (by omega)).symm) hA2.out (by rw[Hkl.out];omega) ?_;intro w3 hA3 hU3))
   have hA4:=hA3.congr (f':=fun i=>by8 (if i<0 then gat (kb key) i ^^^ x else gat (kb key) i)) (fun j hj=>by
     rw[if_neg (Nat.not_lt_zero _)]
     by_cases h:j<(kb key).length
     · rw[if_pos ⟨Nat.zero_le _,by omega⟩];rfl
     · rw[if_neg (by omega)]
       have e1:gat (List.replicate 64 (default:BitVec 8)) j=0:=by rw[gat_lt (by simpa using hj),List.getElem_replicate];rfl
       have e2:gat (kb key) j=0:=gat_out (by omega)
       rw[e1,e2])
   have hU4:=upd_new hU3 (hUw.trans hU2) (fun i hi=>by unfold only at hi;have:=hUw.size;omega)
   obtain⟨g,hg⟩:∃g,g=w.heap.size:=⟨_,rfl⟩
   have hgw:w.heap.size≤g:=by rw[hg];exact hUw.size
   rw[←hg]at hA4 ⊢
   have hA4':=hide hA4
   clear hA2 hA3 hA4 hU3 hU2 hKs hUw hg
   go_loopw [19,6] (fun i _ wx=>∃k:Nat,k≤64∧i=.int .i64 k∧Arr wx g 5 64 (fun i=>by8 (if i<k then gat (kb key) i ^^^ x else gat (kb key) i))∧Ext w wx) (fun i _ _=>64 - (intOf i).toNat)
   case atStart=>exact⟨0,by omega,rfl,hA4'.out,hU4⟩
   case round=>
    clear hA4' hU4
    obtain⟨k,hk,rfl,hA,hU⟩:=hrel
    by_cases hlt:k<64
    · have hlti:(k:Int)<64:=by omega
      have hd:decide ((k:Int)<64)=true:=decide_eq_true (by omega)
      have ck:wr.cell? ⟨g,k,none⟩=some (.int .u8 (n8 (gat (kb key) k))):=by rw[hA.cell hlt,if_neg (by omega)];rfl
      have hA':=hide hA
      clear hA
      go_wp2_with (refine wpList_store_arr rfl rfl Try.sz8 rfl (v:=by8 (gat (kb key) k ^^^ x)) rfl rfl hA'.out hlt ?_;intro w3 hA3 hU3)
      go_roundw
      case rel=>exact⟨k+1,by omega,by go_num,hA3.congr (fun j _=>by
        unfold put1
        by_cases h:j=k
        · subst h;rw[if_pos rfl,if_pos (by omega)]
        · rw[if_neg h]
          dsimp only
          by_cases h2:j<k
          · rw[if_pos h2,if_pos (by omega)]
          · rw[if_neg h2,if_neg (by omega)]),upd_new hU3 hU (fun i hi=>by unfold only at hi;omega)⟩
      case measure=>simp[intOf];omega
    · obtain rfl:k=64:=by omega
      clear hk hlt
      have hA':=hide hA
      clear hA
      go_wp2_with fail
      go_ret
      refine⟨some ⟨g,0,none⟩,64,rfl,Own.of_arr (hA'.out.congr fun i hi=>?_) (padk_length key x) hgw (by decide),hU⟩
      rw[if_pos hi,padk_gat key x i hi]
set_option maxRecDepth 100000 in
set_option maxHeartbeats 2000000 in
theorem tag_any (A:Option Addr) (n c:Nat) (key:List (BitVec 8)) (D:Option Addr) (m d:Nat) (ps:List Pt) (w:World) (hS:Sl by8 w A key) (hn:key.length=n) (hc:n≤c) (hm:c≤maxLen) (hl:n≤10000000)
 (hP:Pts w D ps) (hpl:ps.length=m) (hf:(flat ps).length≤10000000) (hmm:m≤maxLen):
 Calls Try.prog 90 #[.slice A n c,.slice D m d] w (RetS w 32 (tag key (flat ps))):=by
 unfold maxLen at hmm
 have HS:=hide hS
 have Hn:=hide hn
 have Hm:=hide hm
 have HP:=hide hP
 have Hpl:=hide hpl
 have Hf:=hide hf
 clear hS hn hm hP hpl hf
 go_enter Try.func90,Try.ntmps90
 go_wp2_with fail
 refine(hnew_any w).mono ?_
 rintro e w1 ⟨g,T1,rfl,hH1,hU1⟩
 have hH1':=hide hH1
 clear hH1
 go_wp2_with fail
 refine(pad_any A n c key 0x36 _ (HS.out.ext hU1) Hn.out hc Hm.out (by omega)).mono ?_
 rintro e w2 ⟨A2,c2,rfl,hO2,hU2⟩
 have hO2':=hide hO2
 clear hO2
 go_wp2_with fail
 refine(hadd_any w.heap.size g T1 [] (padk key 0x36) (padk key 0x36) _ _ _ _ (hH1'.out.ext hU2) (Nat.le_trans hU1.size hU2.size) hO2'.out.sl (padk_length _ _) rfl (by rw[padk_length];omega)).mono ?_
 rintro e w3 ⟨T3,rfl,hH3,hU3,hin3⟩
 have hU13:Ext w w3:=upd_new hU3 (hU1.trans hU2) (fun i hi=>(hH1'.out.in_ hi).1)
 have hH3':Hid (Hsh w3 w.heap.size T3 g (padk key 0x36++flat (ps.take 0))):=hide (by simpa[flat] using hH3)
 clear hH3 hH1' hU1 hU2 hO2' hU3 hin3
 go_wp2_with fail
 go_loopw [15,7] (fun i _ wx=>∃k T,k≤m∧i=.int .i64 (k:Nat)∧Hsh wx w.heap.size T g (padk key 0x36++flat (ps.take k))∧Ext w wx) (fun i _ _=>m - (intOf i).toNat)
 case atStart=>exact⟨0,T3,by omega,rfl,hH3'.out,hU13⟩
 case round=>
  clear hH3' hU13
  obtain⟨k,T,hk,rfl,hH,hU⟩:=hrel
  have hH':=hide hH
  clear hH
  by_cases hlt:k<m
  · have hlti:(k:Int)<m:=by omega
    have hd:decide ((k:Int)<m)=true:=decide_eq_true (by omega)
    obtain⟨b,o,rfl,_,hc⟩:=(HP.out.ext hU).1.open_ (by have:=Hpl.out;omega)
    have hck:=hc k (by have:=Hpl.out;omega)
    unfold Pt.val at hck
    have Hok:=hide ((HP.out.ext hU).2 k (by have:=Hpl.out;omega))
    clear hc
    go_wp2_with (go_at_call 106;go_must (refine(hadd_any w.heap.size g T (padk key 0x36++flat (ps.take k)) (gat ps k).bs (padk key 0x36++flat (ps.take (k+1))) _ _ _ _ hH'.out hU.size Hok.out.1 Hok.out.2.1 (by rw[List.append_assoc,flat_take (by have:=Hpl.out;omega)]) (by have:=Hf.out;have:=flat_le ps (k+1);rw[List.length_append,padk_length];omega)).mono ?_);rintro e w2 ⟨T2,rfl,hH2,hU2,hin2⟩)
    go_roundw
    case rel=>exact⟨k+1,T2,by omega,by go_num,hH2,upd_new hU2 hU (fun i hi=>(hH'.out.in_ hi).1)⟩
    case measure=>simp[intOf];omega
  · obtain rfl:k=m:=by omega
    clear hk hlt
    have hft:flat (ps.take k)=flat ps:=by rw[List.take_of_length_le (by have:=Hpl.out;omega)]
    rw[hft]at hH'
    clear hft
    go_wp2_with fail
    refine(pad_any A n c key 0x5c _ (HS.out.ext hU) Hn.out (by assumption) Hm.out (by omega)).mono ?_
    rintro e w4 ⟨A4,c4,rfl,hO4,hU4⟩
    have hO4':=hide hO4
    clear hO4
    go_wp2_with fail
    refine(hsum_any _ g T _ _ (hH'.out.ext hU4) (by have:=Hf.out;rw[List.length_append,padk_length];omega)).mono ?_
    rintro e w5 ⟨A5,c5,rfl,hO5,hU5⟩
    have hO5':=hide hO5
    clear hO5
    go_wp2_with fail
    refine(psum_any _ _ _ [⟨A4,64,c4,padk key 0x5c⟩,⟨A5,32,c5,inner key (flat ps)⟩] _ (Pts.two _ _ ⟨A4,64,c4,padk key 0x5c⟩ ⟨A5,32,c5,inner key (flat ps)⟩ ((hO4'.out.mpt (padk_length _ _)).ext hU5) (hO5'.out.mpt (sum_length _))) rfl (by rw[flat2];simp only;rw[List.length_append,padk_length];unfold inner;rw[sum_length];omega) (by simp[maxLen])).mono ?_
    rintro e w6 ⟨A6,c6,rfl,hO6,hU6⟩
    rw[flat2]at hO6
    have hU56:Ext w w6:=((hU.trans hU4).trans hU5).trans (((Upd.refl _ _).alloc _).trans hU6)
    have hsz:w.heap.size≤(w5.alloc (.cells #[.slice A4 64 c4,.slice A5 32 c5] 23)).heap.size:=Nat.le_trans ((hU.trans hU4).trans hU5).size (by simp)
    have hO6':=hide (hO6.mono hsz)
    clear hO6 hsz
    go_wp2_with fail
    go_ret
    exact⟨A6,c6,rfl,hO6'.out,hU56⟩
theorem extract_any (A:Option Addr) (n c:Nat) (salt:List (BitVec 8)) (D:Option Addr) (m d:Nat) (sec:List (BitVec 8)) (w:World) (hS:Sl by8 w A salt) (hn:salt.length=n) (hc:n≤c) (hm:c≤maxLen) (hl:n≤10000000)
 (hS':Sl by8 w D sec) (hn':sec.length=m) (hd:m≤d) (hd':d≤maxLen) (hl':m≤10000000):
 Calls Try.prog 68 #[.slice A n c,.slice D m d] w (RetS w 32 (tag salt sec)):=by
 have HS:=hide hS
 have Hn:=hide hn
 have Hm:=hide hm
 have HS':=hide hS'
 have Hn':=hide hn'
 have Hd':=hide hd'
 clear hS hn hm hS' hn' hd'
 go_enter Try.func68,Try.ntmps68
 go_wp2_with fail
 refine(tag_any A n c salt _ _ _ [⟨D,m,d,sec⟩] _ (HS.out.ext ((Upd.refl _ _).alloc _)) Hn.out hc Hm.out hl (Pts.one _ _ ⟨D,m,d,sec⟩ ⟨HS'.out,Hn'.out,hd,Hd'.out⟩) rfl (by rw[flat_one];simp only;rw[Hn'.out];omega) (by simp[maxLen])).mono ?_
 rintro e w1 ⟨A1,c1,rfl,hO1,hU1⟩
 rw[flat_one]at hO1
 have hO1':=hide hO1
 clear hO1
 go_wp2_with fail
 go_ret
 exact⟨A1,c1,rfl,hO1'.out.mono (by simp),((Upd.refl _ _).alloc _).trans hU1⟩
end
/- Keys out of keys, walked. -/
section
open Go.RowKit
open Sha
open Mac
attribute [local go_sem] steady steadyUpon Cls same_cell by8 by32
def MRetE (w:World) (n:Nat) (bs:List (BitVec 8)) (e:Ending) (w':World):Prop:=
 ∃A c,e=.returned (.tuple #[.slice A n c,.int .i64 0])∧Ows w' w.heap.size 5 A c (bs.map by8)∧Ext w w'
theorem n8_k (k:Nat):(n8 (BitVec.ofNat 8 k)+1) % 256=n8 (BitVec.ofNat 8 (k+1)):=by
 unfold n8
 rw[BitVec.toNat_ofNat,BitVec.toNat_ofNat]
 omega
set_option maxRecDepth 100000 in
set_option maxHeartbeats 2000000 in
theorem expand_any (A:Option Addr) (n c:Nat) (key:List (BitVec 8)) (D:Option Addr) (m d:Nat) (info:List (BitVec 8)) (N:Nat) (w:World) (hS:Sl by8 w A key) (hn:key.length=n) (hc:n≤c) (hm:c≤maxLen) (hl:n≤10000000)
 (hS':Sl by8 w D info) (hn':info.length=m) (hd:m≤d) (hd':d≤maxLen) (hl':m≤1000000) (hN:N≤8160):
 Calls Try.prog 67 #[.slice A n c,.slice D m d,.int .i64 N] w (MRetE w N (expand key info N)):=by
 have HS:=hide hS
 have Hn:=hide hn
 have Hm:=hide hm
 have HS':=hide hS'
 have Hn':=hide hn'
 have Hd':=hide hd'
 clear hS hn hm hS' hn' hd'
 have h0:¬(N:Int)<0:=by omega
 have h1:¬(8160:Int)<(N:Int):=by omega
 go_enter Try.func67,Try.ntmps67
 go_wp2_with fail
 go_loopw [8,9,10] (fun v u i wx=>∃k A1 c1 A2 c2,32*k≤N+31∧v=.slice A1 (32*k) c1∧u=.slice A2 (plen k) c2∧i=.int .u8 (n8 (BitVec.ofNat 8 (k+1)))∧Own wx w.heap.size 5 A1 c1 ((parts key info k).map by8)∧Own wx w.heap.size 5 A2 c2 ((Mac.part key info k).map by8)∧(∀i,inA A2 i→¬inA A1 i)∧Ext w wx) (fun v _ _ _=>N+32 - lenV v)
 case atStart=>exact⟨0,none,0,none,0,by omega,rfl,rfl,rfl,Own.nil,Own.nil,fun i hi=>by simp[inA]at hi,Upd.refl _ _⟩
 case round=>
  obtain⟨k,A1,c1,A2,c2,hk,rfl,rfl,rfl,hO1,hO2,hdis,hU⟩:=hrel
  have hO1':=hide hO1
  have hO2':=hide hO2
  have Hdis:=hide hdis
  clear hO1 hO2 hdis
  by_cases hlt:32*k<N
  · have hd1:decide (32*(k:Int)<N)=true:=decide_eq_true (by omega)
    have hparts:=Pts.three (wr.alloc (.cells #[.int .u8 (n8 (BitVec.ofNat 8 (k+1)))] 5)) 23 ⟨A2,plen k,c2,Mac.part key info k⟩ ⟨D,m,d,info⟩ ⟨some ⟨wr.heap.size,0,none⟩,1,1,[BitVec.ofNat 8 (k+1)]⟩
     ((hO2'.out.mpt (part_length key info k)).ext ((Upd.refl _ _).alloc _)) ⟨HS'.out.ext (hU.alloc _),Hn'.out,hd,Hd'.out⟩ ⟨Sl.new by8 wr 5 [BitVec.ofNat 8 (k+1)],rfl,Nat.le_refl _,by simp[maxLen]⟩
    rw[show(wr.alloc (.cells #[.int .u8 (n8 (BitVec.ofNat 8 (k+1)))] 5)).heap.size=wr.heap.size+1 by simp]at hparts
    have Hparts:=hide hparts
    clear hparts
    have hpl2:plen k≤32:=by cases k<;>simp[plen]
    go_wp2_with fail
    refine(tag_any A n c key _ 3 3 [⟨A2,plen k,c2,Mac.part key info k⟩,⟨D,m,d,info⟩,⟨some ⟨wr.heap.size,0,none⟩,1,1,[BitVec.ofNat 8 (k+1)]⟩] _ (HS.out.ext ((hU.alloc _).alloc _)) Hn.out hc Hm.out hl Hparts.out rfl (by rw[mflat3];simp only;rw[List.length_append,List.length_append,part_length,Hn'.out];simp;omega) (by simp[maxLen])).mono ?_
    rintro e w3 ⟨A3,c3,rfl,hO3,hU3⟩
    rw[mflat3]at hO3
    have hO3':Hid (Own w3 wr.heap.size 5 A3 c3 ((Mac.part key info (k+1)).map by8)):=hide (Own.mono (xs:=(Mac.part key info (k+1)).map by8) hO3 (by simp;omega))
    have hU3':Ext wr w3:=(((Upd.refl _ _).alloc _).alloc _).trans hU3
    clear hO3 Hparts
    go_wp2_with (at_builtin;go_must (refine wpList_apd by8 one8 Try.el8 (parts key info k) (Mac.part key info (k+1)) (parts key info (k+1)) (32*(k+1)) rfl (parts_length key info (k+1)) (by omega) (by unfold maxLen;omega) rfl rfl rfl (parts_length key info k) (hO1'.out.ext hU3') rfl (part_length key info (k+1)) hO3'.out.sl (Nat.le_trans hU.size hU3'.size) ?_);intro A4 c4 w4 hO4 hU4 hin4)
    have hn31:∀i,inA A3 i→¬inA A1 i:=fun i h3 h1=>by have:=(hO3'.out.in_ h3).1;have:=(hO1'.out.in_ h1).2;omega
    have hO5:=hO3'.out.upd hU4 hn31
    have hU5:=upd_new hU4 (hU.trans hU3') (fun i hi=>(hO1'.out.in_ hi).1)
    have hd5:∀i,inA A3 i→¬inA A4 i:=fun i h3 h4=>by
      rcases hin4 i h4 with h | h
      · exact hn31 i h3 h
      · have:=(hO3'.out.in_ h3).2;omega
    exact⟨⟨k+1,A4,c4,A3,c3,by omega,rfl,rfl,congrArg (Value.int .u8) (n8_k (k+1)),hO4,hO5.mono hU.size,hd5,hU5⟩,by simp only[lenV];omega⟩
  · have hd1:decide (32*(k:Int)<N)=false:=decide_eq_false (by omega)
    have hs1:∀w':World,(Instr.sliceAt 23 (.slice A1 (32*k) c1) none (some (.int .i64 (N:Int))) (some (.int .i64 (N:Int)))).run Try.prog w'=.ok (.slice A1 N N) w':=fun w'=>
     run_cut_hm (P:=Try.prog) Try.under_bs Try.sz8 A1 (32*k) c1 N N .i64 .i64 (Nat.le_refl _) (by have:=hO1'.out.cap.1;rw[List.length_map,parts_length]at this;omega) w'
    have hcN:N≤c1:=by have:=hO1'.out.cap.1;rw[List.length_map,parts_length]at this;omega
    go_wp2_with fail
    go_ret2
    refine⟨A1,N,rfl,?_,hU⟩
    have:=hO1'.out.ows.cut (n:=N) (m:=N) (by rw[parts_length];omega) (Nat.le_refl _) hcN
    rwa [parts_take key info k N (by omega)]at this
end
end Go.Proofs.Ytbhhjfhepkbfgaa
