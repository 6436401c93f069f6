/- The box's small functions, walked: whole, size, fill. -/
import Derived.Test.YtdohmikoafkniaaGreatLwSli
import Derived.Test.YtdohmikoafkniaaGreatLwMacR
set_option maxRecDepth 100000
set_option maxHeartbeats 8000000
namespace Go.Proofs.YtdohmikoafkniaaGreat
set_option linter.unusedSimpArgs false
set_option linter.unusedVariables false
open Go.RowKit
section
variable {P : Program} (w : World)
theorem zero_cells (z:Value) (hz:z.cells=#[z]) (m:Nat):Builtin.zeroCells z.cells m=(List.replicate m z).toArray:=by
 apply Array.ext'
 rw[hz]
 apply List.ext_getElem
 · simp[Builtin.zeroCells]
 · intro i h1 h2
   simp[Builtin.zeroCells]at h1 ⊢
   simp[Nat.mod_one]
theorem run_apz_nil (t ti ty e:TypeId) (i:TypeInfo) (z:Value) (ht:P.underlying t=some (.slice e)) (hti:P.underlying ti=some (.int .i64)) (hi:P.info? e=some i) (hz:i.zero=some z) (hs:i.size=1) (hb:i.bytes=1)
 (m:Nat) (h0:0<m) (h63:m≤140737488355328):
 (Builtin.append_ #[t,ti] ty #[.slice none 0 0,.int .i64 m]).run P w=
  .ok (.slice (some ⟨w.heap.size,0,none⟩) m (grownCap w m 0 e)) (w.drew.alloc (.cells (Builtin.zeroCells z.cells m++Builtin.zeroCells z.cells (grownCap w m 0 e - m)) e)):=by
 have hw:IntKind.i64.wrap (m:Int)=m:=IntWalk.i64_in _ (by omega)
 have h1:¬((m:Int)<0):=by omega
 have h2:¬(281474976710656<(m:Int)):=by omega
 have h3:¬m=0:=by omega
 have h4:¬((9223372036854775807:Int)<(m:Int)):=by omega
 have h5:¬(281474976710656<Builtin.nextslicecap m 0):=by rw[nextslicecap_zero h0];omega
 simp[Builtin.append_,run_underlying ht,run_underlying hti,sizeOf,typeInfo,zeroValue,hi,hz,hs,hb,hw,h2,h3,h4,h5,Question.forced,run_firstCells_none,newRow,grownCap,asInt,asIntOf]
 intro h;omega
theorem run_apz_room (t ti ty e:TypeId) (i:TypeInfo) (z:Value) (ht:P.underlying t=some (.slice e)) (hti:P.underlying ti=some (.int .i64)) (hi:P.info? e=some i) (hz:i.zero=some z) (hzc:z.cells=#[z]) (hone:z.oneCell'=true) (hs:i.size=1) (hb:i.bytes=1)
 (g n cap:Nat) (cur:Array Value) (hg:w.heap[g]? =some (.cells cur e (0,0))) (m:Nat) (h63:m≤140737488355328) (hroom:n+m≤cap) (hfit:n+m≤cur.size):
 (Builtin.append_ #[t,ti] ty #[.slice (some ⟨g,0,none⟩) n cap,.int .i64 m]).run P w=
  .ok (.slice (some ⟨g,0,none⟩) (n+m) cap) (w.setRow g (cur.toList.take n++List.replicate m z++cur.toList.drop (n+m)).toArray):=by
 have hw:IntKind.i64.wrap (m:Int)=m:=IntWalk.i64_in _ (by omega)
 have h2:¬(281474976710656<(m:Int)):=by omega
 have hst:=run_storeCells_at P g n e (List.replicate m z) 0 cur w hg (by simpa using hfit) (fun u hu=>by rw[(List.mem_replicate.1 hu).2];exact hone)
 simp only[Nat.add_zero,List.length_replicate]at hst
 by_cases h3:m=0
 · subst h3
   simp at hst
   simp[Builtin.append_,run_underlying ht,run_underlying hti,sizeOf,typeInfo,zeroValue,hi,hz,hs,hb,show IntKind.i64.wrap 0=0 from rfl,hroom,Addr.add_lit,hst,asInt,asIntOf]
   intro h;omega
 · simp[Builtin.append_,run_underlying ht,run_underlying hti,sizeOf,typeInfo,zeroValue,hi,hz,hs,hb,hw,h2,h3,hroom,Addr.add_lit,hst,asInt,asIntOf,zero_cells z hzc]
   intro h;omega
theorem run_apz_grow (t ti ty e:TypeId) (i:TypeInfo) (z:Value) (ht:P.underlying t=some (.slice e)) (hti:P.underlying ti=some (.int .i64)) (hi:P.info? e=some i) (hz:i.zero=some z) (hs:i.size=1) (hb:i.bytes=1)
 (b:Addr) (n cap:Nat) (olds:List Value) (hlo:olds.length=n) (holds:∀j v,olds[j]? =some v→w.cell? (b.add j)=some v) (m:Nat) (h63:n+m≤140737488355328) (hg:cap<n+m) (hm0:¬m=0):
 (Builtin.append_ #[t,ti] ty #[.slice (some b) n cap,.int .i64 m]).run P w=
  .ok (.slice (some ⟨w.heap.size,0,none⟩) (n+m) (grownCap w (n+m) cap e))
   (w.drew.alloc (.cells (olds.toArray++Builtin.zeroCells z.cells m++Builtin.zeroCells z.cells (grownCap w (n+m) cap e - (n+m))) e)):=by
 have hw:IntKind.i64.wrap (m:Int)=m:=IntWalk.i64_in _ (by omega)
 have h2:¬(281474976710656<(m:Int)):=by omega
 have h3:¬(n+m≤cap):=by omega
 have h4:¬(9223372036854775807<((n:Int)+(m:Int))):=by omega
 have h5:¬(281474976710656<Builtin.nextslicecap (n+m) cap):=by
  have:=growslice_fits (bytes:=1) hg (by omega)
  omega
 have hfo:=run_firstCells_some (P:=P) w.drew 1 n b n cap olds (by omega) (by simpa using holds)
 simp[Builtin.append_,run_underlying ht,run_underlying hti,sizeOf,typeInfo,zeroValue,hi,hz,hs,hb,hw,h2,h3,h4,h5,hm0,Question.forced,hfo,newRow,grownCap,asInt,asIntOf]
 intro h;omega
theorem run_apz (base:Nat) (t ti ty e:TypeId) (i:TypeInfo) (z:Value) (ht:P.underlying t=some (.slice e)) (hti:P.underlying ti=some (.int .i64)) (hi:P.info? e=some i) (hz:i.zero=some z) (hzc:z.cells=#[z]) (hone:z.oneCell'=true) (hs:i.size=1) (hb:i.bytes=1)
 (v:Value) (n:Nat) (xs:List Value) (hown:w.ownsRow base e 1 v n xs) (m:Nat) (h63:n+m≤140737488355328) (hbase:base≤w.heap.size):
 ∃v' w',(Builtin.append_ #[t,ti] ty #[v,.int .i64 m]).run P w=.ok v' w'∧w'.ownsRow base e 1 v' (n+m) (xs++List.replicate m z)∧w.grownBy w' v.ownBlock∧(v'.ownBlock=v.ownBlock∨v'.ownBlock=some w.heap.size):=by
 have hlen:(xs++List.replicate m z).length=(n+m)*1:=by rw[List.length_append,hown.1,List.length_replicate];omega
 have hlen':(xs++List.replicate m z).length=n+m:=by omega
 have hxl:xs.length=n:=by rw[hown.1];omega
 have grown:∀(old:Nat),old<n+m→∀(row:Option Nat),
  (w.drew.alloc (.cells (xs.toArray++Builtin.zeroCells z.cells m++Builtin.zeroCells z.cells (grownCap w (n+m) old e - (n+m))) e)).ownsRow base e 1
   (.slice (some ⟨w.heap.size,0,none⟩) (n+m) (grownCap w (n+m) old e)) (n+m) (xs++List.replicate m z)∧
  w.grownBy (w.drew.alloc (.cells (xs.toArray++Builtin.zeroCells z.cells m++Builtin.zeroCells z.cells (grownCap w (n+m) old e - (n+m))) e)) row:=by
  intro old ho row
  have hge:=grownCap_ge w (n+m) old e
  have hcm:grownCap w (n+m) old e≤maxLen:=grownCap_le_maxLen w (n+m) old e (by unfold maxLen;omega)
  rw[zero_cells z hzc m]
  refine⟨⟨hlen,.inr ⟨w.heap.size,_,_,rfl,hbase,heap_alloc_new w.drew _,hge,hcm,?_,?_⟩⟩,⟨rfl,rfl,rfl,by simp,fun k hk _=>heap_alloc_old w.drew _ hk⟩⟩
  · simp only[Array.size_append,List.size_toArray,size_zeroCells,hzc,List.length_replicate]
    simp
    omega
  · simp only[Array.toList_append,List.append_assoc]
    rw[←List.append_assoc,←hlen]
    exact List.take_left
 rcases hown.2 with ⟨rfl,rfl⟩ | ⟨g,cap,cur,rfl,hbg,hg,hnc,hcm,hcs,htake⟩
 · have hx:xs=[]:=List.eq_nil_of_length_eq_zero hxl
   subst hx
   by_cases hm:m=0
   · subst hm
     refine⟨.slice none 0 0,w,?_,World.ownsRow_nil w base e 1,⟨rfl,rfl,rfl,Nat.le_refl _,fun _ _ _=>rfl⟩,Or.inl rfl⟩
     simp[Builtin.append_,run_underlying ht,run_underlying hti,sizeOf,typeInfo,hi,hs,show IntKind.i64.wrap 0=0 from rfl,asInt,asIntOf]
   · have hr:=run_apz_nil (P:=P) w t ti ty e i z ht hti hi hz hs hb m (by omega) (by omega)
     have hgr:=grown 0 (by omega) (Value.ownBlock (.slice none 0 0))
     simp only[Nat.zero_add,List.nil_append,Array.empty_append]at hgr ⊢
     exact⟨_,_,hr,hgr.1,hgr.2,Or.inr rfl⟩
 · by_cases hroom:n+m≤cap
   · have hr:=run_apz_room (P:=P) w t ti ty e i z ht hti hi hz hzc hone hs hb g n cap cur hg m (by omega) hroom (by omega)
     refine⟨_,_,hr,⟨hlen,.inr ⟨g,cap,_,rfl,hbg,setRow_heap w g cur _ e _ hg,hroom,hcm,?_,?_⟩⟩,⟨rfl,rfl,rfl,by simp,fun k _ hk=>setRow_other w g k _ (fun e=>hk (by simp[Value.ownBlock,e]))⟩,Or.inl rfl⟩
     · simp only[List.size_toArray,List.length_append,List.length_take,List.length_drop,Array.length_toList,List.length_replicate]
       omega
     · rw[Nat.mul_one]at htake
       rw[htake,←hlen]
       exact List.take_left
   · have holds:∀j u,xs[j]? =some u→w.cell? ((⟨g,0,none⟩:Addr).add j)=some u:=hown.cells (g:=g) rfl
     have hr:=run_apz_grow (P:=P) w t ti ty e i z ht hti hi hz hs hb ⟨g,0,none⟩ n cap xs hxl holds m h63 (by omega) (by omega)
     have hgr:=grown cap (by omega) (Value.ownBlock (.slice (some ⟨g,0,none⟩) n cap))
     exact⟨_,_,hr,hgr.1,hgr.2,Or.inr rfl⟩
theorem wpList_apz {α:Type} [Inhabited α] (f:α→Value) (x0:α) (hone:(f x0).oneCell'=true) {T Ti e:TypeId} (E:ElemI P T e (f x0) 1) (hti:P.underlying Ti=some (.int .i64)) (xs zs:List α) (m N:Nat) (hz:xs++List.replicate m x0=zs) (hN:zs.length=N)
 (hb:N≤140737488355328) {ops:Array Oper} {rest:List Oper} {o:Oper} {a:Act} {Q:Exit→Act→World→Prop} {s x:Operand}
 (hgd:o.guard=none) (ho:o.op=.call {callee:=.builtin .append,args:=#[s,x],argTypes:=#[T,Ti]}) {B:Nat} {A:Option Addr} {n c:Nat} (hs:a.eval s=.slice A n c) (hn:xs.length=n)
 (hown:Own w B e A c (xs.map f)) (hx:a.eval x=.int .i64 (m:Int)) (hB:B≤w.heap.size)
 (h:∀A' c' w',Own w' B e A' c' (zs.map f)→Upd (inA A) w w'→(∀k,inA A' k→inA A k∨k=w.heap.size)→wpList P ops Q rest (a.put o.dst (.slice A' N c')) w'):wpList P ops Q (o :: rest) a w:=by
 refine wpList_plain hgd fun K hK=>?_
 subst hn
 subst hz
 have e1:xs.length+m=N:=by rw[←hN,List.length_append,List.length_replicate]
 obtain⟨i,hi,hz,hsz,hby⟩:=info_parts E.info
 have hzc:(f x0).cells=#[f x0]:=by generalize f x0=z at hone;cases z<;>first | rfl | (simp[Value.oneCell']at hone)
 have hown':w.ownsRow B e 1 (.slice A xs.length c) xs.length (xs.map f):=by simpa[Own] using hown
 obtain⟨v',w',hrun,h2,h3,h5⟩:=run_apz (P:=P) w B T Ti o.type e i (f x0) E.under hti hi hz hzc hone hsz hby _ _ _ hown' m (by omega) hB
 have hU:Upd (inA A) w w':=⟨h3.os,h3.tape,h3.output,h3.size,fun k hk hn=>h3.block k hk (fun e=>hn (by
   unfold inA
   cases A with
   | none=>simp[Value.ownBlock]at e
   | some a=>simpa[Value.ownBlock] using e.symm))⟩
 rw[e1]at h2
 have hform:∃A' c',v'=.slice A' N c':=by
  rcases h2.2 with ⟨h,hn⟩ | ⟨g,cap,cur,h,_⟩
  · exact⟨none,0,by rw[h,hn]⟩
  · exact⟨_,_,h⟩
 obtain⟨A',c',rfl⟩:=hform
 unfold Oper.wp execOp
 simp only[ho,resolve,invoke,builtin,Sem.run_bind,Sem.run_pure,Result.andThen_ok,List.map_toArray,List.map_cons,List.map_nil,hs,hx,hrun]
 refine hK _ _ (h A' c' w' ?_ hU fun k hk=>?_)
 · unfold Own
   rw[List.length_map,hN,List.map_append,List.map_replicate]
   exact h2
 · unfold inA at hk ⊢
   cases A' with
   | none=>simp at hk
   | some a'=>
     rcases h5 with h5 | h5
     · cases A with
       | none=>simp[Value.ownBlock]at h5
       | some a=>left;simp[Value.ownBlock]at h5 hk ⊢;omega
     · right;simp[Value.ownBlock]at h5 hk;omega
end
end Go.Proofs.YtdohmikoafkniaaGreat
namespace Go.Proofs.YtdohmikoafkniaaGreat
open Go.RowKit
open Nt
theorem mod_mod16 (n:Nat):(16 - (n:Int) % 16) % 16=(((16 - n % 16) % 16:Nat):Int):=by omega
theorem mod_tmod16 (n:Nat):(16 - (n:Int).tmod 16).tmod 16=(((16 - n % 16) % 16:Nat):Int):=by
 have e:(n:Int).tmod 16=((n % 16:Nat):Int):=by rw[Int.tmod_eq_emod_of_nonneg (by omega)];omega
 rw[e,Int.tmod_eq_emod_of_nonneg (by omega)]
 omega
attribute [local go_sem] steady steadyUpon Cls same_cell by8
attribute [local irreducible] wpHead wpTree
def padN (n:Nat):Nat:=(16 - n % 16) % 16
def nul (k:Nat):List (BitVec 8):=List.replicate k default
theorem nul_length (k:Nat):(nul k).length=k:=List.length_replicate
def b8 (n i:Nat):BitVec 8:=BitVec.ofNat 8 (n / 2^(8*i))
def le8 (n:Nat):List (BitVec 8):=[b8 n 0,b8 n 1,b8 n 2,b8 n 3,b8 n 4,b8 n 5,b8 n 6,b8 n 7]
def boxD (side sealed:List (BitVec 8)):List (BitVec 8):=(((side++nul (padN side.length))++(sealed++nul (padN sealed.length)))++le8 side.length)++le8 sealed.length
theorem padN_lt (n:Nat):padN n<16:=Nat.mod_lt _ (by decide)
theorem b8_n (n i:Nat):n8 (b8 n i)=((n / 2^(8*i) % 256:Nat):Int):=by
 unfold n8 b8
 rw[BitVec.toNat_ofNat]
theorem le8_gat (n:Nat) {i:Nat} (h:i<8):gat (le8 n) i=b8 n i:=by
 rcases i with _ | _ | _ | _ | _ | _ | _ | _ | i<;>first | rfl | omega
def sz (n i:Nat):List (BitVec 8):=(le8 n).take i++nul (8 - i)
theorem sz_length (n:Nat) {i:Nat} (h:i≤8):(sz n i).length=8:=by unfold sz;rw[List.length_append,List.length_take,nul_length];show min i 8+(8 - i)=8;omega
theorem sz_set (n:Nat) {i:Nat} (h:i<8):(sz n i).set i (b8 n i)=sz n (i+1):=by
 rcases i with _ | _ | _ | _ | _ | _ | _ | _ | i<;>first | rfl | omega
theorem whole_any (A:Option Addr) (n c:Nat) (b:List (BitVec 8)) (w:World) (hS:Sl by8 w A b) (hn:b.length=n) (hl:n≤100000):
 Calls Tryz.prog 175 #[.slice A n c] w (RetS w (n+padN n) (b++nul (padN n))):=by
 have HS:=hide hS
 have Hn:=hide hn
 have e1:(16 - (n:Int).tmod 16).tmod 16=((padN n:Nat):Int):=mod_tmod16 n
 have e2:(16 - (n:Int) % 16) % 16=((padN n:Nat):Int):=mod_mod16 n
 have hp:=padN_lt n
 clear hS hn
 go_enter Tryz.func175,Tryz.ntmps175
 go_wp2_with (first
  | (at_builtin;refine wpList_apd by8 one8 Tryz.n_el8 [] b b n rfl Hn.out (by omega) (by unfold maxLen;omega) rfl rfl rfl rfl (own_none8 w (B:=w.heap.size) (Nat.le_refl _)) rfl Hn.out (HS.out.ext (uR_.alloc _)) (by simp) ?_;intro A1 c1 w1 hO1 hU1 hin1)
  | (at_builtin;go_must (refine wpList_apz _ by8 default rfl Tryz.n_el8 (by kernel_rfl) b (b++nul (padN n)) (padN n) (n+padN n) rfl (by rw[List.length_append,nul_length,Hn.out]) (by omega) rfl rfl rfl Hn.out hO1 (congrArg (Value.int .i64) e2) (by have:=hU1.size;simp at this ⊢;omega) ?_);intro A2 c2 w2 hO2 hU2 hin2))
 have hE1:Ext w w1:=Upd.fresh hU1 (uR_.alloc _) (fun k hk=>by unfold inA at hk;simp at hk;omega)
 have hE2:Ext w w2:=Upd.fresh hU2 hE1 (fun i hi=>(hO1.in_ hi).1)
 go_ret
 exact⟨_,_,rfl,hO2,hE2⟩
theorem bsize_any (n:Nat) (w:World) (hl:n≤100000):
 Calls Tryz.prog 176 #[.int .i64 (n:Int)] w (RetS w 8 (le8 n)):=by
 go_enter Tryz.func176,Tryz.ntmps176
 go_wp2_with (at_make;go_must (refine wpList_mk _ _ _ Tryz.n_el8 rfl rfl 8 rfl rfl rfl rfl (by omega) (by unfold maxLen;omega) by8 rfl rfl (B:=w.heap.size) (by simp) ?_);intro g w1 hO hg hU1)
 subst hg
 go_loopw [8] (fun i wr=>∃k:Nat,k≤8∧i=.int .i64 (k:Int)∧Own wr w.heap.size 5 (some ⟨w.heap.size,0,none⟩) 8 ((sz n k).map by8)∧Ext w wr) (fun i _=>8 - (intOf i).toNat)
 case atStart=>exact⟨0,Nat.zero_le _,rfl,hO,hU1⟩
 case round=>
  clear hO hU1
  obtain⟨k,hk,rfl,hO,hU⟩:=hrel
  by_cases hk8:k<8
  · have hkI:(k:Int)<8:=by omega
    have ck:=hO.row.cell (i:=k) (by rw[sz_length n hk];omega)
    have fk:=hO.row.frozen k
    have hO2:=hO.set (i:=k) (by rw[sz_length n hk];omega) (b8 n k) rfl
    rw[sz_set n hk8]at hO2
    have hU2:Ext w (wr.setCell ⟨w.heap.size,k,none⟩ (by8 (b8 n k))):=Upd.fresh (uR_.setCell (T:=only w.heap.size) (p:=⟨w.heap.size,k,none⟩) (.inl rfl) _) hU (fun i hi=>by unfold only at hi;omega)
    have HO2:=hide hO2
    have HU2:=hide hU2
    have hv:(n:Int) / 2^(8*k) % 256=n8 (b8 n k):=by rw[b8_n];simp
    clear hO2 hU2 hO hU
    go_wp2_with fail
    go_roundw
    case rel=>exact⟨k+1,by omega,by go_num,HO2.out,HU2.out⟩
    case measure=>simp[intOf];omega
  · have hkI:¬(k:Int)<8:=by omega
    obtain rfl:k=8:=by omega
    have hO':Own wr w.heap.size 5 (some ⟨w.heap.size,0,none⟩) 8 ((le8 n).map by8):=hO
    go_wp2_with fail
    go_ret
    exact⟨_,_,rfl,hO',hU⟩
end Go.Proofs.YtdohmikoafkniaaGreat
