/- Merged: ShaR ShaV ShaW. -/
import Derived.Test.YtbhhjfhepkbfgaaGnShas
namespace Go.Proofs.Ytbhhjfhepkbfgaa
set_option linter.unusedSimpArgs false
set_option linter.unusedVariables false
/- The document's block of the sum, walked. -/
section
open Go.RowKit
open Sha
attribute [local go_sem] steady steadyUpon Cls same_cell by8 by32
attribute [local go_sem] not_u32 add_u32 xor_u32 or_u32 and_u32 conv_u8_u32 shl8_u32 shl16_u32 shl24_u32 shr3_u32 shr10_u32 shl_u32 shr_u32 shr_u32'
set_option maxHeartbeats 400000 in
theorem rturn_any (x:BitVec 32) (s:Nat) (h:s≤31) (w:World):
 Calls Try.prog 127 #[.int .u32 (n32 x),.int .u64 (s:Int)] w fun e w'=>e=.returned (.int .u32 (n32 (rotr x s)))∧w=w':=by
 have h2:IntKind.u64.wrap (32 - (s:Int))=((32 - s:Nat):Int):=by rw[IntWalk.u64_in _ (by omega)];omega
 unfold rotr
 go_enter Try.func127,Try.ntmps127
 go_wp2
 go_ret
 exact⟨rfl,rfl⟩
theorem rturn_at (x:BitVec 32) (n:Int) (s:Nat) (hs:n=(s:Int)) (h:s≤31) (w:World):
 Calls Try.prog 127 #[.int .u32 (n32 x),.int .u64 n] w fun e w'=>e=.returned (.int .u32 (n32 (rotr x s)))∧w=w':=by
 subst hs;exact rturn_any x s h w
theorem ch_or (e f g:BitVec 32):(e &&& f ||| ~~~e &&& g)=ch e f g:=by
 unfold ch
 ext i hi
 simp only[BitVec.getElem_or,BitVec.getElem_and,BitVec.getElem_not,BitVec.getElem_xor]
 cases e[i]<;>cases f[i]<;>cases g[i]<;>rfl
theorem maj_or (a b c:BitVec 32):(a &&& b ||| a &&& c ||| b &&& c)=maj a b c:=by
 unfold maj
 ext i hi
 simp only[BitVec.getElem_or,BitVec.getElem_and,BitVec.getElem_xor]
 cases a[i]<;>cases b[i]<;>cases c[i]<;>rfl
theorem sched_step' (m:Nat→BitVec 8) (j:Nat) (h:16≤j):steps sstep (w0 m 16) (j+1 - 16)=
 put1 (steps sstep (w0 m 16) (j - 16)) j (s1 (steps sstep (w0 m 16) (j - 16) (j - 2))+steps sstep (w0 m 16) (j - 16) (j - 7)+s0 (steps sstep (w0 m 16) (j - 16) (j - 15))+steps sstep (w0 m 16) (j - 16) (j - 16)):=by
 rw[sched_step m j h]
 congr 1
 generalize steps sstep (w0 m 16) (j - 16) (j - 16)=a
 generalize steps sstep (w0 m 16) (j - 16) (j - 7)=b
 generalize s0 (steps sstep (w0 m 16) (j - 16) (j - 15))=c
 generalize s1 (steps sstep (w0 m 16) (j - 16) (j - 2))=d
 ac_rfl
theorem Arr.new1 (w:World) (a:Obj) (t:TypeId) (cs:Array Value) (n:Nat) (f:Nat→Value) (hn:cs.size=n) (hf:∀i,i<n→cs[i]? =some (f i)):Arr ((w.alloc a).alloc (.cells cs t)) (w.heap.size+1) t n f:=by
 have:=Arr.new (w.alloc a) t cs n f hn hf
 simpa using this
theorem ne_succ (k:Nat):¬only k (k+1):=fun h=>by unfold only at h;omega
def TabPost (w:World) (e:Ending) (w':World):Prop:=e=.returned (.tuple #[.agg (Array.ofFn fun i:Fin 64=>by32 (kk i)),.agg (Array.ofFn fun i:Fin 8=>by32 (first i))])∧Ext w w'
theorem first_ofFn :(Array.ofFn fun i:Fin 8=>by32 (first i))=(F.map by32).toArray:=ofFn_gat by32 F 8 rfl
theorem Try.sz_t8 :(Try.prog.info? 151).map (·.size)=some 8:=by kernel_rfl
theorem Try.under_t8 :Try.prog.underlying 151=some (.array 8 71):=by kernel_rfl
theorem results_arr2 {P:Program} {fn:Func} {p1 p2:Tmp} {T1 T2:TypeId} (h:fn.results=#[.cell p1 T1,.cell p2 T2]) (tmps:Array Value) (w:World) {g1 g2 t1 t2 n1 n2:Nat} {f1 f2:Nat→Value} {e1 e2:TypeId}
 (hp1:tmps.getD p1 undef=.pointer (some ⟨g1,0,none⟩)) (hp2:tmps.getD p2 undef=.pointer (some ⟨g2,0,none⟩)) (h1:Arr w g1 t1 n1 f1) (h2:Arr w g2 t2 n2 f2)
 (hu1:P.underlying T1=some (.array n1 e1)) (hu2:P.underlying T2=some (.array n2 e2)) (hi1:(P.info? T1).map (·.size)=some n1) (hi2:(P.info? T2).map (·.size)=some n2):
 (results fn tmps).run P w=.ok (.tuple #[.agg (Array.ofFn fun i:Fin n1=>f1 i),.agg (Array.ofFn fun i:Fin n2=>f2 i)]) w:=by
 have hp1':tmps[p1]?.getD undef=.pointer (some ⟨g1,0,none⟩):=by simpa using hp1
 have hp2':tmps[p2]?.getD undef=.pointer (some ⟨g2,0,none⟩):=by simpa using hp2
 simp[results,h,hp1',hp2',asAddr,run_loadVar_row w g1 t1 T1 _ (0,0) _ h1 hu1 rfl (by simpa using hi1),run_loadVar_row w g2 t2 T2 _ (0,0) _ h2 hu2 rfl (by simpa using hi2)]
set_option maxRecDepth 100000 in
set_option maxHeartbeats 1000000 in
theorem table_any (w:World):Calls Try.prog 113 #[] w (TabPost w):=by
 go_enter Try.func113,Try.ntmps113
 go_wp2_with (first
  | (refine wpList_build_eq (o:=⟨some 2,_,_,_,_,_⟩) rfl rfl (Array.ofFn fun i:Fin 64=>by32 (kk i)) (by rw[kk_ofFn];kernel_rfl) ?_)
  | (refine wpList_build_eq (o:=⟨some 3,_,_,_,_,_⟩) rfl rfl (Array.ofFn fun i:Fin 8=>by32 (first i)) (by rw[first_ofFn];kernel_rfl) ?_)
  | (refine wpList_store_whole (n:=64) (f:=fun i=>by32 (kk i)) rfl rfl rfl rfl (fun _=>rfl) ((Arr.new w _ _ 64 (fun _=>by32 0) rfl zero64).alloc _) Try.sz_64 ?_;intro w3 hA3 hU3)
  | (refine wpList_store_whole (n:=8) (f:=fun i=>by32 (first i)) rfl rfl rfl rfl (fun _=>rfl) ((Arr.new1 w _ _ _ 8 (fun _=>by32 0) rfl zero8).upd hU3 (ne_succ _)) Try.sz_t8 ?_;intro w4 hA4 hU4))
 have hA5:=hA3.upd hU4 (fun h=>by unfold only at h;simp at h)
 refine bodyPost_ret (results_arr2 rfl _ _ rfl rfl hA5 hA4 Try.under_64 Try.under_t8 Try.sz_64 Try.sz_t8) rfl ⟨rfl,?_⟩
 exact upd_new hU4 (upd_new hU3 (((Upd.refl _ _).alloc _).alloc _) (fun i hi=>Nat.le_of_eq hi.symm)) (fun i hi=>by unfold only at hi;omega)
end
/- The document's block of the sum, walked. -/
section
open Go.RowKit
open Sha
attribute [local go_sem] steady steadyUpon Cls same_cell by8 by32
attribute [local go_sem] not_u32 add_u32 xor_u32 or_u32 and_u32 conv_u8_u32 shl8_u32 shl16_u32 shl24_u32 shr3_u32 shr10_u32
theorem Try.el32 :ElemI Try.prog 31 71 (.int .u32 0) 4:=⟨by kernel_rfl,by kernel_rfl,rfl⟩
theorem Arr.box0 (w:World) (t:TypeId) (n:Nat) (f:Nat→Value):Arr (w.alloc (.cells (Array.ofFn fun i:Fin n=>f i) t)) w.heap.size t n f:=heap_alloc_new w _
theorem Arr.box1 (w:World) (a:Obj) (t:TypeId) (n:Nat) (f:Nat→Value):Arr ((w.alloc a).alloc (.cells (Array.ofFn fun i:Fin n=>f i) t)) (w.heap.size+1) t n f:=heap_alloc2_new w a _
theorem zero8_at (w:World) (a b:Obj) (t:TypeId):Arr (((w.alloc a).alloc b).alloc (.cells #[Value.int .u32 0,.int .u32 0,.int .u32 0,.int .u32 0,.int .u32 0,.int .u32 0,.int .u32 0,.int .u32 0] t)) (w.heap.size+1+1) t 8 (fun _=>by32 0):=by
  have:=Arr.new1 (w.alloc a) b t _ 8 (fun _=>by32 0) rfl zero8
  rwa [show(w.alloc a).heap.size=w.heap.size+1 by simp]at this
theorem ofFn8 (f:Nat→Value):(Array.ofFn fun i:Fin 8=>f i)=#[f 0,f 1,f 2,f 3,f 4,f 5,f 6,f 7]:=by
  apply Array.ext
  · simp
  · intro i h1 h2
    simp at h1
    match i,h1 with
    | 0,_ | 1,_ | 2,_ | 3,_ | 4,_ | 5,_ | 6,_ | 7,_=>rw[Array.getElem_ofFn];rfl
    | n+8,h=>exact absurd h (by omega)
theorem tt_or (X V:Nat→BitVec 32) (k:Nat):V 7+(rotr (V 4) 6 ^^^ rotr (V 4) 11 ^^^ rotr (V 4) 25)+(V 4 &&& V 5 ||| ~~~V 4 &&& V 6)+kk k+X k=tt X V k:=by
 rw[ch_or];rfl
theorem uu_or (V:Nat→BitVec 32):(rotr (V 0) 2 ^^^ rotr (V 0) 13 ^^^ rotr (V 0) 22)+(V 0 &&& V 1 ||| V 0 &&& V 2 ||| V 1 &&& V 2)=uu V:=by
 rw[maj_or];rfl
theorem round_at (w V:Nat→BitVec 32) (i:Nat):round w V i 0=tt w V i+uu V∧round w V i 1=V 0∧round w V i 2=V 1∧round w V i 3=V 2∧round w V i 4=V 3+tt w V i∧round w V i 5=V 4∧round w V i 6=V 5∧round w V i 7=V 6:=
 ⟨rfl,rfl,rfl,rfl,rfl,rfl,rfl,rfl⟩
theorem val32 {a b:BitVec 32} (h:a=b):Value.int .u32 (n32 a)=.int .u32 (n32 b):=by rw[h]
set_option maxRecDepth 100000 in
set_option maxHeartbeats 10000000 in
theorem rblock_any (sb so c:Nat) (m:Nat→BitVec 8) (H:Nat→BitVec 32) (w:World) (hm:∀j,j<64→w.cell? ⟨sb,so+j,none⟩=some (by8 (m j))):
 Calls Try.prog 114 #[.agg (Array.ofFn fun i:Fin 8=>by32 (H i)),.slice (some ⟨sb,so,none⟩) 64 c,.agg (Array.ofFn fun i:Fin 64=>by32 (kk i))] w (RetA 8 (compress m H) w):=by
 have Hm:=hide hm
 clear hm
 go_enter Try.func114,Try.ntmps114
 go_wp2_with (at_make;go_must (refine wpList_mk _ _ _ Try.el32 rfl rfl 64 rfl rfl rfl rfl (by decide) (by decide) by32 rfl rfl (B:=w.heap.size+3) (by simp) ?_);rintro g w1 hO hg hU1;have Hg:=hide hg;clear hg;have HO:=hide hO;clear hO;have HU1:=hide hU1;clear hU1)
 have hU0:Ext w w1:=((((Upd.refl _ w).alloc _).alloc _).alloc _).trans HU1.out
 have hg3:w.heap.size+3≤g:=by rw[Hg.out];simp
 have hR:Row w1 g 71 64 (fun i=>by32 (w0 m 0 i)):=by
   have:=HO.out.row
   rw[List.length_replicate]at this
   refine this.congr fun i hi=>congrArg by32 ?_
   rw[gat_lt (by simpa using hi),List.getElem_replicate]
   rfl
 have HAH:Hid (Arr w1 w.heap.size 151 8 (fun i=>by32 (H i))):=((((Arr.box0 w _ 8 (fun i=>by32 (H i))).alloc _).alloc _).ext HU1.out)
 have HAK:Hid (Arr w1 (w.heap.size+1) 150 64 (fun i=>by32 (kk i))):=(((Arr.box1 w _ _ 64 (fun i=>by32 (kk i))).alloc _).ext HU1.out)
 have HAR:Hid (Arr w1 (w.heap.size+1+1) 151 8 (fun _=>by32 0)):=((zero8_at w _ _ _).ext HU1.out)
 clear Hg HO HU1
 go_loopw [8] (fun i wr=>∃k:Nat,k≤16∧i=.int .i64 k∧Row wr g 71 64 (fun j=>by32 (w0 m k j))∧Upd (only g) w1 wr) (fun i _=>16 - (intOf i).toNat)
 case atStart=>exact⟨0,by omega,rfl,hR,Upd.refl _ _⟩
 case round=>
  clear hR
  obtain⟨k,hk,rfl,hR,hU⟩:=hrel
  have hUw:=upd_new hU hU0 (fun i hi=>by unfold only at hi;omega)
  by_cases hlt:k<16
  · have hlti:(k:Int)<16:=by omega
    have hd:decide ((k:Int)<16)=true:=decide_eq_true (by omega)
    have hlt64:k<64:=by omega
    have hlt64i:(k:Int)<64:=by omega
    have c0:=hUw.cellv (Hm.out (4*k) (by omega))
    have c1:=hUw.cellv (Hm.out (4*k+1) (by omega))
    have c2:=hUw.cellv (Hm.out (4*k+2) (by omega))
    have c3:=hUw.cellv (Hm.out (4*k+3) (by omega))
    have e0:IntKind.i64.wrap (4*(k:Int))=4*(k:Int):=by rw[IntWalk.i64_in _ (by omega)]
    have b0:4*(k:Int)<64:=by omega
    have p0:0≤4*(k:Int):=by omega
    have t0:(4*(k:Int)).toNat=4*k:=by omega
    have e1:IntKind.i64.wrap (4*(k:Int)+1)=4*(k:Int)+1:=by rw[IntWalk.i64_in _ (by omega)]
    have b1:4*(k:Int)+1<64:=by omega
    have p1:0≤4*(k:Int)+1:=by omega
    have t1:(4*(k:Int)+1).toNat=4*k+1:=by omega
    have e2:IntKind.i64.wrap (4*(k:Int)+2)=4*(k:Int)+2:=by rw[IntWalk.i64_in _ (by omega)]
    have b2:4*(k:Int)+2<64:=by omega
    have p2:0≤4*(k:Int)+2:=by omega
    have t2:(4*(k:Int)+2).toNat=4*k+2:=by omega
    have e3:IntKind.i64.wrap (4*(k:Int)+3)=4*(k:Int)+3:=by rw[IntWalk.i64_in _ (by omega)]
    have b3:4*(k:Int)+3<64:=by omega
    have p3:0≤4*(k:Int)+3:=by omega
    have t3:(4*(k:Int)+3).toNat=4*k+3:=by omega
    have hR':=hide hR
    clear hR
    go_wp2_with fail
    refine wp_region_plan (Same _) 36 [(false,0),(false,1),(false,2),(false,3),(false,4),(false,5),(false,6),(false,7),(false,8),(false,9),(false,10),(false,11),(false,12),(false,13),(false,14),(false,15),(false,16),(false,17),(false,18),(false,19),(false,20),(false,21),(false,22),(false,23),(false,24),(false,25),(false,26),(false,27),(false,28),(false,29),(false,30),(false,31),(false,32),(false,33),(false,34),(false,35)] (by kernel_rfl) (by kernel_rfl) rfl (fun hne=>?_)
    repeat (refine head_q rfl (fun K hK=>?_);have hK2:=hide hK;clear hK;go_simp;refine hK2.out _ ?_;clear hK2 K)
    refine head_nil ?_
    try simp only[List.drop_succ_cons,List.drop_zero]
    go_must (refine wpList_store_row by32 one32 (be m k) rfl rfl Try.sz32 rfl rfl hR'.out hlt64 ?_);intro w2 hR2 hU2
    have hU2:=hU2.undrew
    clear c0 c1 c2 c3 e0 e1 e2 e3 t0 t1 t2 t3
    go_wp2
    go_roundw
    case rel=>exact⟨k+1,by omega,by go_num,hR2.congr (fun j _=>congrArg by32 (w0_step m k j)),hU.trans hU2⟩
    case measure=>simp[intOf];omega
  · obtain rfl:k=16:=by omega
    clear hk hlt
    go_wp2_with fail
    rw[show((16:Nat):Int)=16 from rfl]
    go_loopw [9,10,11] (fun i _ _ wx=>∃j:Nat,16≤j∧j≤64∧i=.int .i64 j∧Row wx g 71 64 (fun i=>by32 (steps sstep (w0 m 16) (j - 16) i))∧Upd (only g) w1 wx) (fun i _ _ _=>64 - (intOf i).toNat)
    case atStart=>exact⟨16,by omega,by omega,rfl,hR,hU⟩
    case round=>
     clear hR hU hUw
     obtain⟨j,hj1,hj2,rfl,hR,hU⟩:=hrel
     by_cases hlt:j<64
     · have hlti:(j:Int)<64:=by omega
       have hd:decide ((j:Int)<64)=true:=decide_eq_true (by omega)
       obtain⟨X,hX⟩:∃X,X=steps sstep (w0 m 16) (j - 16):=⟨_,rfl⟩
       rw[←hX]at hR
       have HX:=hide hX
       clear hX
       have e15:IntKind.i64.wrap ((j:Int) - 15)=((j - 15:Nat):Int):=by rw[IntWalk.i64_in _ (by omega)];omega
       have e2:IntKind.i64.wrap ((j:Int) - 2)=((j - 2:Nat):Int):=by rw[IntWalk.i64_in _ (by omega)];omega
       have e16:IntKind.i64.wrap ((j:Int) - 16)=((j - 16:Nat):Int):=by rw[IntWalk.i64_in _ (by omega)];omega
       have e7:IntKind.i64.wrap ((j:Int) - 7)=((j - 7:Nat):Int):=by rw[IntWalk.i64_in _ (by omega)];omega
       have b15:((j - 15:Nat):Int)<64:=by omega
       have b2:((j - 2:Nat):Int)<64:=by omega
       have b16:((j - 16:Nat):Int)<64:=by omega
       have b7:((j - 7:Nat):Int)<64:=by omega
       have c15:=hR.cell (i:=j - 15) (by omega)
       have c2:=hR.cell (i:=j - 2) (by omega)
       have c16:=hR.cell (i:=j - 16) (by omega)
       have c7:=hR.cell (i:=j - 7) (by omega)
       have hR':=hide hR
       clear hR
       go_wp2_with fail
       refine wp_region_plan (Same _) 20 [(false,0),(false,1),(false,2),(false,3),(false,4),(false,6),(false,7),(false,8),(false,9),(false,10),(false,13),(false,14),(false,15),(false,16),(false,17),(false,18),(true,5),(true,11),(false,12),(false,19)] (by kernel_rfl) (by kernel_rfl) rfl (fun hne=>?_)
       repeat (refine head_q rfl (fun K hK=>?_);have hK2:=hide hK;clear hK;go_simp;refine hK2.out _ ?_;clear hK2 K)
       refine head_l rfl ?_
       go_wp2_with (go_at_call 127;refine(rturn_at _ _ 7 rfl (by omega) _).mono ?_;rintro e w' ⟨rfl,rfl⟩)
       refine⟨_,fun _ h=>h,⟨⟨_,rfl⟩,rfl⟩,?_⟩
       repeat (refine head_q rfl (fun K hK=>?_);have hK2:=hide hK;clear hK;go_simp;refine hK2.out _ ?_;clear hK2 K)
       refine head_l rfl ?_
       go_wp2_with (go_at_call 127;refine(rturn_at _ _ 18 rfl (by omega) _).mono ?_;rintro e w' ⟨rfl,rfl⟩)
       refine⟨_,fun _ h=>h,⟨⟨_,rfl⟩,rfl⟩,?_⟩
       repeat (refine head_q rfl (fun K hK=>?_);have hK2:=hide hK;clear hK;go_simp;refine hK2.out _ ?_;clear hK2 K)
       refine head_nil ?_
       try simp only[List.drop_succ_cons,List.drop_zero]
       go_wp2_with fail
       clear hne
       refine wp_region_plan (Same _) 20 [(false,0),(false,1),(false,2),(false,3),(false,4),(false,6),(false,7),(false,8),(false,9),(false,10),(false,13),(false,14),(false,15),(false,16),(false,17),(false,18),(true,5),(true,11),(false,12),(false,19)] (by kernel_rfl) (by kernel_rfl) rfl (fun hne=>?_)
       repeat (refine head_q rfl (fun K hK=>?_);have hK2:=hide hK;clear hK;go_simp;refine hK2.out _ ?_;clear hK2 K)
       refine head_l rfl ?_
       go_wp2_with (go_at_call 127;refine(rturn_at _ _ 17 rfl (by omega) _).mono ?_;rintro e w' ⟨rfl,rfl⟩)
       refine⟨_,fun _ h=>h,⟨⟨_,rfl⟩,rfl⟩,?_⟩
       repeat (refine head_q rfl (fun K hK=>?_);have hK2:=hide hK;clear hK;go_simp;refine hK2.out _ ?_;clear hK2 K)
       refine head_l rfl ?_
       go_wp2_with (go_at_call 127;refine(rturn_at _ _ 19 rfl (by omega) _).mono ?_;rintro e w' ⟨rfl,rfl⟩)
       refine⟨_,fun _ h=>h,⟨⟨_,rfl⟩,rfl⟩,?_⟩
       repeat (refine head_q rfl (fun K hK=>?_);have hK2:=hide hK;clear hK;go_simp;refine hK2.out _ ?_;clear hK2 K)
       refine head_nil ?_
       try simp only[List.drop_succ_cons,List.drop_zero]
       go_wp2_with fail
       clear hne
       refine wp_region_plan (Same _) 18 [(false,0),(false,1),(false,2),(false,3),(false,4),(false,5),(false,6),(false,7),(false,8),(false,9),(false,10),(false,11),(false,12),(false,13),(false,14),(false,15),(false,16),(false,17)] (by kernel_rfl) (by kernel_rfl) rfl (fun hne=>?_)
       repeat (refine head_q rfl (fun K hK=>?_);have hK2:=hide hK;clear hK;go_simp;refine hK2.out _ ?_;clear hK2 K)
       refine head_nil ?_
       try simp only[List.drop_succ_cons,List.drop_zero]
       go_must (refine wpList_store_row by32 one32 (s1 (X (j - 2))+X (j - 7)+s0 (X (j - 15))+X (j - 16)) rfl rfl Try.sz32 rfl rfl hR'.out hlt ?_);intro w2 hR2 hU2
       have hU2:=hU2.undrew.undrew.undrew
       clear e15 e2 e16 e7 b15 b2 b16 b7 c15 c2 c16 c7 hR'
       go_wp2
       go_roundw
       case rel=>exact⟨j+1,by omega,by omega,by go_num,hR2.congr (fun i _=>congrArg by32 (by rw[sched_step' m j hj1,←HX.out])),hU.trans hU2⟩
       case measure=>simp[intOf];omega
     · obtain rfl:j=64:=by omega
       clear hj1 hj2 hlt
       obtain⟨X,hX⟩:∃X,X=sched m:=⟨_,rfl⟩
       have hR1:Row wr g 71 64 (fun i=>by32 (X i)):=by rw[hX];exact hR
       have HX:=hide hX
       clear hX hR
       have hR':=hide hR1
       clear hR1
       have hAH:=HAH.out.upd hU (fun h=>by unfold only at h;omega)
       have d0:=hAH.cell (i:=0) (by omega)
       have d1:=hAH.cell (i:=1) (by omega)
       have d2:=hAH.cell (i:=2) (by omega)
       have d3:=hAH.cell (i:=3) (by omega)
       have d4:=hAH.cell (i:=4) (by omega)
       have d5:=hAH.cell (i:=5) (by omega)
       have d6:=hAH.cell (i:=6) (by omega)
       have d7:=hAH.cell (i:=7) (by omega)
       have hAH':=hide hAH
       clear hAH
       go_wp2_with fail
       refine wp_region_plan (Same _) 23 [(false,0),(false,1),(false,2),(false,3),(false,4),(false,5),(false,6),(false,7),(false,8),(false,9),(false,10),(false,11),(false,12),(false,13),(false,14),(false,15),(false,16),(false,17),(false,18),(false,19),(false,20),(false,21),(false,22)] (by kernel_rfl) (by kernel_rfl) rfl (fun hne=>?_)
       repeat (refine head_q rfl (fun K hK=>?_);have hK2:=hide hK;clear hK;go_simp;refine hK2.out _ ?_;clear hK2 K)
       refine head_nil ?_
       try simp only[List.drop_succ_cons,List.drop_zero]
       go_wp2_with fail
       clear d0 d1 d2 d3 d4 d5 d6 d7 hAH' hne
       go_loopw [20,12,13,14,15,16,17,18,19,21,22] (fun i a b c d e f g' h _ _ wx=>∃k:Nat,k≤64∧i=.int .i64 k∧a=.int .u32 (n32 (steps (round X) H k 0))∧b=.int .u32 (n32 (steps (round X) H k 1))∧c=.int .u32 (n32 (steps (round X) H k 2))∧d=.int .u32 (n32 (steps (round X) H k 3))∧e=.int .u32 (n32 (steps (round X) H k 4))∧f=.int .u32 (n32 (steps (round X) H k 5))∧g'=.int .u32 (n32 (steps (round X) H k 6))∧h=.int .u32 (n32 (steps (round X) H k 7))∧Row wx g 71 64 (fun i=>by32 (X i))∧Upd (only g) w1 wx) (fun i _ _ _ _ _ _ _ _ _ _ _=>64 - (intOf i).toNat)
       case atStart=>exact⟨0,by omega,rfl,rfl,rfl,rfl,rfl,rfl,rfl,rfl,rfl,hR'.out.ext (Upd.refl _ _).drew,hU.drew⟩
       case round=>
        clear hR' hU
        obtain⟨k,hk,rfl,rfl,rfl,rfl,rfl,rfl,rfl,rfl,rfl,hR,hU⟩:=hrel
        obtain⟨V,hVe⟩:∃V,V=steps (round X) H k:=⟨_,rfl⟩
        have HV:=hide hVe
        rw[←hVe]
        clear hVe
        by_cases hlt:k<64
        · have hlti:(k:Int)<64:=by omega
          have hd:decide ((k:Int)<64)=true:=decide_eq_true (by omega)
          have ck:=(HAK.out.upd hU (fun h=>by unfold only at h;omega)).cell hlt
          have cw:=hR.cell hlt
          have hR':=hide hR
          clear hR
          go_wp2_with fail
          refine wp_region_plan (Same _) 28 [(false,0),(false,1),(false,3),(false,6),(false,10),(false,11),(false,12),(false,13),(false,14),(false,15),(false,16),(false,17),(false,19),(false,20),(false,21),(false,23),(false,24),(false,25),(false,26),(true,2),(true,4),(false,5),(true,7),(false,8),(false,9),(false,18),(false,22),(false,27)] (by kernel_rfl) (by kernel_rfl) rfl (fun hne=>?_)
          repeat (refine head_q rfl (fun K hK=>?_);have hK2:=hide hK;clear hK;go_simp;refine hK2.out _ ?_;clear hK2 K)
          refine head_l rfl ?_
          go_wp2_with (go_at_call 127;refine(rturn_at _ _ 6 rfl (by omega) _).mono ?_;rintro e w' ⟨rfl,rfl⟩)
          refine⟨_,fun _ h=>h,⟨⟨_,rfl⟩,rfl⟩,?_⟩
          repeat (refine head_q rfl (fun K hK=>?_);have hK2:=hide hK;clear hK;go_simp;refine hK2.out _ ?_;clear hK2 K)
          refine head_l rfl ?_
          go_wp2_with (go_at_call 127;refine(rturn_at _ _ 11 rfl (by omega) _).mono ?_;rintro e w' ⟨rfl,rfl⟩)
          refine⟨_,fun _ h=>h,⟨⟨_,rfl⟩,rfl⟩,?_⟩
          repeat (refine head_q rfl (fun K hK=>?_);have hK2:=hide hK;clear hK;go_simp;refine hK2.out _ ?_;clear hK2 K)
          refine head_l rfl ?_
          go_wp2_with (go_at_call 127;refine(rturn_at _ _ 25 rfl (by omega) _).mono ?_;rintro e w' ⟨rfl,rfl⟩)
          refine⟨_,fun _ h=>h,⟨⟨_,rfl⟩,rfl⟩,?_⟩
          repeat (refine head_q rfl (fun K hK=>?_);have hK2:=hide hK;clear hK;go_simp;refine hK2.out _ ?_;clear hK2 K)
          refine head_nil ?_
          try simp only[List.drop_succ_cons,List.drop_zero]
          go_wp2_with fail
          clear hne ck cw
          rw[tt_or X V k]
          refine(rturn_at _ 2 2 rfl (by omega) _).mono ?_
          rintro e w' ⟨rfl,rfl⟩
          go_wp2_with fail
          refine(rturn_at _ 13 13 rfl (by omega) _).mono ?_
          rintro e w' ⟨rfl,rfl⟩
          go_wp2_with fail
          refine(rturn_at _ 22 22 rfl (by omega) _).mono ?_
          rintro e w' ⟨rfl,rfl⟩
          go_wp2_with fail
          rw[uu_or V]
          have hs:steps (round X) H (k+1)=round X V k:=by rw[HV.out];rfl
          obtain⟨r0,r1,r2,r3,r4,r5,r6,r7⟩:=round_at X V k
          rw[←hs]at r0 r1 r2 r3 r4 r5 r6 r7
          have R0:=hide r0
          have R1:=hide r1
          have R2:=hide r2
          have R3:=hide r3
          have R4:=hide r4
          have R5:=hide r5
          have R6:=hide r6
          have R7:=hide r7
          clear hs r0 r1 r2 r3 r4 r5 r6 r7
          go_roundw
          case rel=>exact⟨k+1,by omega,by go_num,val32 R0.out.symm,val32 R1.out.symm,val32 R2.out.symm,val32 R3.out.symm,val32 R4.out.symm,val32 R5.out.symm,val32 R6.out.symm,val32 R7.out.symm,hR'.out.ext (Upd.refl _ _).drew,hU.drew⟩
          case measure=>simp[intOf];omega
        · obtain rfl:k=64:=by omega
          clear hk hlt
          have hAH:=HAH.out.upd hU (fun h=>by unfold only at h;omega)
          have hAR:=HAR.out.upd hU (fun h=>by unfold only at h;omega)
          have d0:=hAH.cell (i:=0) (by omega)
          have d1:=hAH.cell (i:=1) (by omega)
          have d2:=hAH.cell (i:=2) (by omega)
          have d3:=hAH.cell (i:=3) (by omega)
          have d4:=hAH.cell (i:=4) (by omega)
          have d5:=hAH.cell (i:=5) (by omega)
          have d6:=hAH.cell (i:=6) (by omega)
          have d7:=hAH.cell (i:=7) (by omega)
          have hAR':=hide hAR
          have hUw:=upd_new hU hU0 (fun i hi=>by unfold only at hi;omega)
          clear hAH hAR hR hU
          have hv:=(congrArg Value.agg (ofFn8 (fun i=>by32 (H i+V i)))).symm
          have Hv:=hide hv
          clear hv
          go_wp2_with (refine wpList_store_whole (o:=⟨none,.store _ _ _,_,_,_,_⟩) (n:=8) (f:=fun i=>by32 (H i+V i)) rfl rfl rfl Hv.out (fun _=>rfl) hAR'.out Try.sz_t8 ?_;intro w3 hA3 hU3)
          refine bodyPost_ret (results_cell_row rfl _ _ (w.heap.size+1+1) _ _ _ _ rfl hA3 Try.under_t8 rfl (by simpa using Try.sz_t8)) rfl ⟨?_,upd_new hU3 hUw (fun i hi=>by unfold only at hi;omega)⟩
          rw[HV.out,HX.out]
          rfl
end
/- The document's sum, walked. -/
section
open Go.RowKit
open Sha
attribute [local go_sem] steady steadyUpon Cls same_cell by8 by32
attribute [local go_sem] conv_u32_u8 shr8_u32 shr16_u32 shr24_u32
def prez (n k:Nat):List (BitVec 8):=0x80 :: List.replicate k 0
theorem lens_msg (msg:List (BitVec 8)) (n z k:Nat):(msg++prez n z++lens n k)++[len1 n (7 - k)]=msg++prez n z++lens n (k+1):=by simp[lens]
theorem head_load_ext {P:Program} {ops:Array Oper} {w0 w:World} {L:Act→World→Prop} {i:Nat} {r:List (Bool × Nat)} {o:Oper} {a:Act} (ho:ops[i]? =some o) (hgd:o.guard=none) {ty:TypeId} {x:Operand} (hop:o.op=.load ty x)
 {g:Nat} (hx:a.eval x=.pointer (some ⟨g,0,none⟩)) {t e:TypeId} {n N:Nat} {f:Nat→Value} (hA:Arr w0 g t N f) (hn:n≤N) (hu:P.underlying ty=some (.array n e)) (hi:(P.info? ty).map (·.size)=some n)
 (h:∀K:Act→Prop,(∀a,wpHead P ops L r (Cls (Ext w0)) a w→K a)→K (a.put o.dst (.agg (Array.ofFn fun i:Fin n=>f i)))):wpHead P ops L ((false,i) :: r) (Cls (Ext w0)) a w:=by
 refine head_q ho fun K hK=>?_
 have hw:Region.wanted o (yielded ops a.tmps)=true:=by unfold Region.wanted;rw[hgd]
 rw[if_pos hw]
 refine⟨_,?_,h K hK⟩
 rintro _ ⟨y,rfl⟩
 simp only[execOp,hop,hx,Instr.loadAt,Instr.sureAddr,Sem.run_bind,Sem.run_pure,Result.andThen_ok,run_loadVar_head (hA.ext y.ok) hn hu hi]
 exact⟨rfl,rfl⟩
theorem prez_succ (msg:List (BitVec 8)) (n k:Nat):(msg++prez n k)++[0]=msg++prez n (k+1):=by simp[prez,List.replicate_succ']
def lenOfV :Value→Nat
 | .slice _ l _=>l
 | _=>0
theorem rem_noteq (y:Int) (x:Nat) (hy:y=x) (b:Bool) (h:b=!decide (x % 64=56)):(y % 64 != 56)=b:=by
 subst h hy
 by_cases h:x % 64=56
 · rw[decide_eq_true h]
   have:((x:Nat):Int) % 64=56:=by omega
   rw[this];rfl
 · rw[decide_eq_false h]
   have:¬((x:Nat):Int) % 64=56:=by omega
   simpa using this
theorem zeros_least (n k:Nat) (hk:k≤zeros n):(n+1+k) % 64=56↔k=zeros n:=by unfold zeros at*;omega
set_option maxRecDepth 100000 in
set_option maxHeartbeats 2000000 in
theorem rsum_any (A:Option Addr) (n c:Nat) (msg:List (BitVec 8)) (w:World) (hS:Sl by8 w A msg) (hn:msg.length=n) (hl:n≤100000000):
 Calls Try.prog 94 #[.slice A n c] w (RetS w 32 (sum msg)):=by
 have Hn:=hide hn
 have HS:=hide hS
 clear hn hS
 have hz2:=zeros_lt n
 go_enter Try.func94,Try.ntmps94
 go_wp2_with fail
 refine(table_any w).mono ?_
 rintro e w1 ⟨rfl,hU1⟩
 obtain⟨B,hB⟩:∃B,B=w1.heap.size+1+1:=⟨_,rfl⟩
 have HB:=hide hB
 clear hB
 go_wp2_with (first
  | (refine wpList_store_whole (o:=⟨none,.store 150 _ _,_,_,_,_⟩) (n:=64) (f:=fun i=>by32 (kk i)) rfl rfl rfl rfl (fun _=>rfl) ((Arr.new w1 _ _ 64 (fun _=>by32 0) rfl zero64).alloc _) Try.sz_64 ?_;intro w2 hA2 hU2)
  | (refine wpList_store_whole (o:=⟨none,.store 151 _ _,_,_,_,_⟩) (n:=8) (f:=fun i=>by32 (first i)) rfl rfl rfl rfl (fun _=>rfl) ((Arr.new1 w1 _ _ _ 8 (fun _=>by32 0) rfl zero8).upd hU2 (ne_succ _)) Try.sz_t8 ?_;intro w3 hA3 hU3;have hsz:B≤w3.heap.size:=(by rw[HB.out];exact Nat.le_trans (by simp) (Nat.le_trans hU2.size hU3.size)))
  | (at_builtin;refine wpList_apd (o:=⟨some 18,_,_,_,_,_⟩) by8 one8 Try.el8 [] msg msg n rfl Hn.out (by omega) (by unfold maxLen;omega) rfl rfl rfl rfl (Own.lit by8 _ (B:=w3.heap.size) 5 [] (Nat.le_refl _) (Nat.zero_le _)) rfl Hn.out (HS.out.ext ((hU1.trans (upd_new hU3 (upd_new hU2 (((Upd.refl _ _).alloc _).alloc _) (fun i hi=>Nat.le_of_eq hi.symm)) (fun i hi=>by unfold only at hi;omega))).alloc _)) (by simp) ?_;intro A4 c4 w4 hO4 hU4 hin4;have hU4':Ext w3 w4:=upd_new hU4 ((Upd.refl _ _).alloc _) (fun i hi=>by simp[inA]at hi;omega))
  | (at_builtin;go_must (refine wpList_apd (o:=⟨some 25,_,_,_,_,_⟩) by8 one8 Try.el8 msg [0x80] (msg++prez n 0) (n+1) rfl (by have:=Hn.out;simp[prez];omega) (by omega) (by unfold maxLen;omega) rfl rfl rfl Hn.out (hO4.ext ((Upd.refl _ _).alloc _)) rfl rfl (Sl.new by8 _ _ [0x80]) (Nat.le_trans hU4'.size (by simp)) ?_);intro A5 c5 w5 hO5 hU5 hin5;have hU5':Ext w3 w5:=upd_new hU5 (hU4'.alloc _) (fun i hi=>(hO4.in_ hi).1)))
 have hU3w:Ext w w3:=hU1.trans (upd_new hU3 (upd_new hU2 (((Upd.refl _ _).alloc _).alloc _) (fun i hi=>Nat.le_of_eq hi.symm)) (fun i hi=>by unfold only at hi;omega))
 have HAK:Hid (Arr w3 w1.heap.size 150 64 (fun i=>by32 (kk i))):=hA2.upd hU3 (fun h=>by unfold only at h;omega)
 have HAH:Hid (Arr w3 (w1.heap.size+1) 151 8 (fun i=>by32 (first i))):=hA3
 have hO5':=hide hO5
 have hsz1:w1.heap.size+1<w3.heap.size:=by have:=HB.out;omega
 clear hA2 hU2 hA3 hU3 hsz hO4 hU4 hin4 hU4' hO5 hU5 hin5 HB
 go_loopw [5] (fun v wx=>∃k A c,k≤zeros n∧v=.slice A (n+1+k) c∧Own wx w3.heap.size 5 A c ((msg++prez n k).map by8)∧Ext w3 wx) (fun v _=>n+1+zeros n - lenOfV v)
 case atStart=>exact⟨0,A5,c5,by omega,rfl,hO5'.out,hU5'⟩
 case round=>
  clear hO5' hU5'
  obtain⟨k,A,c,hk,rfl,hO,hU⟩:=hrel
  have hO':=hide hO
  clear hO
  have hpl:∀k,(msg++prez n k).length=n+1+k:=fun k=>by have:=Hn.out;simp[prez];omega
  have Hpl:=hide hpl
  clear hpl
  by_cases hlt:k<zeros n
  · have ht:(((n:Int)+1+k) % 64 != 56)=true:=rem_noteq _ (n+1+k) (by omega) _ (by rw[decide_eq_false (fun h=>by have:=(zeros_least n k hk).1 h;omega)];rfl)
    go_wp2_with (at_builtin;go_must (refine wpList_apd by8 one8 Try.el8 (msg++prez n k) [0] (msg++prez n (k+1)) (n+1+(k+1)) (prez_succ msg n k) (Hpl.out _) (by omega) (by unfold maxLen;omega) rfl rfl rfl (Hpl.out _) (hO'.out.ext ((Upd.refl _ _).alloc _)) rfl rfl (Sl.new by8 _ _ [0]) (Nat.le_trans hU.size (by simp)) ?_);intro A2 c2 w2 hO2 hU2 hin2)
    exact⟨⟨k+1,A2,c2,by omega,rfl,hO2,upd_new hU2 (hU.alloc _) (fun i hi=>(hO'.out.in_ hi).1)⟩,by simp only[lenOfV];omega⟩
  · obtain rfl:k=zeros n:=by omega
    have ht:(((n:Int)+1+(zeros n:Nat)) % 64 != 56)=false:=rem_noteq _ (n+1+zeros n) (by omega) _ (by rw[decide_eq_true ((zeros_least n _ hk).2 rfl)];rfl)
    clear hk hlt
    go_wp2_with fail
    clear ht
    have hO1:=hO'.out
    have hU1':=hU
    have hM:msg++prez n (zeros n)=msg++prez n (zeros n)++lens n 0:=by simp[lens]
    rw[hM]at hO1
    have HO1:=hide hO1
    clear hO1 hM hO' hU
    go_loopw [5,7] (fun v i wx=>∃k A c,k≤8∧v=.slice A (n+1+zeros n+k) c∧i=.int .i64 (7 - (k:Int))∧Own wx w3.heap.size 5 A c ((msg++prez n (zeros n)++lens n k).map by8)∧Ext w3 wx) (fun _ i _=>(intOf i+1).toNat)
    case atStart=>exact⟨0,_,_,by omega,rfl,rfl,HO1.out,hU1'⟩
    case round=>
     clear HO1 hU1'
     obtain⟨k,A,c,hk,rfl,rfl,hO,hU⟩:=hrel
     have hO':=hide hO
     clear hO
     have hpl:∀k,(msg++prez n (zeros n)++lens n k).length=n+1+zeros n+k:=fun k=>by rw[List.length_append,Hpl.out,lens_length]
     have Hql:=hide hpl
     clear hpl
     by_cases hlt:k<8
     · have hd:decide (0≤7 - (k:Int))=true:=decide_eq_true (by omega)
       have hval:=len1_n8 n (7 - k) hl
       go_wp2_with (at_builtin;go_must (refine wpList_apd by8 one8 Try.el8 (msg++prez n (zeros n)++lens n k) [len1 n (7 - k)] (msg++prez n (zeros n)++lens n (k+1)) (n+1+zeros n+(k+1)) (lens_msg msg n (zeros n) k) (Hql.out _) (by omega) (by unfold maxLen;omega) rfl rfl rfl (Hql.out _) (hO'.out.ext ((Upd.refl _ _).alloc _)) rfl rfl (Sl.new by8 _ _ [len1 n (7 - k)]) (Nat.le_trans hU.size (by simp)) ?_);intro A2 c2 w2 hO2 hU2 hin2)
       go_roundw
       case rel=>exact⟨k+1,A2,c2,by omega,rfl,by go_num,hO2,upd_new hU2 (hU.alloc _) (fun i hi=>(hO'.out.in_ hi).1)⟩
       case measure=>simp[intOf];omega
     · obtain rfl:k=8:=by omega
       clear hk hlt
       obtain⟨full,hfull⟩:∃full,full=msg++prez n (zeros n)++lens n 8:=⟨_,rfl⟩
       obtain⟨N,hN⟩:∃N,N=n+1+zeros n+8:=⟨_,rfl⟩
       have hN64:N % 64=0:=by have:=zeros_fit n;omega
       have hNs:N≤100000100:=by omega
       rw[←hfull]at hO'
       rw[←hN]
       have HNl:Hid (full.length=N):=hide (by rw[hfull,Hql.out,hN])
       have Hfull:=hide hfull
       have HN:=hide hN
       clear hfull hN
       obtain⟨ab,rfl,hab,_⟩:=hO'.out.open_ (by have:=HN.out;rw[List.length_map,HNl.out];omega)
       have hS:=hide hO'.out.sl
       have hcap:=hO'.out.cap
       rw[List.length_map,HNl.out]at hcap
       unfold maxLen at hcap
       clear hO' Hql
       go_wp2_with fail
       rw[show(7:Int) - ((8:Nat):Int)= -1 from rfl]
       go_loopw [8] (fun i wx=>∃k,64*k≤N∧i=.int .i64 (64*(k:Int))∧Arr wx (w1.heap.size+1) 151 8 (fun i=>by32 (hs full k i))∧Upd (only (w1.heap.size+1)) wr wx) (fun i _=>N - (intOf i).toNat)
       case atStart=>exact⟨0,by omega,rfl,HAH.out.ext hU,Upd.refl _ _⟩
       case round=>
        obtain⟨k,hk,rfl,hA,hU2⟩:=hrel
        by_cases hlt:64*k<N
        · have hlti:64*(k:Int)<N:=by omega
          have hd:decide (64*(k:Int)<N)=true:=decide_eq_true hlti
          have e1:IntKind.i64.wrap (64*(k:Int)+64)=64*(k:Int)+64:=by rw[IntWalk.i64_in _ (by omega)]
          have hs1:∀w':World,(Instr.sliceAt 23 (.slice (some ⟨ab,0,none⟩) N c) (some (.int .i64 (64*(k:Int)))) (some (.int .i64 (64*(k:Int)+64))) none).run Try.prog w'=.ok (.slice (some ⟨ab,64*k,none⟩) 64 (c - 64*k)) w':=fun w'=>by
            have:=run_cut_lh (P:=Try.prog) Try.under_bs Try.sz8 (some ⟨ab,0,none⟩) N c (64*k) (64*k+64) .i64 .i64 (by omega) (by omega) w'
            rw[shA_some,if_neg (by omega),show 64*k+64 - 64*k=64 by omega]at this
            simpa using this
          have hK:=((HAK.out.ext hU).upd hU2 (fun h=>by unfold only at h;omega)).drew
          have hcell:∀j,j<64→wr.drew.cell? ⟨ab,64*k+j,none⟩=some (by8 (blk full k j)):=fun j hj=>by
            have h1:=(hS.out.upd hU2 (fun b o e h=>by injection e with e;injection e with e;unfold only at h;omega)).cells (64*k+j) (by rw[HNl.out];omega)
            rw[Nat.zero_add]at h1
            exact h1
          have Hcell:=hide hcell
          have hA':=hide hA.drew
          have hK':=hide hK
          clear hA hK hcell
          go_wp2_with fail
          refine wp_region_plan (Ext _) 8 [(false,0),(false,1),(false,2),(false,3),(false,4),(false,5),(false,6),(true,7)] (by kernel_rfl) (by kernel_rfl) (Upd.refl _ _) (fun hne=>?_)
          repeat (refine head_q rfl (fun K hK=>?_);have hK2:=hide hK;clear hK;go_simp;refine hK2.out _ ?_;clear hK2 K)
          refine head_load_ext rfl rfl rfl rfl hA'.out (Nat.le_refl _) Try.under_t8 Try.sz_t8 (fun K hK=>?_)
          go_simp
          refine hK _ ?_
          clear hK K
          repeat (refine head_q rfl (fun K hK=>?_);have hK2:=hide hK;clear hK;go_simp;refine hK2.out _ ?_;clear hK2 K)
          refine head_load_ext rfl rfl rfl rfl hK'.out (Nat.le_refl _) Try.under_64 Try.sz_64 (fun K hK=>?_)
          go_simp
          refine hK _ ?_
          clear hK K
          refine head_l rfl ?_
          go_wp2_with (go_at_call 114;go_must (refine(rblock_any ab (64*k) _ (blk full k) (hs full k) _ Hcell.out).mono ?_);rintro e w6 ⟨rfl,hU6⟩)
          refine⟨Cls (Ext _),cls_narrow hU6,⟨⟨_,Upd.refl _ _⟩,rfl⟩,?_⟩
          refine head_nil ?_
          try simp only[List.drop_succ_cons,List.drop_zero]
          go_must (refine wpList_store_whole (n:=8) (f:=fun i=>by32 (compress (blk full k) (hs full k) i)) rfl rfl rfl rfl (fun _=>rfl) (hA'.out.ext hU6) Try.sz_t8 ?_);intro w7 hA7 hU7
          have hU8:=hU2.trans ((Upd.ofExt (T:=only (w1.heap.size+1)) hU6).trans hU7).undrew
          clear hne hs1 hA' hK' e1 hU6 hU7
          go_wp2
          go_roundw
          case rel=>exact⟨k+1,by omega,congrArg (Value.int .i64) (by omega),hA7,hU8⟩
          case measure=>simp[intOf];omega
        · obtain⟨H,hHe⟩:∃H,H=hs full k:=⟨_,rfl⟩
          rw[←hHe]at hA
          have hkN:k=N / 64:=by omega
          have HHe:Hid (H=hs full (full.length / 64)):=hide (by rw[hHe,HNl.out,hkN])
          have hU6:Ext w wr:=upd_new hU2 (hU3w.trans hU) (fun i hi=>by unfold only at hi;have:=hU3w.size;have:=hU1.size;omega)
          have hd:decide (64*(k:Int)<N)=false:=decide_eq_false (by omega)
          clear hHe hkN hk hlt hU2
          go_wp2_with (first
           | (refine wpList_load_arr rfl rfl rfl (hA.alloc _) Try.under_t8 Try.sz_t8 ?_;clear hA))
          go_loopw [62,9,11] (fun i v _ wx=>∃k A c,k≤8∧i=.int .i64 (k:Nat)∧v=.slice A (4*k) c∧Own wx w.heap.size 5 A c ((out H k).map by8)∧Ext w wx) (fun i _ _ _=>8 - (intOf i).toNat)
          case atStart=>exact⟨0,_,_,by omega,rfl,rfl,Own.lit by8 _ 5 [] hU6.size (Nat.zero_le _),hU6.alloc _⟩
          case round=>
           clear hU6
           obtain⟨k,A,c',hk,rfl,rfl,hO,hU⟩:=hrel
           have hO':=hide hO
           clear hO
           by_cases hlt:k<8
           · have hlti:(k:Int)<8:=by omega
             have hd:decide ((k:Int)<8)=true:=decide_eq_true (by omega)
             have hix:=fun (w:World)=>run_index_arr (P:=Try.prog) Try.under_t8 Try.sz32 Try.under32 rfl (fun j=>.int .u32 (n32 (H j))) hlt .i64 w
             go_wp2_with (at_builtin;go_must (refine wpList_apd by8 one8 Try.el8 (out H k) (be32 (H k)) (out H (k+1)) (4*(k+1)) rfl (out_length H (k+1)) (by omega) (by unfold maxLen;omega) rfl rfl rfl (out_length H k) (Own.ext hO'.out ((Upd.refl _ _).alloc _)) rfl rfl (Sl.new by8 _ _ (be32 (H k))) (Nat.le_trans hU.size (by simp)) ?_);intro A2 c2 w2 hO2 hU2 hin2)
             go_roundw
             case rel=>exact⟨k+1,A2,c2,by omega,by go_num,rfl,hO2,upd_new hU2 (hU.alloc _) (fun i hi=>(hO'.out.in_ hi).1)⟩
             case measure=>simp[intOf];omega
           · obtain rfl:k=8:=by omega
             clear hk hlt
             go_wp2_with fail
             go_ret
             refine⟨A,c',rfl,?_,hU⟩
             have e:out H 8=sum msg:=by
              have hf:full=msg++pad msg.length:=by rw[Hfull.out,Hn.out,List.append_assoc];rfl
              rw[HHe.out,hf,List.length_append]
              rfl
             rw[←e]
             exact hO'.out
end
end Go.Proofs.Ytbhhjfhepkbfgaa
