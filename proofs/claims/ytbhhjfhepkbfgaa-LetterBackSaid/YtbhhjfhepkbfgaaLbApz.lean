/- append(s, make([]byte, m)...): so many noughts behind a slice that the call owns. -/
import Derived.Test.YtbhhjfhepkbfgaaLbBase
namespace Go.Proofs.Ytbhhjfhepkbfgaa
set_option linter.unusedSimpArgs false
set_option linter.unusedVariables false
open Go.RowKit
section
variable {P : Program} (w : World)
theorem zero_cells (z:Value) (hz:z.cells=#[z]) (m:Nat):Builtin.zeroCells z.cells m=(List.replicate m z).toArray:=by
 apply Array.ext'
 rw[hz]
 apply List.ext_getElem
 · simp[Builtin.zeroCells]
 · intro i h1 h2
   simp[Builtin.zeroCells]at h1 ⊢
   simp[Nat.mod_one]
theorem run_apz_nil (t ti ty e:TypeId) (i:TypeInfo) (z:Value) (ht:P.underlying t=some (.slice e)) (hti:P.underlying ti=some (.int .i64)) (hi:P.info? e=some i) (hz:i.zero=some z) (hs:i.size=1) (hb:i.bytes=1)
 (m:Nat) (h0:0<m) (h63:m≤140737488355328):
 (Builtin.append_ #[t,ti] ty #[.slice none 0 0,.int .i64 m]).run P w=
  .ok (.slice (some ⟨w.heap.size,0,none⟩) m (grownCap w m 0 e)) (w.drew.alloc (.cells (Builtin.zeroCells z.cells m++Builtin.zeroCells z.cells (grownCap w m 0 e - m)) e)):=by
 have hw:IntKind.i64.wrap (m:Int)=m:=IntWalk.i64_in _ (by omega)
 have h1:¬((m:Int)<0):=by omega
 have h2:¬(281474976710656<(m:Int)):=by omega
 have h3:¬m=0:=by omega
 have h4:¬((9223372036854775807:Int)<(m:Int)):=by omega
 have h5:¬(281474976710656<Builtin.nextslicecap m 0):=by rw[nextslicecap_zero h0];omega
 simp[Builtin.append_,run_underlying ht,run_underlying hti,sizeOf,typeInfo,zeroValue,hi,hz,hs,hb,hw,h2,h3,h4,h5,Question.forced,run_firstCells_none,newRow,grownCap,asInt,asIntOf]
 intro h;omega
theorem run_apz_room (t ti ty e:TypeId) (i:TypeInfo) (z:Value) (ht:P.underlying t=some (.slice e)) (hti:P.underlying ti=some (.int .i64)) (hi:P.info? e=some i) (hz:i.zero=some z) (hzc:z.cells=#[z]) (hone:z.oneCell'=true) (hs:i.size=1) (hb:i.bytes=1)
 (g n cap:Nat) (cur:Array Value) (hg:w.heap[g]? =some (.cells cur e (0,0))) (m:Nat) (h63:m≤140737488355328) (hroom:n+m≤cap) (hfit:n+m≤cur.size):
 (Builtin.append_ #[t,ti] ty #[.slice (some ⟨g,0,none⟩) n cap,.int .i64 m]).run P w=
  .ok (.slice (some ⟨g,0,none⟩) (n+m) cap) (w.setRow g (cur.toList.take n++List.replicate m z++cur.toList.drop (n+m)).toArray):=by
 have hw:IntKind.i64.wrap (m:Int)=m:=IntWalk.i64_in _ (by omega)
 have h2:¬(281474976710656<(m:Int)):=by omega
 have hst:=run_storeCells_at P g n e (List.replicate m z) 0 cur w hg (by simpa using hfit) (fun u hu=>by rw[(List.mem_replicate.1 hu).2];exact hone)
 simp only[Nat.add_zero,List.length_replicate]at hst
 by_cases h3:m=0
 · subst h3
   simp at hst
   simp[Builtin.append_,run_underlying ht,run_underlying hti,sizeOf,typeInfo,zeroValue,hi,hz,hs,hb,show IntKind.i64.wrap 0=0 from rfl,hroom,Addr.add_lit,hst,asInt,asIntOf]
   intro h;omega
 · simp[Builtin.append_,run_underlying ht,run_underlying hti,sizeOf,typeInfo,zeroValue,hi,hz,hs,hb,hw,h2,h3,hroom,Addr.add_lit,hst,asInt,asIntOf,zero_cells z hzc]
   intro h;omega
theorem run_apz_grow (t ti ty e:TypeId) (i:TypeInfo) (z:Value) (ht:P.underlying t=some (.slice e)) (hti:P.underlying ti=some (.int .i64)) (hi:P.info? e=some i) (hz:i.zero=some z) (hs:i.size=1) (hb:i.bytes=1)
 (b:Addr) (n cap:Nat) (olds:List Value) (hlo:olds.length=n) (holds:∀j v,olds[j]? =some v→w.cell? (b.add j)=some v) (m:Nat) (h63:n+m≤140737488355328) (hg:cap<n+m) (hm0:¬m=0):
 (Builtin.append_ #[t,ti] ty #[.slice (some b) n cap,.int .i64 m]).run P w=
  .ok (.slice (some ⟨w.heap.size,0,none⟩) (n+m) (grownCap w (n+m) cap e))
   (w.drew.alloc (.cells (olds.toArray++Builtin.zeroCells z.cells m++Builtin.zeroCells z.cells (grownCap w (n+m) cap e - (n+m))) e)):=by
 have hw:IntKind.i64.wrap (m:Int)=m:=IntWalk.i64_in _ (by omega)
 have h2:¬(281474976710656<(m:Int)):=by omega
 have h3:¬(n+m≤cap):=by omega
 have h4:¬(9223372036854775807<((n:Int)+(m:Int))):=by omega
 have h5:¬(281474976710656<Builtin.nextslicecap (n+m) cap):=by
  have:=growslice_fits (bytes:=1) hg (by omega)
  omega
 have hfo:=run_firstCells_some (P:=P) w.drew 1 n b n cap olds (by omega) (by simpa using holds)
 simp[Builtin.append_,run_underlying ht,run_underlying hti,sizeOf,typeInfo,zeroValue,hi,hz,hs,hb,hw,h2,h3,h4,h5,hm0,Question.forced,hfo,newRow,grownCap,asInt,asIntOf]
 intro h;omega
theorem run_apz (base:Nat) (t ti ty e:TypeId) (i:TypeInfo) (z:Value) (ht:P.underlying t=some (.slice e)) (hti:P.underlying ti=some (.int .i64)) (hi:P.info? e=some i) (hz:i.zero=some z) (hzc:z.cells=#[z]) (hone:z.oneCell'=true) (hs:i.size=1) (hb:i.bytes=1)
 (v:Value) (n:Nat) (xs:List Value) (hown:w.ownsRow base e 1 v n xs) (m:Nat) (h63:n+m≤140737488355328) (hbase:base≤w.heap.size):
 ∃v' w',(Builtin.append_ #[t,ti] ty #[v,.int .i64 m]).run P w=.ok v' w'∧w'.ownsRow base e 1 v' (n+m) (xs++List.replicate m z)∧w.grownBy w' v.ownBlock∧(v'.ownBlock=v.ownBlock∨v'.ownBlock=some w.heap.size):=by
 have hlen:(xs++List.replicate m z).length=(n+m)*1:=by rw[List.length_append,hown.1,List.length_replicate];omega
 have hlen':(xs++List.replicate m z).length=n+m:=by omega
 have hxl:xs.length=n:=by rw[hown.1];omega
 have grown:∀(old:Nat),old<n+m→∀(row:Option Nat),
  (w.drew.alloc (.cells (xs.toArray++Builtin.zeroCells z.cells m++Builtin.zeroCells z.cells (grownCap w (n+m) old e - (n+m))) e)).ownsRow base e 1
   (.slice (some ⟨w.heap.size,0,none⟩) (n+m) (grownCap w (n+m) old e)) (n+m) (xs++List.replicate m z)∧
  w.grownBy (w.drew.alloc (.cells (xs.toArray++Builtin.zeroCells z.cells m++Builtin.zeroCells z.cells (grownCap w (n+m) old e - (n+m))) e)) row:=by
  intro old ho row
  have hge:=grownCap_ge w (n+m) old e
  have hcm:grownCap w (n+m) old e≤maxLen:=grownCap_le_maxLen w (n+m) old e (by unfold maxLen;omega)
  rw[zero_cells z hzc m]
  refine⟨⟨hlen,.inr ⟨w.heap.size,_,_,rfl,hbase,heap_alloc_new w.drew _,hge,hcm,?_,?_⟩⟩,⟨rfl,rfl,rfl,by simp,fun k hk _=>heap_alloc_old w.drew _ hk⟩⟩
  · simp only[Array.size_append,List.size_toArray,size_zeroCells,hzc,List.length_replicate]
    simp
    omega
  · simp only[Array.toList_append,List.append_assoc]
    rw[←List.append_assoc,←hlen]
    exact List.take_left
 rcases hown.2 with ⟨rfl,rfl⟩ | ⟨g,cap,cur,rfl,hbg,hg,hnc,hcm,hcs,htake⟩
 · have hx:xs=[]:=List.eq_nil_of_length_eq_zero hxl
   subst hx
   by_cases hm:m=0
   · subst hm
     refine⟨.slice none 0 0,w,?_,World.ownsRow_nil w base e 1,⟨rfl,rfl,rfl,Nat.le_refl _,fun _ _ _=>rfl⟩,Or.inl rfl⟩
     simp[Builtin.append_,run_underlying ht,run_underlying hti,sizeOf,typeInfo,hi,hs,show IntKind.i64.wrap 0=0 from rfl,asInt,asIntOf]
   · have hr:=run_apz_nil (P:=P) w t ti ty e i z ht hti hi hz hs hb m (by omega) (by omega)
     have hgr:=grown 0 (by omega) (Value.ownBlock (.slice none 0 0))
     simp only[Nat.zero_add,List.nil_append,Array.empty_append]at hgr ⊢
     exact⟨_,_,hr,hgr.1,hgr.2,Or.inr rfl⟩
 · by_cases hroom:n+m≤cap
   · have hr:=run_apz_room (P:=P) w t ti ty e i z ht hti hi hz hzc hone hs hb g n cap cur hg m (by omega) hroom (by omega)
     refine⟨_,_,hr,⟨hlen,.inr ⟨g,cap,_,rfl,hbg,setRow_heap w g cur _ e _ hg,hroom,hcm,?_,?_⟩⟩,⟨rfl,rfl,rfl,by simp,fun k _ hk=>setRow_other w g k _ (fun e=>hk (by simp[Value.ownBlock,e]))⟩,Or.inl rfl⟩
     · simp only[List.size_toArray,List.length_append,List.length_take,List.length_drop,Array.length_toList,List.length_replicate]
       omega
     · rw[Nat.mul_one]at htake
       rw[htake,←hlen]
       exact List.take_left
   · have holds:∀j u,xs[j]? =some u→w.cell? ((⟨g,0,none⟩:Addr).add j)=some u:=hown.cells (g:=g) rfl
     have hr:=run_apz_grow (P:=P) w t ti ty e i z ht hti hi hz hs hb ⟨g,0,none⟩ n cap xs hxl holds m h63 (by omega) (by omega)
     have hgr:=grown cap (by omega) (Value.ownBlock (.slice (some ⟨g,0,none⟩) n cap))
     exact⟨_,_,hr,hgr.1,hgr.2,Or.inr rfl⟩
theorem wpList_apz {α:Type} [Inhabited α] (f:α→Value) (x0:α) (hone:(f x0).oneCell'=true) {T Ti e:TypeId} (E:ElemI P T e (f x0) 1) (hti:P.underlying Ti=some (.int .i64)) (xs zs:List α) (m N:Nat) (hz:xs++List.replicate m x0=zs) (hN:zs.length=N)
 (hb:N≤140737488355328) {ops:Array Oper} {rest:List Oper} {o:Oper} {a:Act} {Q:Exit→Act→World→Prop} {s x:Operand}
 (hgd:o.guard=none) (ho:o.op=.call {callee:=.builtin .append,args:=#[s,x],argTypes:=#[T,Ti]}) {B:Nat} {A:Option Addr} {n c:Nat} (hs:a.eval s=.slice A n c) (hn:xs.length=n)
 (hown:Own w B e A c (xs.map f)) (hx:a.eval x=.int .i64 (m:Int)) (hB:B≤w.heap.size)
 (h:∀A' c' w',Own w' B e A' c' (zs.map f)→Upd (inA A) w w'→(∀k,inA A' k→inA A k∨k=w.heap.size)→wpList P ops Q rest (a.put o.dst (.slice A' N c')) w'):wpList P ops Q (o :: rest) a w:=by
 refine wpList_plain hgd fun K hK=>?_
 subst hn
 subst hz
 have e1:xs.length+m=N:=by rw[←hN,List.length_append,List.length_replicate]
 obtain⟨i,hi,hz,hsz,hby⟩:=info_parts E.info
 have hzc:(f x0).cells=#[f x0]:=by generalize f x0=z at hone;cases z<;>first | rfl | (simp[Value.oneCell']at hone)
 have hown':w.ownsRow B e 1 (.slice A xs.length c) xs.length (xs.map f):=by simpa[Own] using hown
 obtain⟨v',w',hrun,h2,h3,h5⟩:=run_apz (P:=P) w B T Ti o.type e i (f x0) E.under hti hi hz hzc hone hsz hby _ _ _ hown' m (by omega) hB
 have hU:Upd (inA A) w w':=⟨h3.os,h3.tape,h3.output,h3.size,fun k hk hn=>h3.block k hk (fun e=>hn (by
   unfold inA
   cases A with
   | none=>simp[Value.ownBlock]at e
   | some a=>simpa[Value.ownBlock] using e.symm))⟩
 rw[e1]at h2
 have hform:∃A' c',v'=.slice A' N c':=by
  rcases h2.2 with ⟨h,hn⟩ | ⟨g,cap,cur,h,_⟩
  · exact⟨none,0,by rw[h,hn]⟩
  · exact⟨_,_,h⟩
 obtain⟨A',c',rfl⟩:=hform
 unfold Oper.wp execOp
 simp only[ho,resolve,invoke,builtin,Sem.run_bind,Sem.run_pure,Result.andThen_ok,List.map_toArray,List.map_cons,List.map_nil,hs,hx,hrun]
 refine hK _ _ (h A' c' w' ?_ hU fun k hk=>?_)
 · unfold Own
   rw[List.length_map,hN,List.map_append,List.map_replicate]
   exact h2
 · unfold inA at hk ⊢
   cases A' with
   | none=>simp at hk
   | some a'=>
     rcases h5 with h5 | h5
     · cases A with
       | none=>simp[Value.ownBlock]at h5
       | some a=>left;simp[Value.ownBlock]at h5 hk ⊢;omega
     · right;simp[Value.ownBlock]at h5 hk;omega
end
end Go.Proofs.Ytbhhjfhepkbfgaa
