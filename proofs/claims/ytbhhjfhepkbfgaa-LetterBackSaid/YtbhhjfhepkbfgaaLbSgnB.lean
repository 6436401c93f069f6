/- Signatures, walked: a member's bytes, the challenge. -/
import Derived.Test.YtbhhjfhepkbfgaaLbSgnA
namespace Go.Proofs.Ytbhhjfhepkbfgaa
set_option linter.unusedSimpArgs false
set_option linter.unusedVariables false
open Go.RowKit
open Nt Sha
attribute [local go_sem] steady steadyUpon Cls same_cell anyW
attribute [local irreducible] wpHead wpTree wpHeadR sum
def memBy (P Q a:Nat):List (BitVec 8):=if memB P Q a=true then toB a (byteSz P) else []
def memE (P Q a:Nat):Int:=if memB P Q a=true then 0 else 3
theorem memBy_len (P Q a:Nat):(memBy P Q a).length≤byteSz P:=by
 unfold memBy
 split
 · rw[toB_length];exact Nat.le_refl _
 · exact Nat.zero_le _
def RetMB (w:World) (P Q a:Nat) (e:Ending) (w':World):Prop:=
 ∃A l c,e=.returned (.tuple #[.slice A l c,.int .i64 (memE P Q a)])∧(memBy P Q a).length=l∧l≤c∧c≤maxLen∧Sl by8 w' A (memBy P Q a)∧(∀k,inA A k→w.heap.size≤k)∧Ext w w'
theorem memB_lt {P Q a:Nat} (h:memB P Q a=true):0<a∧a<P∧a^Q % P=1:=by
 unfold memB at h
 simp only[Bool.and_eq_true,decide_eq_true_eq]at h
 exact⟨h.1,h.2.1,h.2.2⟩
section
variable (gr P Q G H k : Nat) (w : World)
set_option maxRecDepth 100000 in
set_option maxHeartbeats 2000000 in
theorem gBytes_any (va:Value) (a:Nat) (h:GrpV w gr P Q G H) (hV:NatV w va a) (hF:Fit k a) (hP:Fit k P) (hQ:Fit k Q) (hk:k≤50000) (hk1:1≤k):
 Calls Try.prog 83 #[.pointer (some ⟨gr,0,none⟩),va] w (RetMB w P Q a):=by
 obtain⟨A,la,ca,xs,rfl, -⟩:=hV.open_
 by_cases hm:memB P Q a=true
 · have hlt:=(memB_lt hm).2.1
   have hbl:bytelen a≤byteSz P:=byteSz_mono (Nat.le_of_lt hlt)
   have hsz:=byteSz_le hP
   have hby:memBy P Q a=toB a (byteSz P):=by unfold memBy;rw[if_pos hm]
   have hme:memE P Q a=0:=by unfold memE;rw[if_pos hm]
   obtain⟨z,hz⟩:∃z,z=byteSz P:=⟨_,rfl⟩
   rw[←hz]at hbl hsz hby
   have Hby:=hide hby
   have Hme:=hide hme
   have Hz:=hide hz
   clear hby hme hz
   go_enter Try.func83,Try.ntmps83
   have b3:Box (w.alloc (.cells #[.slice A la ca] 33)) w.heap.size 33 (.slice A la ca):=Box.new _ _ _
   have q3:=b3.cell
   go_wp2_with fail
   clear q3
   refine name_c (fun W hW=>?_)
   rw[←hW]at b3
   have hE:Ext w W:=by rw[hW];exact(Upd.refl _ w).alloc _
   clear hW
   refine(gMember_any gr P Q G H k W _ a (h.ext hE) (hV.ext hE) hF hP hQ hk hk1).mono ?_
   rw[hm]
   rintro e w1 ⟨rfl,hU1⟩
   have hE1:=hE.trans hU1
   have b3':=b3.ext hU1
   clear hU1 hE b3
   go_wp2_with fail
   refine name_w (fun X hX=>?_)
   subst hX
   obtain⟨gp,gq,A1,l1,c1,A2,l2,c2,h1, -, -, -, -⟩:=h.ext hE1
   rw[←Hz.out]at h1
   have q0:=fun y:Wd (Ext X.drew)=>y.ok.cellv (show X.drew.cell? ⟨gr,4,none⟩=some (.int .i64 (z:Nat)) from(h1.ext (Upd.refl _ _).drew).at 4 rfl)
   have q1:=fun y:Wd (Ext X.drew)=>y.ok.cellv b3'.drew.cell
   refine wp_region_plan (Ext _) 9 [(false,0),(false,1),(false,2),(false,3),(false,4),(true,5),(false,6),(false,7),(false,8)] (by kernel_rfl) (by kernel_rfl) (Upd.refl _ _) (fun hne=>?_)
   repeat (refine head_q rfl (fun K hK=>?_);have hK2:=hide hK;clear hK;go_simp;refine hK2.out _ ?_;clear hK2 K)
   refine head_l rfl ?_
   go_wp2_with (go_at_call 79;go_must (refine(bytes_any _ a k z _ (hV.ext (hE1.trans (Upd.refl _ _).drew)) hF (by omega) hbl (by omega)).mono ?_);rintro e w2 ⟨A9,c9,rfl,hl9,hO9,hU9⟩)
   refine⟨Cls (Ext _),fun _ h=>h,⟨⟨_,hU9⟩,rfl⟩,?_⟩
   repeat (refine head_q rfl (fun K hK=>?_);have hK2:=hide hK;clear hK;go_simp;refine hK2.out _ ?_;clear hK2 K)
   have hG:=hE1.trans hU9.undrew
   clear q0 q1
   refine head_nil ?_
   try simp only[List.drop_succ_cons,List.drop_zero]
   have hpt:=Own.pt hO9 hl9
   have hin:∀q,inA A9 q→w.heap.size≤q:=fun q hq=>Nat.le_trans hE1.size (hO9.in_ hq).1
   rw[←Hby.out]at hpt
   have hz0:(0:Int)=memE P Q a:=Hme.out.symm
   have Hpt:=hide hpt
   have Hz0:=hide hz0
   clear hpt hz0 hO9 hl9
   go_wp2_with fail
   refine bodyPost_ret (v:=.tuple #[.slice A9 z c9,.int .i64 0]) (by simp[results,Try.results83,go_sem]) rfl ⟨A9,z,c9,by rw[Hz0.out],Hpt.out.1,Hpt.out.2.1,Hpt.out.2.2.1,Hpt.out.2.2.2,hin,hG⟩
 · have hm:memB P Q a=false:=by simpa using hm
   have hby:memBy P Q a=[]:=by unfold memBy;rw[if_neg (by rw[hm];decide)]
   have hme:memE P Q a=3:=by unfold memE;rw[if_neg (by rw[hm];decide)]
   have Hby:=hide hby
   have Hme:=hide hme
   clear hby hme
   go_enter Try.func83,Try.ntmps83
   have b3:Box (w.alloc (.cells #[.slice A la ca] 33)) w.heap.size 33 (.slice A la ca):=Box.new _ _ _
   have q3:=b3.cell
   go_wp2_with fail
   clear q3
   refine name_c (fun W hW=>?_)
   have hE:Ext w W:=by rw[hW];exact(Upd.refl _ w).alloc _
   clear hW
   refine(gMember_any gr P Q G H k W _ a (h.ext hE) (hV.ext hE) hF hP hQ hk hk1).mono ?_
   rw[hm]
   rintro e w1 ⟨rfl,hU1⟩
   have hE1:=hE.trans hU1
   go_wp2_with fail
   refine bodyPost_ret (v:=.tuple #[.slice none 0 0,.int .i64 3]) (by simp[results,Try.results83,go_sem]) rfl ⟨none,0,0,by rw[Hme.out],by rw[Hby.out];rfl,Nat.le_refl _,Nat.zero_le _,by rw[Hby.out];exact Sl.nil,fun q hq=>absurd hq (by simp[inA]),hE1⟩
end
end Go.Proofs.Ytbhhjfhepkbfgaa
