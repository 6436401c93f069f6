/- The statement of the law LetterBack: for every input the Go function returns true and leaves its arguments as they were. -/
import Derived.Test.YtbhhjfhepkbfgaaLbLetK
import Derived.Deep.Matrix
import Derived.Deep.Grids
import Derived.ProofKit
import Derived.OpenShut
import Derived.ShutString
import Derived.ChangeOld
import Derived.Below
import Derived.SizedLaws
namespace Go.Proofs.Ytbhhjfhepkbfgaa.letterBack
open Go.ChangeShapes Go.WideShapes Go.ChangeAt Go.RowKit
open Go.ChangeMaps (open_string shut_string)
set_option linter.unusedVariables false
theorem own :ownKnob Try.prog.godebug=none:=by kernel_rfl
theorem laidOut :laidOutB Try.prog=true:=by kernel_rfl
def IsRow (k:IntKind) (w:World) (a:Option Addr) (len cap:Nat) (zs:List Int):Prop:=
 (a=none∧len=0∧cap=0∧zs=[])∨
 ∃x,a=some x∧len≤cap∧cap≤maxLen∧zs.length=cap∧(∀i,i<zs.length→w.cell? (x.add i)=some (.int k (zs.getD i 0)))∧∀n∈zs,(Lit.int k n).wf=true
theorem walk (a0:Int) (a1:Int) (a2:Int) (a3:Int) (a4:Int) (a5:Int) (a6:Option Addr) (len6 cap6:Nat) (z6:List Int) (w:World) (w0:(Lit.int .i64 a0).wf=true) (w1:(Lit.int .u64 a1).wf=true) (w2:(Lit.int .u64 a2).wf=true) (w3:(Lit.int .i64 a3).wf=true) (w4:(Lit.int .i64 a4).wf=true) (w5:(Lit.int .i64 a5).wf=true) (w6:IsRow .u8 w a6 len6 cap6 z6) (rch6:cap6≤140737488351232):
 Calls Try.prog 4 #[.int .i64 a0,.int .u64 a1,.int .u64 a2,.int .i64 a3,.int .i64 a4,.int .i64 a5,.slice a6 len6 cap6] w fun e w'=>e=.returned (.bool true)∧Below w.heap.size w w':=by
 obtain⟨x1,rfl,h1⟩:=cu64_in w1
 obtain⟨x2,rfl,h2⟩:=cu64_in w2
 obtain⟨bs6,h6,hc6,hm6,hS6⟩:=bytes_in w6
 exact(lback_any a0 x1 x2 a3 a4 a5 a6 len6 cap6 bs6 w h1 h2 ⟨hS6,h6,hc6,hm6⟩).mono fun e w' ⟨h1,h2⟩=>⟨h1,h2.below⟩
set_option maxRecDepth 100000 in
theorem lifted (os:Os) (started:os.Started) (H:Type) (enc:TypeId × Value→H):
 ReturnsInHanded {} Try.checked os 4 .any (Rows.letterBackSpec.pre6 enc Try.prog Try.f4 Rows.letterBackRow.domain false) (Rows.letterBackSpec.post enc Try.prog Try.f4 false true false false):=by
 refine returnsInHanded_of_change_sized (C:=Try.checked) own started (by kernel_rfl) Try.func4
   (ChangeSpec.witness6 (enc:=enc) (C:=Try.checked) false ⟨#[],#[.int .i64 0,.int .u64 0,.int .u64 0,.int .i64 0,.int .i64 0,.int .i64 0,.slice none 0 0],[]⟩ 8 (by kernel_rfl) (by kernel_rfl) (by kernel_rfl) (by kernel_rfl)) ?_
 intro W base args ds gs before hval0 hW hcnd hsz0 _
 have hval:∀(j:Nat) t v,Try.f4.params[j]? =some t→args[j]? =some v→Value.okWide Try.prog W .any base t v:=hval0
 have hW':=hW
 obtain⟨p,q,hA0,hV,rfl,hfz,hnd⟩:=hW
 have hA:DataW.TrodAll enc Try.prog W 0 (fun _=>true) true Try.f4.params.toList args.toList ds p:=hA0
 have hsz:(DataW.weightsEach Try.prog (Try.f4.params.toList++Rows.letterBackSpec.plain.varTypes Try.prog) (ds++gs)).all (·≤reachBytes)=true:=hsz0
 clear hsz0
 rw[Try.params4]at hA hval hsz
 obtain⟨v0,vs0,d0,ds0,p0,q0,hargs,rfl,rfl,h0,r0⟩:=trodAll_cons hA
 obtain⟨v1,vs1,d1,ds1,p1,q1,rfl,rfl,rfl,h1,r1⟩:=trodAll_cons r0
 obtain⟨v2,vs2,d2,ds2,p2,q2,rfl,rfl,rfl,h2,r2⟩:=trodAll_cons r1
 obtain⟨v3,vs3,d3,ds3,p3,q3,rfl,rfl,rfl,h3,r3⟩:=trodAll_cons r2
 obtain⟨v4,vs4,d4,ds4,p4,q4,rfl,rfl,rfl,h4,r4⟩:=trodAll_cons r3
 obtain⟨v5,vs5,d5,ds5,p5,q5,rfl,rfl,rfl,h5,r5⟩:=trodAll_cons r4
 obtain⟨v6,vs6,d6,ds6,p6,q6,rfl,rfl,rfl,h6,r6⟩:=trodAll_cons r5
 obtain⟨rfl,rfl,rfl⟩:=trodAll_nil r6
 obtain rfl:args=#[v0,v1,v2,v3,v4,v5,v6]:=by cases args;simp_all
 obtain⟨rfl,rfl⟩:=trodVars_none hV
 obtain⟨a0,rfl,rfl,rfl,w0⟩:=open_int Try.underlying3 (hval 0 3 v0 rfl rfl) h0
 obtain⟨a1,rfl,rfl,rfl,w1⟩:=open_int Try.underlying22 (hval 1 22 v1 rfl rfl) h1
 obtain⟨a2,rfl,rfl,rfl,w2⟩:=open_int Try.underlying22 (hval 2 22 v2 rfl rfl) h2
 obtain⟨a3,rfl,rfl,rfl,w3⟩:=open_int Try.underlying3 (hval 3 3 v3 rfl rfl) h3
 obtain⟨a4,rfl,rfl,rfl,w4⟩:=open_int Try.underlying3 (hval 4 3 v4 rfl rfl) h4
 obtain⟨a5,rfl,rfl,rfl,w5⟩:=open_int Try.underlying3 (hval 5 3 v5 rfl rfl) h5
 obtain⟨a6,len6,cap6,rfl⟩:=okWide_slice Try.underlying23 (hval 6 23 v6 rfl rfl)
 have k6:=h6
 have lt6:∀x∈p6,x.block<W.heap.size:=by obtain⟨m,hm⟩:=k6;exact DataW.trod_lt m _ _ _ hm
 obtain⟨z6,w6,rch6⟩:∃zs,IsRow .u8 W a6 len6 cap6 zs∧cap6≤140737488351232:=by
  obtain⟨fuel,hf⟩:=h6
  rcases open_ints Try.underlying23 Try.underlying5 (by kernel_rfl) hf with ⟨hcs,_⟩ | ⟨x,l,c,zs,hcs,_,hl,hm,hz,hx,hcell,hwz⟩
  · simp[Value.cells]at hcs
    obtain⟨rfl,rfl,rfl⟩:=hcs
    exact⟨[],.inl ⟨rfl,rfl,rfl,rfl⟩,Nat.zero_le _⟩
  · simp[Value.cells]at hcs
    obtain⟨rfl,rfl,rfl⟩:=hcs
    have hz':zs.length=cap6:=by simpa using hz
    have hb:Try.prog.bytesOf 5=1:=by kernel_rfl
    obtain⟨rfl, -⟩:=Prod.mk.inj hx
    have:=sized_slice hsz (j:=6) (t:=23) (e:=5) rfl rfl Try.underlying23
    rw[hb]at this
    simp only[lits,List.length_map,List.length_take,List.length_drop,reachBytes]at this
    exact⟨zs,.inr ⟨_,rfl,hl,hm,hz',hcell,hwz⟩,by omega⟩
 clear hA0 hval0
 refine(walk a0 a1 a2 a3 a4 a5 a6 len6 cap6 z6 W w0 w1 w2 w3 w4 w5 w6 rch6).mono fun e W' ⟨he,bel⟩=>?_
 subst he
 exact⟨_,rfl,_,_,_,[],_,[],hW',trodAll_mk1 (shut_bool Try.underlying4 _),(trodAll_cons_mk (shut_int Try.underlying3 w0) (trodAll_cons_mk (shut_int Try.underlying22 w1) (trodAll_cons_mk (shut_int Try.underlying22 w2) (trodAll_cons_mk (shut_int Try.underlying3 w3) (trodAll_cons_mk (shut_int Try.underlying3 w4) (trodAll_cons_mk (shut_int Try.underlying3 w5) (trodAll_cons_mk (Below.trod laidOut (by kernel_rfl) (of_decide_eq_true (by kernel_rfl)) k6 bel lt6) trodAll_mk0))))))),rfl,bel.frame _,fun h=>by cases h⟩
theorem over :Rows.letterBackRow.holds Try.pinned (OpenSpec.ofChange Rows.letterBackSpec):=
 OpenClaim.holds_of_wide 4 Try.f4 rfl rfl rfl rfl rfl rfl rfl ⟨rfl,rfl,rfl,rfl,rfl⟩ rfl rfl rfl rfl rfl (by kernel_rfl) Try.func4 (by kernel_rfl)
   (of_decide_eq_true (by kernel_rfl)) (by unfold Func.isWrapper;first | (rw[if_pos (by decide+kernel)];kernel_rfl) | (rw[if_neg (by decide+kernel)];exact⟨rfl,rfl⟩))
   (fun os started H enc _=>lifted os started H enc)
theorem proved :Rows.LetterBackSaid:=over
#print axioms proved
end Go.Proofs.Ytbhhjfhepkbfgaa.letterBack
