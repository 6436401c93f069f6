/- The statement of the law GroupNews: for every input the Go function returns true and leaves its arguments as they were. -/
import Derived.Test.YtbhhjfhepkbfgaaGnGrpQ
import Derived.Test.YtbhhjfhepkbfgaaGnCertQ
import Derived.Deep.Matrix
import Derived.Deep.Grids
import Derived.ProofKit
import Derived.OpenShut
import Derived.ShutString
import Derived.ChangeOld
import Derived.Below
import Derived.SizedLaws
namespace Go.Proofs.Ytbhhjfhepkbfgaa.groupNews
open Go.ChangeShapes Go.WideShapes Go.ChangeAt Go.RowKit
open Go.ChangeMaps (open_string shut_string)
set_option linter.unusedVariables false
theorem own :ownKnob Try.prog.godebug=none:=by kernel_rfl
theorem laidOut :laidOutB Try.prog=true:=by kernel_rfl
def IsRow (k:IntKind) (w:World) (a:Option Addr) (len cap:Nat) (zs:List Int):Prop:=
 (a=none∧len=0∧cap=0∧zs=[])∨
 ∃x,a=some x∧len≤cap∧cap≤maxLen∧zs.length=cap∧(∀i,i<zs.length→w.cell? (x.add i)=some (.int k (zs.getD i 0)))∧∀n∈zs,(Lit.int k n).wf=true
theorem walk (a0:Int) (a1:Int) (a2:Int) (a3:Option Addr) (len3 cap3:Nat) (z3:List Int) (a4:Option Addr) (len4 cap4:Nat) (w:World) (w0:(Lit.int .u64 a0).wf=true) (w1:(Lit.int .u64 a1).wf=true) (w2:(Lit.int .u64 a2).wf=true) (w3:IsRow .u8 w a3 len3 cap3 z3) (rch3:cap3≤140737488351232) (w4:ClsIn w a4 len4 cap4):
 Calls Try.prog 3 #[.int .u64 a0,.int .u64 a1,.int .u64 a2,.slice a3 len3 cap3,.slice a4 len4 cap4] w fun e w'=>e=.returned (.bool true)∧Below w.heap.size w w':=by
 obtain⟨x0,rfl,h0⟩:=cu64_in w0
 obtain⟨x1,rfl,h1⟩:=cu64_in w1
 obtain⟨x2,rfl,h2⟩:=cu64_in w2
 obtain⟨bs3,h3,hc3,hm3,hS3⟩:=bytes_in w3
 obtain⟨cl,hl4,hc4,hm4,hL4⟩:=w4
 exact(gnews_any x0 x1 x2 a3 len3 cap3 bs3 a4 len4 cap4 cl w h0 h1 h2 hS3 h3 hc3 hm3 hL4 hl4).mono fun e w' ⟨h1,h2⟩=>⟨h1,h2.below⟩
set_option maxRecDepth 100000 in
theorem lifted (os:Os) (started:os.Started) (H:Type) (enc:TypeId × Value→H):
 ReturnsInHanded {} Try.checked os 3 .any (Rows.groupNewsSpec.pre6 enc Try.prog Try.f3 Rows.groupNewsRow.domain false) (Rows.groupNewsSpec.post enc Try.prog Try.f3 false true false false):=by
 refine returnsInHanded_of_change_sized (C:=Try.checked) own started (by kernel_rfl) Try.func3
   (ChangeSpec.witness6 (enc:=enc) (C:=Try.checked) false ⟨#[],#[.int .u64 0,.int .u64 0,.int .u64 0,.slice none 0 0,.slice none 0 0],[]⟩ 8 (by kernel_rfl) (by kernel_rfl) (by kernel_rfl) (by kernel_rfl)) ?_
 intro W base args ds gs before hval0 hW hcnd hsz0 _
 have hval:∀(j:Nat) t v,Try.f3.params[j]? =some t→args[j]? =some v→Value.okWide Try.prog W .any base t v:=hval0
 have hW':=hW
 obtain⟨p,q,hA0,hV,rfl,hfz,hnd⟩:=hW
 have hA:DataW.TrodAll enc Try.prog W 0 (fun _=>true) true Try.f3.params.toList args.toList ds p:=hA0
 have hsz:(DataW.weightsEach Try.prog (Try.f3.params.toList++Rows.groupNewsSpec.plain.varTypes Try.prog) (ds++gs)).all (·≤reachBytes)=true:=hsz0
 clear hsz0
 rw[Try.params3]at hA hval hsz
 obtain⟨v0,vs0,d0,ds0,p0,q0,hargs,rfl,rfl,h0,r0⟩:=trodAll_cons hA
 obtain⟨v1,vs1,d1,ds1,p1,q1,rfl,rfl,rfl,h1,r1⟩:=trodAll_cons r0
 obtain⟨v2,vs2,d2,ds2,p2,q2,rfl,rfl,rfl,h2,r2⟩:=trodAll_cons r1
 obtain⟨v3,vs3,d3,ds3,p3,q3,rfl,rfl,rfl,h3,r3⟩:=trodAll_cons r2
 obtain⟨v4,vs4,d4,ds4,p4,q4,rfl,rfl,rfl,h4,r4⟩:=trodAll_cons r3
 obtain⟨rfl,rfl,rfl⟩:=trodAll_nil r4
 obtain rfl:args=#[v0,v1,v2,v3,v4]:=by cases args;simp_all
 obtain⟨rfl,rfl⟩:=trodVars_none hV
 obtain⟨a0,rfl,rfl,rfl,w0⟩:=open_int Try.underlying22 (hval 0 22 v0 rfl rfl) h0
 obtain⟨a1,rfl,rfl,rfl,w1⟩:=open_int Try.underlying22 (hval 1 22 v1 rfl rfl) h1
 obtain⟨a2,rfl,rfl,rfl,w2⟩:=open_int Try.underlying22 (hval 2 22 v2 rfl rfl) h2
 obtain⟨a3,len3,cap3,rfl⟩:=okWide_slice Try.underlying23 (hval 3 23 v3 rfl rfl)
 have k3:=h3
 have lt3:∀x∈p3,x.block<W.heap.size:=by obtain⟨m,hm⟩:=k3;exact DataW.trod_lt m _ _ _ hm
 obtain⟨z3,w3,rch3⟩:∃zs,IsRow .u8 W a3 len3 cap3 zs∧cap3≤140737488351232:=by
  obtain⟨fuel,hf⟩:=h3
  rcases open_ints Try.underlying23 Try.underlying5 (by kernel_rfl) hf with ⟨hcs,_⟩ | ⟨x,l,c,zs,hcs,_,hl,hm,hz,hx,hcell,hwz⟩
  · simp[Value.cells]at hcs
    obtain⟨rfl,rfl,rfl⟩:=hcs
    exact⟨[],.inl ⟨rfl,rfl,rfl,rfl⟩,Nat.zero_le _⟩
  · simp[Value.cells]at hcs
    obtain⟨rfl,rfl,rfl⟩:=hcs
    have hz':zs.length=cap3:=by simpa using hz
    have hb:Try.prog.bytesOf 5=1:=by kernel_rfl
    obtain⟨rfl, -⟩:=Prod.mk.inj hx
    have:=sized_slice hsz (j:=3) (t:=23) (e:=5) rfl rfl Try.underlying23
    rw[hb]at this
    simp only[lits,List.length_map,List.length_take,List.length_drop,reachBytes]at this
    exact⟨zs,.inr ⟨_,rfl,hl,hm,hz',hcell,hwz⟩,by omega⟩
 obtain⟨a4,len4,cap4,rfl⟩:=okWide_slice Try.underlying24 (hval 4 24 v4 rfl rfl)
 have k4:=h4
 have lt4:∀x∈p4,x.block<W.heap.size:=by obtain⟨m,hm⟩:=k4;exact DataW.trod_lt m _ _ _ hm
 have w4:ClsIn W a4 len4 cap4:=by
  obtain⟨fuel,hf⟩:=h4
  exact claims_in Try.underlying24 Try.underlying30 Try.underlying22 Try.underlying28 ⟨rfl,rfl⟩ ⟨rfl,rfl⟩ ⟨rfl,rfl⟩ (by kernel_rfl) (by kernel_rfl) (by kernel_rfl) hf
 clear hA0 hval0
 refine(walk a0 a1 a2 a3 len3 cap3 z3 a4 len4 cap4 W w0 w1 w2 w3 rch3 w4).mono fun e W' ⟨he,bel⟩=>?_
 subst he
 exact⟨_,rfl,_,_,_,[],_,[],hW',trodAll_mk1 (shut_bool Try.underlying4 _),(trodAll_cons_mk (shut_int Try.underlying22 w0) (trodAll_cons_mk (shut_int Try.underlying22 w1) (trodAll_cons_mk (shut_int Try.underlying22 w2) (trodAll_cons_mk (Below.trod laidOut (by kernel_rfl) (of_decide_eq_true (by kernel_rfl)) k3 bel lt3) (trodAll_cons_mk (Below.trod laidOut (by kernel_rfl) (of_decide_eq_true (by kernel_rfl)) k4 bel lt4) trodAll_mk0))))),rfl,bel.frame _,fun h=>by cases h⟩
theorem over :Rows.groupNewsRow.holds Try.pinned (OpenSpec.ofChange Rows.groupNewsSpec):=
 OpenClaim.holds_of_wide 3 Try.f3 rfl rfl rfl rfl rfl rfl rfl ⟨rfl,rfl,rfl,rfl,rfl⟩ rfl rfl rfl rfl rfl (by kernel_rfl) Try.func3 (by kernel_rfl)
   (of_decide_eq_true (by kernel_rfl)) (by unfold Func.isWrapper;first | (rw[if_pos (by decide+kernel)];kernel_rfl) | (rw[if_neg (by decide+kernel)];exact⟨rfl,rfl⟩))
   (fun os started H enc _=>lifted os started H enc)
theorem proved :Rows.GroupNewsSaid:=over
#print axioms proved
end Go.Proofs.Ytbhhjfhepkbfgaa.groupNews
