/- The statement of the law WireSigns: for every input the Go function returns true and leaves its arguments as they were. -/
import Derived.Test.YtbhhjfhepkbfgaaGreatWsWiS
import Derived.ProofKit
import Derived.OpenShut
import Derived.ShutString
import Derived.ChangeOld
import Derived.Below
import Derived.SizedLaws
namespace Go.Proofs.YtbhhjfhepkbfgaaGreat.wireSigns
open Go.ChangeShapes Go.WideShapes Go.ChangeAt Go.RowKit
open Go.ChangeMaps (open_string shut_string)
set_option linter.unusedVariables false
theorem own :ownKnob Tryz.prog.godebug=none:=by kernel_rfl
theorem laidOut :laidOutB Tryz.prog=true:=by kernel_rfl
def IsRow (k:IntKind) (w:World) (a:Option Addr) (len cap:Nat) (zs:List Int):Prop:=
 (a=none∧len=0∧cap=0∧zs=[])∨
 ∃x,a=some x∧len≤cap∧cap≤maxLen∧zs.length=cap∧(∀i,i<zs.length→w.cell? (x.add i)=some (.int k (zs.getD i 0)))∧∀n∈zs,(Lit.int k n).wf=true
theorem walk (a0:Int) (a1:Int) (c2:Pl) (a3:Option Addr) (len3 cap3:Nat) (z3:List Int) (w:World) (w0:(Lit.int .i64 a0).wf=true) (w1:(Lit.int .u64 a1).wf=true) (w2:PlOk w c2) (w3:IsRow .u8 w a3 len3 cap3 z3) (rch3:cap3≤140737488351232):
 Calls Tryz.prog 3 #[.int .i64 a0,.int .u64 a1,.agg c2.cs,.slice a3 len3 cap3] w fun e w'=>e=.returned (.bool true)∧Below w.heap.size w w':=by
 obtain⟨x1,rfl,h1⟩:=cu64_in w1
 obtain⟨bs3,h3,hc3,hm3,hS3⟩:=bytes_in w3
 obtain⟨r,hr,hnum⟩:=gnums_any a0
 exact(wsigns_any a0 r hr x1 c2 a3 len3 cap3 bs3 w (fun w'=>hnum none 0 0 w') h1 w2 ⟨hS3,h3,hc3,hm3⟩).mono fun e w' ⟨h1,h2⟩=>⟨h1,h2.below⟩
set_option maxRecDepth 100000 in
theorem lifted (os:Os) (started:os.Started) (H:Type) (enc:TypeId × Value→H):
 ReturnsInHanded {} Tryz.checked os 3 .any (Rows.wireSignsSpec.pre6 enc Tryz.prog Tryz.f3 Rows.wireSignsRow.domain false) (Rows.wireSignsSpec.post enc Tryz.prog Tryz.f3 false true false false):=by
 refine returnsInHanded_of_change_sized (C:=Tryz.checked) own started (by kernel_rfl) Tryz.func3
   (ChangeSpec.witness6 (enc:=enc) (C:=Tryz.checked) false ⟨#[],#[.int .i64 0,.int .u64 0,.agg #[.int .i64 0,.int .i64 0,.int .i64 0,.int .i64 0,.int .i64 0,.int .i64 0,.slice none 0 0,.slice none 0 0,.slice none 0 0],.slice none 0 0],[]⟩ 8 (by kernel_rfl) (by kernel_rfl) (by kernel_rfl) (by kernel_rfl)) ?_
 intro W base args ds gs before hval0 hW hcnd hsz0 _
 have hval:∀(j:Nat) t v,Tryz.f3.params[j]? =some t→args[j]? =some v→Value.okWide Tryz.prog W .any base t v:=hval0
 have hW':=hW
 obtain⟨p,q,hA0,hV,rfl,hfz,hnd⟩:=hW
 have hA:DataW.TrodAll enc Tryz.prog W 0 (fun _=>true) true Tryz.f3.params.toList args.toList ds p:=hA0
 have hsz:(DataW.weightsEach Tryz.prog (Tryz.f3.params.toList++Rows.wireSignsSpec.plain.varTypes Tryz.prog) (ds++gs)).all (·≤reachBytes)=true:=hsz0
 clear hsz0
 rw[Tryz.params3]at hA hval hsz
 obtain⟨v0,vs0,d0,ds0,p0,q0,hargs,rfl,rfl,h0,r0⟩:=trodAll_cons hA
 obtain⟨v1,vs1,d1,ds1,p1,q1,rfl,rfl,rfl,h1,r1⟩:=trodAll_cons r0
 obtain⟨v2,vs2,d2,ds2,p2,q2,rfl,rfl,rfl,h2,r2⟩:=trodAll_cons r1
 obtain⟨v3,vs3,d3,ds3,p3,q3,rfl,rfl,rfl,h3,r3⟩:=trodAll_cons r2
 obtain⟨rfl,rfl,rfl⟩:=trodAll_nil r3
 obtain rfl:args=#[v0,v1,v2,v3]:=by cases args;simp_all
 obtain⟨rfl,rfl⟩:=trodVars_none hV
 obtain⟨a0,rfl,rfl,rfl,w0⟩:=open_int Tryz.underlying3 (hval 0 3 v0 rfl rfl) h0
 obtain⟨a1,rfl,rfl,rfl,w1⟩:=open_int Tryz.underlying22 (hval 1 22 v1 rfl rfl) h1
 obtain⟨vv2,rfl, -⟩:=okWide_struct Tryz.underlying26 (hval 2 26 v2 rfl rfl)
 have k2:=h2
 have lt2:∀x∈p2,x.block<W.heap.size:=by obtain⟨m,hm⟩:=k2;exact DataW.trod_lt m _ _ _ hm
 obtain⟨c2,e2,w2⟩:∃c:Pl,vv2=c.cs∧PlOk W c:=by
  obtain⟨fuel,hf⟩:=h2
  obtain⟨c,e,ok⟩:=plain_in Tryz.underlying26 Tryz.underlying3 Tryz.underlying23 Tryz.underlying24 Tryz.underlying5 (fun k hk=>by match k,hk with | 0,_=>exact⟨_,rfl,rfl,rfl⟩ | 1,_=>exact⟨_,rfl,rfl,rfl⟩ | 2,_=>exact⟨_,rfl,rfl,rfl⟩ | 3,_=>exact⟨_,rfl,rfl,rfl⟩ | 4,_=>exact⟨_,rfl,rfl,rfl⟩ | 5,_=>exact⟨_,rfl,rfl,rfl⟩) ⟨_,rfl,rfl,rfl⟩ ⟨_,rfl,rfl,rfl⟩ ⟨_,rfl,rfl,rfl⟩ (by kernel_rfl) (by kernel_rfl) (by kernel_rfl) (by kernel_rfl) (by kernel_rfl) hf
  exact⟨c,Array.ext' (by simpa[Value.cells] using e),ok⟩
 subst e2
 obtain⟨a3,len3,cap3,rfl⟩:=okWide_slice Tryz.underlying24 (hval 3 24 v3 rfl rfl)
 have k3:=h3
 have lt3:∀x∈p3,x.block<W.heap.size:=by obtain⟨m,hm⟩:=k3;exact DataW.trod_lt m _ _ _ hm
 obtain⟨z3,w3,rch3⟩:∃zs,IsRow .u8 W a3 len3 cap3 zs∧cap3≤140737488351232:=by
  obtain⟨fuel,hf⟩:=h3
  rcases open_ints Tryz.underlying24 Tryz.underlying5 (by kernel_rfl) hf with ⟨hcs,_⟩ | ⟨x,l,c,zs,hcs,_,hl,hm,hz,hx,hcell,hwz⟩
  · simp[Value.cells]at hcs
    obtain⟨rfl,rfl,rfl⟩:=hcs
    exact⟨[],.inl ⟨rfl,rfl,rfl,rfl⟩,Nat.zero_le _⟩
  · simp[Value.cells]at hcs
    obtain⟨rfl,rfl,rfl⟩:=hcs
    have hz':zs.length=cap3:=by simpa using hz
    have hb:Tryz.prog.bytesOf 5=1:=by kernel_rfl
    obtain⟨rfl, -⟩:=Prod.mk.inj hx
    have:=sized_slice hsz (j:=3) (t:=24) (e:=5) rfl rfl Tryz.underlying24
    rw[hb]at this
    simp only[lits,List.length_map,List.length_take,List.length_drop,reachBytes]at this
    exact⟨zs,.inr ⟨_,rfl,hl,hm,hz',hcell,hwz⟩,by omega⟩
 clear hA0 hval0
 refine(walk a0 a1 c2 a3 len3 cap3 z3 W w0 w1 w2 w3 rch3).mono fun e W' ⟨he,bel⟩=>?_
 subst he
 exact⟨_,rfl,_,_,_,[],_,[],hW',trodAll_mk1 (shut_bool Tryz.underlying4 _),(trodAll_cons_mk (shut_int Tryz.underlying3 w0) (trodAll_cons_mk (shut_int Tryz.underlying22 w1) (trodAll_cons_mk (Below.trod laidOut (by kernel_rfl) (of_decide_eq_true (by kernel_rfl)) k2 bel lt2) (trodAll_cons_mk (Below.trod laidOut (by kernel_rfl) (of_decide_eq_true (by kernel_rfl)) k3 bel lt3) trodAll_mk0)))),rfl,bel.frame _,fun h=>by cases h⟩
theorem over :Rows.wireSignsRow.holds Tryz.pinned (OpenSpec.ofChange Rows.wireSignsSpec):=
 OpenClaim.holds_of_wide 3 Tryz.f3 rfl rfl rfl rfl rfl rfl rfl ⟨rfl,rfl,rfl,rfl,rfl⟩ rfl rfl rfl rfl rfl (by kernel_rfl) Tryz.func3 (by kernel_rfl)
   (of_decide_eq_true (by kernel_rfl)) (by unfold Func.isWrapper;first | (rw[if_pos (by decide+kernel)];kernel_rfl) | (rw[if_neg (by decide+kernel)];exact⟨rfl,rfl⟩))
   (fun os started H enc _=>lifted os started H enc)
theorem proved :Rows.WireSignsSaid:=over
#print axioms proved
end Go.Proofs.YtbhhjfhepkbfgaaGreat.wireSigns
