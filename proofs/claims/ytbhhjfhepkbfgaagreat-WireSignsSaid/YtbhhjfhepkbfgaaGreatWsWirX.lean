/- What was written comes back: plain facts; Same, walked. -/
import Derived.Test.YtbhhjfhepkbfgaaGreatWsWirP
namespace Go.Proofs.YtbhhjfhepkbfgaaGreat
set_option linter.unusedSimpArgs false
set_option linter.unusedVariables false
open Go.RowKit
open Nt Sha
attribute [local go_sem] steady steadyUpon Cls same_cell str_eq
attribute [local irreducible] wpHead wpTree
def exEn :En:=⟨4,2,1,0,0,1,none,0,0,[],none,0,0,[],none,0,0,[]⟩
def exBytes :List B8:=[0x45#8,0x04#8,0x02#8,0x00#8,0x00#8,0x00#8,0x01#8,0x00#8,0x00#8,0x01#8,0x00#8,0x00#8,0x00#8,0x00#8]
theorem exEn_bytes :exEn.bytes=exBytes:=by decide+kernel
theorem exEn_ok :exEn.ok=true:=by decide+kernel
theorem exEn_en (w:World):EnOk w exEn:=⟨NatL.nil,rfl,by decide,⟨Sl.nil,fun i hi=>absurd hi (by simp[exEn])⟩,rfl,by decide,Sl.nil,rfl,by decide⟩
theorem exStr :((str exBytes).toList == [69,4,2,0,0,0,1,0,0,1,0,0,0,0])=true:=by decide+kernel
set_option maxRecDepth 100000 in
set_option maxHeartbeats 1000000 in
theorem wlives_any (w:World):Calls Tryz.prog 4 #[] w fun e w'=>e=.returned (.bool true)∧Ext w w':=by
  go_enter Tryz.func4,Tryz.ntmps4
  go_wp2_with fail
  refine(encE_any exEn 1 w (exEn_en w) (fun i hi=>absurd hi (by simp[exEn])) (by omega)).mono ?_
  rintro e w1 ⟨A,l,c,m,rfl,hU,hy, -⟩
  obtain⟨rfl,hl,hO⟩:=hy exEn_ok
  rw[exEn_bytes]at hl hO
  have hst:=run_str (c:=c) (P:=Tryz.prog) (S:=9) Tryz.under_bs Tryz.under8 Tryz.underS hO.sl hl
  clear hO hl hy
  go_wp2_with fail
  rw[exStr]
  go_ret
  exact⟨rfl,hU⟩
end Go.Proofs.YtbhhjfhepkbfgaaGreat
namespace Go.Proofs.YtbhhjfhepkbfgaaGreat
set_option linter.unusedSimpArgs false
set_option linter.unusedVariables false
open Go.RowKit
open Nt Sha
attribute [local go_sem] steady steadyUpon Cls same_cell str_eq
attribute [local irreducible] wpHead wpTree
def plE (x:Pl) (A:Option Addr) (c:Nat):En:=⟨x.K,x.au,x.ep,x.mode,x.peer,x.phase,A,x.ln,c,qnums x.qs,x.L2,x.lt,x.c2,x.ps,x.P,x.lp,x.c3,x.pr⟩
theorem qnums_fit (x:Pl):FitL 12 (qnums x.qs):=fun i hi=>by
  unfold qnums at hi ⊢
  rw[gat_lt hi,List.getElem_map]
  exact fit_48 _
theorem plE_en {w:World} {x:Pl} (h:PlOk w x) {A:Option Addr} (c:Nat) (hn:NatL w A (qnums x.qs)) (h100:x.ln≤100):EnOk w (plE x A c):=
 ⟨hn,by show(qnums x.qs).length=x.ln;unfold qnums;rw[List.length_map];exact h.nlen,by show x.ln≤_;omega,h.texts,h.tlen,by show x.lt≤_;have:=h.tcap;have:=h.tmax;unfold maxLen at this;omega,h.proof,h.plen,by show x.lp≤_;have:=h.pcap;have:=h.pmax;unfold maxLen at this;omega⟩
end Go.Proofs.YtbhhjfhepkbfgaaGreat
namespace Go.Proofs.YtbhhjfhepkbfgaaGreat
set_option linter.unusedSimpArgs false
set_option linter.unusedVariables false
open Go.RowKit
open Nt Sha
attribute [local go_sem] steady steadyUpon Cls same_cell str_eq
attribute [local irreducible] wpHead wpTree
theorem En.ok_bad {x:En} (h:x.ok=true):x.bad=false:=by
 unfold En.ok at h
 cases hb:x.bad with
 | false=>rfl
 | true=>rw[hb]at h;cases h
theorem EnOk.wid {w:World} {x:En} (h:EnOk w x):x.pr.length=x.lp∧∀p∈x.ps,p.bs.length=p.n:=⟨h.plen,fun p hp=>by
  obtain⟨i,hi,rfl⟩:=List.getElem_of_mem hp
  have:=(h.texts.2 i hi).2.1
  rwa [gat_lt hi]at this⟩
theorem En.ok_len {x:En} (h:x.ok=true):x.bytes.length≤4096:=by
 unfold En.ok at h
 simp only[Bool.and_eq_true,Bool.not_eq_true',decide_eq_false_iff_not]at h
 omega
end Go.Proofs.YtbhhjfhepkbfgaaGreat
namespace Go.Proofs.YtbhhjfhepkbfgaaGreat
set_option linter.unusedSimpArgs false
set_option linter.unusedVariables false
open Go.RowKit
open Nt Sha
attribute [local go_sem] steady steadyUpon Cls same_cell str_eq
attribute [local irreducible] wpHead wpTree
theorem En.range {x:En} (h:x.bad=false):(1≤x.K∧x.K≤7)∧(1≤x.au∧x.au≤64)∧(0≤x.ep∧x.ep≤1048576)∧(0≤x.mode∧x.mode≤255)∧(0≤x.peer∧x.peer≤255)∧(0≤x.phase∧x.phase≤255):=by
 unfold En.bad at h
 simp only[Bool.or_eq_false_iff]at h
 obtain⟨h1,h2,h3,h4,h5,h6, -⟩:=h
 exact⟨off_no h1,off_no h2,off_no h3,off_no h4,off_no h5,off_no h6⟩
theorem Vo.range {x:Vo} (h:x.ok=true):(1≤x.K∧x.K≤5)∧(1≤x.from_∧x.from_≤64)∧(0≤x.slot∧x.slot≤256)∧(0≤x.view∧x.view≤1048576)∧(-1≤x.valid∧x.valid≤1048576):=by
 unfold Vo.ok Vo.bad at h
 simp only[Bool.not_eq_true',Bool.or_eq_false_iff]at h
 obtain⟨h1,h2,h3,h4,h5, -⟩:=h
 exact⟨off_no h1,off_no h2,off_no h3,off_no h4,off_no h5⟩
theorem textsB_eq {ps qs:List Pt} (h:ps.map (·.bs)=qs.map (·.bs)):textsB ps=textsB qs:=by
 have hl:ps.length=qs.length:=by have:=congrArg List.length h;simpa using this
 unfold textsB
 rw[hl]
 congr 1
 have e:∀l:List Pt,(l.flatMap fun p=>txt p.bs)=(l.map (·.bs)).flatMap txt:=fun l=>by rw[List.flatMap_map]
 rw[e,e,h]
theorem textsBad_eq {ps qs:List Pt} (hp:∀p∈ps,p.bs.length=p.n) (hq:∀p∈qs,p.bs.length=p.n) (h:ps.map (·.bs)=qs.map (·.bs)):textsBad ps=textsBad qs:=by
 have hl:ps.length=qs.length:=by have:=congrArg List.length h;simpa using this
 have e:∀l:List Pt,(∀p∈l,p.bs.length=p.n)→l.any tLong=(l.map (·.bs)).any (fun b=>decide (1024<b.length)):=fun l hl=>by
   induction l with
   | nil=>rfl
   | cons a l ih=>
     rw[List.map_cons,List.any_cons,List.any_cons,ih (fun p hp=>hl p (by simp[hp]))]
     unfold tLong
     rw[hl a (by simp)]
 unfold textsBad
 rw[hl,e ps hp,e qs hq,h]
theorem RetDec.back {w0 w w':World} {x:En} {e:Ending} (h:RetDec w x.bytes e w') (hx:x.ok=true) (hxk:EnOk w0 x):
 ∃z:En,e=.returned (.tuple #[.agg z.cs,.int .i64 0])∧EnOk w' z∧Ext w w'∧z.ok=true∧z.bytes=x.bytes∧z.K=x.K∧z.au=x.au∧z.ep=x.ep∧z.ln=x.ln∧z.lt=x.lt∧FitL 32 z.ns:=by
 obtain⟨L1,c1,L2,c2,ps,P,c3,hz,hps,hU,h1, -⟩:=h
 have hR:=entryR_bytes x (En.ok_bad hx) hxk.wid.1 hxk.wid.2 []
 rw[List.append_nil]at hR
 have hfit:=entryR_fit (x.bytes,false)
 unfold goodE at h1
 rw[hR]at hz hps h1 hfit
 dsimp only at hz hps h1 hfit
 obtain⟨r1,r2,r3,r4,r5,r6⟩:=En.range (En.ok_bad hx)
 obtain⟨z,hze⟩:∃z,z=(⟨x.K.toNat,x.au.toNat,x.ep.toNat,x.mode.toNat,x.peer.toNat,x.phase.toNat,x.ns,x.ps.map (·.bs),x.pr⟩:Ev).en L1 c1 L2 c2 ps P c3:=⟨_,rfl⟩
 rw[←hze]at hz h1
 have k1:z.K=x.K:=by rw[hze];show(x.K.toNat:Int)=_;omega
 have k2:z.au=x.au:=by rw[hze];show(x.au.toNat:Int)=_;omega
 have k3:z.ep=x.ep:=by rw[hze];show(x.ep.toNat:Int)=_;omega
 have k4:z.mode=x.mode:=by rw[hze];show(x.mode.toNat:Int)=_;omega
 have k5:z.peer=x.peer:=by rw[hze];show(x.peer.toNat:Int)=_;omega
 have k6:z.phase=x.phase:=by rw[hze];show(x.phase.toNat:Int)=_;omega
 have k7:z.ns=x.ns:=by rw[hze];rfl
 have k8:z.ps.map (·.bs)=x.ps.map (·.bs):=by rw[hze];exact hps
 have k9:z.pr=x.pr:=by rw[hze];rfl
 have k10:z.ln=x.ln:=by rw[←hz.nlen,←hxk.nlen,k7]
 have k11:z.lt=x.lt:=by rw[←hz.tlen,←hxk.tlen];have:=congrArg List.length k8;simpa using this
 have k12:z.lp=x.lp:=by rw[←hz.plen,←hxk.plen,k9]
 have hby:z.bytes=x.bytes:=by unfold En.bytes;rw[k1,k2,k3,k4,k5,k6,k7,k9,textsB_eq k8]
 have hok:z.ok=true:=by
  rw[←hx]
  unfold En.ok
  rw[hby]
  unfold En.bad
  rw[k1,k2,k3,k4,k5,k6,k7,k10,k11,k12,textsBad_eq hz.wid.2 hxk.wid.2 k8]
 refine⟨z,h1 (by rw[hok,hby];simp),hz,hU,hok,hby,k1,k2,k3,k10,k11,fun i hi=>?_⟩
 rw[k7]at hi ⊢
 rw[gat_lt hi]
 exact hfit _ (List.getElem_mem _)
theorem en_fields {w w':World} {x y:En} (hx:x.ok=true) (hxk:EnOk w x) (hy:y.ok=true) (hyk:EnOk w' y) (h:x.bytes=y.bytes):
 y.K=x.K∧y.au=x.au∧y.ep=x.ep∧y.peer=x.peer∧y.phase=x.phase∧y.mode=x.mode∧y.pr=x.pr:=by
 have hf:=(entry_free (t:=[]) (En.ok_bad hx) hxk.wid.1 hxk.wid.2 (En.ok_bad hy) hyk.wid.1 hyk.wid.2 (by rw[List.append_nil];exact h)).2
 obtain⟨a1,a2,a3,a4,a5,a6⟩:=En.range (En.ok_bad hx)
 obtain⟨b1,b2,b3,b4,b5,b6⟩:=En.range (En.ok_bad hy)
 injection hf with e1 e2 e3 e4 e5 e6 _ _ e9
 exact⟨by omega,by omega,by omega,by omega,by omega,by omega,e9.symm⟩
def sameV (x y:Vo):Bool:=decide (x.K=y.K∧x.from_=y.from_∧x.slot=y.slot∧x.view=y.view∧x.valid=y.valid∧x.pr=y.pr)
theorem RetDecV.back {w w':World} {x:Vo} {e:Ending} (h:RetDecV w x.bytes e w') (hx:x.ok=true) (hl:x.pr.length=x.lp):
 ∃z:Vo,e=.returned (.tuple #[.agg z.cs,.int .i64 0])∧VoOk w' z∧Ext w w'∧sameV z x=true:=by
 obtain⟨P,c,hz,hU,h1, -⟩:=h
 have hR:=voteR_bytes x hx hl []
 rw[List.append_nil]at hR
 unfold goodV at h1
 rw[hR]at hz h1
 dsimp only at hz h1
 obtain⟨r1,r2,r3,r4,r5⟩:=Vo.range hx
 obtain⟨z,hze⟩:∃z,z=(⟨x.K.toNat,x.from_.toNat,x.slot.toNat,x.view.toNat,(x.valid+1).toNat,x.pr⟩:Vv).vo P c:=⟨_,rfl⟩
 rw[←hze]at hz h1
 have k1:z.K=x.K:=by rw[hze];show(x.K.toNat:Int)=_;omega
 have k2:z.from_=x.from_:=by rw[hze];show(x.from_.toNat:Int)=_;omega
 have k3:z.slot=x.slot:=by rw[hze];show(x.slot.toNat:Int)=_;omega
 have k4:z.view=x.view:=by rw[hze];show(x.view.toNat:Int)=_;omega
 have k5:z.valid=x.valid:=by rw[hze];show((x.valid+1).toNat:Int) - 1=_;omega
 have k6:z.pr=x.pr:=by rw[hze];rfl
 have k7:z.lp=x.lp:=by rw[←hz.len,←hl,k6]
 have hby:z.bytes=x.bytes:=by unfold Vo.bytes;rw[k1,k2,k3,k4,k5,k6]
 have hok:z.ok=true:=by
  rw[←hx]
  unfold Vo.ok Vo.bad
  rw[k1,k2,k3,k4,k5,k7]
 exact⟨z,h1 (by rw[hok,hby];simp),hz,hU,decide_eq_true ⟨k1,k2,k3,k4,k5,k6⟩⟩
end Go.Proofs.YtbhhjfhepkbfgaaGreat
