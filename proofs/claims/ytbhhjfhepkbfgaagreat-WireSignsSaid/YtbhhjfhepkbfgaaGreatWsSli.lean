/- slices.Clone and slices.Reverse over bytes, walked. -/
import Derived.Test.YtbhhjfhepkbfgaaGreatWsWirV
import Derived.RegionTactic
import Derived.BigRegion
import Derived.ChangeAlike
import Derived.Lib.SliceRun
namespace Go.Proofs.YtbhhjfhepkbfgaaGreat
set_option linter.unusedSimpArgs false
set_option linter.unusedVariables false
open Go.RowKit
open Nt Sha
abbrev RdS :=List B8 × Bool
def takeR (n:Nat) (s:RdS):List B8 × RdS:=if s.1.length<n then (List.replicate n 0#8,(s.1,true)) else (s.1.take n,(s.1.drop n,s.2))
def beN (xs:List B8):Nat:=xs.foldl (fun a b=>a*256+b.toNat) 0
def numR (k:Nat) (s:RdS):Nat × RdS:=(beN (takeR k s).1,(takeR k s).2)
def textR (s:RdS):List B8 × RdS:=if (numR 2 s).2.2 then ([],(numR 2 s).2) else takeR (numR 2 s).1 (numR 2 s).2
def textsR :Nat→RdS→List (List B8) × RdS
 | 0,s=>([],s)
 | k+1,s=>if s.2 then ([],s) else ((textR s).1 :: (textsR k (textR s).2).1,(textsR k (textR s).2).2)
theorem takeR_app {xs t:List B8} {n:Nat} (h:xs.length=n) (b:Bool):takeR n (xs++t,b)=(xs,(t,b)):=by
 subst h
 unfold takeR
 rw[if_neg (by simp)]
 simp
theorem wby_n {m:Nat} (hm:m<2^64) (i:Nat):(wby (m:Int) i).toNat=m / 256^i % 256:=by
 have hw:(IntKind.u64.wrap (m:Int)).toNat=m:=by
  have:IntKind.u64.wrap (m:Int)=(m:Int):=by simp[IntKind.wrap,IntKind.bits,IntKind.signed];omega
  rw[this];rfl
 unfold wby
 rw[hw,BitVec.toNat_ofNat,Nat.pow_mul]
theorem be_fold {m:Nat} (hm:m<2^64):∀(s a:Nat),(be (m:Int) s).foldl (fun a b=>a*256+b.toNat) a=a*256^s+m % 256^s
  | 0,a=>by simp[be,Nat.mod_one]
  | s+1,a=>by
    show(be (m:Int) s).foldl _ (a*256+(wby (m:Int) s).toNat)=_
    rw[be_fold hm s,wby_n hm,Nat.mod_pow_succ,Nat.pow_succ,Nat.add_mul,Nat.mul_assoc,Nat.mul_comm 256 (256^s),Nat.mul_comm (256^s) (m / 256^s % 256)]
    omega
theorem beN_be {m s:Nat} (hm:m<2^64) (hs:m<256^s):beN (be (m:Int) s)=m:=by
 unfold beN
 rw[be_fold hm,Nat.mod_eq_of_lt hs]
 omega
theorem numR_be {m s:Nat} (hm:m<2^64) (hs:m<256^s) (t:List B8) (b:Bool):numR s (be (m:Int) s++t,b)=(m,(t,b)):=by
 unfold numR
 rw[takeR_app (be_length _ _) b]
 simp only[beN_be hm hs]
theorem numR_int {z:Int} {s:Nat} (h0:0≤z) (hm:z<18446744073709551616) (hs:z.toNat<256^s) (t:List B8) (b:Bool):numR s (be z s++t,b)=(z.toNat,(t,b)):=by
 obtain⟨m,rfl⟩:∃m:Nat,z=(m:Int):=⟨z.toNat,by omega⟩
 exact numR_be (by omega) hs t b
theorem textR_txt {x:List B8} (hx:x.length<65536) (t:List B8):textR (txt x++t,false)=(x,(t,false)):=by
 unfold textR txt
 rw[List.append_assoc,numR_be (by omega) (by omega)]
 simp only[Bool.false_eq_true,if_false]
 exact takeR_app rfl false
theorem textsR_txts :∀(xs:List (List B8)) (t:List B8),(∀x∈xs,x.length<65536)→textsR xs.length (xs.flatMap txt++t,false)=(xs,(t,false))
 | [],t,_=>rfl
 | x :: xs,t,h=>by
   show textsR (xs.length+1) _=_
   have h1:=textR_txt (h x (by simp)) (xs.flatMap txt++t)
   unfold textsR
   rw[List.flatMap_cons,List.append_assoc,h1]
   simp only[Bool.false_eq_true,if_false]
   rw[textsR_txts xs t (fun y hy=>h y (by simp[hy]))]
def fromR (xs:List B8):Nat × Bool:=if 128<xs.length then (0,true) else (ofB xs,false)
def natsR :Nat→RdS→List Nat × RdS
 | 0,s=>([],s)
 | k+1,s=>if s.2 then ([],s) else
   ((fromR (textR s).1).1 :: (natsR k ((textR s).2.1,(textR s).2.2 || (fromR (textR s).1).2)).1,(natsR k ((textR s).2.1,(textR s).2.2 || (fromR (textR s).1).2)).2)
theorem natsR_nats :∀(ns:List Nat) (t:List B8),(∀n∈ns,bytelen n≤128)→natsR ns.length (ns.flatMap natB++t,false)=(ns,(t,false))
 | [],t,_=>rfl
 | n :: ns,t,h=>by
   show natsR (ns.length+1) _=_
   have hb:=h n (by simp)
   have h1:=textR_txt (x:=toB n (bytelen n)) (by rw[toB_length];omega) (ns.flatMap natB++t)
   have h2:fromR (toB n (bytelen n))=(n,false):=by
    unfold fromR
    rw[toB_length,if_neg (by omega),ofB_toB n _ (lt_bytelen n)]
   unfold natsR
   rw[List.flatMap_cons,List.append_assoc]
   unfold natB at h1 ⊢
   rw[h1]
   simp only[Bool.false_eq_true,if_false,h2,Bool.or_self]
   have h3:=natsR_nats ns t (fun y hy=>h y (by simp[hy]))
   unfold natB at h3
   rw[h3]
structure Vv where
 K:Nat
 from_:Nat
 slot:Nat
 view:Nat
 valid1:Nat
 pr:List B8
def voteR (s:RdS):Vv × RdS:=
 match numR 1 s with
 | (_,s)=>match numR 1 s with
   | (k,s)=>match numR 1 s with
     | (f,s)=>match numR 4 s with
       | (sl,s)=>match numR 4 s with
         | (v,s)=>match numR 4 s with
           | (va,s)=>match textR s with
             | (p,s)=>(⟨k,f,sl,v,va,p⟩,s)
theorem num_off {z a b:Int} {s B:Nat} (h:off z a b=false) (ha:0≤a) (hB:B=256^s) (hb:b<B) (hm:B≤4294967296) (t:List B8):numR s (be z s++t,false)=(z.toNat,(t,false)):=by
 have hz:=off_no h
 exact numR_int (by omega) (by omega) (by rw[←hB];omega) t false
theorem voteR_bytes (x:Vo) (h:x.ok=true) (hl:x.pr.length=x.lp) (t:List B8):
 voteR (x.bytes++t,false)=(⟨x.K.toNat,x.from_.toNat,x.slot.toNat,x.view.toNat,(x.valid+1).toNat,x.pr⟩,(t,false)):=by
 have hb:x.bad=false:=by unfold Vo.ok at h;simpa using h
 unfold Vo.bad at hb
 simp only[Bool.or_eq_false_iff,decide_eq_false_iff_not]at hb
 obtain⟨h1,h2,h3,h4,h5,h6⟩:=hb
 have h5':off (x.valid+1) 0 1048577=false:=by
  have:=off_no h5
  unfold off
  rw[Bool.or_eq_false_iff,decide_eq_false_iff_not,decide_eq_false_iff_not]
  omega
 unfold Vo.bytes voteR
 rw[show([86#8]:List B8)=be (86:Nat) 1 by decide]
 simp only[List.append_assoc]
 rw[numR_be (m:=86) (s:=1) (by omega) (by omega)]
 dsimp only
 rw[num_off h1 (by omega) (s:=1) (B:=256) (by decide) (by omega) (by omega)]
 dsimp only
 rw[num_off h2 (by omega) (s:=1) (B:=256) (by decide) (by omega) (by omega)]
 dsimp only
 rw[num_off h3 (by omega) (s:=4) (B:=4294967296) (by decide) (by omega) (by omega)]
 dsimp only
 rw[num_off h4 (by omega) (s:=4) (B:=4294967296) (by decide) (by omega) (by omega)]
 dsimp only
 rw[num_off h5' (by omega) (s:=4) (B:=4294967296) (by decide) (by omega) (by omega)]
 dsimp only
 rw[textR_txt (x:=x.pr) (by omega)]
structure Ev where
 K:Nat
 au:Nat
 ep:Nat
 mode:Nat
 peer:Nat
 phase:Nat
 ns:List Nat
 ts:List (List B8)
 pr:List B8
def entryR (s:RdS):Ev × RdS:=
 match numR 1 s with
 | (_,s)=>match numR 1 s with
   | (k,s)=>match numR 1 s with
     | (a,s)=>match numR 4 s with
       | (e,s)=>match numR 1 s with
         | (m,s)=>match numR 1 s with
           | (pe,s)=>match numR 1 s with
             | (ph,s)=>match numR 1 s with
               | (n,s)=>match natsR n s with
                 | (ns,s)=>match numR 1 s with
                   | (n,s)=>match textsR n s with
                     | (ts,s)=>match textR s with
                       | (p,s)=>(⟨k,a,e,m,pe,ph,ns,ts,p⟩,s)
theorem entryR_bytes (x:En) (h:x.bad=false) (hl:x.pr.length=x.lp) (hp:∀p∈x.ps,p.bs.length=p.n) (t:List B8):
 entryR (x.bytes++t,false)=(⟨x.K.toNat,x.au.toNat,x.ep.toNat,x.mode.toNat,x.peer.toNat,x.phase.toNat,x.ns,x.ps.map (·.bs),x.pr⟩,(t,false)):=by
 unfold En.bad natsBad textsBad at h
 simp only[Bool.or_eq_false_iff,decide_eq_false_iff_not]at h
 obtain⟨h1,h2,h3,h4,h5,h6,⟨h7,h7'⟩,⟨h8,h8'⟩,h9⟩:=h
 have hn:∀n∈x.ns,bytelen n≤128:=fun n hn=>by
   have:=List.any_eq_false.1 h7' n hn
   unfold nLong at this
   simp at this
   omega
 have ht:∀y∈x.ps.map (·.bs),y.length<65536:=fun y hy=>by
   obtain⟨p,hpm,rfl⟩:=List.mem_map.1 hy
   have:=List.any_eq_false.1 h8' p hpm
   unfold tLong at this
   simp at this
   have:=hp p hpm
   omega
 have hfm:(x.ps.flatMap fun p=>txt p.bs)=(x.ps.map (·.bs)).flatMap txt:=by rw[List.flatMap_map]
 unfold En.bytes natsB textsB entryR
 rw[show([69#8]:List B8)=be (69:Nat) 1 by decide,hfm]
 simp only[List.append_assoc]
 rw[numR_be (m:=69) (s:=1) (by omega) (by omega)]
 dsimp only
 rw[num_off h1 (by omega) (s:=1) (B:=256) (by decide) (by omega) (by omega)]
 dsimp only
 rw[num_off h2 (by omega) (s:=1) (B:=256) (by decide) (by omega) (by omega)]
 dsimp only
 rw[num_off h3 (by omega) (s:=4) (B:=4294967296) (by decide) (by omega) (by omega)]
 dsimp only
 rw[num_off h4 (by omega) (s:=1) (B:=256) (by decide) (by omega) (by omega)]
 dsimp only
 rw[num_off h5 (by omega) (s:=1) (B:=256) (by decide) (by omega) (by omega)]
 dsimp only
 rw[num_off h6 (by omega) (s:=1) (B:=256) (by decide) (by omega) (by omega)]
 dsimp only
 rw[numR_be (m:=x.ns.length) (s:=1) (by omega) (by omega)]
 dsimp only
 rw[natsR_nats x.ns _ hn]
 dsimp only
 rw[numR_be (m:=x.ps.length) (s:=1) (by omega) (by omega)]
 dsimp only
 have h10:=textsR_txts (x.ps.map (·.bs)) (txt x.pr++t) ht
 rw[List.length_map]at h10
 rw[h10]
 dsimp only
 rw[textR_txt (x:=x.pr) (by omega)]
theorem entry_free {x y:En} (hx:x.bad=false) (lx:x.pr.length=x.lp) (px:∀p∈x.ps,p.bs.length=p.n) (hy:y.bad=false) (ly:y.pr.length=y.lp) (py:∀p∈y.ps,p.bs.length=p.n) {t:List B8} (h:x.bytes++t=y.bytes):
 t=[]∧(⟨x.K.toNat,x.au.toNat,x.ep.toNat,x.mode.toNat,x.peer.toNat,x.phase.toNat,x.ns,x.ps.map (·.bs),x.pr⟩:Ev)=⟨y.K.toNat,y.au.toNat,y.ep.toNat,y.mode.toNat,y.peer.toNat,y.phase.toNat,y.ns,y.ps.map (·.bs),y.pr⟩:=by
 have a:=entryR_bytes x hx lx px t
 have b:=entryR_bytes y hy ly py []
 rw[List.append_nil,←h,a]at b
 exact⟨congrArg (·.2.1) b,congrArg (·.1) b⟩
end Go.Proofs.YtbhhjfhepkbfgaaGreat
namespace Go.Proofs.YtbhhjfhepkbfgaaGreat
set_option linter.unusedSimpArgs false
set_option linter.unusedVariables false
open Go.RowKit
open Nt
attribute [local go_sem] steady steadyUpon Cls same_cell by8
attribute [local irreducible] wpHead
theorem own_none8 (w:World) {B:Nat} (hB:B≤w.heap.size):Own (w.alloc (.cells #[] 5)) B 5 (some ⟨w.heap.size,0,none⟩) 0 (([]:List (BitVec 8)).map by8):=
 Own.lit by8 w 5 [] hB (Nat.zero_le _)
set_option maxRecDepth 100000 in
set_option maxHeartbeats 1000000 in
theorem clone_any (A:Option Addr) (n c:Nat) (bs:List (BitVec 8)) (w:World) (hl:bs.length=n) (hn:n≤100000000) (hS:Sl by8 w A bs):
 Calls Tryz.prog 39 #[.slice A n c] w (RetL w n bs):=by
 have Hl:=hide hl
 have HS:=hide hS
 have hnl:=fun W:World=>Lib.run_eql_slice_nil (P:=Tryz.prog) W 24 5 A n c 0 0 Tryz.n_under_bs
 clear hl hS
 cases A with
 | none=>
   have h0:n=0:=by
    rcases Nat.eq_zero_or_pos n with h | h
    · exact h
    · obtain⟨b,o,e,_⟩:=HS.out 0 (by rw[Hl.out];exact h)
      cases e
   have hb:bs=[]:=by
    have:=Hl.out
    rw[h0]at this
    exact List.length_eq_zero_iff.1 this
   subst h0 hb
   go_enter Tryz.func39,Tryz.ntmps39
   go_wp2_with fail
   go_ret
   exact⟨none,0,rfl,rfl,Own.nil,Upd.refl _ _⟩
 | some ad=>
   go_enter Tryz.func39,Tryz.ntmps39
   go_wp2_with (at_builtin;go_must (refine wpList_apd by8 one8 Tryz.n_el8 [] bs bs n rfl Hl.out (by omega) (by unfold maxLen;omega) rfl rfl rfl rfl (own_none8 w (Nat.le_refl _)) rfl Hl.out (HS.out.ext ((Upd.refl _ _).alloc _)) (by simp) ?_);intro A2 c2 w2 hO2 hU2 hin2)
   go_ret
   exact⟨_,_,rfl,Hl.out,hO2,Upd.fresh hU2 ((Upd.refl _ _).alloc _) (fun k hk=>by unfold inA at hk;simp at hk;omega)⟩
end Go.Proofs.YtbhhjfhepkbfgaaGreat
