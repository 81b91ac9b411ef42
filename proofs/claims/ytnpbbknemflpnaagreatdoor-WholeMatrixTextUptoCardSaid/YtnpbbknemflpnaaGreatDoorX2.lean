/- Parts LongB, DivC, Int, Sxz, Sxl, Sxw, IntC, Pop, Small, Zg, Sxb, Ab, Upto, Stays, Zs, UptoZ, App, Bz, Li, One, Sxk, Ms, Mt, Opm, Txm, Sxf, Rx, Rxa, Rxb, Rxc, Rs, Str, Strc, Mta, joined. -/
import Derived.Test.YtnpbbknemflpnaaGreatDoorX1
import Derived.IntWalk
import Derived.KernelRfl
import Derived.Test.YtnpbbknemflpnaaGreatDoorRows
import Derived.WalkKit
import Derived.ProofKit
import Derived.OpenShut
import Derived.JoinedCond
import Derived.ChangeSame
import Derived.ChangeSlices
import Derived.ChangeStays
import Derived.Deep.Slices
import Derived.DataShut
import Derived.ArgAppend
import Derived.WalkSmall
import Derived.Laws.BytesString
import Derived.Laws.Concat
import Derived.Laws.RangeAny
import Derived.ChangeMaps5
import Derived.Laws.Slices

open Go renaming Addr → a8, BinOp → fW, Calls → aU, Edge → eA, Ending → dL, Exit → cQ, IntKind → fV, Next → eC, Oper → aX, Operand → bW, Program → bT, TypeId → aQ, Value → aC, World → a6, bodyPost_ret → lM, run_underlying → gM
open Go.Addr renaming add → iS
open Array renaming getElem?_eq_some_iff → lT, replicate → mT
open Bool renaming and_eq_true → dI, false_eq_true → sU, or_eq_true → jZ
open Go.Builtin renaming append_ → lS, lenOf → sS
open Go.Instr renaming makeSlice → mQ
open Int renaming natCast_mul → gD, toNat_natCast → gC
open Go.IntKind renaming bits → oE, signed → oD, wrap → qC
open Go.Lib renaming hid → bD
open List renaming all_eq_true → dZ, append_nil → fA, cons_append → oC, contains_iff_mem → jB, drop_eq_getElem_cons → mP, drop_zero → iR, getD_eq_getElem?_getD → bE, getElem?_drop → lR, getElem?_eq_getElem → bS, getElem?_eq_none → kV, getElem?_eq_some_iff → eJ, getElem?_map → gR, getElem?_take → iC, getElem_mem → jA, length_append → cK, length_cons → cS, length_drop → fN, length_take → cV, map_drop → mO, map_take → j9, mem_append → eQ, mem_cons → i6, mem_map → iQ, mem_range → fU, mem_singleton → fT, range → eV, replicate → cB, replicate_succ → sJ, size_toArray → sI, take_append_drop → kT
open Nat renaming add_mul → dM, add_sub_cancel → oA, add_zero → dF, beq → kS, div_le_self → f5, div_lt_self → iB, eq_of_beq_eq_true → mN, eq_zero_or_pos → gQ, le_refl → aZ, le_trans → aN, lt_of_lt_of_le → cU, lt_of_not_le → o8, lt_or_ge → fS, min_eq_left → fK, mod_add_div → kP, mod_eq_of_lt → eZ, mod_lt → fM, mul_comm → cM, mul_le_mul → i2, mul_le_mul_left → gP, mul_le_mul_right → eG, mul_one → eI, mul_zero → fR, pow_le_pow_right → fJ, pow_pos → eT, pow_succ → dK, sub_add_cancel → iP, succ_mul → gN, zero_add → dY, zero_le → cE, zero_mul → mL
open Ne renaming symm → lN
open Go.Next renaming value → eP
open Go.Oper renaming upon → kO, wp → jW
open Option.some renaming inj → i1, injEq → dR
open Or renaming inl → bY, inr → cA
open Go.Region renaming binds → fQ, wanted → o3
open Go.Result renaming andThen_ok → dE
open Go.Sem renaming run_bind → bQ, run_pure → eO
open Go.Proofs.Tryz renaming prog → aG
open Go.Value renaming int → bP
open Go.World renaming block_lt_of_cell? → mJ, setCell → pU
namespace Go.Proofs.YtnpbbknemflpnaaGreatDoor
set_option maxRecDepth 20000
set_option maxHeartbeats 8000000
variable {A A' Aa OA PA S:Option a8}{B C R a er z:Int}{H:Type}{K K' ac an b b' base bytes c cap cap' capa d fuel g g' gp hi i id j k lb m n n' na oc off on pn q r s' unit width x3 x4 x5 x6:Nat}{P:bT}{T T' e t t' ty:aQ}{W W' w w' w0 wt wt':a6}{acc bs ds l l1 ms st xs ys:List Nat}{af:Array eA}{args cs tmps:Array aC}{dss rl:List (List Nat)}{dst:Option Tmp}{f:FuncId}{fn:Func}{fr:Nat×Nat}{gd:Option (Nat×Bool)}{hi' lo':Option bW}{high low:Option aC}{listed:Array Bool}{news us vs:List aC}{o:fW}{ol rest:List aX}{op:Op}{ops:Array aX}{p pa pv:List MemPlace}{pos:String}{ps:List (Nat×Nat)}{s:Bool}{ts:Array aQ}{u v:aC}{x y:bW}{zs:List Int}
section
open Go.RowKit
theorem K9 {u2 u1 u0 v1 v0 D:Nat}(h2:u2≤v1)(h1:u1≤18446744073709551615)(h0:u0≤18446744073709551615)(hv1:v1≤18446744073709551615)(hv0:v0≤18446744073709551615)(hpos:0<v1)(k1:D≤18446744073709551615)(k2:D*(v1*WB+v0)≤(u2*WB+u1)*WB+u0)(k3:D=18446744073709551615∨(u2*WB+u1)*WB+u0<(D+1)*(v1*WB+v0))(w:a6)(n:Nat):aU aG 131 #[a5 (u2:Int),a5 (u1:Int),a5 (u0:Int),a5 (v1:Int),a5 (v0:Int)] (w.drewN n) (fun e w''=>e= .returned (a5 (D:Int))∧∃m,w''=w.drewN m):=by
 refine Calls.quiet_of ((NC h2 h1 h0 hv1 hv0 hpos (w.drewN n)).mono ?_)
 rintro e w' ⟨d,rfl,a,b,c,m,rfl⟩
 rw [KB a b.out c.out k1 k2 k3]
 exact⟨rfl,m,rfl⟩
theorem AE (hl:K≤l.length)(hl1:K≤l1.length)(hw:Wf l1)(hd:l1.drop K=l.drop K)(h:nv l<WB^K):nv l1<WB^K:=by
 have j:=kC l K hl
 have e:=kC l1 K hl1
 have f:=iH hw K
 rw [hd] at e
 rcases gQ (nv (l.drop K)) with h0 | h0
 ·rw [h0,fR] at e;omega
 ·have:=Nat.le_mul_of_pos_right (WB^K) h0
  omega
theorem NB {B:Option a8}{N:Nat}(hx:Rd w A N cap xs)(hN:N≤274877906944)(hy:Rd w B n cap' ys)(hn:2≤n)(hnN:n≤N)(htop:ys.getD (n-1) 0≠0):aU aG 119 #[a9 A N cap,a9 B n cap'] w (P5 w (nv xs/nv ys) (nv xs%nv ys)):=by
 obtain⟨b,y,rfl,hyk,hyb,hcy⟩:=hy.get (i:=n-1) (by omega)
 have hlx:=bD hx.len
 have hly:=bD hy.len
 have hyp:(0:Int)<(n:Int):=by omega
 go_enter Tryz.func119,Tryz.ntmps119
 go_wp2_with fail
 refine (bits_LeadingZeros64 y hyb _).mono ?_
 rintro e w' ⟨s,hs,hs64',rfl,rfl⟩
 have hstart:=JD hx.wf hy.wf hlx.out hly.out (by omega) hnN hyk.out (by rw [←hyk.out];exact htop) hyb hs.out
 obtain⟨hs64,hVfit,hUfit,hVpos,hVlow,hUV⟩:=hstart
 have HVfit:=bD hVfit
 have HUfit:=bD hUfit
 have HVpos:=bD hVpos
 have HVlow:=bD hVlow
 have HUV:=bD hUV
 clear hVfit hUfit hVpos hVlow hUV htop
 go_wp2_with fail
 refine (CH hy (by omega) hs64 (by omega) (aZ _) HVfit.out).mono ?_
 rintro e w1 ⟨gv,vs,rfl,hgv,hbv,hwv,hlv,hvv,hx1⟩
 go_wp2_with fail
 refine (CH (n:=N+1) (hx.ext hx1) (by omega) hs64 (by omega) (by omega) HUfit.out).mono ?_
 rintro e w2 ⟨gu,us,rfl,hgu,hbu,hwu,hlu,hvu,hx2⟩
 obtain⟨M,hM1,hM2⟩:∃M,M+n≤N+1∧N+1≤M+n:=⟨N+1-n,by omega,by omega⟩
 have hmk:=m5 (P:=aG) Tryz.underlying44 kF E (by decide) ((N:Int)-(n:Int)+1) (by omega) (by omega)
 have et:((N:Int)-(n:Int)+1).toNat=M:=by omega
 rw [et] at hmk
 clear et
 go_wp2_with fail
 clear hmk
 have hbv2:=hbv.ext hx2
 have hguv:gv<gu:=cU hbv.lt hgu
 obtain⟨gq,hgq⟩:∃gq,w2.heap.size=gq:=⟨_,rfl⟩
 rw [hgq]
 have hguq:gu<gq:=by rw [←hgq];exact hbu.lt
 obtain⟨wa,hwa⟩:∃wa,w2.alloc (.cells (zc (.int .u64 0) M) 50)=wa:=⟨_,rfl⟩
 rw [hwa]
 have hbq:Bk wa gq 50 ((cB M 0).map bG):=by
  rw [←hwa,←hgq,←m7];exact Bk.new' _ _ _
 have hea:Ext w2 wa:=by rw [←hwa];exact (Ext.refl w2).alloc _
 have hgw:w.heap.size≤gv:=hgv
 have hgw2:w.heap.size≤gu:=by omega
 have hgw3:w.heap.size≤gq:=by omega
 have hbva:=hbv2.ext hea
 have hbua:=hbu.ext hea
 have hexa:Ext w wa:=(hx1.trans hx2).trans hea
 clear hgq hwa hbv hbu hbv2 hea hcy
 have hL0:Hid (Lg (nv ys*2^s) (nv xs*2^s) M us (cB M 0)):=by
  refine⟨?_,?_⟩
  ·rw [List.drop_of_length_le (by rw [List.length_replicate];exact aZ _),hvu.out];simp [nv]
  ·rw [hvu.out,show M=N+1-n from by omega];exact HUV.out
 have hv1:Hid (0<vs.getD (n-1) 0):=by
  refine Nat.pos_of_ne_zero (fun h0=>?_)
  have e1:=nG vs (n-1) (by rw [hlv.out];omega) h0
  rw [iP (by omega),List.take_of_length_le (by rw [hlv.out];exact aZ _),hvv.out] at e1
  have e2:=iH hwv (n-1)
  have:=HVlow.out
  omega
 go_loopw [11] (fun u wr=>∃(k:Nat) (l ql:List Nat),k≤M∧u= a4 ((k:Int)-1)∧Hid (l.length=N+1)∧Wf l∧Hid (ql.length=M)∧Wf ql∧Bk wr gv 50 (vs.map bG)∧Bk wr gu 50 (l.map bG)∧Bk wr gq 50 (ql.map bG)∧
  Hid (Lg (nv ys*2^s) (nv xs*2^s) k l ql)∧Ext w wr) (fun u wr=>(intOf u+1).toNat)
 case atStart=>exact⟨M,us,_,aZ _,fC,hlu,hwu,List.length_replicate,lL _,hbva,hbua,hbq,hL0,hexa⟩
 case round=>
  obtain⟨k,l,ql,hk,rfl,hll,hwl,hlq,hwq,hbv,hbu,hbq',hL,hr⟩:=hrel
  clear hbva hbua hbq hexa hL0 hlu hvu
  by_cases hk0:0<k
  ·obtain⟨j,rfl⟩:∃j,k=j+1:=⟨k-1,by omega⟩
   have ek:((j+1:Nat):Int)-1=(j:Int):=by omega
   rw [ek]
   obtain⟨u2,hu2k,hu2b,hcu2⟩:=hbu.word hwl (i:=j+n) (by rw [hll.out];omega)
   obtain⟨u1,hu1k,hu1b,hcu1⟩:=hbu.word hwl (i:=j+n-1) (by rw [hll.out];omega)
   obtain⟨u0,hu0k,hu0b,hcu0⟩:=hbu.word hwl (i:=j+n-2) (by rw [hll.out];omega)
   obtain⟨v1,hv1k,hv1b,hcv1⟩:=hbv.word hwv (i:=n-1) (by rw [hlv.out];omega)
   obtain⟨v0,hv0k,hv0b,hcv0⟩:=hbv.word hwv (i:=n-2) (by rw [hlv.out];omega)
   have hgs:=fun d=>JE (d:=d) hL.out hn (by rw [hll.out];omega) hwl hlv.out hwv hvv.out hv1.out
   rw [hu2k.out,hu1k.out,hu0k.out,hv1k.out,hv0k.out] at hgs
   have hu2v:u2≤v1:=(hgs 0).2.1
   have hv1p:0<v1:=by rw [←hv1k.out];exact hv1.out
   have HGS:=bD hgs
   clear hgs
   have hfin:∀(q:Nat) (l2:List Nat) (wr2:a6),q=nv l/(WB^j*(nv ys*2^s))→nv l2=nv l%(WB^j*(nv ys*2^s))→q≤18446744073709551615→l2.length=N+1→Wf l2→Bk wr2 gv 50 (vs.map bG)→Bk wr2 gu 50 (l2.map bG)→Bk wr2 gq 50 ((ql.set j q).map bG)→Ext w wr2→
     ∃(k:Nat) (l ql:List Nat),k≤M∧bP .i64 ((j:Int)-1)= a4 ((k:Int)-1)∧Hid (l.length=N+1)∧Wf l∧Hid (ql.length=M)∧Wf ql∧Bk wr2 gv 50 (vs.map bG)∧Bk wr2 gu 50 (l.map bG)∧Bk wr2 gq 50 (ql.map bG)∧
      Hid (Lg (nv ys*2^s) (nv xs*2^s) k l ql)∧Ext w wr2:=by
    intro q l2 wr2 h1 h2 h3 h4 h5 h6 h7 h8 h9
    exact⟨j,l2,ql.set j q,by omega,rfl,h4,h5,(show _=_ by rw [List.length_set];exact hlq.out),fI hwq j (by rw [cH];omega),h6,h7,h8,hL.out.step (by rw [hlq.out];omega) HVpos.out h1 h2,h9⟩
   have FIN:=bD hfin
   clear hfin
   go_upto_region 9 with (fail)
   obtain⟨d,hdb,hd1,hd2⟩:=KD ((u2*WB+u1)*WB+u0) (v1*WB+v0) (by rw [cH];omega)
   have hdd:=bD ((HGS.out d).2.2 hdb hd1 hd2)
   have HLT:=bD (HGS.out d).1
   have HD1:=bD hd1
   have HD2:=bD hd2
   clear hd1 hd2 HGS
   have w1e:IntKind.i64.wrap ((j:Int)+(n:Int))=(j:Int)+(n:Int):=IntWalk.i64_in _ (by omega)
   have w2e:IntKind.i64.wrap ((j:Int)+(n:Int)-1)=(j:Int)+(n:Int)-1:=IntWalk.i64_in _ (by omega)
   have w3e:IntKind.i64.wrap ((j:Int)+(n:Int)-2)=(j:Int)+(n:Int)-2:=IntWalk.i64_in _ (by omega)
   have w4e:IntKind.i64.wrap ((n:Int)-1)=(n:Int)-1:=IntWalk.i64_in _ (by omega)
   have w5e:IntKind.i64.wrap ((n:Int)-2)=(n:Int)-2:=IntWalk.i64_in _ (by omega)
   have t1:((j:Int)+(n:Int)).toNat=j+n:=by omega
   have t2:((j:Int)+(n:Int)-1).toNat=j+n-1:=by omega
   have t3:((j:Int)+(n:Int)-2).toNat=j+n-2:=by omega
   have t4:((n:Int)-1).toNat=n-1:=by omega
   have t5:((n:Int)-2).toNat=n-2:=by omega
   have b1:0≤(j:Int)+(n:Int):=by omega
   have b2:0≤(j:Int)+(n:Int)-1:=by omega
   have b3:0≤(j:Int)+(n:Int)-2:=by omega
   have b4:0≤(n:Int)-1:=by omega
   have b5:0≤(n:Int)-2:=by omega
   have c1:(j:Int)+(n:Int)<(N:Int)+1:=by omega
   have c2:(j:Int)+(n:Int)-1<(N:Int)+1:=by omega
   have c3:(j:Int)+(n:Int)-2<(N:Int)+1:=by omega
   have c4:(n:Int)-1<(n:Int):=by omega
   have c5:(n:Int)-2<(n:Int):=by omega
   go_quiet (exact K9 hu2v hu1b hu0b hv1b hv0b hv1p hdb HD1.out HD2.out _ _)
   clear w1e w2e w3e w4e w5e t1 t2 t3 t4 t5 b1 b2 b3 b4 b5 c1 c2 c3 c4 c5
   obtain⟨wd,hwd⟩:∃wd,wr.drewN nq=wd:=⟨_,rfl⟩
   rw [hwd]
   have hbu1:Bk wd gu 50 (l.map bG):=by rw [←hwd];exact hbu.drewN nq
   have hbv1:Bk wd gv 50 (vs.map bG):=by rw [←hwd];exact hbv.drewN nq
   have hbq1:Bk wd gq 50 (ql.map bG):=by rw [←hwd];exact hbq'.drewN nq
   have hr1:Ext w wd:=by rw [←hwd];exact hr.drewN nq
   clear hwd hcu2 hcu1 hcu0 hcv1 hcv0
   have hvrd:=hbv1.rd hwv (o:=0) (n:=n) (cap:=n) (aZ _) (by rw [hlv.out];omega) (by rw [eX];omega)
   rw [iR,List.take_of_length_le (by rw [hlv.out];exact aZ _)] at hvrd
   go_wp2_with fail
   rw [show j+n+1-j=n+1 from by omega]
   refine (N4 (o:=j) (m:=n) hbu1 hwl hvrd (fun a ha=>by cases ha;show gv≠gu;omega) (by rw [hll.out];omega) (by omega) (by omega) hdb).mono ?_
   rintro e w4 ⟨bb,rfl,l1,c,hb4,hw4,hll4,hdr4,hc4,hP4,hu4⟩
   have hll4':Hid (l1.length=N+1):=(show _=_ by rw [hll4.out,hll.out])
   have hL1:Hid (nv l1<WB^(j+n+1)):=AE (by rw [hll.out];omega) (by rw [hll4'.out];omega) hw4 hdr4.out HLT.out
   have hcase:=JG (D:=WB^j*(nv ys*2^s)) (Nat.mul_pos (eT eN) HVpos.out) hdd.out.1 hdd.out.2 HLT.out hL1.out (by
    have h:=hP4.out.2
    rw [hvv.out,Nat.mul_left_comm] at h
    exact h) hc4
   have hbc:=hP4.out.1
   have hbv4:=hbv1.upd hu4 (by omega)
   have hbq4:=hbq1.upd hu4 (by omega)
   have hr4:=hu4.ext hr1 hgw2
   have hbb:bb=false∧c=0∨bb=true∧c=1:=by
    rcases bb with _ | _
    ·left;refine⟨rfl,?_⟩;simp at hbc;omega
    ·right;exact⟨rfl,hbc.1 rfl⟩
   clear hP4 hbc hc4 hbv hbu hbq' hbu1 hbv1 hbq1 hr hr1 hvrd
   rcases hbb with⟨rfl,hc⟩ | ⟨rfl,hc⟩
   ·have h0:=bD (hcase.1 hc)
    clear hcase hc
    obtain⟨z,hz,_,hcz⟩:=hbq4.word hwq (i:=j) (by rw [hlq.out];omega)
    have hfz:=hbq4.frozen j
    have hjM:(j:Int)<(M:Int):=by omega
    go_wp2_with fail
    go_roundw
    case rel=>exact FIN.out d l1 _ h0.out.1 h0.out.2 hdb hll4'.out hw4 (hbv4.far (by show gv≠gq;omega) _) (hb4.far (by show gu≠gq;omega) _) (by rw [←eS];exact hbq4.set _ _) (hr4.setCell hgw3 _)
    case measure=>simp [intOf]
   ·have h0:=bD (hcase.2 hc)
    clear hcase hc
    obtain⟨q,rfl⟩:∃q,d=q+1:=⟨_,h0.out.1⟩
    have hq:Hid (q=nv l/(WB^j*(nv ys*2^s))):=(show _=_ from Nat.succ.inj h0.out.1)
    have hvrd:=hbv4.rd hwv (o:=0) (n:=n) (cap:=n) (aZ _) (by rw [hlv.out];omega) (by rw [eX];omega)
    rw [iR,List.take_of_length_le (by rw [hlv.out];exact aZ _)] at hvrd
    go_wp2_with fail
    rw [show j+n+1-j=n+1 from by omega]
    refine (ND (o:=j) (m:=n) hb4 hw4 hvrd (fun a ha=>by cases ha;show gv≠gu;omega) (by rw [hll4'.out];omega) (by omega) (by omega)).mono ?_
    rintro e w5 ⟨rfl,l2,c2,hb5,hw5,hll5,hdr5,hc5,hP5,hu5⟩
    have hll5':Hid (l2.length=N+1):=(show _=_ by rw [hll5.out,hll4'.out])
    have hL2:Hid (nv l2<WB^(j+n+1)):=AE (by rw [hll4'.out];omega) (by rw [hll5'.out];omega) hw5 hdr5.out hL1.out
    have hfin2:Hid (nv l2=nv l%(WB^j*(nv ys*2^s))):=h0.out.2 (nv l2) c2 hc5 hL2.out (by have h:=hP5.out;rw [hvv.out] at h;exact h)
    have hbv5:=hbv4.upd hu5 (by omega)
    have hbq5:=hbq4.upd hu5 (by omega)
    have hr5:=hu5.ext hr4 hgw2
    clear hP5 hc5 hbv4 hbq4 hr4 hb4 hvrd h0
    obtain⟨z,hz,_,hcz⟩:=hbq5.word hwq (i:=j) (by rw [hlq.out];omega)
    have hfz:=hbq5.frozen j
    have hjM:(j:Int)<(M:Int):=by omega
    go_wp2_with fail
    go_roundw
    case rel=>exact FIN.out q l2 _ hq.out hfin2.out (by omega) hll5'.out hw5 (hbv5.far (by show gv≠gq;omega) _) (hb5.far (by show gu≠gq;omega) _) (by rw [←eS];exact hbq5.set _ _) (hr5.setCell hgw3 _)
    case measure=>simp [intOf]
  ·obtain rfl:k=0:=by omega
   have ek:((0:Nat):Int)-1= -1:=rfl
   rw [ek]
   have hLv:Hid (nv l<nv ys*2^s):=by
    have:=hL.out.lt
    rw [Nat.pow_zero,eI] at this
    exact this
   have hQ:=JF (X:=nv xs) (Y:=nv ys) (s:=s) (Q:=nv ql) (L:=nv l) (Nat.pos_of_mul_pos_right HVpos.out) (by have:=hL.out.eq;simpa using this) hLv.out
   have hln:Hid (nv (l.take n)=nv l):=by
    show _=_
    have e1:=kC l n (by rw [hll.out];omega)
    rcases gQ (nv (l.drop n)) with h0 | h0
    ·rw [h0,fR,dF] at e1;exact e1.symm
    ·have:=Nat.le_mul_of_pos_right (WB^n) h0
     have h2:=hLv.out
     have h3:=HVfit.out
     omega
   have HQ:=bD hQ
   clear hQ
   have hurd:=hbu.rd hwl (o:=0) (n:=n) (cap:=N+1) (by omega) (by rw [hll.out];omega) (by rw [eX];omega)
   rw [iR] at hurd
   go_wp2_with fail
   refine (J1 hurd (by omega) (by omega)).mono ?_
   rintro e w6 ⟨A6,n6,c6,rfl,hn6,hr6,ho6,hx6⟩
   rw [hln.out,HQ.out.2] at hn6 hr6 ho6
   have hqrd:=(hbq'.ext hx6).rd hwq (o:=0) (n:=M) (cap:=M) (aZ _) (by rw [hlq.out];omega) (by rw [eX];omega)
   rw [iR,List.take_of_length_le (by rw [hlq.out];exact aZ _)] at hqrd
   go_wp2_with fail
   refine (j0 hqrd).mono ?_
   rintro e w7 ⟨A7,n7,c7,rfl,hn7,hr7,ho7,hx7⟩
   rw [HQ.out.1] at hn7 hr7 ho7
   go_wp2_with fail
   go_ret2
   exact⟨A7,n7,c7,A6,n6,c6,rfl,hn7,hr7,ho7.mono (hr.trans hx6).size,hn6,hr6.ext hx7,(ho6.mono hr.size).ext hx7,(hr.trans hx6).trans hx7,fun p p' hp hp'=>by have h1:=ho7.block p hp;have h2:=ho6.block p' hp';omega⟩
def DN (w:a6)(q r:Nat)(er:Int)(e:dL)(w':a6):Prop:=
 ∃A n cap B m cap',e= .returned (.tuple #[a9 A n cap,a9 B m cap',a4 er])∧Hid (n=(wd q).length)∧Rd w' A n cap (wd q)∧Own w' w.heap.size 50 1 A n cap ((wd q).map bG)∧
  Hid (m=(wd r).length)∧Rd w' B m cap' (wd r)∧Own w' w.heap.size 50 1 B m cap' ((wd r).map bG)∧Ext w w'
def RetQREA (w:a6)(q r:Nat)(er:Int)(e:dL)(w':a6):Prop:=
 ∃A n cap B m cap',e= .returned (.tuple #[a9 A n cap,a9 B m cap',a4 er])∧Hid (n=(wd q).length)∧Rd w' A n cap (wd q)∧Own w' w.heap.size 50 1 A n cap ((wd q).map bG)∧
  Hid (m=(wd r).length)∧Rd w' B m cap' (wd r)∧Own w' w.heap.size 50 1 B m cap' ((wd r).map bG)∧Ext w w'∧∀p p',A=some p→B=some p'→p.block≠p'.block
theorem RetQREA.old {e:dL}(h:RetQREA w q r er e w'):DN w q r er e w':=by
 obtain⟨A,n,cap,B,m,cap',h1,h2,p,o,D,f,F,j,_⟩:=h
 exact⟨A,n,cap,B,m,cap',h1,h2,p,o,D,f,F,j⟩
theorem EN (h:m≠0):(wd m).getD ((wd m).length-1) 0≠0:=by
 intro h0
 have hl:0<(wd m).length:=Nat.pos_of_ne_zero (fun e=>h (kE.1 e))
 have f:=nG (wd m) ((wd m).length-1) (by omega) h0
 rw [iP (by omega),List.take_of_length_le (aZ _),dS] at f
 have h2:=iH (mE m) ((wd m).length-1)
 have j:=yW h
 omega
theorem EP {v:Nat}(h:1=(wd m).length)(hv:(wd m).getD 0 0=v):m=v:=by
 have e:=dW (wd m) 0 (by omega)
 rw [List.take_of_length_le (by omega),dS,hv] at e
 simpa [nv] using e
theorem NE {B:Option a8}(hx:Rd w A n cap xs)(hl:n≤274877906944)(hy:Rd w B n' cap' ys)(hl':n'≤274877906944)(h0:nv ys≠0):aU aG 108 #[a9 A n cap,a9 B n' cap'] w (RetQREA w (nv xs/nv ys) (nv xs%nv ys) 0):=by
 go_enter Tryz.func108,Tryz.ntmps108
 go_wp2_with fail
 refine (j0 hy).mono ?_
 rintro e w1 ⟨A1,n1,c1,rfl,hn1,hr1,ho1,hx1⟩
 have hn1p:0<n1:=by
  rw [hn1.out];exact Nat.pos_of_ne_zero (fun e=>h0 (kE.1 e))
 have hn1b:n1≤n':=by
  have:=f7 hy.wf
  rw [hn1.out,←hy.len];exact this
 have b0:((n1:Int)==0)=false:=by simp;omega
 by_cases h1:n1=1
 ·subst h1
  obtain⟨a,v,rfl,hvk,hvb,hcv⟩:=hr1.get (i:=0) (by omega)
  have hv:Hid (nv ys=v):=EP hn1.out hvk.out
  have hcv0:w1.cell? a=some (a5 (v:Int)):=by simpa [iS] using hcv
  go_wp2_with fail
  refine (CI (hx.ext hx1) (by omega) (v:=v) (by rw [←hv.out];exact h0) hvb).mono ?_
  rintro e w2 ⟨A2,n2,c2,r,rfl,hr,hrb,hn2,hr2,ho2,hx2⟩
  go_wp2_with fail
  have hone:=Rd.one w2 hrb
  refine (j0 hone).mono ?_
  rintro e w3 ⟨A3,n3,c3,rfl,hn3,hr3,ho3,hx3⟩
  rw [oV,hr.out,←hv.out] at hn3 hr3 ho3
  rw [←hv.out] at hn2 hr2 ho2
  have hal:Ext w2 w3:=((Ext.refl w2).alloc _).trans hx3
  go_wp2_with fail
  go_ret3
  exact⟨A2,n2,c2,A3,n3,c3,rfl,hn2,hr2.ext hal,(ho2.mono hx1.size).ext hal,hn3,hr3,ho3.mono (aN (hx1.trans hx2).size (by simp)),(hx1.trans hx2).trans hal,fun p p' hp hp'=>by have h1:=ho2.block p hp;have h2:=ho3.block p' hp';simp only [World.alloc,Array.size_push] at h2;omega⟩
 ·have b1:((n1:Int)==1)=false:=by simp;omega
  go_wp2_with fail
  refine (j0 (hx.ext hx1)).mono ?_
  rintro e w2 ⟨A2,n2,c2,rfl,hn2,hr2,ho2,hx2⟩
  have hn2b:n2≤n:=by
   have:=f7 hx.wf
   rw [hn2.out,←hx.len];exact this
  go_wp2_with fail
  refine (zO hr2 (by omega) (hr1.ext hx2) (by omega)).mono ?_
  rintro e w3 ⟨c,hc,hcl,hch,rfl,hx3⟩
  rw [dS,dS] at hc
  by_cases hlt:nv xs<nv ys
  ·have hneg:c<0:=by rw [hc.out];exact rT.2 hlt
   go_wp2_with fail
   go_ret3
   rw [Nat.div_eq_of_lt hlt,eZ hlt]
   exact⟨none,0,0,A2,n2,c2,rfl,rfl,Rd.nil _,Own.nil _ _ _ _,hn2,hr2.ext hx3,(ho2.mono hx1.size).ext hx3,(hx1.trans hx2).trans hx3,fun p p' hp=>by cases hp⟩
  ·have hneg:¬c<0:=by rw [hc.out,rT];exact hlt
   have HL:=bD hlt
   have hn12:n1≤n2:=by rw [hn1.out,hn2.out];exact lB (by omega)
   clear hlt
   go_wp2_with fail
   refine (NB (hr2.ext hx3) (by omega) ((hr1.ext hx2).ext hx3) (by omega) hn12 (by rw [hn1.out];exact EN h0)).mono ?_
   rintro e w4 ⟨A4,n4,c4,A5,n5,c5,rfl,hn4,hr4,ho4,hn5,hr5,ho5,hx4,hap⟩
   rw [dS,dS] at hn4 hr4 ho4 hn5 hr5 ho5
   go_wp2_with fail
   go_ret3
   have hs:=((hx1.trans hx2).trans hx3)
   exact⟨A4,n4,c4,A5,n5,c5,rfl,hn4,hr4,ho4.mono hs.size,hn5,hr5,ho5.mono hs.size,hs.trans hx4,hap⟩
theorem NF {B:Option a8}(hx:Rd w A n cap xs)(hl:n≤274877906944)(hy:Rd w B n' cap' ys)(hl':n'≤274877906944)(h0:nv ys≠0):aU aG 108 #[a9 A n cap,a9 B n' cap'] w (DN w (nv xs/nv ys) (nv xs%nv ys) 0):=(NE hx hl hy hl' h0).mono fun _ _ h=>h.old
def sg (s:Bool)(m:Nat):Int:=if s then-(m:Int) else m
theorem oL (m:Nat):sg false m=m:=rfl
theorem qS (m:Nat):sg true m= -(m:Int):=rfl
theorem tO (s:Bool)(m:Nat):(sg s m).natAbs=m:=by cases s <;> simp [sg]
theorem G9 (z:Int):sg (decide (z<0)) z.natAbs=z:=by
 by_cases h:z<0
 ·rw [decide_eq_true h,qS];omega
 ·rw [decide_eq_false h,oL];omega
theorem G8 (s:Bool):sg s 0=0:=by cases s <;> rfl
theorem y9 (s:Bool)(m:Nat):decide (sg s m<0)=(s&&decide (0<m)):=by
 cases s
 ·simp [sg]
 ·by_cases h:0<m
  ·simp [sg,h]
  ·have:m=0:=by omega
   subst this
   simp [sg]
def ln (z:Int):Nat:=(wd z.natAbs).length
theorem AH (x:Int):ln (-x)=ln x:=by unfold ln;rw [Int.natAbs_neg]
theorem rF (m:Nat):ln (m:Int)=(wd m).length:=by unfold ln;rw [Int.natAbs_natCast]
def Zi (w:a6)(s:Bool)(A:Option a8)(n cap:Nat)(z:Int):Prop:=∃xs,Rd w A n cap xs∧sg s (nv xs)=z
theorem Zi.ext (h:Zi w s A n cap z)(e:Ext w w'):Zi w' s A n cap z:=by
 obtain⟨xs,h1,h2⟩:=h
 exact⟨xs,h1.ext e,h2⟩
theorem Zi.ln (h:Zi w s A n cap z):Go.Proofs.YtnpbbknemflpnaaGreatDoor.ln z≤n:=by
 obtain⟨xs,h1,rfl⟩:=h
 have:=f7 h1.wf
 rw [h1.len] at this
 unfold Go.Proofs.YtnpbbknemflpnaaGreatDoor.ln
 rw [tO]
 exact this
structure Zr (w:a6)(base:Nat)(s:Bool)(A:Option a8)(n cap:Nat)(z:Int):Prop where
 sgn:s=decide (z<0)
 len:n=ln z
 own:Own w base 50 1 A n cap ((wd z.natAbs).map bG)
theorem Zr.rd (h:Zr w base s A n cap z):Rd w A n cap (wd z.natAbs):=h.own.rd (mE _)
theorem Zr.ext (h:Zr w base s A n cap z)(e:Ext w w'):Zr w' base s A n cap z:=⟨h.sgn,h.len,h.own.ext e⟩
theorem Zr.mono {base':Nat}(h:Zr w base s A n cap z)(e:base'≤base):Zr w base' s A n cap z:=⟨h.sgn,h.len,h.own.mono e⟩
theorem Zr.zi (h:Zr w base s A n cap z):Zi w s A n cap z:=⟨_,h.rd,by rw [dS,h.sgn,G9]⟩
theorem Zr.upd (h:Zr w base s A n cap z)(hg:g<base)(e:Upd g w w'):Zr w' base s A n cap z:=
 ⟨h.sgn,h.len,h.own.upd e (fun a f=>by have:=(h.own.block a f).1;omega)⟩
theorem Zr.cast {z':Int}(h:Zr w base s A n cap z)(e:z=z'):Zr w base s A n cap z':=e▸h
theorem Zr.le (h:Zr w base s A n cap z)(hb:ln z≤b):n≤b:=by rw [h.len];exact hb
theorem Zr.ln_le (h:Zr w base s A n cap z)(hb:n≤b):ln z≤b:=by rw [←h.len];exact hb
theorem Zr.zero:Zr w base false none 0 0 0:=⟨by decide,rfl,Own.nil _ _ _ _⟩
def nV (w:a6)(z:Int)(e:dL)(w':a6):Prop:=
 ∃s A n cap,e= .returned (G s A n cap)∧Zr w' w.heap.size s A n cap z∧Ext w w'
theorem pN {s':Bool}(h:s'=decide (sg s m<0))(hn:n=(wd m).length)(ho:Own w base 50 1 A n cap ((wd m).map bG))(hz:sg s m=z):Zr w base s' A n cap z:=by
 have e:z.natAbs=m:=by rw [←hz,tO]
 rw [hz] at h
 exact⟨h,by unfold ln;rw [e];exact hn,by rw [e];exact ho⟩
theorem Bk.two {a b:aC}(h:Bk w g t [a,b]):w.cell? ⟨g,0,none⟩=some a∧w.cell? ⟨g,1,none⟩=some b∧w.frozen? ⟨g,0,none⟩=false∧w.frozen? ⟨g,1,none⟩=false:=
 ⟨h.cell (i:=0) (by simp),h.cell (i:=1) (by simp),h.frozen 0,h.frozen 1⟩
theorem Bk.two_set {a b:aC}(h:Bk w g t [a,b])(u v:aC):Bk ((w.setCell ⟨g,0,none⟩ u).setCell ⟨g,1,none⟩ v) g t [u,v]:=(h.set 0 u).set 1 v
theorem Upd.two (u v:aC):Upd g w ((w.setCell ⟨g,0,none⟩ u).setCell ⟨g,1,none⟩ v):=((Upd.refl g w).setCell 0 u).setCell 1 v
theorem Bk.sec {l:Array aC}{a b:aC}:Bk ((w.alloc (.cells l t')).alloc (.cells #[a,b] t)) (w.heap.size+1) t [a,b]:=by
 have:=Bk.new (w.alloc (.cells l t')) t [a,b]
 simpa using this
theorem OP (w:a6)(t t':aQ)(a b c d:aC):∃g g2 wa,w.heap.size+1=g2∧w.heap.size=g∧(w.alloc (.cells #[a,b] t)).alloc (.cells #[c,d] t')=wa∧Bk wa g t [a,b]∧Bk wa g2 t' [c,d]∧Ext w wa∧g<g2∧g2<wa.heap.size∧g≠g2∧g2≠g:=
 ⟨_,_,_,rfl,rfl,rfl,(Bk.new w t [a,b]).alloc _,Bk.sec,((Ext.refl w).alloc _).alloc _,by omega,by simp,by omega,by omega⟩
theorem uZ {w2:a6}{x y:aC}(_hb:Bk w2 g T [x,y])(hz:Zr w2 base s A n cap z)(hg:g<base)(he:Ext w w2)(hw:w.heap.size≤g:=by omega):nV w z (.returned (G s A n cap)) ((w2.setCell ⟨g,0,none⟩ (.bool s)).setCell ⟨g,1,none⟩ (a9 A n cap)):=
 ⟨s,A,n,cap,rfl,(hz.upd hg (Upd.two _ _)).mono (by omega),(Upd.two _ _).ext he hw⟩
theorem u4 {a b:aC}{s:Tmp}(hf:fn.results= #[.cell s 46])(hs:tmps.getD s undef= a1 g 0)(h:Bk w g t [a,b]):(results fn tmps).run aG w= .ok (.agg #[a,b]) w:=by
 obtain⟨h1,h2,_,_⟩:=h.two
 have hs2:tmps[s]?.getD undef= a1 g 0:=by simpa using hs
 simp [results,hf,hs2,loadVar,loadCells,loadCellsFrom,go_sem,h1,h2]
def kB (x y:Int):Int:=if x<y then-1 else if x=y then 0 else 1
theorem yA {x y:Int}:kB x y<0↔x<y:=by unfold kB;split <;> (try split) <;> omega
def DK (v:Int)(w:a6)(e:dL)(w':a6):Prop:=∃c:Int,Hid (c=v)∧ -1≤c∧c≤1∧e= .returned (a4 c)∧Ext w w'
theorem sV (hn:n=(wd m).length):aU aG 46 #[.bool s,a9 A n cap] w fun e w'=>∃s',e= .returned (G s' A n cap)∧Hid (s'=decide (sg s m<0))∧Ext w w':=by
 have hm:decide (0<m)=decide (0<n):=by
  by_cases h:m=0
  ·rw [h] at hn⊢;rw [hn];rfl
  ·have:n≠0:=fun e=>h (kE.1 (by rw [←hn,e]))
   rw [decide_eq_true (show 0<m by omega),decide_eq_true (show 0<n by omega)]
 have HM:Hid (decide (sg s m<0)=(s&&decide (0<n))):=(show _=_ by rw [y9,hm])
 clear hm hn
 go_enter Tryz.func46,Tryz.ntmps46
 cases s
 ·go_wp2_with fail
  refine lM (v:= G false A n cap) (by simp [results,Tryz.results46,go_sem]) E ?_
  exact⟨_,rfl,(show _=_ by rw [HM.out];rfl),(Ext.refl w).alloc _⟩
 ·by_cases h:n=0
  ·subst h
   go_wp2_with fail
   refine lM (v:= G false A 0 cap) (by simp [results,Tryz.results46,go_sem]) E ?_
   exact⟨_,rfl,(show _=_ by rw [HM.out];rfl),(Ext.refl w).alloc _⟩
  ·have h0:0<n:=by omega
   have hd:decide (0<n)=true:=decide_eq_true h0
   have hi:0<(n:Int):=by omega
   go_wp2_with fail
   refine lM (v:= G true A n cap) (by simp [results,Tryz.results46,go_sem]) E ?_
   exact⟨_,rfl,(show _=_ by rw [HM.out,hd];rfl),(Ext.refl w).alloc _⟩
theorem E6 {x:Int}(hx:Zi w s A n cap x)(hl:n≤68719476736):aU aG 25 #[G s A n cap] w (nV w (x)):=by
 obtain⟨xs,hr,rfl⟩:=hx
 go_enter Tryz.func25,Tryz.ntmps25
 go_upto_region 1 with (fail)
 obtain⟨g,g2,wa,hg2,hg,hwa,hb1,hb2,hea,l12,l2,n12,n21⟩:=OP w 46 46 (.bool s) (a9 A n cap) (ik) (a9 none 0 0)
 rw [hg2,hg,hwa]
 have hgw:w.heap.size≤g:=Nat.le_of_eq hg
 clear hwa hg hg2
 obtain⟨f1,f2,f3,f4⟩:=hb1.two
 obtain⟨k1,k2,k3,k4⟩:=hb2.two
 go_region_held3 (fun w'=>w'.cell? ⟨g,0,none⟩=some (.bool s)∧w'.cell? ⟨g,1,none⟩=some (a9 A n cap)) (go_keep)
  (first
  | (go_at_call 47;refine (j0 (hr.ext (by repeat (first | exact Ext.refl _ | assumption | apply Ext.drewN | apply Ext.drew | apply Ext.alloc)))).mono ?_;rintro e w1 ⟨A1,n1,c1,rfl,hn1,hr1,ho1,hx1⟩;have he1:Ext wa w1:=Ext.trans (by repeat (first | exact Ext.refl _ | assumption | apply Ext.drewN | apply Ext.drew | apply Ext.alloc)) hx1;have hc1:=hb1.ext he1;have hc2:=hb2.ext he1;obtain⟨f1',f2',f3',f4'⟩:=hc1.two;obtain⟨k1',k2',k3',k4'⟩:=hc2.two)
  | (go_at_call 46;refine (sV hn1.out).mono ?_;rintro e w2 ⟨s',rfl,hs',hx2⟩;have hd1:=hc1.ext hx2;have hd2:=hc2.ext hx2;obtain⟨f1'',f2'',f3'',f4''⟩:=hd1.two;obtain⟨k1'',k2'',k3'',k4''⟩:=hd2.two))
 go_wp2_with fail
 refine lM (u4 E E (hd2.two_set _ _)) E ?_
 exact uZ hd2 ((pN hs'.out hn1.out ho1 E).ext hx2) (by first | omega | (simp;omega)) (hea.trans (he1.trans hx2))
theorem E2 {x:Int}(hx:Zi w s A n cap x)(hl:n≤68719476736):aU aG 33 #[G s A n cap] w (DK (kB x 0) w):=by
 obtain⟨xs,hr,rfl⟩:=hx
 go_enter Tryz.func33,Tryz.ntmps33
 go_upto_region 1 with (fail)
 have hb1:=Bk.new w 46 (J s A n cap)
 obtain⟨wa,hwa⟩:∃wa,w.alloc (.cells #[.bool s,.slice A n cap] 46)=wa:=⟨_,rfl⟩
 rw [hwa]
 obtain⟨g,hg⟩:∃g,w.heap.size=g:=⟨_,rfl⟩
 rw [hg] at hb1⊢
 have hb1':Bk wa g 46 (J s A n cap):=by rw [←hwa];exact hb1
 have hea:Ext w wa:=by rw [←hwa];exact (Ext.refl w).alloc _
 clear hwa hg hb1
 obtain⟨f1,f2,f3,f4⟩:=hb1'.two
 go_wp2_with fail
 refine (zP (hr.ext hea) (by omega)).mono ?_
 rintro e w1 ⟨b,hb,rfl,hx1'⟩
 have hx1:=hea.trans hx1'
 obtain⟨f1',f2',f3',f4'⟩:=(hb1'.ext hx1').two
 by_cases h0:b=0
 ·subst h0
  have hz:nv xs=0:=nR.1 hb.out.symm
  have HZ:=bD hz
  clear hz
  go_wp2_with fail
  go_ret
  exact⟨0,(show _=_ by rw [HZ.out,G8];rfl),by omega,by omega,rfl,hx1⟩
 ·have bb:((b:Int)==0)=false:=by simp;omega
  have hz:0<nv xs:=Nat.pos_of_ne_zero (fun e=>h0 (by rw [hb.out,e];rfl))
  have HZ:=bD hz
  clear hz h0
  cases s
  ·go_wp2_with fail
   go_ret
   refine⟨1,?_,by omega,by omega,rfl,hx1⟩
   show _=_
   rw [oL,kB,if_neg (by omega),if_neg (by have:=HZ.out;omega)]
  ·go_wp2_with fail
   go_ret
   refine⟨-1,?_,by omega,by omega,rfl,hx1⟩
   show _=_
   rw [qS,kB,if_pos (by have:=HZ.out;omega)]
theorem Own.updT {s:Nat}(h:Own w base t s A n cap vs)(hb:Bk w g T us)(hT:t≠T)(e:Upd g w w'):Own w' base t s A n cap vs:=by
 refine h.upd e (fun a f o=>?_)
 rcases h with⟨h,_⟩ | ⟨k,cs,p,_,j,_⟩
 ·rw [h] at f;cases f
 ·rw [p] at f
  cases f
  simp only at o
  subst o
  unfold Bk at j hb
  rw [j] at hb
  injection hb with hb
  injection hb with h1 h2
  exact hT h2
theorem Zr.updT (h:Zr w base s A n cap z)(hb:Bk w g T us)(e:Upd g w w')(hT:50≠T:=by decide):Zr w' base s A n cap z:=
 ⟨h.sgn,h.len,h.own.updT hb hT e⟩
theorem Bk.updN (h:Bk w g T vs)(e:Upd g' w w')(hne:g≠g'):Bk w' g T vs:=h.upd e hne
theorem Bk.vN (h:Bk w g T vs)(e:Upd g' w w')(hne : g≠g' := by omega):Bk w' g T vs := h.updN e hne
theorem GB {x y:Int}(h:x<y):c8 .lss (kB x y) 0=some true:=by
 have e:=yA.2 h
 simp only [c8,dR,decide_eq_true_eq];exact e
theorem GC {x y:Int}(h:y≤x):c8 .lss (kB x y) 0=some false:=by
 have e:¬kB x y<0:=fun e=>by have:=yA.1 e;omega
 simp only [c8,dR,decide_eq_false_iff_not];exact e
structure AggT (P:bT)(T:aQ)(k:Nat):Prop where
 agg:∀w,(isAgg T).run P w= .ok true w
 size:∀w,(sizeOf T).run P w= .ok k w
theorem tT {p:a8}(h:w.cell? p=some v):(load p).run P w= .ok v w:=by
 simp only [load,Sem.run,h]
theorem tR {p:a8}(h:w.cell? p=some u)(hf:w.frozen? p=false)(h1:v.oneCell'=true):(store p v).run P w= .ok () (w.setCell p v):=by
 rw [run_store P w p v .plain h1,h,hf];rfl
theorem qU {P:bT}{w:a6}{p:a8}:∀(vs:List aC) (i:Nat) (acc:Array aC),(∀j,j<vs.length→w.cell? (p.add (i+j))=some (vs.getD j undef))→
  (loadCellsFrom p i vs.length acc).run P w= .ok (acc++vs.toArray) w
 | [],i,acc,_=>by simp [loadCellsFrom]
 | v::vs,i,acc,h=>by
  have h0:=h 0 (by simp)
  simp only [dF,List.getD_cons_zero] at h0
  have ih:=qU (P:=P) (p:=p) vs (i+1) (acc.push v) (fun j f=>by
   have:=h (j+1) (by simpa using f)
   rw [show i+1+j=i+(j+1) by omega]
   simpa using this)
  show ((load (p.add i)>>=fun v=>loadCellsFrom p (i+1) vs.length (acc.push v):Sem (Array aC))).run P w=_
  have e:(load (p.add i)).run P w= .ok v w:=tT h0
  rw [bQ,e]
  simp only [dE,ih]
  simp
theorem gH (hT:AggT P T k)(hb:Bk w g T' vs)(us:List aC)(hu:us.length=k)(hle:off+k≤vs.length)(he:(vs.drop off).take k=us):(loadVar T ⟨g,off,none⟩).run P w= .ok (.agg us.toArray) w:=by
 subst hu
 have h1:=qU (P:=P) (w:=w) (p:=⟨g,off,none⟩) us 0 #[] (fun j e=>by
  rw [dY,g7,hb.cell (by omega)]
  congr 1
  rw [←he]
  simp only [bE,iC,lR]
  rw [if_pos e])
 unfold loadVar loadCells
 rw [bQ,hT.agg w]
 simp only [dE,if_true,bQ,hT.size w,h1]
 simp
theorem aS (hT:∀w,(isAgg T).run P w= .ok false w)(hb:Bk w g T' vs)(hv:vs[i]?=some v):(loadVar T ⟨g,i,none⟩).run P w= .ok v w:=by
 have hi:i<vs.length:=(eJ.1 hv).1
 have e:=hb.cell hi
 rw [bE,hv] at e
 unfold loadVar
 rw [bQ,hT w]
 simp only [dE,sU,if_false]
 exact tT e
def fY (vs:List aC)(off:Nat)(us:List aC):List aC:=vs.take off++us++vs.drop (off+us.length)
theorem tL {P:bT}{g:Nat}{T:aQ}:∀(us:List aC) (i off:Nat) (w:a6) (vs:List aC),Bk w g T vs→off+i+us.length≤vs.length→(∀u∈us,u.oneCell'=true)→
  ∃w',(storeCells ⟨g,off,none⟩ us i).run P w= .ok () w'∧Bk w' g T (fY vs (off+i) us)∧Upd g w w'∧w'.heap.size=w.heap.size
 | [],i,off,w,vs,hb,_,_=>⟨w,rfl,by simpa [fY] using hb,Upd.refl g w,rfl⟩
 | u::us,i,off,w,vs,hb,hle,h1=>by
  have hi:off+i<vs.length:=by simp at hle;omega
  have q:=hb.cell hi
  have hf:=hb.frozen (off+i)
  have h:=hb.set (off+i) u
  obtain⟨w',hr,f,o,p⟩:=tL (P:=P) us (i+1) off (w.setCell ⟨g,off+i,none⟩ u) (vs.set (off+i) u) h (by simp at hle⊢;omega) (fun x r=>h1 x (by simp [r]))
  refine⟨w',?_,?_,((Upd.refl g w).setCell (off+i) u).trans o,by rw [p];simp [pU]⟩
  ·show ((store ((⟨g,off,none⟩:a8).add i) u>>=fun _=>storeCells ⟨g,off,none⟩ us (i+1):Sem Unit)).run P w=_
   rw [g7,bQ,tR q hf (h1 u (by simp))]
   exact hr
  ·have e:fY (vs.set (off+i) u) (off+(i+1)) us=fY vs (off+i) (u::us):=by
    unfold fY
    have j:(vs.set (off+i) u).take (off+(i+1))=vs.take (off+i)++ [u]:=by
     rw [show off+(i+1)=off+i+1 by omega,xW _ _ (by simpa using hi) undef,List.take_set_of_le (aZ _)]
     congr 2
     rw [bE,List.getElem?_set_self hi];rfl
    rw [j,List.drop_set_of_lt (by omega)]
    simp only [cS,List.append_assoc,oC,List.nil_append]
    rw [show off+(i+1)+us.length=off+i+(us.length+1) by omega]
   rw [←e];exact f
theorem GY (hT:AggT P T k)(hk:us.length=k)(hb:Bk w g T' vs)(hle:off+k≤vs.length)(h1:us.all (·.oneCell')=true)(us':List aC)(he:fY vs off us=us'):∃w',(storeVar T ⟨g,off,none⟩ (.agg us.toArray)).run P w= .ok () w'∧Bk w' g T' us'∧Upd g w w'∧w'.heap.size=w.heap.size:=by
 subst hk
 obtain⟨w',hr,f,h,j⟩:=tL (P:=P) us 0 off w vs hb (by omega) (by simpa [dZ] using h1)
 rw [dF,he] at f
 refine⟨w',?_,f,h,j⟩
 unfold storeVar
 rw [bQ]
 show ((sizeOf T).run P w).andThen _=_
 rw [hT.size w]
 have e:(Value.agg us.toArray).cells=us.toArray:=rfl
 simp only [dE,e,sI,ne_eq,not_true,if_false]
 exact hr
theorem kX {Q:cQ→Act→a6→Prop}{l:Fr}(hw:cF ops l gd=some true)(hx:bK l x=some (a1 g off))(hy:bK l y=some (.agg us.toArray))(hT:AggT P T k)(hk:us.length=k)(hb:Bk w g T' vs)(hle:off+k≤vs.length)(h1:us.all (·.oneCell')=true)(us':List aC)(he:fY vs off us=us')(h:∀w',Bk w' g T' us'→Upd g w w'→w'.heap.size=w.heap.size→wl P ops Q n rest l w'):wl P ops Q n (⟨none,.store T x y,ty,pos,af,gd⟩::rest) l w:=by
 obtain⟨w',hr,e,f,j⟩:=GY (P:=P) hT hk hb hle h1 us' he
 exact x8 hw (p:=⟨g,off,none⟩) hx hy (w':=w') hr (h w' e f j)
theorem fO {Q:cQ→Act→a6→Prop}{l:Fr}(hw:cF ops l gd=some true)(hx:bK l x=some (a1 g off))(hy:bK l y=some v)(hT:∀w,(sizeOf T).run P w= .ok 1 w)(hv:v.cells= #[v])(hb:Bk w g T' vs)(hle:off<vs.length)(h1:v.oneCell'=true)(us':List aC)(he:vs.set off v=us')(h:∀w',Bk w' g T' us'→Upd g w w'→w'.heap.size=w.heap.size→wl P ops Q n rest l w'):wl P ops Q n (⟨none,.store T x y,ty,pos,af,gd⟩::rest) l w:=by
 have e:=hb.set off v
 rw [he] at e
 refine x8 hw (p:=⟨g,off,none⟩) hx hy (w':=w.setCell ⟨g,off,none⟩ v) ?_ (h _ e ((Upd.refl g w).setCell off v) (by simp [pU]))
 unfold storeVar
 rw [bQ]
 show ((sizeOf T).run P w).andThen _=_
 rw [hT w]
 simp only [dE,hv,sI,cS,List.length_nil,ne_eq,not_true,dY,if_false]
 show ((store ((⟨g,off,none⟩:a8).add 0) v>>=fun _=>storeCells ⟨g,off,none⟩ [] (0+1):Sem Unit)).run P w=_
 rw [g7,dF,bQ,tR (hb.cell hle) (hb.frozen off) h1]
 rfl
section
variable {P:bT}{Q:cQ→Act→a6→Prop}{n:Nat}{l:Fr}{w:a6}{ops:Array aX}{rest:List aX}{d:Nat}{ty:aQ}{pos:String}{af:Array eA}{gd:Option (Nat×Bool)}
theorem H6 {s:Nat}{a:a8}{k:fV}{i:Int}(hT:P.underlying t=some (.slice e))(hs:∀w,(sizeOf e).run P w= .ok s w)(h0:0≤i)(h1:i<m):(Instr.indexAt t (a9 (some a) m c) (.int k i)).run P w= .ok (.pointer (some (a.add (i.toNat*s)))) w:=by
 have f:(underlying t).run P w= .ok (.slice e) w:=gM hT w
 unfold Instr.indexAt
 simp only [asIntOf,bQ,eO,dE,f]
 rw [if_pos ⟨h0,h1⟩]
 simp only [bQ,hs w,dE,eO]
def zB (v:Option aC)(k:Nat)(dflt:Nat):Prop:=(v=none∧k=dflt)∨v=some (a4 (k:Int))
theorem oP {k:BoundsCode}(h:i≤cap):(Instr.sliceBound (a4 (i:Int)) cap k).run P w= .ok i w:=by
 unfold Instr.sliceBound
 simp only [asIntOf,bQ,eO,dE]
 rw [if_pos ⟨by omega,by omega⟩]
 rfl
theorem H1 {s lo:Nat}(hT:P.underlying t=some (.slice e))(hs:∀w,(sizeOf e).run P w= .ok s w)(h1:zB low lo 0)(h2:zB high hi m)(h3:lo≤hi)(h4:hi≤c):(Instr.sliceAt t (a9 A m c) low high none).run P w= .ok (a9 (if c=lo then A else A.map (·.add (lo*s))) (hi-lo) (c-lo)) w:=by
 have f:(underlying t).run P w= .ok (.slice e) w:=gM hT w
 have hb:(Instr.sliceBounds true m c low high none).run P w= .ok (lo,hi,c) w:=by
  unfold Instr.sliceBounds
  rcases h1 with⟨rfl,rfl⟩ | rfl <;> rcases h2 with⟨rfl,rfl⟩ | rfl
  ·simp only [bQ,eO,dE]
  ·simp only [bQ,eO,dE,oP h4,if_true]
  ·simp only [bQ,eO,dE,Option.isSome,oP h3]
  ·simp only [bQ,eO,dE,Option.isSome,oP h4,oP h3,if_true]
 unfold Instr.sliceAt
 simp only [bQ,f,dE]
 unfold Instr.slice
 simp only [bQ,f,dE,hb,hs w,eO]
theorem kA (hw:cF ops l gd=some true){s lo:Nat}(hx:bK l x=some (a9 A m c))(hT:P.underlying t=some (.slice e))(hs:∀w,(sizeOf e).run P w= .ok s w)(h1:match lo' with | none=>lo=0 | some y=>bK l y=some (a4 (lo:Int)))(h2:match hi' with | none=>hi=m | some y=>bK l y=some (a4 (hi:Int)))(h3:lo≤hi)(h4:hi≤c)(hv:Value.slice (if c=lo then A else A.map (·.add (lo*s))) (hi-lo) (c-lo)=v)(hn:d<n)(h:wl P ops Q n rest ((d,v)::l) w):wl P ops Q n (⟨some d,.slice t x lo' hi' none,ty,pos,af,gd⟩::rest) l w:=
 dU hw hn (fun a' f=>by
  have e:(Instr.sliceAt t (a'.eval x) (lo'.map a'.eval) (hi'.map a'.eval) (Option.map a'.eval none)).run P w= .ok v w:=by
   rw [f.ev hx,←hv]
   refine H1 hT hs ?_ ?_ h3 h4
   ·cases lo' with
    | none=>exact bY ⟨rfl,h1⟩
    | some y=>exact cA (by show some (a'.eval y)=_;rw [f.ev h1])
   ·cases hi' with
    | none=>exact bY ⟨rfl,h2⟩
    | some y=>exact cA (by show some (a'.eval y)=_;rw [f.ev h2])
  show ((Instr.sliceAt t (a'.eval x) (lo'.map a'.eval) (hi'.map a'.eval) (Option.map a'.eval none)>>=fun r=>pure (eP r):Sem eC)).run P w=_
  rw [bQ,e];rfl) h
theorem uN {p:a8}(hT:AggT P T k)(us:List aC)(hu:us.length=k)(hc:∀j,j<us.length→w.cell? (p.add j)=some (us.getD j undef)):(loadVar T p).run P w= .ok (.agg us.toArray) w:=by
 subst hu
 have h1:=qU (P:=P) (w:=w) (p:=p) us 0 #[] (fun j e=>by rw [dY];exact hc j e)
 unfold loadVar loadCells
 rw [bQ,hT.agg w]
 simp only [dE,if_true,bQ,hT.size w,h1]
 simp
theorem cO {p:a8}(hT:∀w,(isAgg T).run P w= .ok false w)(hc:w.cell? p=some v):(loadVar T p).run P w= .ok v w:=by
 unfold loadVar
 rw [bQ,hT w]
 simp only [dE,sU,if_false]
 exact tT hc
end
theorem OW (a:a8):a.add 0=a:=by simp [iS]
theorem BD {b:Int}(h:b≤a):c8 .geq a b=some true:=by simp only [c8,dR,decide_eq_true_eq];omega
theorem BE {b:Int}(h:a<b):c8 .geq a b=some false:=by simp only [c8,dR,decide_eq_false_iff_not];omega
theorem AB {b:Int}(h:a<b):c8 .lss a b=some true:=by simp only [c8,dR,decide_eq_true_eq];omega
theorem rD {b:Int}(h:b≤a):c8 .lss a b=some false:=by simp only [c8,dR,decide_eq_false_iff_not];omega
theorem KE {b:Int}(h:b<a):c8 .gtr a b=some true:=by simp only [c8,dR,decide_eq_true_eq];omega
theorem AZ {b:Int}(h:a≤b):c8 .gtr a b=some false:=by simp only [c8,dR,decide_eq_false_iff_not];omega
theorem AN {b:Int}(h:a≤b):c8 .leq a b=some true:=by simp only [c8,dR,decide_eq_true_eq];omega
theorem AO {b:Int}(h:b<a):c8 .leq a b=some false:=by simp only [c8,dR,decide_eq_false_iff_not];omega
theorem C5 {b:Int}(h:a=b):c8 .eql a b=some true:=by subst h;simp [c8]
theorem C6 {b:Int}(h:a≠b):c8 .eql a b=some false:=by simp only [c8,dR,beq_eq_false_iff_ne,ne_eq];exact h
theorem IV {b:Int}(h:a≠b):c8 .neq a b=some true:=by simp only [c8,dR,bne_iff_ne,ne_eq];exact h
theorem IW {b:Int}(h:a=b):c8 .neq a b=some false:=by subst h;simp [c8]
theorem vX {b c:Int}(h:a+b=c:=by omega)(h1: -9223372036854775808≤c:=by omega)(h2:c≤9223372036854775807:=by omega):dD .add .i64 a b=some c:=by
 simp only [dD,dR];rw [h];exact IntWalk.i64_in _ ⟨h1,h2⟩
theorem gL {b c:Int}(h:a-b=c)(h1: -9223372036854775808≤c:=by omega)(h2:c≤9223372036854775807:=by omega):dD .sub .i64 a b=some c:=by
 simp only [dD,dR];rw [h];exact IntWalk.i64_in _ ⟨h1,h2⟩
theorem D5 {b c:Int}(h:a*b=c)(h1: -9223372036854775808≤c)(h2:c≤9223372036854775807):dD .mul .i64 a b=some c:=by
 simp only [dD,dR];rw [h];exact IntWalk.i64_in _ ⟨h1,h2⟩
theorem OU {b c:Int}(hb:b≠0)(h:a.tdiv b=c)(h1: -9223372036854775808≤c)(h2:c≤9223372036854775807):dD .quo .i64 a b=some c:=by
 simp only [dD];rw [if_neg hb,h,dR];exact IntWalk.i64_in _ ⟨h1,h2⟩
theorem Rd.at (h:Rd w A n c xs)(hi:i<n):∃p,A.map (·.add (i*1))=some p∧w.cell? p=some (a5 ((xs.getD i 0:Nat):Int))∧xs.getD i 0≤18446744073709551615:=by
 obtain⟨a,x,rfl,e,hb,f⟩:=h.get hi
 refine⟨a.add i,by rw [eI];rfl,?_,by rw [e.out];exact hb⟩
 rw [e.out];exact f
section
variable {P:bT}{Q:cQ→Act→a6→Prop}{n:Nat}{l:Fr}{w:a6}{ops:Array aX}{rest:List aX}{d:Nat}{op:Op}{ty:aQ}{pos:String}{af:Array eA}{gd:Option (Nat×Bool)}
theorem yK {s:Nat}{k:fV}{i:Int}{p:a8}(hT:P.underlying t=some (.slice e))(hs:∀w,(sizeOf e).run P w= .ok s w)(hi:i=(j:Int))(hj:j<m)(hp:A.map (·.add (j*s))=some p):(Instr.indexAt t (a9 A m c) (.int k i)).run P w= .ok (.pointer (some p)) w:=by
 subst hi
 cases A with
 | none=>cases hp
 | some a=>
  have h:=H6 (P:=P) (w:=w) (t:=t) (e:=e) (s:=s) (m:=m) (c:=c) (a:=a) (k:=k) (i:=(j:Int)) hT hs (by omega) (by omega)
  rw [h]
  rw [gC]
  injection hp with hp
  rw [←hp]
theorem cG (hw:cF ops l gd=some true){s:Nat}{k:fV}{i:Int}(hx:bK l x=some (a9 A m c))(hy:bK l y=some (.int k i))(hT:P.underlying t=some (.slice e))(hs:∀w,(sizeOf e).run P w= .ok s w)(j:Nat)(hi:i=(j:Int))(p:a8)(hp:A.map (·.add (j*s))=some p)(h:wl P ops Q n rest ((d,.pointer (some p))::l) w)(hj:j<m:=by omega)(hn:d<n:=by decide):wl P ops Q n (⟨some d,.indexAddr t x y,ty,pos,af,gd⟩::rest) l w:=
 dU hw hn (fun a' f=>by
  have e:(Instr.indexAt t (a'.eval x) (a'.eval y)).run P w= .ok (.pointer (some p)) w:=by rw [f.ev hx,f.ev hy];exact yK hT hs hi hj hp
  show ((Instr.indexAt t (a'.eval x) (a'.eval y)>>=fun r=>pure (eP r):Sem eC)).run P w=_
  rw [bQ,e];rfl) h
theorem qX {s:Nat}{k:fV}{i:Int}(hx:bK l x=some (a9 A m c))(hy:bK l y=some (.int k i))(hT:P.underlying t=some (.slice e))(hs:∀w,(sizeOf e).run P w= .ok s w)(j:Nat)(hi:i=(j:Int))(p:a8)(hp:A.map (·.add (j*s))=some p)(hj:j<m:=by omega):fP P n l ⟨dst,.indexAddr t x y,ty,pos,af,gd⟩ w (.value (.pointer (some p))) w:=fun a' f=>by
 have e:(Instr.indexAt t (a'.eval x) (a'.eval y)).run P w= .ok (.pointer (some p)) w:=by rw [f.ev hx,f.ev hy];exact yK hT hs hi hj hp
 show ((Instr.indexAt t (a'.eval x) (a'.eval y)>>=fun r=>pure (eP r):Sem eC)).run P w=_
 rw [bQ,e];rfl
theorem I1 {k:fV}{b:Int}(hx:bK l x=some (.int k a))(hy:bK l y=some (.int k b))(c:Bool)(hc:c8 o a b=some c):fP P n l ⟨dst,.binOp o t x y t',ty,pos,af,gd⟩ w (.value (.bool c)) w:=fun a' f=>by
 have e:((do eqGuard o t x y (a'.eval x) (a'.eval y);binOp o t (a'.eval x) (a'.eval y)):Sem aC).run P w= .ok (.bool c) w:=by
  rw [f.ev hx,f.ev hy];exact yM hc
 show ((((do eqGuard o t x y (a'.eval x) (a'.eval y);binOp o t (a'.eval x) (a'.eval y)):Sem aC)>>=fun r=>pure (eP r)):Sem eC).run P w=_
 rw [bQ,e];rfl
theorem GZ (hT:∀w,(sizeOf T).run P w= .ok 1 w)(hv:v.cells= #[v])(hb:Bk w g T' vs)(hle:off<vs.length)(h1:v.oneCell'=true)(us':List aC)(he:vs.set off v=us'):∃w',(storeVar T ⟨g,off,none⟩ v).run P w= .ok () w'∧Bk w' g T' us'∧Upd g w w'∧w'.heap.size=w.heap.size:=by
 have e:=hb.set off v
 rw [he] at e
 refine⟨w.setCell ⟨g,off,none⟩ v,?_,e,(Upd.refl g w).setCell off v,by simp [pU]⟩
 unfold storeVar
 rw [bQ]
 show ((sizeOf T).run P w).andThen _=_
 rw [hT w]
 simp only [dE,hv,sI,cS,List.length_nil,ne_eq,not_true,dY,if_false]
 show ((store ((⟨g,off,none⟩:a8).add 0) v>>=fun _=>storeCells ⟨g,off,none⟩ [] (0+1):Sem Unit)).run P w=_
 rw [g7,dF,bQ,tR (hb.cell hle) (hb.frozen off) h1]
 rfl
end
theorem AM {f:Nat→aC}(h:i<l.length):i<(l.map f).length:=by rw [List.length_map];exact h
theorem d5 {A:Int}{a:Nat}(ha:A=(a:Int))(hb:B=(b:Int))(h:a<b:=by omega):c8 .lss A B=some true:=by subst ha hb;exact AB (by omega)
theorem f8 {A:Int}{a:Nat}(ha:A=(a:Int))(hb:B=(b:Int))(h:b≤a:=by omega):c8 .lss A B=some false:=by subst ha hb;exact rD (by omega)
theorem eM {A:Int}{a:Nat}(ha:A=(a:Int))(hb:B=(b:Int))(h:a≤b:=by omega):c8 .leq A B=some true:=by subst ha hb;exact AN (by omega)
theorem dX {A:Int}{a:Nat}(ha:A=(a:Int))(hb:B=(b:Int))(h:b<a:=by omega):c8 .leq A B=some false:=by subst ha hb;exact AO (by omega)
theorem iM {A:Int}{a:Nat}(ha:A=(a:Int))(hb:B=(b:Int))(h:b<a:=by omega):c8 .gtr A B=some true:=by subst ha hb;exact KE (by omega)
theorem fH {A:Int}{a:Nat}(ha:A=(a:Int))(hb:B=(b:Int))(h:a≤b:=by omega):c8 .gtr A B=some false:=by subst ha hb;exact AZ (by omega)
theorem cJ {A:Int}{a:Nat}(ha:A=(a:Int))(hb:B=(b:Int))(h:b≤a:=by omega):c8 .geq A B=some true:=by subst ha hb;exact BD (by omega)
theorem cR {A:Int}{a:Nat}(ha:A=(a:Int))(hb:B=(b:Int))(h:a<b:=by omega):c8 .geq A B=some false:=by subst ha hb;exact BE (by omega)
theorem dB {A:Int}{a:Nat}(ha:A=(a:Int))(hb:B=(b:Int))(h:a=b:=by omega):c8 .eql A B=some true:=by subst ha hb;exact C5 (by omega)
theorem bV {A:Int}{a:Nat}(ha:A=(a:Int))(hb:B=(b:Int))(h:a≠b:=by omega):c8 .eql A B=some false:=by subst ha hb;exact C6 (by omega)
theorem iL {A:Int}{a:Nat}(ha:A=(a:Int))(hb:B=(b:Int))(h:a≠b:=by omega):c8 .neq A B=some true:=by subst ha hb;exact IV (by omega)
theorem lJ {A:Int}{a:Nat}(ha:A=(a:Int))(hb:B=(b:Int))(h:a=b:=by omega):c8 .neq A B=some false:=by subst ha hb;exact IW (by omega)
theorem OS {A:Int}{a:Nat}(ha:A=(a:Int))(hb:B=(b:Int))(h:a+b≤18446744073709551615):dD .add .u64 A B=some ((a+b:Nat):Int):=by
 subst ha hb;simp only [dD,dR];rw [←Int.natCast_add];exact IntWalk.u64_in _ ⟨by omega,by omega⟩
theorem vW {A:Int}{a:Nat}(ha:A=(a:Int))(hb:B=(b:Int))(h:a*b≤18446744073709551615:=by omega):dD .mul .u64 A B=some ((a*b:Nat):Int):=by
 subst ha hb;simp only [dD,dR];rw [←gD];exact IntWalk.u64_in _ ⟨by omega,by omega⟩
theorem vV {A:Int}{a:Nat}(ha:A=(a:Int))(hb:B=(b:Int))(h:b≠0:=by omega)(h2:a≤18446744073709551615:=by omega):dD .quo .u64 A B=some ((a/b:Nat):Int):=by
 subst ha hb
 have e:((a:Int)).tdiv (b:Int)=((a/b:Nat):Int):=rfl
 have o:a/b≤a:=f5 a b
 have j:(0:Int)≤((a/b:Nat):Int):=Int.natCast_nonneg _
 have f:((a/b:Nat):Int)≤(a:Int):=Int.ofNat_le.2 o
 simp only [dD];rw [if_neg (by omega),e,dR]
 generalize ((a/b:Nat):Int)=q at j f
 exact IntWalk.u64_in _ ⟨by omega,by omega⟩
theorem vU {k:fV}{A:Int}{a:Nat}(ha:A=(a:Int))(hb:B=(b:Int))(h:b≠0:=by omega):dD .rem k A B=some ((a%b:Nat):Int):=by
 subst ha hb
 have e:((a:Int)).tmod (b:Int)=((a%b:Nat):Int):=rfl
 simp only [dD];rw [if_neg (by omega),e]
theorem d6 {A:Int}{a:Nat}(ha:A=(a:Int))(hb:B=(b:Int))(h:a+b≤9223372036854775807:=by omega):dD .add .i64 A B=some ((a+b:Nat):Int):=by
 subst ha hb;exact vX
theorem kK {A:Int}{a:Nat}(ha:A=(a:Int))(hb:B=(b:Int))(h:b≤a:=by omega)(h2:a≤9223372036854775807:=by omega):dD .sub .i64 A B=some ((a-b:Nat):Int):=by
 subst ha hb;exact gL (by omega)
theorem lK {A:Int}{a:Nat}(ha:A=(a:Int))(hb:B=(b:Int))(h:a*b≤9223372036854775807:=by omega):dD .mul .i64 A B=some ((a*b:Nat):Int):=by
 subst ha hb;exact D5 (by rw [←gD]) (by omega) (by omega)
theorem pK {A:Int}{a:Nat}(ha:A=(a:Int))(hb:B=(b:Int))(h:b≠0:=by omega)(h2:a≤9223372036854775807:=by omega):dD .quo .i64 A B=some ((a/b:Nat):Int):=by
 subst ha hb
 have j:a/b≤a:=f5 a b
 have f:(0:Int)≤((a/b:Nat):Int):=Int.natCast_nonneg _
 have e:((a/b:Nat):Int)≤(a:Int):=Int.ofNat_le.2 j
 refine OU (by omega) E ?_ ?_
 ·show _≤((a/b:Nat):Int)
  generalize ((a/b:Nat):Int)=q at f e
  omega
 ·show ((a/b:Nat):Int)≤_
  generalize ((a/b:Nat):Int)=q at f e
  omega
theorem mX (w:a6):(sizeOf 50).run aG w= .ok 1 w:=by kernel_rfl
theorem nS (w:a6):(isAgg 50).run aG w= .ok false w:=by kernel_rfl
theorem lW:Tryz.prog.underlying 44=some (.slice 50):=Tryz.underlying44
theorem E5 {v:Nat}(hv:v≤9223372036854775807):aU aG 34 #[a4 (v:Int)] w (nV w ((v:Int))):=by
 have hn:¬(v:Int)<0:=by omega
 go_enter Tryz.func34,Tryz.ntmps34
 go_upto_region 3 with (fail)
 obtain⟨g,hg⟩:∃g,w.heap.size=g:=⟨_,rfl⟩
 obtain⟨wa,hwa⟩:∃wa,w.alloc (.cells #[.bool false,.slice none 0 0] 46)=wa:=⟨_,rfl⟩
 rw [hg,hwa]
 have hb:Bk wa g 46 (J false none 0 0):=by rw [←hwa,←hg];exact Bk.new w 46 (J false none 0 0)
 have hea:Ext w wa:=by rw [←hwa];exact (Ext.refl w).alloc _
 have hga:w.heap.size≤g:=Nat.le_of_eq hg
 have hgl:g<wa.heap.size:=hb.lt
 clear hwa hg
 obtain⟨k1,k2,k3,k4⟩:=hb.two
 have h1:Rd (wa.alloc (.cells #[a5 (v:Int)] 50)) (some ⟨wa.heap.size,0,none⟩) 1 1 [v]:=Rd.one wa (by omega)
 go_wp2_with fail
 refine (j0 (h1.ext (by repeat (first | exact Ext.refl _ | assumption | apply Ext.drewN | apply Ext.drew | apply Ext.alloc)))).mono ?_
 rintro e w1 ⟨A1,n1,c1,rfl,hn1,hr1,ho1,hx1⟩
 rw [oV] at hn1 ho1
 have hx1':Ext wa w1:=Ext.trans (by repeat (first | exact Ext.refl _ | assumption | apply Ext.drewN | apply Ext.drew | apply Ext.alloc)) hx1
 have hd:=hb.ext hx1'
 have hsz:=hx1'.size
 go_wp2_with fail
 refine (sV hn1.out).mono ?_
 rintro e w2 ⟨s',rfl,hs',hx2⟩
 have hd:=hd.ext hx2
 clear k1 k2 k3 k4
 obtain⟨k1,k2,k3,k4⟩:=hd.two
 go_wp2_with fail
 refine lM (u4 E E (hd.two_set _ _)) E ?_
 exact uZ hd ((pN hs'.out hn1.out ho1 (oL _)).ext hx2) (by simp;omega) (hea.trans (hx1'.trans hx2))
end
section
namespace Pop
def mk (m:Nat):Nat→Nat
 | 0=>0
 | k+1=>m+256*mk m k
theorem pJ (a A m M:Nat)(ha:a<256)(hm:m<256:=by omega):(a+256*A)&&& (m+256*M)=(a&&& m)+256*(A&&& M):=by
 have h1:((a+256*A)&&& (m+256*M))%2^8=a&&& m:=by
  rw [Nat.and_mod_two_pow]
  congr 1 <;> omega
 have h2:((a+256*A)&&& (m+256*M))/2^8=A&&& M:=by
  rw [Nat.and_div_two_pow]
  congr 1 <;> omega
 have e:=kP ((a+256*A)&&& (m+256*M)) (2^8)
 rw [h1,h2] at e
 exact e.symm
def f1 (k x:Nat):Nat:=(x/2&&& mk 85 k)+(x&&& mk 85 k)
def f2 (k x:Nat):Nat:=(x/4&&& mk 51 k)+(x&&& mk 51 k)
def f3 (k x:Nat):Nat:=(x/16+x)&&& mk 15 k
def d1 (b:Nat):Nat:=(b/2&&& 85)+(b&&& 85)
def d2 (b:Nat):Nat:=(b/4&&& 51)+(b&&& 51)
def d3 (b:Nat):Nat:=(b/16+b)&&& 15
def pc (b:Nat):Nat:=d3 (d2 (d1 b))
theorem t1:∀b:Fin 256,∀p:Fin 2,((b.val/2+128*p.val)&&& 85)=(b.val/2&&& 85):=by decide+kernel
theorem t2:∀b:Fin 256,∀p:Fin 4,((b.val/4+64*p.val)&&& 51)=(b.val/4&&& 51):=by decide+kernel
theorem t3:∀b:Fin 256,∀p:Fin 5,((d2 (d1 b.val)/16+d2 (d1 b.val)+16*p.val)&&& 15)=pc b.val:=by decide+kernel
theorem t4:∀b:Fin 256,d1 b.val<256∧d2 (d1 b.val)<69∧d2 (d1 b.val)%16≤4∧pc b.val≤8∧(pc b.val=0→b.val=0)∧(128≤b.val→pc b.val≤1→b.val=128):=by decide+kernel
theorem MN {B:Nat}(hb:b<256):f1 (k+1) (b+256*B)=d1 b+256*f1 k B:=by
 unfold f1 d1
 rw [show mk 85 (k+1)=85+256*mk 85 k from rfl]
 have e:(b+256*B)/2=(b/2+128*(B%2))+256*(B/2):=by omega
 rw [e,pJ _ _ _ _ (by omega),pJ _ _ _ _ hb,t1 ⟨b,hb⟩ ⟨B%2,by omega⟩]
 show (b/2&&& 85)+_+_=_
 omega
theorem MM {B:Nat}(hb:b<256):f2 (k+1) (b+256*B)=d2 b+256*f2 k B:=by
 unfold f2 d2
 rw [show mk 51 (k+1)=51+256*mk 51 k from rfl]
 have e:(b+256*B)/4=(b/4+64*(B%4))+256*(B/4):=by omega
 rw [e,pJ _ _ _ _ (by omega),pJ _ _ _ _ hb,t2 ⟨b,hb⟩ ⟨B%4,by omega⟩]
 show (b/4&&& 51)+_+_=_
 omega
theorem l6 {B:Nat}(hb:b<256)(hB:f2 k (f1 k B)%16≤4):f3 (k+1) (f2 (k+1) (f1 (k+1) (b+256*B)))=pc b+256*f3 k (f2 k (f1 k B))∧f2 (k+1) (f1 (k+1) (b+256*B))%16≤4:=by
 obtain⟨h1,h2,_,_⟩:=t4 ⟨b,hb⟩
 rw [MN hb,MM h1]
 refine⟨?_,by omega⟩
 generalize f2 k (f1 k B)=C at*
 unfold f3
 rw [show mk 15 (k+1)=15+256*mk 15 k from rfl]
 have e:(d2 (d1 b)+256*C)/16+(d2 (d1 b)+256*C)=(d2 (d1 b)/16+d2 (d1 b)+16*(C%16))+256*(C/16+C):=by omega
 have h2':d2 (d1 b)<69:=h2
 rw [e,pJ _ _ _ _ (by omega),t3 ⟨b,hb⟩ ⟨C%16,by omega⟩]
theorem MV {b0 b1 b2 b3 b4 b5 b6 b7:Nat}(h0:b0<256)(h1:b1<256)(h2:b2<256)(h3:b3<256)(h4:b4<256)(h5:b5<256)(h6:b6<256)(h7:b7<256):f3 8 (f2 8 (f1 8 (b0+256*(b1+256*(b2+256*(b3+256*(b4+256*(b5+256*(b6+256*(b7+256*0))))))))))
   =pc b0+256*(pc b1+256*(pc b2+256*(pc b3+256*(pc b4+256*(pc b5+256*(pc b6+256*pc b7)))))):=by
 have f:=l6 (k:=0) (B:=0) h7 (by decide)
 have e:=l6 h6 f.2
 have q:=l6 h5 e.2
 have j:=l6 h4 q.2
 have h:=l6 h3 j.2
 have o:=l6 h2 h.2
 have p:=l6 h1 o.2
 have r:=l6 h0 p.2
 rw [r.1,p.1,o.1,h.1,j.1,q.1,e.1,f.1]
 simp [f3,mk]
theorem MH {p0 p1 p2 p3 p4 p5 p6 p7:Nat}(h0:p0≤8)(h1:p1≤8)(h2:p2≤8)(h3:p3≤8)(h4:p4≤8)(h5:p5≤8)(h6:p6≤8)(h7:p7≤8)(e3:x3=p0+256*(p1+256*(p2+256*(p3+256*(p4+256*(p5+256*(p6+256*p7)))))))(e4:x4=x3+x3/256)(e5:x5=x4+x4/65536)(e6:x6=x5+x5/4294967296):x6%128=p0+p1+p2+p3+p4+p5+p6+p7∧x6<18446744073709551616:=by
 have e:x4=(p0+p1)+256*((p1+p2)+256*((p2+p3)+256*((p3+p4)+256*((p4+p5)+256*((p5+p6)+256*((p6+p7)+256*p7)))))):=by omega
 clear e3 e4
 have f:x5=(p0+p1+p2+p3)+256*((p1+p2+p3+p4)+256*((p2+p3+p4+p5)+256*((p3+p4+p5+p6)+256*((p4+p5+p6+p7)+256*((p5+p6+p7)+256*((p6+p7)+256*p7)))))):=by omega
 clear e e5
 have gq:x5/4294967296=(p4+p5+p6+p7)+256*((p5+p6+p7)+256*((p6+p7)+256*p7)):=by omega
 rw [gq] at e6
 have h:x6=(p0+p1+p2+p3+p4+p5+p6+p7)+256*(((p1+p2+p3+p4)+256*((p2+p3+p4+p5)+256*((p3+p4+p5+p6)+256*((p4+p5+p6+p7)+256*((p5+p6+p7)+256*((p6+p7)+256*p7))))))+((p5+p6+p7)+256*((p6+p7)+256*p7))):=by omega
 clear gq e6 f
 omega
theorem one {x x1 x2:Nat}(hx:x<18446744073709551616)(hh:9223372036854775808≤x)(e1:x1=f1 8 x)(e2:x2=f2 8 x1)(e3:x3=f3 8 x2)(e4:x4=x3+x3/256)(e5:x5=x4+x4/65536)(e6:x6=x5+x5/4294967296):x6%128=1↔x=9223372036854775808:=by
 obtain⟨F,q0,L,aq⟩:∃b q,b<256∧x=b+256*q:=⟨x%256,x/256,by omega,by omega⟩
 obtain⟨j,q1,X,aj⟩:∃b q,b<256∧q0=b+256*q:=⟨q0%256,q0/256,by omega,by omega⟩
 obtain⟨M,q2,U,az⟩:∃b q,b<256∧q1=b+256*q:=⟨q1%256,q1/256,by omega,by omega⟩
 obtain⟨r,q3,Y,ax⟩:∃b q,b<256∧q2=b+256*q:=⟨q2%256,q2/256,by omega,by omega⟩
 obtain⟨O,q4,W,am⟩:∃b q,b<256∧q3=b+256*q:=⟨q3%256,q3/256,by omega,by omega⟩
 obtain⟨o,q5,I,aw⟩:∃b q,b<256∧q4=b+256*q:=⟨q4%256,q4/256,by omega,by omega⟩
 obtain⟨p,f,H,ao⟩:∃b q,b<256∧q5=b+256*q:=⟨q5%256,q5/256,by omega,by omega⟩
 have V:f<256:=by omega
 have hb7':128≤f:=by omega
 have e:=MV L X U Y W I H V
 have ex:x=F+256*(j+256*(M+256*(r+256*(O+256*(o+256*(p+256*(f+256*0))))))):=by omega
 rw [←ex,←e1,←e2,←e3] at e
 have p0:=(t4 ⟨F,L⟩).2.2.2
 have p1:=(t4 ⟨j,X⟩).2.2.2
 have p2:=(t4 ⟨M,U⟩).2.2.2
 have Z:=(t4 ⟨r,Y⟩).2.2.2
 have p4:=(t4 ⟨O,W⟩).2.2.2
 have p5:=(t4 ⟨o,I⟩).2.2.2
 have p6:=(t4 ⟨p,H⟩).2.2.2
 have D:=(t4 ⟨f,V⟩).2.2.2
 have hf:=(MH p0.1 p1.1 p2.1 Z.1 p4.1 p5.1 p6.1 D.1 e e4 e5 e6).1
 simp only at p0 p1 p2 Z p4 p5 p6 D
 rw [hf]
 show (pc F+pc j+pc M+pc r+pc O+pc o+pc p+pc f=1)↔_
 constructor
 ·intro h
  have h7:pc f≠0:=fun hz=>by have:=D.2.1 hz;omega
  have hs:pc F+pc j+pc M+pc r+pc O+pc o+pc p=0∧pc f=1:=by clear p0 p1 p2 Z p4 p5 p6 D e e1 e2 e3 e4 e5 e6 ex aq aj az ax am aw ao hf;omega
  obtain⟨hs,_⟩:=hs
  have z0:=p0.2.1 (by omega)
  have z1:=p1.2.1 (by omega)
  have z2:=p2.2.1 (by omega)
  have z3:=Z.2.1 (by omega)
  have z4:=p4.2.1 (by omega)
  have z5:=p5.2.1 (by omega)
  have z6:=p6.2.1 (by omega)
  have z7:=D.2.2 hb7' (by omega)
  omega
 ·intro h
  obtain rfl:f=128:=by omega
  obtain rfl:F=0:=by omega
  obtain rfl:j=0:=by omega
  obtain rfl:M=0:=by omega
  obtain rfl:r=0:=by omega
  obtain rfl:O=0:=by omega
  obtain rfl:o=0:=by omega
  obtain rfl:p=0:=by omega
  decide
end Pop
end
section
open Go.RowKit
theorem E3 {v:Nat}(hv1:1≤v)(hv:v≤9223372036854775808):aU aG 34 #[a4 (-(v:Int))] w (nV w (-(v:Int))):=by
 have hn: -(v:Int)<0:=by omega
 have w1e:IntKind.u64.wrap (-(v:Int))=18446744073709551616-(v:Int):=by
  simp only [qC,oE,oD]
  simp
  omega
 have w2e:IntKind.u64.wrap (-(18446744073709551616-(v:Int)))=(v:Int):=by
  simp only [qC,oE,oD]
  simp
  omega
 have W1:=bD w1e
 have W2:=bD w2e
 clear w1e w2e
 go_enter Tryz.func34,Tryz.ntmps34
 go_upto_region 2 with (fail)
 obtain⟨g,hg⟩:∃g,w.heap.size=g:=⟨_,rfl⟩
 obtain⟨wa,hwa⟩:∃wa,w.alloc (.cells #[.bool false,.slice none 0 0] 46)=wa:=⟨_,rfl⟩
 rw [hg,hwa]
 have hb:Bk wa g 46 (J false none 0 0):=by rw [←hwa,←hg];exact Bk.new w 46 (J false none 0 0)
 have hea:Ext w wa:=by rw [←hwa];exact (Ext.refl w).alloc _
 have hga:w.heap.size≤g:=Nat.le_of_eq hg
 have hgl:g<wa.heap.size:=hb.lt
 clear hwa hg
 obtain⟨k1,k2,k3,k4⟩:=hb.two
 have h1:Rd (wa.alloc (.cells #[a5 (v:Int)] 50)) (some ⟨wa.heap.size,0,none⟩) 1 1 [v]:=Rd.one wa (by omega)
 have w1e:=W1.out
 have w2e:=W2.out
 go_wp2_with fail
 clear w1e w2e
 refine (j0 (h1.ext (by repeat (first | exact Ext.refl _ | assumption | apply Ext.drewN | apply Ext.drew | apply Ext.alloc)))).mono ?_
 rintro e w1 ⟨A1,n1,c1,rfl,hn1,hr1,ho1,hx1⟩
 rw [oV] at hn1 ho1
 have hx1':Ext wa w1:=Ext.trans (by repeat (first | exact Ext.refl _ | assumption | apply Ext.drewN | apply Ext.drew | apply Ext.alloc)) hx1
 have hd:=hb.ext hx1'
 have hsz:=hx1'.size
 go_wp2_with fail
 refine (sV hn1.out).mono ?_
 rintro e w2 ⟨s',rfl,hs',hx2⟩
 have hd:=hd.ext hx2
 clear k1 k2 k3 k4
 obtain⟨k1,k2,k3,k4⟩:=hd.two
 go_wp2_with fail
 refine lM (u4 E E (hd.two_set _ _)) E ?_
 exact uZ hd ((pN hs'.out hn1.out ho1 (qS _)).ext hx2) (by simp;omega) (hea.trans (hx1'.trans hx2))
theorem E4 {v:Int}(h1: -9223372036854775808≤v)(h2:v≤9223372036854775807):aU aG 34 #[a4 v] w (nV w v):=by
 by_cases h:0≤v
 ·obtain⟨m,rfl⟩:=Int.eq_ofNat_of_zero_le h
  exact E5 (by omega)
 ·obtain⟨m,e⟩:∃m:Nat,v= -(m:Int):=⟨v.natAbs,by omega⟩
  subst e
  exact E3 (by omega) (by omega)
theorem eB:AggT aG 46 2:=⟨fun _=>by kernel_rfl,fun _=>by kernel_rfl⟩
theorem rV:∀w,(isAgg 4).run aG w= .ok false w:=fun _=>by kernel_rfl
theorem j3:∀w,(isAgg 44).run aG w= .ok false w:=fun _=>by kernel_rfl
theorem eR:Tryz.prog.follows .mixedOrders=true:=by kernel_rfl
def Is (u v:aC)(_:a6):Prop:=v=u
def ZR (b:Nat)(z:Int)(v:aC)(w:a6):Prop:=∃s A n c,v= G s A n c∧Zr w b s A n c z
def WR (b:Nat)(m:Nat)(v:aC)(w:a6):Prop:=∃A n c,v= a9 A n c∧n=(wd m).length∧Own w b 50 1 A n c ((wd m).map bG)
def Wi (w:a6)(A:Option a8)(n c:Nat)(m:Nat):Prop:=∃xs,Rd w A n c xs∧nv xs=m
theorem Wi.ext (h:Wi w A n c m)(e:Ext w w'):Wi w' A n c m:=by
 obtain⟨xs,h1,h2⟩:=h
 exact⟨xs,h1.ext e,h2⟩
theorem Zi.wi (h:Zi w s A n c z):Wi w A n c z.natAbs:=by
 obtain⟨xs,h1,h2⟩:=h
 exact⟨xs,h1,by rw [←h2,tO]⟩
theorem Own.wi (h:Own w b t 1 A n c ((wd m).map bG)):Wi w A n c m:=⟨_,h.rd (mE _),dS m⟩
theorem Wi.len (h:Wi w A n c m):(wd m).length≤n:=by
 obtain⟨xs,h1,rfl⟩:=h
 have:=f7 h1.wf
 rw [h1.len] at this;exact this
def PR (b:Nat)(T:aQ)(vs:List aC)(v:aC)(w:a6):Prop:=∃g,v= a1 g 0∧b≤g∧Bk w g T vs
theorem pO (hn:n=(wd m).length)(ho:Own w b 50 1 A n c ((wd m).map bG)):Zr w b false A n c (m:Int):=
 pN (m:=m) (s:=false) (by rw [oL];symm;exact decide_eq_false (by omega)) hn ho (oL m)
def T2 (R S:aC→a6→Prop)(v:aC)(w:a6):Prop:=∃a b,v= .tuple #[a,b]∧R a w∧S b w
def T3 (R S T:aC→a6→Prop)(v:aC)(w:a6):Prop:=∃a b c,v= .tuple #[a,b,c]∧R a w∧S b w∧T c w
def Gv (w:a6)(R:aC→a6→Prop)(e:dL)(w':a6):Prop:=∃v,e= .returned v∧R v w'∧Ext w w'
section
variable {w w':a6}{b:Nat}{z x y:Int}{v u:aC}{R S T:aC→a6→Prop}
theorem gz (hb:b≤w.heap.size)(e:dL)(w':a6)(h:nV w z e w'):Gv w (ZR b z) e w':=by
 obtain⟨s,A,n,c,rfl,h1,h2⟩:=h
 exact⟨_,rfl,⟨s,A,n,c,rfl,h1.mono hb⟩,h2⟩
theorem gw (hb:b≤w.heap.size)(e:dL)(w':a6)(h:j5 w m e w'):Gv w (WR b m) e w':=by
 obtain⟨A,n,c,rfl,h1,h2,j,f⟩:=h
 exact⟨_,rfl,⟨A,n,c,rfl,h1.out,j.mono hb⟩,f⟩
theorem Gv.imp (hi:∀v w,R v w→S v w)(e:dL)(w':a6)(h:Gv w R e w'):Gv w S e w':=by
 obtain⟨v,rfl,h1,h2⟩:=h
 exact⟨v,rfl,hi _ _ h1,h2⟩
theorem WR.imp (hb:b≤b')(v:aC)(w:a6)(h:WR b' m v w):WR b m v w:=by
 obtain⟨A,n,c,rfl,h1,h2⟩:=h
 exact⟨A,n,c,rfl,h1,h2.mono hb⟩
theorem T2.imp {R' S':aC→a6→Prop}(h1:∀v w,R v w→R' v w)(h2:∀v w,S v w→S' v w)(v:aC)(w:a6)(h:T2 R S v w):T2 R' S' v w:=by
 obtain⟨a,c,rfl,e,f⟩:=h
 exact⟨a,c,rfl,h1 _ _ e,h2 _ _ f⟩
theorem Is.imp (v:aC)(w:a6)(h:Is u v w):Is u v w:=h
theorem KF (e:dL)(w':a6)(h:DK z w e w'):Gv w (Is (a4 z)) e w':=by
 obtain⟨c,h1,_,_,rfl,h2⟩:=h
 exact⟨_,rfl,(show bP .i64 c=_ by rw [h1.out]),h2⟩
end
section
variable {w:a6}{b:Nat}(hb:b≤w.heap.size){s t u:Bool}{A B C:Option a8}{n cap m cap' k cap'':Nat}{x y z:Int}
include hb
theorem KN (hx:Zi w s A n cap x)(hl:n≤68719476736):aU aG 25 #[G s A n cap] w (Gv w (ZR b x)):=(E6 hx hl).mono (gz hb)
theorem BG {v:Int}(h1: -9223372036854775808≤v)(h2:v≤9223372036854775807):aU aG 34 #[a4 v] w (Gv w (ZR b v)):=(E4 h1 h2).mono (gz hb)
end
section
variable {w:a6}{s t:Bool}{A B:Option a8}{n cap m cap':Nat}{x y:Int}
theorem BF (hx:Zi w s A n cap x)(hl:n≤68719476736):aU aG 33 #[G s A n cap] w (Gv w (Is (a4 (kB x 0)))):=(E2 hx hl).mono KF
end
def TA (R S T:aC→a6→Prop)(v:aC)(w:a6):Prop:=∃a b c,v= .tuple #[a,b,c]∧R a w∧S b w∧T c w∧∀g,iK a g→iK b g→False
section
variable {P:bT}{Q:cQ→Act→a6→Prop}{n:Nat}{l:Fr}{w:a6}{ops:Array aX}{rest:List aX}{d:Nat}{op:Op}{ty:aQ}{pos:String}{af:Array eA}{gd:Option (Nat×Bool)}
theorem dN (hw:cF ops l gd=some true)(hk:iJ l op=true)(cells:List aC)(hr:∀w,(execOp (rho l) ⟨some d,op,ty,pos,af,gd⟩).run P w= .ok (.value (a9 (some ⟨w.heap.size,0,none⟩) k k)) (w.alloc (.cells cells.toArray e)))(h:∀g w',NewBk w w' g e cells→wl P ops Q n rest ((d,a9 (some ⟨g,0,none⟩) k k)::l) w')(hn:d<n:=by decide):wl P ops Q n (⟨some d,op,ty,pos,af,gd⟩::rest) l w:=
 dU hw hn (fun a f=>by rw [nO hk f];exact hr w) (h _ _ (NewBk.mk' w e cells))
end
def O1 (b x:Nat)(v:aC)(w:a6):Prop:=∃A,v= a9 A 1 1∧Own w b 50 1 A 1 1 [bG x]
theorem O1.mk_ {x:Nat}(h:NewBk w w' g 50 [bG x])(hb:b≤w.heap.size):Own w' b 50 1 (some ⟨g,0,none⟩) 1 1 [bG x]:=
 Own.mk_ (by rw [←h.at_];exact hb) h.bk (aZ _) (by rw [eX];omega) E rfl
theorem IG {x:Nat}(h:Own w b 50 1 A 1 1 [bG x])(hx:x≤18446744073709551615):Wi w A 1 1 x:=
 ⟨[x],h.rd (DF (by rw [cH];omega)),oV x⟩
theorem oT {x:Nat}(h:Own w b 50 1 A 1 1 [bG x])(hx:x≤18446744073709551615)(h0:x≠0):Own w b 50 1 A 1 1 ((wd x).map bG):=by
 rw [xG (by rw [cH];omega) h0];exact h
theorem oY {x:Nat}(hx:x≤18446744073709551615)(h0:x≠0):1=(wd x).length:=by rw [xG (by rw [cH];omega) h0];rfl
theorem s0 (h:m≠0)(hn:n=(wd m).length)(ho:Own w b 50 1 A n c ((wd m).map bG)):Zr w b true A n c (-(m:Int)):=
 pN (m:=m) (s:=true) (by rw [y9,decide_eq_true (Nat.pos_of_ne_zero h)];rfl) hn ho (qS m)
section
variable {P:bT}{Q:cQ→Act→a6→Prop}{n:Nat}{l:Fr}{w:a6}
def l8 (n:Nat)(ops:Array aX):Nat→List aX→Fr→Option (Fr×List aX)
 | 0,rest,l=>some (l,rest)
 | _+1,[],_=>none
 | k+1,⟨some d,op,_,_,_,gd⟩::rest,l=>
  match Nat.blt d n with
  | true=>
   match cF ops l gd with
   | some true=>
    match op with
    | .move x=>match bK l x with
     | some v=>l8 n ops k rest ((d,v)::l)
     | none=>none
    | .assign x=>match bK l x with
     | some v=>l8 n ops k rest ((d,v)::l)
     | none=>none
    | _=>none
   | some false=>l8 n ops k rest ((d,undef)::l)
   | none=>none
  | false=>none
 | _+1,_::_,_=>none
theorem mv {ops:Array aX}:∀(k:Nat){rest rest':List aX}{l l':Fr},l8 n ops k rest l=some (l',rest')→wl P ops Q n rest' l' w→wl P ops Q n rest l w
 | 0,rest,rest',l,l',h,hw=>by
  simp only [l8,dR,Prod.mk.injEq] at h
  obtain⟨rfl,rfl⟩:=h
  exact hw
 | k+1,[],rest',l,l',h,hw=>by simp [l8] at h
 | k+1,⟨none,op,ty,pos,af,gd⟩::rest,rest',l,l',h,hw=>by simp [l8] at h
 | k+1,⟨some d,op,ty,pos,af,gd⟩::rest,rest',l,l',h,hw=>by
  unfold l8 at h
  split at h
  ·rename_i j
   have hd':d<n:=Nat.le_of_ble_eq_true j
   split at h
   ·rename_i e
    split at h
    ·split at h
     ·rename_i f
      exact EH e f hd' (mv k h hw)
     ·cases h
    ·split at h
     ·rename_i f
      exact EJ e f hd' (mv k h hw)
     ·cases h
    ·cases h
   ·rename_i e
    exact EE e hd' (mv k h hw)
   ·cases h
  ·cases h
theorem sr {y:Code}(h:wl P ol.toArray (Exit.then (fun a w=>y.wp P Q a w) Q) n ol l w):cw P Q n (.seq (.region id ol.toArray false) y) l w:=aD (aE h)
theorem a7 {y:Code}(h:cw P Q n y l w):wl P ops (Exit.then (fun a w=>y.wp P Q a w) Q) n [] l w:=bA (aJ h)
theorem pu (hk:(cF ops l gd==some true&&iJ l op&&Nat.blt d n)=true)(h:wl P ops Q n rest ((d,v)::l) w)(hr:(execOp (rho l) ⟨some d,op,ty,pos,af,gd⟩).run P w= .ok (.value v) w:=by kernel_rfl):wl P ops Q n (⟨some d,op,ty,pos,af,gd⟩::rest) l w:=by
 rw [dI,dI,beq_iff_eq] at hk
 exact xA hk.1.1 hk.1.2 (Nat.le_of_ble_eq_true hk.2) hr h
section
variable {ops:Array aX}{rest:List aX}{d:Nat}{ty:aQ}{pos:String}{af:Array eA}{gd:Option (Nat×Bool)}{w0:a6}
theorem bx (vs:List aC)(h0:Ext w0 w)(hx:bK l x=some v)(hk:(cF ops l gd==some true&&Nat.blt d n)=true)(hv:v.cells=vs.toArray)(h:∀g w',Bk w' g t vs→w0.heap.size≤g→Ext w w'→Ext w0 w'→wl P ops Q n rest ((d,a1 g 0)::l) w'):wl P ops Q n (⟨some d,.box t x,ty,pos,af,gd⟩::rest) l w:=by
 rw [dI,beq_iff_eq] at hk
 exact iE hk.1 hx hv (hn:=(Nat.le_of_ble_eq_true hk.2)) fun g w' nb=>h g w' nb.bk (by rw [←nb.at_];exact h0.size) nb.ext (h0.trans nb.ext)
theorem OK (vs:List aC)(h0:Ext w0 w)(hq:gp<w.heap.size)(hx:bK l x=some v)(hk:(cF ops l gd==some true&&Nat.blt d n)=true)(hv:v.cells=vs.toArray)(h:∀g w',Bk w' g t vs→w0.heap.size≤g→gp<g→Ext w w'→Ext w0 w'→wl P ops Q n rest ((d,a1 g 0)::l) w'):wl P ops Q n (⟨some d,.box t x,ty,pos,af,gd⟩::rest) l w:=by
 rw [dI,beq_iff_eq] at hk
 exact iE hk.1 hx hv (hn:=(Nat.le_of_ble_eq_true hk.2)) fun g w' nb=>h g w' nb.bk (by rw [←nb.at_];exact h0.size) (by rw [←nb.at_];exact hq) nb.ext (h0.trans nb.ext)
theorem al (vs:List aC)(h0:Ext w0 w)(hz:∀w,(zeroValue t).run P w= .ok (.agg vs.toArray) w)(hk:(cF ops l gd==some true&&Nat.blt d n)=true)(h:∀g w',Bk w' g t vs→w0.heap.size≤g→Ext w w'→Ext w0 w'→wl P ops Q n rest ((d,a1 g 0)::l) w'):wl P ops Q n (⟨some d,.alloc t,ty,pos,af,gd⟩::rest) l w:=by
 rw [dI,beq_iff_eq] at hk
 exact eK hk.1 hz E (hn:=(Nat.le_of_ble_eq_true hk.2)) fun g w' nb=>h g w' nb.bk (by rw [←nb.at_];exact h0.size) nb.ext (h0.trans nb.ext)
theorem jT (vs:List aC)(h0:Ext w0 w)(hq:gp<w.heap.size)(hz:∀w,(zeroValue t).run P w= .ok (.agg vs.toArray) w)(hk:(cF ops l gd==some true&&Nat.blt d n)=true)(h:∀g w',Bk w' g t vs→w0.heap.size≤g→gp<g→Ext w w'→Ext w0 w'→wl P ops Q n rest ((d,a1 g 0)::l) w'):wl P ops Q n (⟨some d,.alloc t,ty,pos,af,gd⟩::rest) l w:=by
 rw [dI,beq_iff_eq] at hk
 exact eK hk.1 hz E (hn:=(Nat.le_of_ble_eq_true hk.2)) fun g w' nb=>h g w' nb.bk (by rw [←nb.at_];exact h0.size) (by rw [←nb.at_];exact hq) nb.ext (h0.trans nb.ext)
theorem cl {xs:Array bW}{R:aC→a6→Prop}(h0:Ext w0 w)(hc:aU P f vs.toArray w (Gv w R))(hk:(cF ops l gd==some true&&iJ l (.call {callee:= .value (.func f),args:=xs,argTypes:=ts})&&Nat.blt d n)=true)(hr:(execOp (rho l) ⟨some d,.call {callee:= .value (.func f),args:=xs,argTypes:=ts},ty,pos,af,gd⟩).run P w= .ok (.enter f vs.toArray) w)(h:∀v w',R v w'→Ext w w'→Ext w0 w'→wl P ops Q n rest ((d,v)::l) w'):wl P ops Q n (⟨some d,.call {callee:= .value (.func f),args:=xs,argTypes:=ts},ty,pos,af,gd⟩::rest) l w:=by
 rw [dI,dI,beq_iff_eq] at hk
 refine bC hk.1.1 hk.1.2 hr (Nat.le_of_ble_eq_true hk.2) hc ?_
 rintro _ w' ⟨v,rfl,r,e⟩
 exact bB (h v w' r e (h0.trans e))
theorem lo (hT:AggT P T k)(hb:Bk w g T' vs)(us:List aC)(hx:bK l x=some (a1 g off))(hk:(cF ops l gd==some true&&Nat.blt d n&&kS us.length k&&Nat.ble (off+k) vs.length)=true)(he:(vs.drop off).take k=us)(h:wl P ops Q n rest ((d,.agg us.toArray)::l) w):wl P ops Q n (⟨some d,.load T x,ty,pos,af,gd⟩::rest) l w:=by
 rw [dI,dI,dI,beq_iff_eq] at hk
 exact aH hk.1.1.1 hx (gH hT hb us (mN hk.1.2) (Nat.le_of_ble_eq_true hk.2) he) h (hn:=(Nat.le_of_ble_eq_true hk.1.1.2))
theorem so (hT:AggT P T k)(hb:Bk w g T' vs)(us':List aC)(h0:Ext w0 w)(hg:w0.heap.size≤g)(hx:bK l x=some (a1 g off))(hy:bK l y=some (.agg us.toArray))(hk:(cF ops l gd==some true&&kS us.length k&&Nat.ble (off+k) vs.length&&us.all (·.oneCell'))=true)(he:fY vs off us=us')(h:∀w',Bk w' g T' us'→Upd g w w'→Ext w0 w'→wl P ops Q n rest l w'):wl P ops Q n (⟨none,.store T x y,ty,pos,af,gd⟩::rest) l w:=by
 rw [dI,dI,dI,beq_iff_eq] at hk
 exact kX hk.1.1.1 hx hy hT (mN hk.1.1.2) hb (Nat.le_of_ble_eq_true hk.1.2) hk.2 us' he fun w' b u _=>h w' b u (u.ext h0 hg)
end
theorem dk {Rs:List (aC→a6→Prop)}{w1:a6}{k:Fr→Prop}{acc:Fr}(hR:Rs[j]?=some (Is v))(hd:cL ol j=some d)(h:Deps ol Rs w0 w1 k ds ((d,v)::acc)):Deps ol Rs w0 w1 k (j::ds) acc:=
 eE hR hd fun v' _ hr _ _=>by
  obtain rfl:=hr
  exact h
theorem pf (g off:Nat)(hk:(cF ops l gd==some true&&iJ l op&&Nat.blt d n)=true)(h:wl P ops Q n rest ((d,a1 g off)::l) w)(hr:(execOp (rho l) ⟨some d,op,ty,pos,af,gd⟩).run P w= .ok (.value (a1 g off)) w:=by kernel_rfl):wl P ops Q n (⟨some d,op,ty,pos,af,gd⟩::rest) l w:=pu hk h (hr:=hr)
theorem bq (h:Nat.ble m k=true):m≤k:=Nat.le_of_ble_eq_true h
theorem uM {a:Nat}(h:a≤b)(k:Nat.ble b c=true):a≤c:=aN h (Nat.le_of_ble_eq_true k)
end
abbrev S0:aC:= a9 none 0 0
abbrev F0:aC:= ik
abbrev I0:aC:= a4 0
end
section
open Go.ChangeShapes Go.WideShapes Go.ChangeAt Go.RowKit
theorem IF:ownKnob Tryz.prog.godebug=none:=by kernel_rfl
theorem vM:Tryz.prog.cellsOf 50=1:=by kernel_rfl
theorem ON (d:DataW H):1≤Rows.uptoBulk d:=by
 cases d with
 | lit l=>cases l <;> simp [Rows.uptoBulk]
 | nil=>simp [Rows.uptoBulk]
 | ptr d=>simp [Rows.uptoBulk]
 | slice elems spare=>simp [Rows.uptoBulk]
 | agg parts=>simp [Rows.uptoBulk]
 | iface t d=>simp [Rows.uptoBulk]
 | map entries=>simp [Rows.uptoBulk]
 | held h=>simp [Rows.uptoBulk]
theorem D1 (l:List (DataW H)):l.length≤Rows.uptoBulkAll l:=by
 induction l with
 | nil=>simp [Rows.uptoBulkAll]
 | cons x r ih=>have:=ON x;simp only [Rows.uptoBulkAll,cS];omega
theorem OM (elems spare:List (DataW H)):elems.length+spare.length≤Rows.uptoBulk (.slice elems spare):=by
 have h1:=D1 elems
 have h2:=D1 spare
 simp only [Rows.uptoBulk]
 omega
theorem OO {l:List (DataW H)}(hk:Rows.uptoSmall H l=true):Rows.uptoBulkAll l≤1048576:=of_decide_eq_true hk
theorem xF {n:Int}(h:(Lit.int .u64 n).wf=true):0≤n∧n≤18446744073709551615:=by
 simpa [Lit.wf,IntKind.min,IntKind.max,oD,oE] using h
theorem IB {enc:aQ×aC→H}{f:Func}{s:ChangeSpec}{apart fresh handsOn again:Bool}{ds gs:List (DataW H)}{before:List MemPlace}(hW:DataW.Whole enc P f.params.toList s.vars apart W args.toList ds gs before)(hres:∀(b:Nat) (sp:Nat→Bool) (hd:Bool),DataW.TrodAll enc P W' b sp hd f.resultTypes.toList (v.resultList f.resultTypes.size) (s.fn H (ds++gs)).results [])(hargs:∀sp:Nat→Bool,(∀p∈before,sp p.block=true)→DataW.TrodAll enc P W' 0 sp true f.params.toList args.toList (s.fn H (ds++gs)).args pa)(hvars:∀sp:Nat→Bool,(∀p∈before,sp p.block=true)→DataW.TrodVars enc P W' sp s.vars (s.fn H (ds++gs)).vars pv)(hps:before=pa++pv)(hb:Below W.heap.size W W')(hok:∀(j:Nat) (t:aQ) (r:aC),f.resultTypes[j]?=some t→(v.resultList f.resultTypes.size)[j]?=some r→Value.okWide P W' .any 0 t r):s.post enc P f apart fresh handsOn again W args v W':=by
 have o:∀p∈before,p.block<W.heap.size:=fun p e=>hW.lt p e
 have h:∀p∈before,(fun b=>decide (b<W.heap.size)) p.block=true:=fun p e=>by simpa using o p e
 refine⟨ds,gs,before,[],pa,pv,hW,hres _ _ _,hargs _ h,hvars _ h,World.keptBut_mono (fun p e=>⟨e,?_⟩) (hb.frame (· ∈before)),fun _=>?_⟩
 ·rw [hps,eQ] at e
  exact cA e
 ·obtain⟨_,_,_,_,_,F,hn⟩:=hW
  refine⟨hok,_,_,([]++pa)++pv,⟨[]++pa,pv,trodAll_append (hargs _ (fun _ _=>rfl)) (hres _ _ _),hvars _ (fun _ _=>rfl),rfl,?_,?_⟩,?_⟩
  ·intro b off e
   have q:MemPlace.cell b off∈before:=by rw [hps];simpa using e
   rw [hb.frozen (o _ q)]
   exact F b off q
  ·intro D
   have:=hn D
   rw [hps] at this
   simpa using this
  ·intro p e _
   rw [hps]
   simpa using e
theorem JU:laidOutB aG=true:=by kernel_rfl
theorem JA:mapsRowed aG=true:=by kernel_rfl
def G0 (P:bT):Bool:=(eV P.types.size).all fun t=>match P.underlying t with
 | some (.slice e)=>decide (0<P.cellsOf e)
 | _=>true
theorem FZ:G0 aG=true:=by kernel_rfl
theorem G1 (ht:t<Tryz.prog.types.size)(hu:Tryz.prog.underlying t=some (.slice e)):0<Tryz.prog.cellsOf e:=by
 have:=dZ.1 FZ t (fU.2 ht)
 simpa [hu] using this
theorem FS {enc:aQ×aC→H}{d:DataW H}(ht:t<Tryz.prog.types.size)(h:DataW.Trod enc aG W 0 (fun _=>true) true t v d p)(he:Ext W W')(hp:∀q∈p,q.block<W.heap.size){sp:Nat→Bool}(hsp:∀q∈p,sp q.block=true):DataW.Trod enc aG W' 0 sp true t v d p:=by
 obtain⟨n,hn⟩:=h
 exact⟨n,DataW.trod_stays (kids_rows JU JA) G1 (fun h=>by cases h) ht hn (fun q e=>he.below.same (hp q e)) hsp⟩
theorem FR {enc:aQ×aC→H}(he:Ext W W'){sp:Nat→Bool}:∀{ts:List aQ}{vs:List aC}{ds:List (DataW H)}{p:List MemPlace},(∀t∈ts,t<Tryz.prog.types.size)→
  DataW.TrodAll enc aG W 0 (fun _=>true) true ts vs ds p→(∀q∈p,q.block<W.heap.size)→(∀q∈p,sp q.block=true)→DataW.TrodAll enc aG W' 0 sp true ts vs ds p:=by
 intro ts
 induction ts with
 | nil=>
  intro vs ds p _ h _ _
  obtain⟨rfl,rfl,rfl⟩:=trodAll_nil h
  exact trodAll_mk0
 | cons t ts ih=>
  intro vs ds p ht h hp hsp
  obtain⟨v,vs',d,ds',p1,p2,rfl,rfl,rfl,h1,h2⟩:=trodAll_cons h
  exact trodAll_cons_mk (FS (ht t (by simp)) h1 he (fun q hq=>hp q (by simp [hq])) (fun q hq=>hsp q (by simp [hq]))) (ih (fun t h=>ht t (by simp [h])) h2 (fun q hq=>hp q (by simp [hq])) (fun q hq=>hsp q (by simp [hq])))
end
section
open Go.RowKit
structure Zl (w:a6)(A:Option a8)(n cap:Nat)(zs:List Int)(ms:List Nat):Prop where
 len:zs.length=n
 mlen:ms.length=n
 le:n≤cap
 max:cap≤maxLen
 get:∀i,i<n→∃a s B c,A=some a∧w.cell? (a.add (i*2))=some (.bool s)∧w.cell? (a.add (i*2+1))=some (a9 B (ms.getD i 0) c)∧Zi w s B (ms.getD i 0) c (zs.getD i 0)
theorem Zl.ext (h:Zl w A n cap zs ms)(e:Ext w w'):Zl w' A n cap zs ms:=
 ⟨h.len,h.mlen,h.le,h.max,fun i hi=>by
  obtain⟨a,s,B,c,h1,h2,j,f⟩:=h.get i hi
  exact⟨a,s,B,c,h1,e.cell h2,e.cell j,f.ext e⟩⟩
theorem B7:∀(ms:List Nat) (i:Nat),ms.getD i 0≤ms.sum
 | [],i=>by simp
 | m::r,0=>by simp
 | m::r,i+1=>by
  have:=B7 r i
  simp only [List.getD_cons_succ,List.sum_cons]
  omega
end
section
open Go.ChangeShapes Go.WideShapes Go.ChangeAt Go.RowKit
theorem OC:Tryz.prog.cellsOf 46=2:=by kernel_rfl
theorem CX:Tryz.prog.cellsOf 44=1:=by kernel_rfl
theorem CZ:Tryz.prog.cellsOf 4=1:=by kernel_rfl
theorem ML:∃f0 f1:Field,Tryz.prog.underlying 46=some (.struct #[f0,f1])∧f0.type=4∧f0.offset=0∧f1.type=44∧f1.offset=1:=⟨_,_,Tryz.underlying46,rfl,rfl,rfl,rfl⟩
theorem IL {enc:aQ×aC→H}{d:DataW H}(hf:DataW.trod enc aG W 0 (fun _=>true) true fuel 44 [v]=some (d,p)):∃A n cap xs,v= a9 A n cap∧Rd W A n cap xs∧n≤Rows.uptoBulk d∧
   ∀W',Ext W W'→∀sp:Nat→Bool,(∀q∈p,sp q.block=true)→∃fuel',DataW.trod enc aG W' 0 sp true fuel' 44 [v]=some (d,p):=by
 rcases open_ints Tryz.underlying44 Tryz.underlying50 vM hf with⟨r,D⟩ | ⟨a,n',cap',zs,r,_,hl,Y,hz,D,f,j⟩
 ·obtain rfl:=List.singleton_inj.1 r
  simp only [Prod.mk.injEq] at D
  obtain⟨rfl,rfl⟩:=D
  exact⟨none,0,0,[],rfl,Rd.nil W,cE _,fun W' _ sp _=>by obtain⟨fu,h⟩:=shut_slice_nil (enc:=enc) (w:=W') (base:=0) (spare:=sp) (held:=true) Tryz.underlying44;exact⟨fu,h⟩⟩
 ·obtain rfl:=List.singleton_inj.1 r
  simp only [Prod.mk.injEq] at D
  obtain⟨rfl,rfl⟩:=D
  simp only [if_true] at hz
  have L:0<cap'→a.block<W.heap.size:=fun hc=>mJ W (a.add 0) (f 0 (by omega)) |> fun h=>by rwa [pI] at h
  have aa:∀z∈zs,((z.toNat:Nat):Int)=z:=fun z hz'=>Int.toNat_of_nonneg (xF (j z hz')).1
  have ab:(zs.take n').length=n':=by rw [cV];omega
  refine⟨some a,n',cap',(zs.take n').map Int.toNat,rfl,⟨⟨by simp;omega,hl,Y,fun i hi=>⟨a,rfl,?_⟩,fun b hb hc=>by cases hb;exact L hc⟩,?_⟩,?_,?_⟩
  ·rw [f i (by omega)]
   have o:i<zs.length:=by omega
   have I:zs[i]∈zs:=jA o
   have e:(((zs.take n').map Int.toNat).map bG).getD i undef= a5 ((zs[i].toNat:Nat):Int):=by
    simp [bE,gR,show i<n' by omega,bS o]
   rw [e,aa _ I]
   simp [bE,bS o]
  ·intro x D
   obtain⟨z,V,rfl⟩:=iQ.1 D
   have:=xF (j z (List.mem_of_mem_take V))
   rw [cH];omega
  ·have:=OM (H:=H) (lits .u64 (zs.take n')) (lits .u64 (zs.drop n'))
   have e:(lits (H:=H) .u64 (zs.take n')).length=n':=by simp [lits];omega
   omega
  ·intro W' he sp Z
   have hcell':∀i,i<zs.length→W'.cell? (a.add i)=some (a5 (zs.getD i 0)):=fun i hi=>he.cell (f i hi)
   by_cases U:zs.length=0
   ·have M:cap'=0:=by omega
    have O:n'=0:=by omega
    subst M;subst O
    have X:=shut_ints (enc:=enc) (w:=W') (base:=0) (spare:=sp) (held:=true) (a:=a) (len:=0) (cap:=0) (zs:=zs) 0 Tryz.underlying44 Tryz.underlying50 vM (cE _) (aZ _) Y (by simp [U]) hcell' j
    exact⟨2,X⟩
   ·have F:sp a.block=true:=Z (.cell a.block a.off) (MemPlace.mem_row.2 ⟨0,by omega,by simp⟩)
    have X:=shut_ints (enc:=enc) (w:=W') (base:=0) (spare:=sp) (held:=true) (a:=a) (len:=n') (cap:=cap') (zs:=zs) 0 Tryz.underlying44 Tryz.underlying50 vM (cE _) hl Y (by simp [F,hz]) hcell' j
    exact⟨2,X⟩
theorem IK {enc:aQ×aC→H}{c0 c1:aC}{x:DataW H×List MemPlace}(h:DataW.trod enc aG W 0 (fun _=>true) true fuel 46 [c0,c1]=some x):∃s A n cap z,c0= .bool s∧c1= a9 A n cap∧Zi W s A n cap z∧n+1≤Rows.uptoBulk x.1∧
   ∀W',Ext W W'→∀sp:Nat→Bool,(∀q∈x.2,sp q.block=true)→∃fuel',DataW.trod enc aG W' 0 sp true fuel' 46 [c0,c1]=some x:=by
 obtain⟨_,f1,D,r,F,t1,o⟩:=ML
 obtain⟨y0,y1,n,rfl,hl,h0,h1⟩:=trod_struct2 D h
 rw [r,F,CZ] at h0
 rw [t1,o,CX] at h1
 have j:(([c0,c1]:List aC).drop 0).take 1= [c0]:=rfl
 have I:(([c0,c1]:List aC).drop 1).take 1= [c1]:=rfl
 rw [j] at h0
 rw [I] at h1
 obtain⟨s,M,rfl⟩:=DataW.trod_bool Tryz.underlying4 h0
 obtain rfl:c0= .bool s:=by simpa using M
 obtain⟨A,k,cap,xs,rfl,O,hb,rx⟩:=IL (d:=y1.1) (p:=y1.2) h1
 refine⟨s,A,k,cap,_,rfl,rfl,⟨xs,O,rfl⟩,?_,?_⟩
 ·simp only [Rows.uptoBulk,Rows.uptoBulkAll];omega
 ·intro W' U sp e
  obtain⟨fu,f⟩:=rx W' U sp (fun q L=>e q (by simp [L]))
  refine⟨fu+1+1,trod_struct2_mk (y0:=(.lit (.bool s),[])) (y1:=y1) D hl ?_ ?_⟩
  ·rw [r,F,CZ,j]
   simp [DataW.trod,Tryz.underlying4]
  ·rw [t1,o,CX,I]
   exact DataW.trod_le (Nat.le_succ _) f
theorem FI (D:Nat→DataW H)(f:Nat→Nat)(n:Nat)(h:∀i,i<n→f i+1≤Rows.uptoBulk (D i)):((eV n).map f).sum+n≤Rows.uptoBulkAll ((eV n).map D):=by
 induction n with
 | zero=>simp [Rows.uptoBulkAll]
 | succ n ih=>
  have ih':=ih (fun i hi=>h i (by omega))
  have hn:=h n (by omega)
  rw [List.range_succ,List.map_append,List.map_append,List.sum_append,List.map_singleton,List.map_singleton]
  have e:∀(l:List (DataW H)) (x:DataW H),Rows.uptoBulkAll (l++ [x])=Rows.uptoBulkAll l+Rows.uptoBulk x:=by
   intro l x
   induction l with
   | nil=>simp [Rows.uptoBulkAll]
   | cons y r ihl=>simp only [oC,Rows.uptoBulkAll,ihl];omega
  rw [e]
  simp only [List.sum_singleton]
  omega
theorem MU {l:List aC}(h:l.length=2):∃a b,l= [a,b]:=by
 match l,h with
 | [a,b],_=>exact⟨a,b,rfl⟩
end
section
open Go.RowKit
theorem UpdO.of (h:w.grownBy w' none):UpdO A w w':=⟨⟨h.os,h.tape,h.output,h.size,fun k e _=>h.block k e (by simp)⟩⟩
theorem Upd.updO (h:Upd g w w'){o:Nat}{x:_}:UpdO (some ⟨g,o,x⟩) w w':=⟨h.by_⟩
theorem II {cs:List aC}(hv:cs.take k=vs)(hk:k≤cs.length):(fY cs k us).take (k+us.length)=vs++us:=by
 unfold fY
 have e:(cs.take k++us).length=k+us.length:=by rw [cK,cV,fK hk]
 rw [←e,List.take_left',hv]
 rfl
def Kept (w:a6)(A A':Option a8):Prop:=∀a',A'=some a'→(∃a,A=some a∧a'.block=a.block)∨w.heap.size≤a'.block
section
variable {P:bT}
theorem yN {z:aC}{s:Nat}(ht:P.underlying t=some (.slice e))(hinfo:(P.info? e).map (fun i=>(i.zero,i.size,i.bytes))=some (some z,s,bytes))(hzs:z.cells.size=s)(hsz:0<s)(hby:bytes≤64){xs:List aC}(hown:Own w base e s A n cap xs)(hb:base≤w.heap.size){a:a8}(hl:news.length=m*s)(hnews:∀j u,news[j]?=some u→w.cell? (a.add j)=some u)(h1:news.all (·.oneCell')=true)(hm:n+m≤1099511627776):∃A' cap' w',(lS #[t,t] ty #[a9 A n cap,a9 (some a) m c]).run P w= .ok (a9 A' (n+m) cap') w'∧Own w' base e s A' (n+m) cap' (xs++news)∧UpdO A w w'∧Kept w A A':=by
 obtain⟨i,hi,Y,o,q⟩:=info_parts hinfo
 have h1':∀u∈news,u.oneCell'=true:=by simpa [dZ] using h1
 have p:n+m≤maxLen:=by rw [eX];omega
 have h:(n+m)*bytes≤140737488355328:=by
  have:(n+m)*bytes≤1099511627776*64:=i2 hm hby
  omega
 rcases hown with⟨rfl,rfl,rfl,rfl⟩ | ⟨g,cs,rfl,hg,X,hn,M,W,L⟩
 ·obtain⟨v',w',hr,h2,V,_⟩:=run_append_own (P:=P) w w.heap.size t ty e i z s bytes ht hi Y o q hzs hsz (a9 none 0 0) 0 [] (World.ownsRow_nil w _ e s) a m c news hl hnews h1' p h (aZ _)
  obtain⟨A',cap',rfl,r⟩:=Own.of_row h2
  exact⟨A',cap',w',hr,r.mono hb,UpdO.of V,fun a' I=>cA (r.block a' I).1⟩
 ·by_cases f:n+m≤cap
  ·have Z:n*s+news.length≤cs.length:=by rw [hl,W,←dM];exact eG s f
   obtain⟨w',O,F,hu,_⟩:=tL (P:=P) news 0 (n*s) w cs X (by omega) h1'
   rw [dF] at F
   have D:=run_firstCells_some (P:=P) w i.size m a m c news (by rw [o];exact hl) hnews
   rw [o] at D
   refine⟨some ⟨g,0,none⟩,cap,w',?_,cA ⟨g,_,rfl,hg,F,f,M,?_,?_⟩,hu.updO,fun a' I=>bY ⟨_,rfl,by cases I;rfl⟩⟩
   ·simp [lS,gM ht,sizeOf,typeInfo,hi,sS,f,D,Addr.add_lit,o,O]
   ·unfold fY
    simp only [cK,cV,fN]
    omega
   ·rw [dM,←hl]
    exact II L (by omega)
  ·have hx:=L
   obtain⟨v',w',hr,h2,V⟩:=run_append_arg_grows (P:=P) w t ty e i z s bytes ht hi Y o q hzs hsz ⟨g,0,none⟩ n cap xs
    (by rw [←L,cV];have:=eG s hn;omega)
    (fun j u H=>by
     have U:=(eJ.1 H).1
     rw [g7,dY,X.cell (by rw [←L,cV] at U;omega)]
     rw [←L,iC] at H
     split at H
     ·rw [bE,H];rfl
     ·cases H) a m c news hl hnews (by omega) p h
   obtain⟨A',cap',rfl,r⟩:=Own.of_row h2
   exact⟨A',cap',w',hr,r.mono hb,UpdO.of V,fun a' I=>cA (r.block a' I).1⟩
variable {Q:cQ→Act→a6→Prop}{n:Nat}{l:Fr}{w:a6}{ops:Array aX}{rest:List aX}{d:Nat}{ty:aQ}{pos:String}{af:Array eA}{gd:Option (Nat×Bool)}
theorem fB {z:aC}{s:Nat}{a:a8}{xs:List aC}(hw:cF ops l gd=some true)(hx:bK l x=some (a9 A k cap))(hy:bK l y=some (a9 (some a) m c))(ht:P.underlying t=some (.slice e))(hinfo:(P.info? e).map (fun i=>(i.zero,i.size,i.bytes))=some (some z,s,bytes))(hzs:z.cells.size=s)(hown:Own w base e s A k cap xs)(hb:base≤w.heap.size)(news:List aC)(hl:news.length=m*s)(hnews:∀j u,news[j]?=some u→w.cell? (a.add j)=some u)(h1:news.all (·.oneCell')=true)(h:∀A' cap' w',Own w' base e s A' (k+m) cap' (xs++news)→UpdO A w w'→Kept w A A'→wl P ops Q n rest ((d,a9 A' (k+m) cap')::l) w')(hsz:0<s:=by decide)(hby:bytes≤64:=by decide)(hm:k+m≤1099511627776:=by omega)(hn:d<n:=by decide):wl P ops Q n (⟨some d,.call {callee:= .builtin .append,args:= #[x,y],argTypes:= #[t,t]},ty,pos,af,gd⟩::rest) l w:=by
 obtain⟨A',cap',w',hr,h2,p,o⟩:=yN (P:=P) (ty:=ty) ht hinfo hzs hsz hby hown hb hl hnews h1 hm
 refine dU hw hn (fun a' f=>?_) (h A' cap' w' h2 p o)
 unfold execOp
 simp only [resolve,invoke,builtin,bQ,eO,dE,List.map_toArray,List.map_cons,List.map_nil,f.ev hx,f.ev hy]
 rw [hr]
 rfl
end
theorem Own.updOT {s:Nat}{B:Option a8}(h:Own w b t s A n cap vs)(ho:Own w b' T s' B m c us)(hT:t≠T)(x:UpdO B w w'):Own w' b t s A n cap vs:=by
 refine h.updO x (fun p q e f j=>?_)
 rcases ho with⟨h1,_⟩ | ⟨k,cs,r,_,o,_⟩
 ·rw [h1] at e;cases e
 ·rcases h with⟨h2,_⟩ | ⟨k',cs',D,_,hk',_⟩
  ·rw [h2] at f;cases f
  ·rw [r] at e;rw [D] at f
   cases e;cases f
   simp only at j
   subst j
   unfold Bk at o hk'
   rw [o] at hk'
   injection hk' with hk'
   injection hk' with e1 e2
   exact hT e2.symm
theorem nA (A:Option a8)(c k:Nat):Value.slice (if c=0 then A else A.map (·.add (0*1))) (k-0) (c-0)= a9 A k c:=by
 have h0:A.map (·.add (0*1))=A:=by
  cases A with
  | none=>rfl
  | some a=>simp [iS]
 rw [h0,ite_self];rfl
theorem qK:Tryz.prog.underlying 134=some (.slice 44):=by kernel_rfl
theorem tK (w:a6):(sizeOf 44).run aG w= .ok 1 w:=by kernel_rfl
theorem vZ (w:a6):(isAgg 44).run aG w= .ok false w:=by kernel_rfl
theorem JX:(Tryz.prog.info? 44).map (fun i=>(i.zero,i.size,i.bytes))=some (some (a9 none 0 0),1,24):=by kernel_rfl
structure ZC where
 s:Bool
 A:Option a8
 n:Nat
 c:Nat
theorem JH {x:Int}(h1: -18446744073709551615≤x)(h2:x≤18446744073709551615):ln x≤1:=gI (by rw [cH,Nat.pow_one];omega)
theorem kG:Tryz.prog.underlying 22=some (.slice 46):=by kernel_rfl
theorem AY:(Tryz.prog.info? 46).map (fun i=>(i.zero,i.size,i.bytes))=some (some (G false none 0 0),2,32):=by kernel_rfl
def ZC.zero:ZC:=⟨false,none,0,0⟩
def k9 (e:ZC):List aC:= (J e.s e.A e.n e.c)
def fL:List ZC→List aC
 | []=> []
 | e::r=> .bool e.s:: .slice e.A e.n e.c::fL r
theorem sW:∀es:List ZC,(fL es).length=es.length*2
 | []=>rfl
 | e::r=>by simp only [fL,cS,sW r];omega
theorem wV:∀(es fs:List ZC),fL (es++fs)=fL es++fL fs
 | [],fs=>rfl
 | e::r,fs=>by simp only [fL,oC,wV r fs]
theorem qE:∀(es:List ZC) (i:Nat),i<es.length→(fL es)[i*2]?=some (.bool (es.getD i ZC.zero).s)
 | [],i,h=>by simp at h
 | e::r,0,h=>rfl
 | e::r,i+1,h=>by
  have:=qE r i (by simpa using h)
  simpa [fL,dM] using this
theorem qD:∀(es:List ZC) (i:Nat),i<es.length→(fL es)[i*2+1]?=some (.slice (es.getD i ZC.zero).A (es.getD i ZC.zero).n (es.getD i ZC.zero).c)
 | [],i,h=>by simp at h
 | e::r,0,h=>rfl
 | e::r,i+1,h=>by
  have:=qD r i (by simpa using h)
  simpa [fL,dM] using this
theorem wU:∀(es:List ZC) (i:Nat) (e:ZC),i<es.length→fY (fL es) (i*2) (k9 e)=fL (es.set i e)
 | [],i,e,h=>by simp at h
 | a::r,0,e,h=>by simp [fL,fY,k9]
 | a::r,i+1,e,h=>by
  have:=wU r i e (by simpa using h)
  simp only [fY,k9,cS,List.length_nil] at this⊢
  rw [show (i+1)*2=i*2+1+1 by omega,show i*2+1+1+(0+1+1)=i*2+(0+1+1)+1+1 by omega]
  simp only [fL,List.take_succ_cons,List.drop_succ_cons,oC,List.set_cons_succ,this]
theorem Zl.at (h:Zl w A n cap zs ms)(hi:i<n):∃p s B c,A.map (·.add (i*2))=some p∧(∀w',Ext w w'→∀(P:bT) (T:aQ),AggT P T 2→(loadVar T p).run P w'= .ok (.agg #[.bool s,a9 B (ms.getD i 0) c]) w')∧Zi w s B (ms.getD i 0) c (zs.getD i 0):=by
 obtain⟨a,s,B,c,rfl,h1,h2,f⟩:=h.get i hi
 refine⟨a.add (i*2),s,B,c,rfl,fun w' e P T q=>uN q [.bool s,a9 B (ms.getD i 0) c] E (fun j o=>?_),f⟩
 rw [pL]
 match j,o with
 | 0,_=>exact e.cell h1
 | 1,_=>exact e.cell h2
theorem Zr.updOT {B:Option a8}(h:Zr w b s A n cap z)(ho:Own w b' T s' B m c us)(x:UpdO B w w')(hT:50≠T:=by decide):Zr w' b s A n cap z:=
 ⟨h.sgn,h.len,h.own.updOT ho hT x⟩
def Zo (w:a6)(b:Nat)(s:Bool)(A:Option a8)(n cap:Nat)(z:Int):Prop:=∃xs,Own w b 50 1 A n cap (xs.map bG)∧Wf xs∧sg s (nv xs)=z
section
variable {w w':a6}{b:Nat}{s:Bool}{A:Option a8}{n cap:Nat}{z:Int}
theorem Zo.zi (h:Zo w b s A n cap z):Zi w s A n cap z:=by obtain⟨xs,h1,h2,e⟩:=h;exact⟨xs,h1.rd h2,e⟩
theorem Zo.ext (h:Zo w b s A n cap z)(x:Ext w w'):Zo w' b s A n cap z:=by obtain⟨xs,h1,h2⟩:=h;exact⟨xs,h1.ext x,h2⟩
theorem Zo.mono (h:Zo w b s A n cap z)(x:b'≤b):Zo w b' s A n cap z:=by obtain⟨xs,h1,h2⟩:=h;exact⟨xs,h1.mono x,h2⟩
theorem Zo.updT (h:Zo w b s A n cap z)(hb:Bk w g T us)(x:Upd g w w')(hT:50≠T:=by decide):Zo w' b s A n cap z:=by obtain⟨xs,h1,h2⟩:=h;exact⟨xs,h1.updT hb hT x,h2⟩
theorem Zo.updOT {B:Option a8}(h:Zo w b s A n cap z)(ho:Own w b' T s' B m c us)(x:UpdO B w w')(hT:50≠T:=by decide):Zo w' b s A n cap z:=by obtain⟨xs,h1,h2⟩:=h;exact⟨xs,h1.updOT ho hT x,h2⟩
end
def El (m:Option a6)(b:Nat)(w:a6)(e:ZC)(z:Int):Prop:=Zr w b e.s e.A e.n e.c z∨∃w0,m=some w0∧(Zi w0 e.s e.A e.n e.c z∨Zo w b e.s e.A e.n e.c z)
theorem El.ext {m:Option a6}{e:ZC}(h:El m b w e z)(x:Ext w w'):El m b w' e z:=h.imp (·.ext x) (fun⟨w0,h1,h2⟩=>⟨w0,h1,h2.imp id (·.ext x)⟩)
theorem El.updT {m:Option a6}{e:ZC}(h:El m b w e z)(hb:Bk w g T us)(x:Upd g w w')(hT:50≠T:=by decide):El m b w' e z:=h.imp (·.updT hb x hT) (fun⟨w0,h1,h2⟩=>⟨w0,h1,h2.imp id (·.updT hb x hT)⟩)
theorem El.mono {m:Option a6}{e:ZC}(h:El m b w e z)(x:b'≤b):El m b' w e z:=h.imp (·.mono x) (fun⟨w0,h1,h2⟩=>⟨w0,h1,h2.imp id (·.mono x)⟩)
theorem El.updOT {m:Option a6}{e:ZC}{B:Option a8}(h:El m b w e z)(ho:Own w b' T s' B n c us)(x:UpdO B w w')(hT:50≠T:=by decide):El m b w' e z:=h.imp (·.updOT ho x hT) (fun⟨w0,h1,h2⟩=>⟨w0,h1,h2.imp id (·.updOT ho x hT)⟩)
theorem El.zi {e:ZC}(h:El (some w0) b w e z)(x:Ext w0 w):Zi w e.s e.A e.n e.c z:=by
 rcases h with h | ⟨_,h1,h2⟩
 ·exact h.zi
 ·cases h1;exact h2.elim (·.ext x) (·.zi)
theorem El.zr {e:ZC}(h:El none b w e z):Zr w b e.s e.A e.n e.c z:=by
 rcases h with h | ⟨_,h1,h2⟩
 ·exact h
 ·cases h1
def Lz (m:Option a6)(K b:Nat)(w:a6)(lb:Nat)(A:Option a8)(n cap:Nat)(zs:List Int):Prop:=
 ∃es,Own w lb 46 2 A n cap (fL es)∧es.length=n∧zs.length=n∧∀i,i<n→(es.getD i ZC.zero).n≤K∧El m b w (es.getD i ZC.zero) (zs.getD i 0)
section
variable {m:Option a6}{K b lb:Nat}{w w':a6}{A:Option a8}{n cap:Nat}{zs:List Int}
theorem Lz.own (h:Lz m K b w lb A n cap zs):∃vs,Own w lb 46 2 A n cap vs:=by obtain⟨es,h1,_⟩:=h;exact⟨_,h1⟩
theorem Lz.block (h:Lz m K b w lb A n cap zs):∀a,A=some a→lb≤a.block∧a.block<w.heap.size:=by obtain⟨vs,h⟩:=h.own;exact h.block
theorem Lz.len (h:Lz m K b w lb A n cap zs):zs.length=n:=by obtain⟨es,h1,h2,e,_⟩:=h;exact e
theorem Lz.ext (h:Lz m K b w lb A n cap zs)(x:Ext w w'):Lz m K b w' lb A n cap zs:=by
 obtain⟨es,h1,h2,f,e⟩:=h
 exact⟨es,h1.ext x,h2,f,fun i hi=>⟨(e i hi).1,(e i hi).2.ext x⟩⟩
theorem Lz.updT (h:Lz m K b w lb A n cap zs)(hb:Bk w g T us)(x:Upd g w w')(hne:∀p,A=some p→p.block≠g)(hT:50≠T:=by decide):Lz m K b w' lb A n cap zs:=by
 obtain⟨es,h1,h2,f,e⟩:=h
 exact⟨es,h1.upd x hne,h2,f,fun i hi=>⟨(e i hi).1,(e i hi).2.updT hb x hT⟩⟩
theorem Lz.nil (m:Option a6)(K b:Nat)(w:a6)(lb:Nat):Lz m K b w lb none 0 0 []:=⟨[],Own.nil _ _ _ _,rfl,rfl,fun i hi=>by omega⟩
theorem Lz.mono {lb':Nat}(h:Lz m K b w lb A n cap zs)(hK:K≤K')(hb:b'≤b)(hl:lb'≤lb):Lz m K' b' w lb' A n cap zs:=by
 obtain⟨es,h1,h2,f,e⟩:=h
 exact⟨es,h1.mono hl,h2,f,fun i hi=>⟨aN (e i hi).1 hK,(e i hi).2.mono hb⟩⟩
theorem Lz.at (h:Lz m K b w lb A n cap zs)(hi:i<n):∃p s B k c,A.map (·.add (i*2))=some p∧(∀w',Ext w w'→∀(P:bT) (T:aQ),AggT P T 2→(loadVar T p).run P w'= .ok (G s B k c) w')∧k≤K∧El m b w ⟨s,B,k,c⟩ (zs.getD i 0):=by
 obtain⟨es,h1,h2,_,o⟩:=h
 obtain⟨a,f,q⟩:=h1.rv.get (i*2) (by omega)
 obtain⟨a',ha',hc'⟩:=h1.rv.get (i*2+1) (by omega)
 rw [f] at ha';cases ha'
 have H:=qE es i (by omega)
 have r:=qD es i (by omega)
 rw [bE,H] at q
 rw [bE,r] at hc'
 refine⟨a.add (i*2),_,_,_,_,by rw [f];rfl,fun w' e P T F=>uN F [.bool (es.getD i ZC.zero).s,.slice (es.getD i ZC.zero).A (es.getD i ZC.zero).n (es.getD i ZC.zero).c] E (fun j D=>?_),(o i hi).1,(o i hi).2⟩
 rw [pL]
 match j,D with
 | 0,_=>exact e.cell q
 | 1,_=>exact e.cell hc'
theorem Lz.zl (h:Lz (some w0) K b w lb A n cap zs)(x:Ext w0 w):∃ms,Zl w A n cap zs ms∧∀i,ms.getD i 0≤K:=by
 obtain⟨es,h1,h2,r,j⟩:=h
 have e:∀i,i<n→(es.map (·.n)).getD i 0=(es.getD i ZC.zero).n:=fun i hi=>by
  simp [bE,gR,bS (show i<es.length by omega)]
 refine⟨es.map (·.n),⟨r,by rw [List.length_map,h2],h1.rv.le,h1.rv.max,fun i hi=>?_⟩,fun i=>?_⟩
 ·obtain⟨a,f,o⟩:=h1.rv.get (i*2) (by omega)
  obtain⟨a',ha',hc'⟩:=h1.rv.get (i*2+1) (by omega)
  rw [f] at ha';cases ha'
  have q:=qE es i (by omega)
  have p:=qD es i (by omega)
  rw [bE,q] at o
  rw [bE,p] at hc'
  rw [e i hi]
  exact⟨a,_,_,_,f,o,hc',(j i hi).2.zi x⟩
 ·by_cases hi:i<n
  ·rw [e i hi];exact (j i hi).1
  ·rw [bE,kV (by rw [List.length_map];omega)];exact cE _
theorem uW {α:Type}{l r:List α}{d:α}(h:i<l.length:=by omega):(l++r).getD i d=l.getD i d:=by
 rw [bE,bE,List.getElem?_append_left h]
theorem uV {α:Type}{l r:List α}{a d:α}:(l++a::r).getD l.length d=a:=by
 rw [bE,List.getElem?_append_right (aZ _),Nat.sub_self];rfl
end
theorem jI (h:Kept w A A')(hg:g<w.heap.size)(hne:∀p,A=some p→p.block≠g):∀p,A'=some p→p.block≠g:=fun p f=>by
 rcases h p f with⟨a,j,e⟩ | e
 ·rw [e];exact hne a j
 ·omega
section
variable {Q:cQ→Act→a6→Prop}{N:Nat}{l:Fr}{w:a6}{ops:Array aX}{rest:List aX}{d:Nat}{ty:aQ}{pos:String}{af:Array eA}{gd:Option (Nat×Bool)}
theorem qI {m:Option a6}{e:ZC}(hw:cF ops l gd=some true)(hx:bK l x=some (a9 A n cap))(hy:bK l y=some (a9 (some ⟨g,0,none⟩) 1 c))(h:Lz m K b w lb A n cap zs)(hlb:lb≤w.heap.size)(hb:Bk w g 46 (k9 e))(he:El m b w e z)(hK:e.n≤K)(k:∀A' cap' w',Lz m K b w' lb A' (n+1) cap' (zs++ [z])→UpdO A w w'→Kept w A A'→wl aG ops Q N rest ((d,a9 A' (n+1) cap')::l) w')(hm:n≤1099511627775:=by omega)(hd:d<N:=by decide):wl aG ops Q N (⟨some d,.call {callee:= .builtin .append,args:= #[x,y],argTypes:= #[22,22]},ty,pos,af,gd⟩::rest) l w:=by
 obtain⟨es,h1,h2,q,D⟩:=h
 refine fB hw hx hy kG AY E h1 hlb (k9 e) E (fun j u r=>?_) E (hn:=hd) fun A' cap' w' F o H=>k A' cap' w' ?_ o H
 ·have p:j<(k9 e).length:=(eJ.1 r).1
  rw [g7,dY,hb.cell p,bE,r];rfl
 ·refine⟨es++ [e],by rw [wV];exact F,by simp [h2],by simp [q],fun i hi=>?_⟩
  by_cases f:i<n
  ·rw [uW,uW]
   exact⟨(D i f).1,(D i f).2.updOT h1 o⟩
  ·have I:i=n:=by omega
   subst I
   have M:(es++ [e]).getD i ZC.zero=e:=by rw [←h2];exact uV
   have L:(zs++ [z]).getD i 0=z:=by rw [←q];exact uV
   rw [M,L]
   exact⟨hK,he.updOT h1 o⟩
theorem x9 {m:Option a6}{p:a8}{e:ZC}(hw:cF ops l gd=some true)(hx:bK l x=some (.pointer (some p)))(hy:bK l y=some (G e.s e.A e.n e.c))(hp:A.map (·.add (i*2))=some p)(hi:i<n)(h:Lz m K b w lb A n cap zs)(he:El m b w e z)(hK:e.n≤K)(k:∀w',Lz m K b w' lb A n cap (zs.set i z)→UpdO A w w'→wl aG ops Q N rest l w'):wl aG ops Q N (⟨none,.store 46 x y,ty,pos,af,gd⟩::rest) l w:=by
 obtain⟨es,h1,h2,L,M⟩:=h
 have h1':=h1
 rcases h1 with⟨rfl,_⟩ | ⟨g,cs,rfl,O,U,hn,q,_,V⟩
 ·cases hp
 ·have hp':p=⟨g,i*2,none⟩:=by
   injection hp with hp
   rw [←hp]
   show (⟨g,0,none⟩:a8).add (i*2)=_
   rw [g7,dY]
  subst hp'
  have X:=eG 2 hn
  refine kX hw hx (us:=k9 e) hy eB E U (by omega) E _ E fun w' D r _=>k w' ⟨es.set i e,cA ⟨g,_,rfl,O,D,hn,q,?_,?_⟩,by simp [h2],by simp [L],fun j o=>?_⟩ r.updO
  ·unfold fY
   simp only [cK,cV,fN,k9,cS,List.length_nil]
   omega
  ·rw [←wU es i e (by omega),←V]
   have W:i*2+2≤n*2:=by omega
   have I:(k9 e).length=2:=rfl
   unfold fY
   rw [I,List.take_append,List.take_append,List.take_take,List.take_take,cK,cV,fK (by omega:i*2≤cs.length),I,Nat.min_eq_right (by omega),fK (by omega)]
   congr 1
   ·congr 1
    exact List.take_of_length_le (by rw [I];omega)
   ·rw [List.drop_take]
  ·by_cases f:j=i
   ·subst f
    have F:(es.set j e).getD j ZC.zero=e:=by simp [bE,h2,o]
    have H:(zs.set j z).getD j 0=z:=by simp [bE,L,o]
    rw [F,H]
    exact⟨hK,he.updOT h1' r.updO⟩
   ·have F:(es.set i e).getD j ZC.zero=es.getD j ZC.zero:=by simp [bE,lN f]
    have H:(zs.set i z).getD j 0=zs.getD j 0:=by simp [bE,lN f]
    rw [F,H]
    exact⟨(M j o).1,(M j o).2.updOT h1' r.updO⟩
end
section
variable {P:bT}
theorem HA {z:aC}(ht:P.underlying t=some (.slice e))(hinfo:(P.info? e).map (fun i=>(i.zero,i.size,i.bytes))=some (some z,1,bytes))(hzs:z.cells.size=1)(hby:bytes≤64)(hg:base≤g)(hb:base≤w.heap.size)(hk:Bk w g e [])(hr:Rv w 1 S m c news)(_h1:∀u∈news,u.oneCell'=true)(hm:m≤1099511627776):∃A' cap' w',(lS #[t,t] ty #[a9 (some ⟨g,0,none⟩) 0 0,a9 S m c]).run P w= .ok (a9 A' m cap') w'∧Own w' base e 1 A' m cap' news∧Ext w w':=by
 obtain⟨i,hi,U,H,D⟩:=info_parts hinfo
 have f:Own w base e 1 (some ⟨g,0,none⟩) 0 0 []:=Own.mk_ hg hk (aZ _) (cE _) E rfl
 have hl:=hr.len
 have q:m=0→news= []:=fun h=>List.eq_nil_of_length_eq_zero (by rw [hl,h])
 cases S with
 | none=>
  have h0:m=0:=by
   rcases gQ m with h0 | h0
   ·exact h0
   ·obtain⟨ad,h,_⟩:=hr.get 0 (by omega)
    cases h
  rw [q h0,h0]
  exact⟨_,_,w,H9 (P:=P) w base t ty e i 1 ht hi _ 0 [] f.row c,f,Ext.refl w⟩
 | some a=>
  by_cases h0:m=0
  ·rw [q h0,h0]
   have F:=run_firstCells_some (P:=P) (w:=w) i.size 0 a 0 c [] (by simp) (by simp)
   exact⟨_,_,w,by simp [lS,gM ht,sizeOf,typeInfo,hi,sS,F,storeCells],f,Ext.refl w⟩
  ·obtain⟨v',w',o,h2,O⟩:=run_append_arg_grows (P:=P) w t ty e i z 1 bytes ht hi U H D hzs (by decide) ⟨g,0,none⟩ 0 0 [] E (fun j u r=>by simp at r) a m c news hl
    (fun j u L=>by
     have r:j<news.length:=(eJ.1 L).1
     obtain⟨a',ha',V⟩:=hr.get j (by rw [←hl];exact r)
     cases ha'
     rw [V,←L,bE,bS r]
     rfl) (by omega) (by rw [eX];omega) (by
     have:(0+m)*bytes≤1099511627776*64:=i2 (by omega) hby
     omega)
   obtain⟨A',cap',rfl,I⟩:=Own.of_row h2
   rw [dY,List.nil_append] at I
   rw [dY] at o
   exact⟨A',cap',w',o,I.mono hb,(UpdO.of (A:=none) O).ext aF (fun p M=>by cases M)⟩
variable {Q:cQ→Act→a6→Prop}{n:Nat}{l:Fr}{w:a6}{ops:Array aX}{rest:List aX}{d:Nat}{ty:aQ}{pos:String}{af:Array eA}{gd:Option (Nat×Bool)}
theorem EL {z:aC}(hw:cF ops l gd=some true)(hx:bK l x=some (a9 (some ⟨g,0,none⟩) 0 0))(hy:bK l y=some (a9 S m c))(ht:P.underlying t=some (.slice e))(hinfo:(P.info? e).map (fun i=>(i.zero,i.size,i.bytes))=some (some z,1,bytes))(hzs:z.cells.size=1)(hby:bytes≤64)(hg:base≤g)(hb:base≤w.heap.size)(hk:Bk w g e [])(hr:Rv w 1 S m c news)(h1:∀u∈news,u.oneCell'=true)(hm:m≤1099511627776)(hn:d<n)(h:∀A' cap' w',Own w' base e 1 A' m cap' news→Ext w w'→wl P ops Q n rest ((d,a9 A' m cap')::l) w'):wl P ops Q n (⟨some d,.call {callee:= .builtin .append,args:= #[x,y],argTypes:= #[t,t]},ty,pos,af,gd⟩::rest) l w:=by
 obtain⟨A',cap',w',hr,h2,j⟩:=HA (P:=P) (ty:=ty) ht hinfo hzs hby hg hb hk hr h1 hm
 refine dU hw hn (fun a' f=>?_) (h A' cap' w' h2 j)
 unfold execOp
 simp only [resolve,invoke,builtin,bQ,eO,dE,List.map_toArray,List.map_cons,List.map_nil,f.ev hx,f.ev hy]
 rw [hr]
 rfl
end
theorem JC (k:Nat):(madeCells (Value.agg #[ik,a9 none 0 0]).cells (k*2)).toList=fL (cB k ZC.zero):=by
 refine List.ext_getElem ?_ fun j h1 h2=>?_
 ·rw [Array.length_toList,size_madeCells,sW,List.length_replicate]
 ·have q:j<k*2:=by simpa [size_madeCells] using h1
  have p:(madeCells (Value.agg #[ik,a9 none 0 0]).cells (k*2)).toList[j]= #[Value.bool false,a9 none 0 0][j%2]!:=by
   simp [madeCells,Value.cells]
  rw [p]
  have f:j/2<(cB k ZC.zero).length:=by rw [List.length_replicate];omega
  have o:(cB k ZC.zero).getD (j/2) ZC.zero=ZC.zero:=by
   rw [bE,List.getElem?_replicate];split <;> rfl
  rcases Nat.mod_two_eq_zero_or_one j with h | h
  ·have e:=qE (cB k ZC.zero) (j/2) f
   rw [show j/2*2=j by omega,bS h2,o] at e
   injection e with e
   rw [e,h];rfl
  ·have e:=qD (cB k ZC.zero) (j/2) f
   rw [show j/2*2+1=j by omega,bS h2,o] at e
   injection e with e
   rw [e,h];rfl
section
variable {Q:cQ→Act→a6→Prop}{N:Nat}{l:Fr}{w:a6}{ops:Array aX}{rest:List aX}{d:Nat}{ty:aQ}{pos:String}{af:Array eA}{gd:Option (Nat×Bool)}
theorem t7 (m:Option a6)(K b:Nat)(hw:cF ops l gd=some true)(hx:bK l x=some (a4 (k:Int)))(hy:bK l y=some (a4 (k:Int)))(h:∀g w',w.heap.size=g→Lz m K b w' g (some ⟨g,0,none⟩) k k (cB k 0)→Ext w w'→wl aG ops Q N rest ((d,a9 (some ⟨g,0,none⟩) k k)::l) w')(hk:k≤1099511627776:=by omega)(hd:d<N:=by decide):wl aG ops Q N (⟨some d,.makeSlice 22 x y,ty,pos,af,gd⟩::rest) l w:=by
 obtain⟨i,hi,o,q,j⟩:=info_parts AY
 have hr:=run_make (P:=aG) w 22 46 i _ kG hi o .i64 .i64 (k:Int) (k:Int) (by omega) (by omega) (by rw [j];omega) (by omega)
 rw [gC,q] at hr
 obtain⟨cs,p,e⟩:∃cs:List aC,madeCells (Value.agg #[.bool false,.slice none 0 0]).cells (k*2)=cs.toArray∧cs=fL (cB k ZC.zero):=⟨(madeCells (Value.agg #[ik,a9 none 0 0]).cells (k*2)).toList,Array.toArray_toList.symm,JC k⟩
 rw [p] at hr
 have f:cs.length=k*2:=by rw [e,sW,List.length_replicate]
 refine dU hw hd (fun a' D=>?_) (h _ (w.alloc (.cells cs.toArray 46)) E ⟨cB k ZC.zero,cA ⟨w.heap.size,cs,rfl,aZ _,Bk.new _ _ _,aZ _,by rw [eX];omega,f,by rw [List.take_of_length_le (by omega)];exact e⟩,List.length_replicate ..,List.length_replicate ..,fun i hi=>?_⟩ ((Ext.refl w).alloc _))
 ·have e':(mQ 22 (a'.eval x) (a'.eval y)).run aG w= .ok (a9 (some ⟨w.heap.size,0,none⟩) k k) (w.alloc (.cells cs.toArray 46)):=by rw [D.ev hx,D.ev hy];exact hr
  show ((mQ 22 (a'.eval x) (a'.eval y)>>=fun r=>pure (eP r):Sem eC)).run aG w=_
  rw [bQ,e'];rfl
 ·have F:(cB k ZC.zero).getD i ZC.zero=ZC.zero:=by rw [bE,List.getElem?_replicate];split <;> rfl
  have H:(cB k (0:Int)).getD i 0=0:=by rw [bE,List.getElem?_replicate];split <;> rfl
  rw [F,H]
  exact⟨cE _,bY Zr.zero⟩
end
def iU (zs:List Int)(n k:Nat):List Int:=zs.take k++cB (n-k) 0
theorem xL (zs:List Int)(n:Nat):cB n 0=iU zs n 0:=by simp [iU]
theorem xN (h:zs.length=n):iU zs n n=zs:=by simp [iU,←h]
theorem xM (h:zs.length=n)(hk:k<n):(iU zs n k).set k (zs.getD k 0)=iU zs n (k+1):=by
 unfold iU
 rw [List.set_append_right _ _ (by rw [cV];omega),cV,fK (by omega),Nat.sub_self,show n-k=(n-(k+1))+1 by omega,sJ,List.set_cons_zero]
 rw [show zs.take (k+1)=zs.take k++ [zs.getD k 0] by rw [List.take_add_one,bE,bS (by omega)];rfl,List.append_assoc]
 rfl
def ZOR (b:Nat)(s:Bool)(n:Nat)(z:Int)(v:aC)(w:a6):Prop:=∃A c,v= G s A n c∧Zo w b s A n c z
theorem ZOR.imp (h:b'≤b):∀v w,ZOR b s n z v w→ZOR b' s n z v w:=fun _ _ ⟨A,c,h1,h2⟩=>⟨A,c,h1,h2.mono h⟩
section
variable {P:bT}{Q:cQ→Act→a6→Prop}{n:Nat}{l:Fr}{w:a6}{ops:Array aX}{rest:List aX}{d:Nat}{op:Op}{ty:aQ}{pos:String}{af:Array eA}{gd:Option (Nat×Bool)}
def zI:fW→Bool
 | .eql=>false
 | .neq=>false
 | _=>true
theorem H2 {r:aC}(ho:zI o=true)(hb:(binOp o t u v).run P w= .ok r w):((do eqGuard o t x y u v;binOp o t u v):Sem aC).run P w= .ok r w:=by
 cases o <;> first | (cases ho;done) | (simp only [eqGuard,bQ];exact hb) | (simp [eqGuard,bQ,hb])
theorem iT {r:aC}(hw:cF ops l gd=some true)(hx:bK l x=some u)(hy:bK l y=some v)(ho:zI o=true)(hb:∀w,(binOp o t u v).run P w= .ok r w)(h:wl P ops Q n rest ((d,r)::l) w)(hn:d<n:=by decide):wl P ops Q n (⟨some d,.binOp o t x y t',ty,pos,af,gd⟩::rest) l w:=
 dU hw hn (fun a' f=>by
  have e:((do eqGuard o t x y (a'.eval x) (a'.eval y);binOp o t (a'.eval x) (a'.eval y)):Sem aC).run P w= .ok r w:=by
   rw [f.ev hx,f.ev hy];exact H2 ho (hb w)
  show ((((do eqGuard o t x y (a'.eval x) (a'.eval y);binOp o t (a'.eval x) (a'.eval y)):Sem aC)>>=fun r=>pure (eP r)):Sem eC).run P w=_
  rw [bQ,e];rfl) h
theorem eH {v':aC}(hw:cF ops l gd=some true)(hk:iJ l op=true)(e:v=v')(h:wl P ops Q n rest ((d,v')::l) w)(hn:d<n:=by decide)(hr:(execOp (rho l) ⟨some d,op,ty,pos,af,gd⟩).run P w= .ok (.value v) w:=by kernel_rfl):wl P ops Q n (⟨some d,op,ty,pos,af,gd⟩::rest) l w:=xA hw hk hn hr (by rw [e];exact h)
end
theorem jR {x:Nat}(h:x≤18446744073709551615):bP .u64 (IntKind.u64.wrap (x:Int))= a5 (x:Int):=by rw [IntWalk.u64_in _ ⟨by omega,by omega⟩]
theorem lF {x:Nat}(h:x≤9223372036854775807):bP .i64 (IntKind.i64.wrap (x:Int))= a4 (x:Int):=by rw [IntWalk.i64_in _ ⟨by omega,by omega⟩]
end
section
def sm:Nat→(Nat→Int)→Int
 | 0,_=>0
 | n+1,f=>sm n f+f n
def c1:Nat→Int
 | 0=>1
 | _+1=>0
abbrev Mx:=Nat→Nat→Int
def mm (n:Nat)(A B:Mx):Mx:=fun i j=>sm n fun k=>A i k*B k j
def m1:Mx:=fun i j=>if i=j then 1 else 0
def mp (n:Nat)(A:Mx):Nat→Mx
 | 0=>m1
 | k+1=>mm n (mp n A k) A
section
variable (n:Nat) (A:Mx)
def GU (t j:Nat):Int:=sm n fun i=>A n i*mp n A t i j
def hh (t:Nat):Int:=sm n fun j=>GU n A t j*A j n
end
end
section
open Go.RowKit
theorem dP:AggT aG 24 3:=⟨fun _=>by kernel_rfl,fun _=>by kernel_rfl⟩
theorem bL:∀w,(isAgg 3).run aG w= .ok false w:=fun _=>by kernel_rfl
theorem jS:∀w,(isAgg 22).run aG w= .ok false w:=fun _=>by kernel_rfl
theorem m4:∀w,(sizeOf 3).run aG w= .ok 1 w:=fun _=>by kernel_rfl
section
variable {P:bT}{Q:cQ→Act→a6→Prop}{n:Nat}{l:Fr}{w:a6}{ops:Array aX}{rest:List aX}{d:Nat}{ty:aQ}{pos:String}{af:Array eA}{gd:Option (Nat×Bool)}
theorem zZ {a:Act}(ha:Rp n l a):∀(xs:List bW) (vs:List aC),xs.map (bK l)=vs.map some→xs.map a.eval=vs
 | [],[],_=>rfl
 | [],_::_,h=>by cases h
 | _::_,[],h=>by cases h
 | x::xs,v::vs,h=>by
  simp only [List.map_cons,List.cons.injEq] at h
  rw [List.map_cons,ha.ev h.1,zZ ha xs vs h.2]
theorem tA {xs:Array bW}{k:FuncId}{cs:List aC}(vs:List aC){R:dL→a6→Prop}(hw:cF ops l gd=some true)(hx:bK l x=some (.func (.func k) #[] cs.toArray))(hxs:xs.toList.map (bK l)=vs.map some)(he:∀(args:Array aC) (w:a6),(callFunc k args).run P w= .ok (.enter k args) w)(hn:d<n)(hc:aU P k (vs++cs).toArray w R)(h:∀e w',R e w'→wC (fun v=>wl P ops Q n rest ((d,v)::l) w') e):wl P ops Q n (⟨some d,.call {callee:= .value x,args:=xs,argTypes:=ts},ty,pos,af,gd⟩::rest) l w:=fun a f=>by
 refine qG hw f fun K p=>?_
 have j:xs.map a.eval=vs.toArray:=by
  apply Array.ext'
  rw [Array.toList_map]
  exact zZ f _ _ hxs
 have q:(execOp a.eval ⟨some d,.call {callee:= .value x,args:=xs,argTypes:=ts},ty,pos,af,gd⟩).run P w= .ok (.enter k (vs++cs).toArray) w:=by
  unfold execOp
  simp only [resolve,f.ev hx,j,Deferred.ofValue,bQ,eO,dE,invoke]
  simp only [List.append_toArray,List.nil_append,he]
 unfold jW
 rw [q]
 refine hc.mono fun e w' o=>?_
 have:=h e w' o
 cases e with
 | returned v=>exact p _ _ (this _ (f.put hn v))
 | panicked c=>exact this.elim
 | outgrown=>exact this.elim
end
theorem lC (hi:i≤64)(hc:c≤64):i*c≤4096:=i2 hi hc
def LE (m:Option a6)(K b lb n:Nat)(zs:List Int)(v:aC)(w:a6):Prop:=∃A cap,v= a9 A n cap∧Lz m K b w lb A n cap zs
def MQ (R C:Int)(L:aC→a6→Prop)(v:aC)(w:a6):Prop:=∃lv,v= .agg #[a4 R,a4 C,lv]∧L lv w
def ZF (w:a6)(A:Option a8)(n cap K:Nat)(zs:List Int):Prop:=∃ms,Zl w A n cap zs ms∧∀i,ms.getD i 0≤K
theorem ZF.mono (h:ZF w A n cap K zs)(hK:K≤K'):ZF w A n cap K' zs:=by
 obtain⟨ms,h1,h2⟩:=h
 exact⟨ms,h1,fun i=>aN (h2 i) hK⟩
theorem El.som {e:ZC}(h:El none b w e z):El (some w0) b w e z:=by
 rcases h with h | ⟨_,h1,h2⟩
 ·exact bY h
 ·cases h1
theorem Lz.som (h:Lz none K b w lb A n cap zs):Lz (some w0) K b w lb A n cap zs:=by
 obtain⟨es,h1,h2,f,e⟩:=h
 exact⟨es,h1,h2,f,fun i hi=>⟨(e i hi).1,(e i hi).2.som⟩⟩
theorem Lz.zf (h:Lz (some w0) K b w lb A n cap zs)(x:Ext w0 w):ZF w A n cap K zs:=h.zl x
theorem Lz.zf0 (h:Lz none K b w lb A n cap zs):ZF w A n cap K zs:=(h.som (w0:=w)).zl aF
theorem ZF.ln (h:ZF w A n cap K zs)(i:Nat):ln (zs.getD i 0)≤K:=by
 obtain⟨ms,h1,h2⟩:=h
 by_cases hi:i<n
 ·obtain⟨p,s,B,c,_,_,e⟩:=h1.at hi
  exact aN e.ln (h2 i)
 ·rw [bE,kV (by rw [h1.len];omega)];exact cE _
theorem ZF.len (h:ZF w A n cap K zs):zs.length=n:=by
 obtain⟨ms,h1,h2⟩:=h
 exact h1.len
theorem ZF.ext (h:ZF w A n cap K zs)(e:Ext w w'):ZF w' A n cap K zs:=by
 obtain⟨ms,h1,h2⟩:=h
 exact⟨ms,h1.ext e,h2⟩
theorem AJ {x:Int}(h:ln x=0):x=0:=by
 have:=kE.1 (show (wd x.natAbs).length=0 from h)
 omega
theorem lA {x:Nat}(h:x≤18446744073709551615):ln ((x:Nat):Int)≤1:=JH (by omega) (by omega)
theorem EM {x:Int}(h:x≠0):(wd x.natAbs).getD (ln x-1) 0≠0:=by
 have h1:=CM (b:=WB) (by decide) x.natAbs
 rw [←ER] at h1
 have h2:(wd x.natAbs).length≠0:=fun e=>h (AJ e)
 rcases h1 with h1 | h1
 ·exact absurd h1 h2
 ·exact h1
theorem kD {s1 s2 s3 s4:Bool}{A1 A2 A3 A4:Option a8}{n1 n2 n3 n4 c1 c2 c3 c4:Nat}{x1 x2 x3 x4:Int}(hl:lb≤g)(hb:Bk w g 46 [.bool s1,a9 A1 n1 c1,.bool s2,a9 A2 n2 c2,.bool s3,a9 A3 n3 c3,.bool s4,a9 A4 n4 c4])(h1:Zr w b s1 A1 n1 c1 x1)(h2:Zr w b s2 A2 n2 c2 x2)(h3:Zr w b s3 A3 n3 c3 x3)(h4:Zr w b s4 A4 n4 c4 x4)(k1:n1≤K)(k2:n2≤K)(k3:n3≤K)(k4:n4≤K):Lz none K b w lb (some ⟨g,0,none⟩) 4 4 [x1,x2,x3,x4]:=
 ⟨[⟨s1,A1,n1,c1⟩,⟨s2,A2,n2,c2⟩,⟨s3,A3,n3,c3⟩,⟨s4,A4,n4,c4⟩],Own.mk_ hl hb (by decide) (by decide) E rfl,rfl,rfl,fun i hi=>by
  match i,hi with
  | 0,_=>exact⟨k1,bY h1⟩
  | 1,_=>exact⟨k2,bY h2⟩
  | 2,_=>exact⟨k3,bY h3⟩
  | 3,_=>exact⟨k4,bY h4⟩⟩
theorem D6 {r c:Int}(hr:0≤r∧r≤64)(hc:0≤c∧c≤64):dD .mul .i64 r c=some (r*c):=by
 obtain⟨a,rfl⟩:∃a:Nat,r=a:=⟨r.toNat,by omega⟩
 obtain⟨d,rfl⟩:∃d:Nat,c=d:=⟨c.toNat,by omega⟩
 have h:=i2 (show a≤64 by omega) (show d≤64 by omega)
 rw [lK (a:=a) (b:=d) E rfl,gD]
def jV (R C:Int)(n:Nat):Prop:=(0≤R∧R≤64)∧(0≤C∧C≤64)∧(n:Int)=R*C
theorem kI {b:Int}(h:a≤b):c8 .leq a b=some true:=by simp only [c8,decide_eq_true h]
theorem rU {b:Int}(h:¬a≤b):c8 .leq a b=some false:=by simp only [c8,decide_eq_false h]
theorem lI {b:Int}(h:a≥b):c8 .geq a b=some true:=by simp only [c8,decide_eq_true h]
theorem CW {b:Int}(h:¬a≥b):c8 .geq a b=some false:=by simp only [c8,decide_eq_false h]
theorem O6 {b:Int}(h:a=b):c8 .eql a b=some true:=by subst h;simp [c8]
theorem O7 {b:Int}(h:a≠b):c8 .eql a b=some false:=by simp [c8,h]
def B1 (b:Nat)(z:Int)(v:aC)(w:a6):Prop:=∃g s A n c,v= a9 (some ⟨g,0,none⟩) 1 1∧Bk w g 46 (J s A n c)∧Zr w b s A n c z
end
section
open Go.ChangeShapes Go.WideShapes Go.ChangeAt Go.RowKit
theorem IJ {enc:aQ×aC→H}{d:DataW H}(hf:DataW.trod enc aG W 0 (fun _=>true) true fuel 22 [v]=some (d,p)):∃A n cap zs ms,v= a9 A n cap∧Zl W A n cap zs ms∧n+ms.sum≤Rows.uptoBulk d:=by
 rcases Go.Deep.open_slice Tryz.underlying22 hf with⟨f,I⟩ | ⟨a,n,cap,m,k,D,Pl,f,_,hl,X,h,I,hi⟩
 ·obtain rfl:=List.singleton_inj.1 f
  exact⟨none,0,0,[],[],rfl,⟨rfl,rfl,aZ _,by decide,fun i hi=>by omega⟩,by simp⟩
 ·obtain rfl:=List.singleton_inj.1 f
  simp only [if_true] at h
  have hmm':=h.symm
  subst hmm'
  simp only [Prod.mk.injEq] at I
  obtain⟨rfl,rfl⟩:=I
  rw [OC] at hi
  have r:∀i,i<cap→∃(q:Bool×Option a8×Nat×Nat×Int),W.cell? (a.add (i*2))=some (.bool q.1)∧W.cell? (a.add (i*2+1))=some (a9 q.2.1 q.2.2.1 q.2.2.2.1)∧Zi W q.1 q.2.1 q.2.2.1 q.2.2.2.1 q.2.2.2.2∧q.2.2.1+1≤Rows.uptoBulk (D i):=by
   intro i o
   obtain⟨cs',hc,ht'⟩:=hi i o
   obtain⟨_,L,j⟩:=World.cells?_some hc
   obtain⟨Z,c1,rfl⟩:=MU L
   have F:DataW.trod enc aG W 0 (fun _=>true) true k 46 [Z,c1]=some (D i,Pl i):=ht'
   obtain⟨s,B,nb,c,z,rfl,rfl,U,hb,rx⟩:=IK F
   refine⟨(s,B,nb,c,z),?_,?_,U,hb⟩
   ·have:=j 0 (by simp)
    simpa [Go.Deep.add_add] using this
   ·have:=j 1 (by simp)
    simpa [Go.Deep.add_add] using this
  obtain⟨Q,M⟩:=Go.Deep.choose_lt r
  refine⟨some a,n,cap,(eV n).map (fun i=>(Q i).2.2.2.2),(eV n).map (fun i=>(Q i).2.2.1),rfl,⟨by simp,by simp,hl,X,fun i e=>?_⟩,?_⟩
  ·obtain⟨h1,h2,V,_⟩:=M i (by omega)
   have Y:((eV n).map (fun i=>(Q i).2.2.1)).getD i 0=(Q i).2.2.1:=by simp [bE,e]
   have O:((eV n).map (fun i=>(Q i).2.2.2.2)).getD i 0=(Q i).2.2.2.2:=by simp [bE,e]
   rw [Y,O]
   exact⟨a,_,_,_,rfl,h1,h2,V⟩
  ·have:=FI D (fun i=>(Q i).2.2.1) n (fun i e=>(M i (by omega)).2.2.2)
   simp only [Rows.uptoBulk]
   omega
theorem xV {α:Type}{l:List α}(h:l.length=3):∃a b c,l= [a,b,c]:=by
 match l,h with
 | [a,b,c],_=>exact⟨a,b,c,rfl⟩
theorem MK:∃f0 f1 f2:Field,Tryz.prog.underlying 24=some (.struct #[f0,f1,f2])∧f0.type=3∧f0.offset=0∧f1.type=3∧f1.offset=1∧f2.type=22∧f2.offset=2:=
 ⟨_,_,_,Tryz.underlying24,rfl,rfl,rfl,rfl,rfl,rfl⟩
theorem O8:Tryz.prog.cellsOf 24=3:=by kernel_rfl
theorem CY:Tryz.prog.cellsOf 3=1:=by kernel_rfl
theorem O9:Tryz.prog.cellsOf 22=1:=by kernel_rfl
theorem IM {enc:aQ×aC→H}{d:DataW H}(hval:Value.okWide aG W .any base 24 v)(h:DataW.Trod enc aG W 0 (fun _=>true) true 24 v d p):∃(R C:Int) (A:Option a8) (n c:Nat) (zs:List Int) (ms:List Nat),v= .agg #[a4 R,a4 C,a9 A n c]∧Zl W A n c zs ms∧n+ms.sum≤Rows.uptoBulk d:=by
 obtain⟨Y,f1,f2,U,t0,o0,t1,o1,t2,Z⟩:=MK
 obtain⟨fuel,o⟩:=h
 obtain⟨ys,n,_,V,e,j,hf⟩:=DataW.trod_struct U o
 rw [O8] at e
 obtain⟨F,c1,q,r⟩:=xV e
 obtain⟨y0,y1,I,rfl⟩:=xV (show ys.length=3 from j)
 obtain⟨vs,rfl⟩:∃vs:Array aC,v= .agg vs:=by
  obtain⟨cs,h1,_⟩:=okWide_struct U hval
  exact⟨cs,h1⟩
 have D:vs.toList= [F,c1,q]:=r
 obtain rfl:vs= #[F,c1,q]:=by
  have:=congrArg List.toArray D
  simpa using this
 have M:=hf 0 Y rfl
 have O:=hf 1 f1 rfl
 have L:=hf 2 f2 rfl
 rw [t0,o0,CY] at M
 rw [t1,o1,CY] at O
 rw [t2,Z,O9] at L
 obtain⟨R,hR,_,_⟩:=DataW.trod_int Tryz.underlying3 (show DataW.trod enc aG W 0 (fun _=>true) true n 3 [F]=some y0 from M)
 obtain⟨C,X,_,_⟩:=DataW.trod_int Tryz.underlying3 (show DataW.trod enc aG W 0 (fun _=>true) true n 3 [c1]=some y1 from O)
 obtain⟨A,m,cap,zs,ms,rfl,f,_⟩:=IJ (d:=I.1) (p:=I.2) (show DataW.trod enc aG W 0 (fun _=>true) true n 22 [q]=some I from L)
 obtain rfl:=List.singleton_inj.1 hR
 obtain rfl:=List.singleton_inj.1 X
 simp only [Prod.mk.injEq] at V
 obtain⟨rfl,_⟩:=V
 refine⟨R,C,A,m,cap,zs,ms,rfl,f,?_⟩
 simp only [Rows.uptoBulk,List.map_cons,Rows.uptoBulkAll]
 omega
theorem Zl.mat0 (h:Zl w A n c zs ms):ZF w A n c ms.sum zs:=⟨ms,h,fun i=>B7 ms i⟩
end
section
def enc (r:Nat):List Nat:=if r<128 then [r] else [192+r/64,128+r%64]
def bM (rs:List Nat):List Nat:=rs.flatMap enc
def cD (rs:List Nat)(k:Nat):Nat:=(bM (rs.take k)).length
def aM (r:Nat):Nat:=
 if r=32∨r=9∨r=160 then 1 else if r=35 then 2 else if 48≤r∧r≤57 then 3
 else if (97≤r∧r≤122)∨(65≤r∧r≤90)∨r=95 then 4
 else if r=233 then 4 else if r∈ [43,45,42,94,39,40,41,91,93,123,125,44,59,58,61] then 5 else 6
def Rch (r:Nat):Prop:=r<128∨r=160∨r=233
theorem CC (h:r<128):enc r= [r]:=if_pos h
theorem CB (r:Nat):1≤(enc r).length:=by unfold enc;split <;> simp
theorem MT (h:Rch r):∀b,b∈enc r→b<256:=fun b hb=>by
 unfold enc at hb
 rcases h with h | rfl | rfl
 ·rw [if_pos h,fT] at hb;omega
 ·simp at hb;omega
 ·simp at hb;omega
theorem nP (a b:List Nat):bM (a++b)=bM a++bM b:=List.flatMap_append
theorem rP:∀{l:List Nat},(∀c,c∈l→c<128)→bM l=l
 | [],_=>rfl
 | c::l,h=>by
  show enc c++bM l=_
  rw [CC (h c (by simp)),rP fun x hx=>h x (by simp [hx])];rfl
theorem MR (h:∀c,c∈l→Rch c):∀b,b∈bM l→b<256:=fun b hb=>by
 obtain⟨c,e,hb⟩:=List.mem_flatMap.1 hb
 exact MT (h c e) b hb
theorem FE (h:k<l.length):l.take (k+1)=l.take k++ [l.getD k 0]:=by
 rw [List.take_add_one,bS h,bE,bS h];rfl
theorem uD {rs:List Nat}(h:k<rs.length):cD rs (k+1)=cD rs k+(enc (rs.getD k 0)).length:=by
 unfold cD
 rw [FE h,nP,cK]
 show _+((enc _++ []).length)=_
 rw [fA]
theorem IQ (rs:List Nat)(h:rs.length≤k):cD rs k=(bM rs).length:=by unfold cD;rw [List.take_of_length_le h]
theorem oU (rs:List Nat)(k:Nat):cD rs k≤(bM rs).length:=by
 have:bM rs=bM (rs.take k)++bM (rs.drop k):=by rw [←nP,kT]
 rw [this,cK];exact Nat.le_add_right _ _
theorem zD {rs:List Nat}(h:k<rs.length):cD rs k<(bM rs).length:=by
 have h1:=uD h;have h2:=oU rs (k+1);have:=CB (rs.getD k 0);omega
theorem vB (rs:List Nat)(k:Nat):(bM rs).drop (cD rs k)=bM (rs.drop k):=by
 have:bM rs=bM (rs.take k)++bM (rs.drop k):=by rw [←nP,kT]
 rw [this];exact List.drop_left
theorem MS {rs:List Nat}(h:k<rs.length):(bM rs).drop (cD rs k)=enc (rs.getD k 0)++bM (rs.drop (k+1)):=by
 rw [vB,mP h,bE,bS h];rfl
theorem rK (l:List Nat)(k j:Nat):(l.drop k).getD j 0=l.getD (k+j) 0:=by
 rw [bE,lR,bE]
theorem C9 {rs:List Nat}(h:k<rs.length)(hj:j<(enc (rs.getD k 0)).length):(bM rs).getD (cD rs k+j) 0=(enc (rs.getD k 0)).getD j 0:=by
 rw [←rK,MS h,bE (i:=j),List.getElem?_append_left hj,←bE]
theorem BC {rs:List Nat}(h:∀c,c∈rs→Rch c)(hk:k<rs.length):Rch (rs.getD k 0):=by
 rw [bE,bS hk];exact h _ (jA hk)
theorem Rch.lt (h:Rch r):r<234:=by rcases h with h | h | h <;> omega
inductive Pc where
 | blank (r:Nat)
 | num (ds:List Nat)
 | nam (ls:List Nat)
 | mark (r:Nat)
 | com (cs:List Nat)
abbrev Tk:=Nat×List Nat
def Pc.rs:Pc→List Nat
 | .blank r=> [r]
 | .num ds=>ds
 | .nam ls=>ls
 | .mark r=> [r]
 | .com cs=>35::cs
def Pc.tk:Pc→List Tk
 | .num ds=> [(1,ds)]
 | .nam ls=> [(2,ls)]
 | .mark r=> [(3,[r])]
 | _=> []
def jU (t:List Nat):Prop:=∀c,t.head?=some c→aM c≠3∧aM c≠4
def Pc.ok (t:List Nat):Pc→Prop
 | .blank r=>aM r=1∧Rch r
 | .num ds=>ds≠ []∧(∀c,c∈ds→aM c=3)∧jU t
 | .nam ls=>ls≠ []∧aM (ls.headD 0)=4∧(∀c,c∈ls→c<128∧(aM c=3∨aM c=4))∧ls.length≤32∧jU t
 | .mark r=>aM r=5
 | .com cs=>(∀c,c∈cs→Rch c)∧t= []
def aR (l:List Pc):List Nat:=l.flatMap Pc.rs
def dO (l:List Pc):List Tk:=l.flatMap Pc.tk
theorem jE (a b:List Pc):aR (a++b)=aR a++aR b:=List.flatMap_append
theorem gS (a b:List Pc):dO (a++b)=dO a++dO b:=List.flatMap_append
theorem qW (p:Pc)(b:List Pc):aR (p::b)=p.rs++aR b:=rfl
theorem F9 (p:Pc)(b:List Pc):dO (p::b)=p.tk++dO b:=rfl
def okL:List Pc→List Nat→Prop
 | [],_=>True
 | p::q,t=>p.ok (aR q++t)∧okL q t
theorem jH:∀{a b:List Pc}{t:List Nat},okL (a++b) t↔okL a (aR b++t)∧okL b t
 | [],b,t=>by show okL b t↔True∧okL b t;rw [true_and]
 | p::a,b,t=>by
  show p.ok (aR (a++b)++t)∧okL (a++b) t↔(p.ok (aR a++(aR b++t))∧okL a (aR b++t))∧okL b t
  rw [jH,jE,List.append_assoc,and_assoc]
theorem jJ:aM c=3↔48≤c∧c≤57:=by
 unfold aM
 repeat' split
 all_goals (constructor <;> intro h <;> first | omega | simp_all)
theorem uP (h:aM c=5):c<128:=by
 unfold aM at h
 repeat' split at h
 all_goals first | omega | skip
 rename_i h1
 simp only [i6,List.not_mem_nil,or_false] at h1
 omega
theorem AU (c:Nat):aM c≠0:=by
 unfold aM
 repeat' split
 all_goals omega
theorem Pc.ok.rn {p:Pc}{t:List Nat}(h:p.ok t):∀c,c∈p.rs→Rch c:=fun c e=>by
 cases p with
 | blank r=>rw [Pc.rs,fT] at e;subst e;exact h.2
 | num ds=>have:=jJ.1 (h.2.1 c e);exact bY (by omega)
 | nam ls=>exact bY (h.2.2.1 c e).1
 | mark r=>rw [Pc.rs,fT] at e;subst e;exact bY (uP h)
 | com cs=>
  rcases i6.1 e with rfl | e
  ·exact bY (by decide)
  ·exact h.1 c e
theorem okL.rn:∀{l:List Pc}{t:List Nat},okL l t→∀c,c∈aR l→Rch c
 | [],_,_,c,hc=>absurd hc (by simp [aR])
 | p::l,t,h,c,hc=>by
  rcases eQ.1 hc with hc | hc
  ·exact h.1.rn c hc
  ·exact okL.rn h.2 c hc
theorem Pc.rs_ne {p:Pc}{t:List Nat}(h:p.ok t):p.rs≠ []:=by
 cases p with
 | blank r=>simp [Pc.rs]
 | num ds=>exact h.1
 | nam ls=>exact h.1
 | mark r=>simp [Pc.rs]
 | com cs=>simp [Pc.rs]
def jn {α:Type}(s:List α):List (List α)→List α
 | []=> []
 | [x]=>x
 | x::y::r=>x++s++jn s (y::r)
theorem uQ {α β:Type}(f:α→List β)(s:List α):∀l:List (List α),(jn s l).flatMap f=jn (s.flatMap f) (l.map (·.flatMap f))
 | []=>rfl
 | [x]=>rfl
 | x::y::r=>by
  show (x++s++jn s (y::r)).flatMap f=_
  rw [List.flatMap_append,List.flatMap_append,uQ f s (y::r)];rfl
def dC {α:Type}:Nat→Nat→List α→List (List α)
 | 0,_,_=> []
 | R+1,C,zs=>zs.take C::dC R C (zs.drop C)
theorem nB {α:Type}:∀(R C:Nat) (zs:List α),(dC R C zs).length=R
 | 0,_,_=>rfl
 | R+1,C,zs=>by rw [dC,cS,nB R C]
theorem tW {α:Type}:∀{R C:Nat}{zs:List α},zs.length=R*C→∀r,r∈dC R C zs→r.length=C
 | 0,_,_,_,r,hr=>absurd hr (by simp [dC])
 | R+1,C,zs,h,r,hr=>by
  rw [gN] at h
  rcases i6.1 hr with rfl | hr
  ·rw [cV];omega
  ·exact tW (by rw [fN];omega) r hr
theorem oR {α:Type}:∀{R C:Nat}{zs:List α},zs.length=R*C→(dC R C zs).flatten=zs
 | 0,C,zs,h=>by rw [mL] at h;rw [List.length_eq_zero_iff.1 h];rfl
 | R+1,C,zs,h=>by
  rw [gN] at h
  rw [dC,List.flatten_cons,oR (by rw [fN];omega),kT]
theorem yO {α β:Type}(f:α→β):∀(R C:Nat) (zs:List α),(dC R C zs).map (·.map f)=dC R C (zs.map f)
 | 0,_,_=>rfl
 | R+1,C,zs=>by rw [dC,dC,List.map_cons,yO f R C,j9,mO]
theorem tV {α:Type}:∀{R C:Nat}{zs:List α}{i:Nat},i<R→(dC R C zs)[i]?=some ((zs.drop (i*C)).take C)
 | 0,_,_,_,h=>absurd h (Nat.not_lt_zero _)
 | R+1,C,zs,0,_=>by rw [mL];rfl
 | R+1,C,zs,i+1,h=>by
  rw [dC,List.getElem?_cons_succ,tV (by omega),List.drop_drop,gN,Nat.add_comm]
section
variable (tx:Nat→List Nat)
def dV (z:Int):List Nat:=if z<0 then 45::tx z.natAbs else tx z.natAbs
def hJ (z:Int):List Pc:=if z<0 then [.mark 45,.num (tx z.natAbs)] else [.num (tx z.natAbs)]
def gE (r:List Int):List Pc:=jn [.blank 32] (r.map (hJ tx))
def jL (l:List (List Int)):List Pc:=jn [.mark 59,.blank 32] (l.map (gE tx))
def gY (R C:Nat)(zs:List Int):List Pc:=
 if zs= [] then [.mark 91,.num (tx R),.mark 58,.num (tx C),.mark 93] else [.mark 91]++jL tx (dC R C zs)++ [.mark 93]
def bR (R C:Nat)(zs:List Int):List Nat:=
 if zs= [] then [91]++tx R++ [58]++tx C++ [93] else [91]++jn [59,32] ((dC R C zs).map fun r=>jn [32] (r.map (dV tx)))++ [93]
theorem MP (z:Int):aR (hJ tx z)=dV tx z:=by
 unfold hJ dV
 split
 ·show [45]++(tx z.natAbs++ [])=_;rw [fA];rfl
 ·show tx z.natAbs++ []=_;rw [fA]
theorem HO (r:List Int):aR (gE tx r)=jn [32] (r.map (dV tx)):=by
 unfold gE aR
 rw [uQ,List.map_map]
 have:((fun x:List Pc=>x.flatMap Pc.rs)∘hJ tx)=dV tx:=funext fun z=>MP tx z
 rw [this];rfl
theorem KI (l:List (List Int)):aR (jL tx l)=jn [59,32] (l.map fun r=>jn [32] (r.map (dV tx))):=by
 unfold jL aR
 rw [uQ,List.map_map]
 have:((fun x:List Pc=>x.flatMap Pc.rs)∘gE tx)=fun r=>jn [32] (r.map (dV tx)):=funext fun r=>HO tx r
 rw [this];rfl
theorem rC (R C:Nat)(zs:List Int):aR (gY tx R C zs)=bR tx R C zs:=by
 unfold gY bR
 split
 ·show [91]++(tx R++([58]++(tx C++([93]++ []))))=_;simp
 ·rw [jE,jE,KI];rfl
def jO (z:Int):List Tk:=if z<0 then [(3,[45]),(1,tx z.natAbs)] else [(1,tx z.natAbs)]
def eW (r:List Int):List Tk:=r.flatMap (jO tx)
def gT:List (List Int)→List Tk
 | []=> [(3,[93])]
 | r::l=>(3,[59])::(eW tx r++gT l)
def f6 (R C:Nat)(zs:List Int):List Tk:=
 if zs= [] then [(3,[91]),(1,tx R),(3,[58]),(1,tx C),(3,[93])] else
  match dC R C zs with
  | []=> []
  | r::l=>(3,[91])::(eW tx r++gT tx l)
theorem C7 (z:Int):dO (hJ tx z)=jO tx z:=by unfold hJ jO;split <;> rfl
theorem tX:∀r:List Int,dO (gE tx r)=eW tx r
 | []=>rfl
 | [z]=>by show dO (hJ tx z)=jO tx z++ [];rw [C7,fA]
 | z::y::r=>by
  show dO (hJ tx z++ [.blank 32]++gE tx (y::r))=jO tx z++eW tx (y::r)
  rw [gS,gS,C7,tX (y::r)]
  show jO tx z++ []++_=_
  rw [fA]
theorem B5:∀(r:List Int) (l:List (List Int)),dO (jL tx (r::l)++ [.mark 93])=eW tx r++gT tx l
 | r,[]=>by rw [gS];show dO (gE tx r)++_=_;rw [tX];rfl
 | r,s::l=>by
  show dO ((gE tx r++ [.mark 59,.blank 32]++jL tx (s::l))++ [.mark 93])=_
  rw [List.append_assoc,gS,B5 s l,gS,tX,List.append_assoc]
  rfl
theorem zW {R C:Nat}(h:zs.length=R*C):dO (gY tx R C zs)=f6 tx R C zs:=by
 unfold gY f6
 split
 ·rfl
 ·rename_i e
  cases hr:dC R C zs with
  | nil=>
   have:=oR h
   rw [hr] at this
   exact absurd this.symm e
  | cons r l=>
   rw [List.append_assoc,gS,B5];rfl
variable {tx:Nat→List Nat}
def mH (tx:Nat→List Nat):Prop:=∀m,tx m≠ []∧∀c,c∈tx m→aM c=3
theorem mY {t:List Nat}(h3:aM c≠3:=by decide)(h4:aM c≠4:=by decide):jU (c::t):=fun d e=>by
 rw [List.head?_cons,dR] at e;subst e;exact⟨h3,h4⟩
theorem C8 (hd:mH tx){t:List Nat}(h:jU t):okL (hJ tx z) t:=by
 unfold hJ
 split
 ·exact⟨(show aM 45=5 by decide),⟨(hd _).1,(hd _).2,(show jU ([]++t) from h)⟩,i3⟩
 ·exact⟨⟨(hd _).1,(hd _).2,(show jU ([]++t) from h)⟩,i3⟩
theorem tY (hd:mH tx):∀{r:List Int}{t:List Nat},jU t→okL (gE tx r) t
 | [],_,_=>trivial
 | [z],t,h=>C8 hd h
 | z::y::r,t,h=>by
  show okL (hJ tx z++ [.blank 32]++gE tx (y::r)) t
  rw [jH,jH]
  exact⟨⟨C8 hd (mY),⟨(by decide),bY (by decide)⟩,i3⟩,tY hd h⟩
theorem B6 (hd:mH tx):∀{l:List (List Int)}{t:List Nat},jU t→okL (jL tx l) t
 | [],_,_=>trivial
 | [r],t,h=>tY hd h
 | r::s::l,t,h=>by
  show okL (gE tx r++ [.mark 59,.blank 32]++jL tx (s::l)) t
  rw [jH,jH]
  exact⟨⟨tY hd (mY),(show aM 59=5 by decide),⟨(by decide),bY (by decide)⟩,i3⟩,B6 hd h⟩
theorem zX (hd:mH tx){R C:Nat}{t:List Nat}:okL (gY tx R C zs) t:=by
 unfold gY
 split
 ·exact⟨(show aM 91=5 by decide),⟨(hd _).1,(hd _).2,mY⟩,(show aM 58=5 by decide),⟨(hd _).1,(hd _).2,mY⟩,(show aM 93=5 by decide),i3⟩
 ·rw [jH,jH]
  exact⟨⟨⟨(show aM 91=5 by decide),i3⟩,B6 hd (mY)⟩,(show aM 93=5 by decide),i3⟩
theorem EW (hd:mH tx):∀c,c∈dV tx z→c<128:=fun c e=>by
 have key:∀m,c∈tx m→c<128:=fun m h=>by have:=jJ.1 ((hd m).2 c h);omega
 unfold dV at e
 split at e
 ·rcases i6.1 e with rfl | e
  ·decide
  ·exact key _ e
 ·exact key _ e
theorem uR {p:Nat→Prop}{s:List Nat}(hs:∀c,c∈s→p c):∀{l:List (List Nat)},(∀x,x∈l→∀c,c∈x→p c)→∀c,c∈jn s l→p c
 | [],_,c,hc=>absurd hc (by simp [jn])
 | [x],h,c,hc=>h x (by simp) c hc
 | x::y::r,h,c,hc=>by
  rcases eQ.1 hc with hc | hc
  ·rcases eQ.1 hc with hc | hc
   ·exact h x (by simp) c hc
   ·exact hs c hc
  ·exact uR hs (fun z hz=>h z (by simp only [i6] at hz⊢;exact cA hz)) c hc
theorem m8 (hd:mH tx){R C:Nat}:∀c,c∈bR tx R C zs→c<128:=fun c f=>by
 have key:∀m,c∈tx m→c<128:=fun m h=>by have:=jJ.1 ((hd m).2 c h);omega
 unfold bR at f
 split at f
 ·simp only [eQ,fT] at f
  rcases f with (((h | h) | h) | h) | h
  ·omega
  ·exact key _ h
  ·omega
  ·exact key _ h
  ·omega
 ·simp only [eQ,fT] at f
  rcases f with (h | h) | h
  ·omega
  ·refine uR (p:=(· <128)) (by simp) (fun x o d hd'=>?_) c h
   obtain⟨r,_,rfl⟩:=iQ.1 o
   refine uR (p:=(· <128)) (by simp) (fun y j e q=>?_) d hd'
   obtain⟨z,_,rfl⟩:=iQ.1 j
   exact EW hd e q
  ·omega
theorem oZ {s:List Nat}{K:Nat}:∀{l:List (List Nat)},(∀x,x∈l→x.length≤K)→(jn s l).length≤l.length*(K+s.length)
 | [],_=>cE _
 | [x],h=>by
  have:=h x (by simp)
  show x.length≤1*_
  omega
 | x::y::r,h=>by
  have h1:=h x (by simp)
  have h2:=oZ (s:=s) (K:=K) (l:=y::r) fun z e=>h z (by simp only [i6] at e⊢;exact cA e)
  show (x++s++jn s (y::r)).length≤_
  rw [cK,cK,cS,gN]
  omega
theorem J9 {R C:Nat}(h:zs.length=R*C)(hR:R≤64)(hC:C≤64)(hz:∀z,z∈zs→(dV tx z).length≤K)(h64:∀m,m≤64→(tx m).length≤K):(bR tx R C zs).length≤64*(64*(K+1)+2)+2:=by
 unfold bR
 split
 ·have:=h64 R hR;have:=h64 C hC
  simp only [cK,List.length_singleton];omega
 ·have h1:(jn [59,32] ((dC R C zs).map fun r=>jn [32] (r.map (dV tx)))).length≤R*(64*(K+1)+2):=by
   have h2:=oZ (s:= [59,32]) (K:=64*(K+1)) (l:=(dC R C zs).map fun r=>jn [32] (r.map (dV tx))) (fun x j=>by
    obtain⟨r,hr,rfl⟩:=iQ.1 j
    have e:=oZ (s:= [32]) (K:=K) (l:=r.map (dV tx)) (fun y f=>by
     obtain⟨z,hz',rfl⟩:=iQ.1 f
     refine hz z ?_
     rw [←oR h]
     exact List.mem_flatten.2 ⟨r,hr,hz'⟩)
    rw [List.length_map,tW h r hr] at e
    exact aN e (eG _ hC))
   rw [List.length_map,nB] at h2
   exact h2
  have o:=eG (64*(K+1)+2) hR
  simp only [cK,List.length_singleton]
  omega
end
end
section
open Go.RowKit
section
variable (P:bT) (n:Nat) (ol:List aX) (vs:List aC) (ws:List a6) (w:a6) (dss:List (List Nat)) (l:Fr) (st:List Nat)
def nX (i t:Nat):Prop:=
 match ol[i]? with
 | some o=>if st.contains i then fP P n (dfr ol vs l (bX dss i)) o (wv ws w t) (match o.dst with | none=> .skip | some _=> .value ((vs[i]?).getD undef)) (wv ws w (t+1)) else fP P n (dfr ol vs l (bX dss i)) o (wv ws w t) (.value ((vs[i]?).getD undef)) (wv ws w t)
 | none=>True
def j8:List (Nat×Nat)→Prop
 | []=>True
 | (i,t)::r=>nX P n ol vs ws w dss l st i t∧j8 r
end
def vF (n : Nat)(ol : List aX)(st : List Nat)(l : Fr)(dss rl : List (List Nat))(ps : List (Nat × Nat)): Bool :=
  (ol.zipIdx.all fun (o, i) => (match o.guard with | none => true | some _ => false) && (o.after.toList.all fun e => !Region.binds .any e || decide (e.on < i)) &&
    ((bX rl i).all fun j => decide (j < i) && o.after.toList.any fun e => fQ .any e && (e.on == j || (bX rl e.on).contains j)) &&
    ((bX dss i).all fun j => (bX rl i).contains j) &&
    (match o.dst with
     | some d => decide (d < n) && l.all (fun p => p.1 != d) && ol.zipIdx.all (fun (o', j) => j == i || o'.dst != some d)
     | none => st.contains i) &&
    (eV (st.length + 1)).all (fun t => decide (t < fZ st (bX rl i)) || (t != 0 && (bX rl (st.getD (t - 1) 0)).contains i) || (st.contains i && t != fZ st (bX rl i)) || ps.contains (i, t))) &&
  (eV st.length).all (fun t => decide (st.getD t 0 < ol.length) && (eV t).all fun u => (bX rl (st.getD t 0)).contains (st.getD u 0))
structure DetOkV (n:Nat)(ol:List aX)(st:List Nat)(l:Fr)(dss rl:List (List Nat))(ps:List (Nat×Nat)):Prop where
 guard:∀(i:Nat) (o:aX),ol[i]?=some o→o.guard=none
 back:∀(i:Nat) (o:aX),ol[i]?=some o→∀e∈o.after,fQ .any e=true→e.on<i
 reach:∀(i:Nat) (o:aX),ol[i]?=some o→∀j∈bX rl i,j<i∧∃e∈o.after,fQ .any e=true∧(e.on=j∨j∈bX rl e.on)
 deps:∀(i:Nat) (o:aX),ol[i]?=some o→∀j∈bX dss i,j∈bX rl i
 val:∀(i:Nat) (o:aX),ol[i]?=some o→∀d,o.dst=some d→d<n∧(∀p∈l,p.1≠d)∧∀(j:Nat) (o':aX),ol[j]?=some o'→j≠i→o'.dst≠some d
 sto:∀(i:Nat) (o:aX),ol[i]?=some o→o.dst=none→i∈st
 pair:∀(i:Nat) (o:aX),ol[i]?=some o→∀t,t≤st.length→fZ st (bX rl i)≤t→(t=0∨i ∉ bX rl (st.getD (t-1) 0))→(i∈st→t=fZ st (bX rl i))→(i,t)∈ps
 inN:∀t,t<st.length→st.getD t 0<ol.length
 ord:∀t,t<st.length→∀u,u<t→st.getD u 0∈bX rl (st.getD t 0)
theorem NN {l:Fr}(h:vF n ol st l dss rl ps=true):DetOkV n ol st l dss rl ps:=by
 simp only [vF,dI] at h
 obtain⟨h1,h2⟩:=h
 have key:=fun (i:Nat) (o:aX) (f:ol[i]?=some o)=>mC h1 i o f
 simp only [dI] at key
 have q:∀t,t<st.length→st.getD t 0<ol.length∧∀u,u<t→st.getD u 0∈bX rl (st.getD t 0):=by
  intro t ht
  rw [dZ] at h2
  have:=h2 t (fU.2 ht)
  simp only [dI,decide_eq_true_eq,dZ,fU,jB] at this
  exact this
 refine⟨fun i o f=>?_,fun i o f e H hb=>?_,fun i o f j I=>?_,fun i o f j I=>?_,fun i o f d r=>?_,fun i o f r=>?_,fun i o f t ht _ M V=>?_,fun t ht=>(q t ht).1,fun t ht=>(q t ht).2⟩
 ·have:=(key i o f).1.1.1.1.1
  cases hg:o.guard with
  | none=>rfl
  | some g=>rw [hg] at this;cases this
 ·have:=(key i o f).1.1.1.1.2
  rw [dZ] at this
  have:=this e (by simpa using H)
  simpa [hb] using this
 ·have:=(key i o f).1.1.1.2
  rw [dZ] at this
  have:=this j I
  simp only [dI,decide_eq_true_eq,List.any_eq_true,jZ,beq_iff_eq,jB] at this
  obtain⟨U,e,H,hb,F⟩:=this
  exact⟨U,e,by simpa using H,hb,F⟩
 ·have:=(key i o f).1.1.2
  rw [dZ] at this
  simpa using this j I
 ·have:=(key i o f).1.2
  rw [r] at this
  simp only [dI,decide_eq_true_eq] at this
  obtain⟨⟨F,L⟩,W⟩:=this
  refine⟨F,fun p O=>?_,fun j o' ho' D e=>?_⟩
  ·rw [dZ] at L
   simpa using L p O
  ·have:=mC W j o' ho'
   simp only [jZ,beq_iff_eq,bne_iff_ne] at this
   rcases this with h | h
   ·exact D h
   ·exact h e
 ·have:=(key i o f).1.2
  rw [r] at this
  exact jB.1 this
 ·have:=(key i o f).2
  rw [dZ] at this
  have:=this t (fU.2 (by omega))
  simp only [jZ,dI,decide_eq_true_eq,bne_iff_ne,ne_eq,jB] at this
  rcases this with ((h | h) | h) | h
  ·omega
  ·rcases M with h0 | h0
   ·exact absurd h0 h.1
   ·exact absurd h.2 h0
  ·exact absurd (V h.1) h.2
  ·exact h
section
variable {P:bT}{Q:cQ→Act→a6→Prop}{n:Nat}{ol:List aX}{vs:List aC}{ws:List a6}{w:a6}{dss rl:List (List Nat)}{l:Fr}{st:List Nat}{ps:List (Nat×Nat)}
theorem CF:∀{ps:List (Nat×Nat)},j8 P n ol vs ws w dss l st ps→∀i t,(i,t)∈ps→nX P n ol vs ws w dss l st i t
 | [],_,i,t,h=>by cases h
 | (j,u)::r,h,i,t,hm=>by
  rcases i6.1 hm with e | e
  ·cases e;exact h.1
  ·exact CF h.2 i t e
theorem CU (hk:DetOkV n ol st l dss rl ps)(h:Closed ol listed):∀(i:Nat) (o:aX),ol[i]?=some o→(∀e∈o.after,fQ .any e=true→listed.getD e.on false=true)→∀j∈bX rl i,listed.getD j false=true:=by
 intro i
 induction i using Nat.strongRecOn with
 | ind i ih=>
  intro o ho hall j hj
  obtain⟨_,e,he,hb,h1⟩:=hk.reach i o ho j hj
  have hlt:=hk.back i o ho e he hb
  rcases h1 with h1 | h1
  ·rw [←h1];exact hall e he hb
  ·have hN:e.on<ol.length:=Nat.lt_trans hlt (eJ.1 ho).1
   exact ih e.on hlt _ (bS hN) (h e.on _ (bS hN) (hall e he hb)) j h1
theorem NK (hk:DetOkV n ol st l dss rl ps)(ho:j8 P n ol vs ws w dss l st ps)(hfin:eo Q .normal n (rY ol vs l) (wv ws w st.length)):∀(fuel:Nat) (listed:Array Bool) (a:Act) (t:Nat),mV ol.length listed≤fuel→listed.size=ol.length→Closed ol listed→t≤st.length→(∀u,u<st.length→listed.getD (st.getD u 0) false=decide (u<t))→Rp n l a→
   (∀i,i<ol.length→listed.getD i false=true→∀d,cL ol i=some d→a.tmps.getD d undef=(vs[i]?).getD undef)→wpAny P .any ol.toArray Q fuel listed a (wv ws w t):=by
 have fin:∀(listed:Array Bool) (a:Act) (t:Nat),(∀i,i<ol.length→listed.getD i false=true)→t≤st.length→(∀u,u<st.length→listed.getD (st.getD u 0) false=decide (u<t))→Rp n l a→
   (∀i,i<ol.length→listed.getD i false=true→∀d,cL ol i=some d→a.tmps.getD d undef=(vs[i]?).getD undef)→Q .normal a (wv ws w t):=by
  intro listed a t hall ht hst hr hv
  have e:t=st.length:=by
   rcases fS t st.length with h | h
   ·have h1:=hst t h
    rw [hall _ (hk.inN t h)] at h1
    simp at h1
   ·omega
  subst e
  exact hfin a (hr.dfr _ fun j hj d hd=>hv j (fU.1 hj) (hall j (fU.1 hj)) d hd)
 intro fuel
 induction fuel with
 | zero=>
  intro listed a t hf hs hcl ht hst hr hv
  have hall:∀i,i<ol.length→listed.getD i false=true:=by
   intro i hi
   cases h:listed.getD i false with
   | true=>rfl
   | false=>have:=iF hi hs h;omega
  refine⟨?_,fin listed a t hall ht hst hr hv⟩
  refine List.eq_nil_iff_forall_not_mem.2 fun j hj=>?_
  obtain⟨h1,o,hoj,_⟩:=gW.1 hj
  have hjl:j<ol.length:=(eJ.1 hoj).1
  rw [gZ,hall j hjl] at h1
  cases h1
 | succ fuel ih=>
  intro listed a t hf hs hcl ht hst hr hv
  refine⟨fun h0=>?_,fun i hir=>?_⟩
  ·refine fin listed a t (fun i hi=>?_) ht hst hr hv
   have key:∀k,k≤ol.length→∀i,i<k→listed.getD i false=true:=by
    intro k
    induction k with
    | zero=>intro _ i hi;omega
    | succ k ihk=>
     intro hk' i hi
     have ih':=ihk (by omega)
     rcases fS i k with h | h
     ·exact ih' i h
     ·have e:i=k:=by omega
      subst e
      cases hb:listed.getD i false with
      | true=>rfl
      | false=>
       have hrdy:i∈Region.ready .any ol.toArray listed:=gW.2 ⟨by rw [gZ];exact hb,_,bS (by omega),fun e he hbb=>ih' _ (hk.back i _ (bS (by omega)) e he hbb)⟩
       rw [h0] at hrdy;cases hrdy
   exact key ol.length (aZ _) i hi
  ·obtain⟨hun,o,hoi,hall⟩:=gW.1 hir
   have hil:i<ol.length:=(eJ.1 hoi).1
   have hun':listed.getD i false=false:=by rw [←gZ];exact hun
   have hrch:=CU hk hcl i o hoi hall
   have hcnt:fZ st (bX rl i)≤t:=CQ fun u hu1 hu2 hm=>by
    have h1:=hrch _ hm
    rw [hst u hu2] at h1
    simp at h1;omega
   have hzero:t=0∨i ∉ bX rl (st.getD (t-1) 0):=by
    rcases gQ t with h | h
    ·exact bY h
    ·refine cA fun hm=>?_
     have h1:=hst (t-1) (by omega)
     rw [decide_eq_true (by omega)] at h1
     have hN:=hk.inN (t-1) (by omega)
     have h2:=CU hk hcl _ _ (bS hN) (fun e he hb=>hcl _ _ (bS hN) h1 e he hb) i hm
     rw [hun'] at h2;cases h2
   have hstore:i∈st→t<st.length∧st.getD t 0=i∧t=fZ st (bX rl i):=by
    intro hm
    obtain⟨u,hu,heq⟩:=List.getElem_of_mem hm
    have hg:st.getD u 0=i:=by rw [bE,bS hu];exact heq
    have h1:=hst u hu
    rw [hg,hun'] at h1
    have h2:¬u<t:=by intro h;rw [decide_eq_true h] at h1;cases h1
    have h3:u=t:=by
     rcases fS t u with h | h
     ·have h4:=hk.ord u hu t h
      rw [hg] at h4
      have h5:=hrch _ h4
      rw [hst t (by omega)] at h5
      simp at h5
     ·omega
    subst h3
    refine⟨hu,hg,?_⟩
    have h4:=AP (st:=st) (js:=bX rl i) (t:=u) (by omega) (fun v hv'=>by rw [←hg];exact hk.ord u hu v hv')
    omega
   have aK:=CF ho i t (hk.pair i o hoi t ht hcnt hzero (fun hm=>(hstore hm).2.2))
   unfold nX at aK
   rw [hoi] at aK
   simp only at aK
   have hacc:Rp n (dfr ol vs l (bX dss i)) a:=hr.dfr _ fun j hj d hd=>by
    have h1:=hrch j (hk.deps i o hoi j hj)
    have h2:=(hk.reach i o hoi j (hk.deps i o hoi j hj)).1
    exact hv j (by omega) h1 d hd
   have hwant:o3 o (yielded ol.toArray a.tmps)=true:=by simp [o3,hk.guard i o hoi]
   unfold wpOp
   rw [kJ,hoi]
   simp only
   rw [if_pos hwant]
   refine bY ?_
   unfold jW
   cases hd:o.dst with
   | some d=>
    obtain⟨hdn,hfar,hoth⟩:=hk.val i o hoi d hd
    have hslot:∀(v:aC) (hvi:v=(vs[i]?).getD undef),∀j,j<ol.length→(listed.setIfInBounds i true).getD j false=true→∀e,cL ol j=some e→(a.put (some d) v).tmps.getD e undef=(vs[j]?).getD undef:=fun v hvi j hj hlj e he=>by
     by_cases hij:i=j
     ·subst hij
      have e1:cL ol i=some d:=by unfold cL;rw [hoi];exact hd
      rw [e1] at he
      cases he
      rw [←hvi]
      exact mZ hr.size hdn _
     ·rw [Go.getD_set_ne false hij] at hlj
      have hne:e≠d:=by
       intro hed
       subst hed
       obtain⟨oj,hoj⟩:∃oj,ol[j]?=some oj:=⟨_,bS hj⟩
       refine hoth j oj hoj (lN hij) ?_
       unfold cL at he
       rw [hoj] at he
       exact he
      have:=qR (a:=a) (d:=d) (e:=some e) (fun h=>hne (i1 h)) v
      exact this.trans (hv j hj hlj e he)
    by_cases hmst:i∈st
    ·obtain⟨htl,hgt,_⟩:=hstore hmst
     rw [if_pos (by simpa using hmst),hd] at aK
     simp only at aK
     rw [aK a hacc]
     simp only [kO,hd]
     refine ih _ _ (t+1) (by have:=iF hil hs hun';omega) (by simpa using hs) (hcl.set hoi hall) (by omega) (fun u hu=>?_) (hr.put_far hfar _) (hslot _ E)
     by_cases hut:u=t
     ·subst hut
      rw [hgt]
      simp [hs,hil]
     ·have hne:i≠st.getD u 0:=by
       intro e
       rcases fS u t with h | h
       ·have h1:=hst u hu
        rw [←e,hun',decide_eq_true h] at h1;cases h1
       ·have h4:=hk.ord u hu t (by omega)
        rw [hgt,←e] at h4
        have:=(hk.reach i o hoi i h4).1
        omega
      rw [Go.getD_set_ne false hne,hst u hu]
      congr 1
      simp only [eq_iff_iff]
      omega
    ·rw [if_neg (by simpa using hmst)] at aK
     rw [aK a hacc]
     simp only [kO,hd]
     refine ih _ _ t (by have:=iF hil hs hun';omega) (by simpa using hs) (hcl.set hoi hall) ht (fun u hu=>?_) (hr.put_far hfar _) (hslot _ E)
     rw [Go.getD_set_ne false (fun e=>hmst (by rw [e,bE,bS hu];exact jA hu))]
     exact hst u hu
   | none=>
    have hm:=hk.sto i o hoi hd
    obtain⟨htl,hgt,_⟩:=hstore hm
    rw [if_pos (by simpa using hm),hd] at aK
    simp only at aK
    rw [aK a hacc]
    simp only [kO,hd]
    refine ih _ _ (t+1) (by have:=iF hil hs hun';omega) (by simpa using hs) (hcl.set hoi hall) (by omega) (fun u hu=>?_) hr (fun j hj hlj e he=>?_)
    ·by_cases hut:u=t
     ·subst hut
      rw [hgt]
      simp [hs,hil]
     ·have hne:i≠st.getD u 0:=by
       intro e
       rcases fS u t with h | h
       ·have h1:=hst u hu
        rw [←e,hun',decide_eq_true h] at h1;cases h1
       ·have h4:=hk.ord u hu t (by omega)
        rw [hgt,←e] at h4
        have:=(hk.reach i o hoi i h4).1
        omega
      rw [Go.getD_set_ne false hne,hst u hu]
      congr 1
      simp only [eq_iff_iff]
      omega
    ·by_cases hij:i=j
     ·subst hij
      have e1:cL ol i=none:=by unfold cL;rw [hoi];exact hd
      rw [e1] at he;cases he
     ·rw [Go.getD_set_ne false hij] at hlj
      exact hv j hj hlj e he
theorem NW (hmix:P.follows .mixedOrders=true)(vs:List aC)(ws:List a6)(st:List Nat)(dss rl:List (List Nat))(ps:List (Nat×Nat))(hk:vF n ol st l dss rl ps=true)(hw:wv ws w 0=w0.drew)(ho:j8 P n ol vs ws w dss l st ps)(hfin:eo Q .normal n (rY ol vs l) (wv ws w st.length)):cw P Q n (.region id ol.toArray true) l w0:=fun a j=>by
 refine wp_region_any hmix ?_
 have f:(mT ol.toArray.size false).size=ol.length:=by simp
 have e:∀i,(mT ol.toArray.size false).getD i false=false:=by
  intro i
  simp only [Array.getD_eq_getD_getElem?,Array.getElem?_replicate]
  split <;> rfl
 have:=NK (NN hk) ho hfin ol.toArray.size _ a 0 (by
  refine aN List.countP_le_length ?_
  simp) f (fun i o _ h=>by rw [e] at h;cases h) (cE _) (fun u _=>by rw [e];simp) j (fun i _ h=>by rw [e] at h;cases h)
 rw [hw] at this
 exact this
theorem jP {t:Nat}{o:aX}(acc:Fr)(ho:ol[i]?=some o)(hs:st.contains i=false)(hv:(vs[i]?).getD undef=v)(hw:wv ws w t=wt)(hacc:dfr ol vs l (bX dss i)=acc)(h:fP P n acc o wt (.value v) wt)(h':j8 P n ol vs ws w dss l st ps):j8 P n ol vs ws w dss l st ((i,t)::ps):=⟨by unfold nX;rw [ho];simp only;rw [hs,if_neg (by simp),hv,hw,hacc];exact h,h'⟩
theorem N0 {t:Nat}{o:aX}(acc:Fr)(ho:ol[i]?=some o)(hs:st.contains i=true)(hd:o.dst=some d)(hv:(vs[i]?).getD undef=v)(hw:wv ws w t=wt)(hw':wv ws w (t+1)=wt')(hacc:dfr ol vs l (bX dss i)=acc)(h:fP P n acc o wt (.value v) wt')(h':j8 P n ol vs ws w dss l st ps):j8 P n ol vs ws w dss l st ((i,t)::ps):=⟨by unfold nX;rw [ho];simp only;rw [hs,if_pos rfl,hw,hw',hacc,hd];simp only;rw [hv];exact h,h'⟩
theorem MY {t:Nat}{o:aX}(acc:Fr)(ho:ol[i]?=some o)(hd:o.dst=none)(hs:st.contains i=true)(hw:wv ws w t=wt)(hw':wv ws w (t+1)=wt')(hacc:dfr ol vs l (bX dss i)=acc)(h:fP P n acc o wt .skip wt')(h':j8 P n ol vs ws w dss l st ps):j8 P n ol vs ws w dss l st ((i,t)::ps):=⟨by unfold nX;rw [ho];simp only;rw [hs,if_pos rfl,hw,hw',hacc,hd];exact h,h'⟩
theorem MZ:j8 P n ol vs ws w dss l st []:=trivial
end
def sgn (d:Nat):Nat:=if d<10 then 48+d else 87+d
def B8 (x:Nat):aC:= .int .u8 (x:Int)
theorem y8:sgn 0=48:=rfl
def aB (bs:List Nat):ByteArray:=⟨(bs.map UInt8.ofNat).toArray⟩
def d4 (l:List Nat)(k:Nat):List Nat:=l++cB (k-l.length) 0
theorem mA (l:List Nat)(k:Nat):(d4 l k).length=max l.length k:=by simp only [d4,cK,List.length_replicate];omega
def cN (l:List Nat):List Nat:=l.reverse.map sgn
theorem qN (l r:List Nat):cN (l++r)=cN r++cN l:=by simp [cN]
theorem qM (l:List Nat):(cN l).length=l.length:=by simp [cN]
theorem EX (k:Nat):cN (cB k 0)=cB k 48:=by simp [cN,y8]
theorem tI (l:List Nat)(k:Nat):cN (d4 l k)=cB (k-l.length) 48++cN l:=by rw [d4,qN,EX]
theorem iV (w:a6):(sizeOf 5).run aG w= .ok 1 w:=by kernel_rfl
theorem D7 (w:a6):(isAgg 5).run aG w= .ok false w:=by kernel_rfl
theorem i7:Tryz.prog.underlying 68=some (.slice 5):=by kernel_rfl
theorem mB:(Tryz.prog.info? 5).map (fun i=>(i.zero,i.size,i.bytes))=some (some (.int .u8 0),1,1):=by kernel_rfl
theorem A8 (xs:List Nat)(i x:Nat):(xs.map B8).set i (.int .u8 (x:Int))=(xs.set i x).map B8:=by rw [List.map_set];rfl
section
variable {P:bT}{Q:cQ→Act→a6→Prop}{n:Nat}{l:Fr}{w:a6}{ops:Array aX}{rest:List aX}{d:Nat}{op:Op}{ty:aQ}{pos:String}{af:Array eA}{gd:Option (Nat×Bool)}
theorem H5 {s:Nat}{a:a8}{k:fV}{i:Int}{p:a8}(hT:P.underlying t=some (.array m e))(hs:∀w,(sizeOf e).run P w= .ok s w)(hi:i=(j:Int))(hj:j<m)(hp:a.add (j*s)=p):(Instr.indexAt t (.pointer (some a)) (.int k i)).run P w= .ok (.pointer (some p)) w:=by
 subst hi hp
 have h:(underlying t).run P w= .ok (.array m e) w:=gM hT w
 have f:(Instr.sureAddr (.pointer (some a))).run P w= .ok a w:=rfl
 unfold Instr.indexAt
 simp only [asIntOf,bQ,eO,dE,h,f]
 rw [if_pos ⟨by omega,by omega⟩]
 simp only [bQ,hs w,dE,eO,gC]
theorem t8 (hw:cF ops l gd=some true){s:Nat}{a:a8}{k:fV}{i:Int}(hx:bK l x=some (.pointer (some a)))(hy:bK l y=some (.int k i))(hT:P.underlying t=some (.array m e))(hs:∀w,(sizeOf e).run P w= .ok s w)(j:Nat)(hi:i=(j:Int))(hj:j<m)(p:a8)(hp:a.add (j*s)=p)(h:wl P ops Q n rest ((d,.pointer (some p))::l) w)(hn:d<n:=by decide):wl P ops Q n (⟨some d,.indexAddr t x y,ty,pos,af,gd⟩::rest) l w:=
 dU hw hn (fun a' f=>by
  have e:(Instr.indexAt t (a'.eval x) (a'.eval y)).run P w= .ok (.pointer (some p)) w:=by rw [f.ev hx,f.ev hy];exact H5 hT hs hi hj hp
  show ((Instr.indexAt t (a'.eval x) (a'.eval y)>>=fun r=>pure (eP r):Sem eC)).run P w=_
  rw [bQ,e];rfl) h
theorem H0 {s lo:Nat}{a:a8}(hT:P.underlying t=some (.array m e))(hs:∀w,(sizeOf e).run P w= .ok s w)(h3:lo≤m):(Instr.sliceAt t (.pointer (some a)) (some (a4 (lo:Int))) none none).run P w= .ok (a9 (some (if m=lo then a else a.add (lo*s))) (m-lo) (m-lo)) w:=by
 have h:(underlying t).run P w= .ok (.array m e) w:=gM hT w
 have f:(Instr.sureAddr (.pointer (some a))).run P w= .ok a w:=rfl
 have hb:(Instr.sliceBounds false m m (some (a4 (lo:Int))) none none).run P w= .ok (lo,m,m) w:=by
  unfold Instr.sliceBounds
  simp only [bQ,eO,dE,Option.isSome,oP h3]
 unfold Instr.sliceAt
 simp only [bQ,h,dE,f,hb,hs w,eO]
theorem HY {s lo:Nat}{a:a8}(hx:bK l x=some (.pointer (some a)))(hy:bK l y=some (a4 (lo:Int)))(hT:P.underlying t=some (.array m e))(hs:∀w,(sizeOf e).run P w= .ok s w)(h3:lo≤m):fP P n l ⟨dst,.slice t x (some y) none none,ty,pos,af,gd⟩ w (.value (a9 (some (if m=lo then a else a.add (lo*s))) (m-lo) (m-lo))) w:=fun a' f=>by
 have e:(Instr.sliceAt t (a'.eval x) (some (a'.eval y)) none none).run P w= .ok (a9 (some (if m=lo then a else a.add (lo*s))) (m-lo) (m-lo)) w:=by rw [f.ev hx,f.ev hy];exact H0 hT hs h3
 show ((Instr.sliceAt t (a'.eval x) (some (a'.eval y)) none none>>=fun r=>pure (eP r):Sem eC)).run P w=_
 rw [bQ,e];rfl
theorem I2 {r:aC}(hx:bK l x=some u)(hy:bK l y=some v)(hr:(lS #[t,t] ty #[u,v]).run P w= .ok r w'):fP P n l ⟨dst,.call {callee:= .builtin .append,args:= #[x,y],argTypes:= #[t,t]},ty,pos,af,gd⟩ w (.value r) w':=fun a' e=>by
 unfold execOp
 simp only [resolve,invoke,builtin,bQ,eO,dE,List.map_toArray,List.map_cons,List.map_nil,e.ev hx,e.ev hy]
 rw [hr]
 rfl
end
def Signs (w:a6):Prop:=∀d,d<36→w.cell? ⟨1,d,none⟩=some (.int .u8 ((sgn d:Nat):Int))
theorem Signs.ext (h:Signs w)(e:Ext w w'):Signs w':=fun d f=>e.cell (h d f)
def Wr (w:a6)(g base k unit:Nat)(PA:Option a8)(pn pc:Nat)(OA:Option a8)(on oc:Nat):Prop:=
 Bk w g 136 [a4 (base:Int),a4 (k:Int),a5 (unit:Int),a9 PA pn pc,a9 OA on oc]
structure UpdW (lb:Nat)(w w':a6):Prop where
 os:w'.os=w.os
 tape:w'.tape=w.tape
 output:w'.output=w.output
 size:w.heap.size≤w'.heap.size
 low:∀k,k<lb→k<w.heap.size→w'.heap[k]?=w.heap[k]?
 typ:∀(k:Nat) (cs:Array aC) (t:aQ) (fr:Nat×Nat),w.heap[k]?=some (.cells cs t fr)→t≠136→t≠5→w'.heap[k]?=some (.cells cs t fr)
section
variable {lb:Nat}{a b c w w':a6}
theorem UpdW.refl (lb:Nat)(w:a6):UpdW lb w w:=⟨rfl,rfl,rfl,aZ _,fun _ _ _=>rfl,fun _ _ _ _ h _ _=>h⟩
theorem UpdW.trans (h:UpdW lb a b)(e:Ext b c):UpdW lb a c:=
 ⟨e.below.os.trans h.os,e.below.tape.trans h.tape,e.below.output.trans h.output,aN h.size e.size,fun k j f=>(e.below.block k (cU f h.size)).trans (h.low k j f),fun k cs t fr o h1 h2=>e.heap (h.typ k cs t fr o h1 h2)⟩
theorem UpdW.then (h:UpdW lb a b)(e:UpdW lb b c):UpdW lb a c:=
 ⟨e.os.trans h.os,e.tape.trans h.tape,e.output.trans h.output,aN h.size e.size,fun k f j=>(e.low k f (cU j h.size)).trans (h.low k f j),fun k cs t fr o h1 h2=>e.typ k cs t fr (h.typ k cs t fr o h1 h2) h1 h2⟩
theorem UpdW.upd (h:UpdW lb a b)(u:Upd g b c)(hg:lb≤g)(hn:∀(cs:Array aC) (t:aQ) (fr:Nat×Nat),a.heap[g]?=some (.cells cs t fr)→t=136∨t=5):UpdW lb a c:=
 ⟨u.by_.os.trans h.os,u.by_.tape.trans h.tape,u.by_.output.trans h.output,aN h.size u.by_.size,fun k p o=>(u.by_.block k (cU o h.size) (fun e=>by injection e with e;omega)).trans (h.low k p o),fun k cs t fr j h1 h2=>by
  have f:k<a.heap.size:=(lT.1 j).1
  refine (u.by_.block k (cU f h.size) (fun e=>?_)).trans (h.typ k cs t fr j h1 h2)
  injection e with e
  subst e
  rcases hn cs t fr j with e | e
  ·exact h1 e
  ·exact h2 e⟩
theorem UpdW.updO (h:UpdW lb a b)(u:UpdO A b c)(hA:∀p,A=some p→lb≤p.block)(hn:∀(p:a8) (cs:Array aC) (t:aQ) (fr:Nat×Nat),A=some p→a.heap[p.block]?=some (.cells cs t fr)→t=136∨t=5):UpdW lb a c:=
 ⟨u.by_.os.trans h.os,u.by_.tape.trans h.tape,u.by_.output.trans h.output,aN h.size u.by_.size,fun k q o=>(u.by_.block k (cU o h.size) (fun e=>by
   cases A with
   | none=>cases e
   | some p=>have e':k=p.block:=i1 e;have:=hA p rfl;omega)).trans (h.low k q o),fun k cs t fr j h1 h2=>by
  have f:k<a.heap.size:=(lT.1 j).1
  refine (u.by_.block k (cU f h.size) (fun e=>?_)).trans (h.typ k cs t fr j h1 h2)
  cases A with
  | none=>cases e
  | some p=>
   have e':k=p.block:=i1 e
   subst e'
   rcases hn p cs t fr rfl j with e | e
   ·exact h1 e
   ·exact h2 e⟩
theorem UpdW.ext (h:UpdW lb w w')(e:Ext a w)(hl:a.heap.size≤lb):Ext a w':=
 ⟨⟨h.os.trans e.below.os,h.tape.trans e.below.tape,h.output.trans e.below.output,aN e.size h.size,fun k f=>(h.low k (cU f hl) (cU f e.size)).trans (e.below.block k f)⟩⟩
theorem UpdW.bk (h:UpdW lb w w')(hb:Bk w g t vs)(h1:t≠136)(h2:t≠5):Bk w' g t vs:=h.typ g _ _ _ hb h1 h2
theorem UpdW.own {s:Nat}(h:UpdW lb w w')(ho:Own w base t s A n cap vs)(h1:t≠136)(h2:t≠5):Own w' base t s A n cap vs:=by
 rcases ho with ho | ⟨g,cs,f,hb,e,r⟩
 ·exact bY ho
 ·exact cA ⟨g,cs,f,hb,h.bk e h1 h2,r⟩
theorem UpdW.cell {p:a8}(h:UpdW lb w w')(hp:p.block<lb)(hc:w.cell? p=some v):w'.cell? p=some v:=
 (World.cell?_of_block (h.low p.block hp (mJ w p hc))).trans hc
theorem UpdW.signs (h:UpdW lb w w')(hs:Signs w)(hl:1<lb):Signs w':=fun d e=>h.cell hl (hs d e)
end
structure PieceK (b k:Nat):Prop where
 le:b^k≤18446744073709551615
 gt:18446744073709551615<b^(k+1)
 le64:k≤64
theorem I9 (hb:2≤b)(h:b^k≤18446744073709551615):k<64:=by
 refine o8 (fun e=>?_)
 have h1:2^64≤b^k:=aN (fJ (by decide) e) (Nat.pow_le_pow_left hb k)
 omega
theorem ID (hb:2≤b)(h:b^(k+1)≤18446744073709551615):k+1≤64:=by have:=I9 hb h;omega
theorem vS (h:Bk w g t vs)(h':w.heap[g]?=some (.cells cs t' fr)):t'=t:=by
 unfold Bk at h
 rw [h] at h'
 injection h' with h'
 injection h' with h1 h2
 exact h2.symm
theorem vT (h:w.heap.size≤g):¬w.heap[g]?=some (.cells cs t fr):=fun e=>by
 have:=(lT.1 e).1
 omega
theorem cT {t T s:Nat}(h:Own w b t s A n c us)(hb:Bk w g T vs)(hT:t≠T):∀p,A=some p→p.block≠g:=fun p f e=>by
 rcases h with⟨h,_⟩ | ⟨k,cs,o,_,j,_⟩
 ·rw [h] at f;cases f
 ·rw [o] at f
  cases f
  simp only at e
  subst e
  unfold Bk at j hb
  rw [j] at hb
  injection hb with hb
  injection hb with h1 h2
  exact hT h2
theorem rW (g i:Nat):(⟨g,0,none⟩:a8).add (i*1)=⟨g,i,none⟩:=by rw [eI,g7,dY]
theorem yZ {T s:Nat}(h:Own w b T s A n c us):∀(p:a8) (cs:Array aC) (t:aQ) (fr:Nat×Nat),A=some p→w.heap[p.block]?=some (.cells cs t fr)→t=T:=fun p cs t fr e h'=>by
 rcases h with⟨h,_⟩ | ⟨k,cs',j,_,f,_⟩
 ·rw [h] at e;cases e
 ·rw [j] at e;cases e
  exact vS f h'
theorem Kept.of {v:a6}(h:Kept v A A')(hs:w.heap.size≤v.heap.size):Kept w A A':=fun p f=>(h p f).imp id (fun e=>aN hs e)
def s6 (w:a6)(lb g base k unit:Nat)(PA:Option a8)(pn pc:Nat)(OA:Option a8)(bs:List Nat)(e:dL)(w':a6):Prop:=
 e= .returned (.tuple #[])∧∃OA' on' oc',Wr w' g base k unit PA pn pc OA' on' oc'∧Own w' lb 5 1 OA' on' oc' (bs.map B8)∧UpdW lb w w'∧Kept w OA OA'
theorem CE {x:Nat}(h:i<l.length):(l.set i x).drop i=x::l.drop (i+1):=by
 rw [mP (by rw [List.length_set];exact h),List.getElem_set_self,List.drop_set_of_lt (by omega)]
theorem EZ (l:List Nat)(d:Nat):cN (l++ [d])=sgn d::cN l:=by simp [cN]
theorem E9 {v vv:Nat}(hb:2≤b)(hv:v≤18446744073709551615)(h:db b v=acc++db b vv)(hn:0<(db b vv).length):acc.length<64:=by
 have h1:(db b v).length≤64:=j2 hb (cU (show v<2^64 by omega) (Nat.pow_le_pow_left hb 64))
 rw [h,cK] at h1
 omega
theorem PC (l:List Nat):(l.map B8).all (·.oneCell')=true:=by
 rw [dZ]
 intro u e
 obtain⟨x,_,rfl⟩:=iQ.1 e
 rfl
theorem OT {lo:Nat}(h:Bk w g T (l.map B8))(hl:l.length=64)(hlo:lo≤64):∀j u,((l.drop lo).map B8)[j]?=some u→w.cell? ((if 64=lo then (⟨g,0,none⟩:a8) else (⟨g,0,none⟩:a8).add (lo*1)).add j)=some u:=by
 intro j u e
 have f:=(eJ.1 e).1
 rw [List.length_map,fN,hl] at f
 rw [if_neg (by omega),rW,g7]
 rw [h.cell (by rw [List.length_map,hl];omega)]
 rw [mO,lR] at e
 rw [bE,e];rfl
theorem yD (hbl:2≤base)(hbu:base≤36):aU aG 84 #[a4 base] w (fun e w'=>∃k,PieceK base k∧Gv w (T2 (Is (a4 k)) (Is (a5 ((base^k:Nat):Int)))) e w'):=by
 refine bJ Tryz.func84 E (n:=19) E (bq E) (args:= [a4 base]) (bH [(0,a4 base)] ⟨rfl,i3⟩ (sr (mv 2 E (a7 (sr (mv 2 E (a7 (aD (bI ?_)))))))))
 refine dJ (T:=a6×Nat×Nat)
  (fun⟨wr,k,p⟩=> [(0,a4 base),(2,a4 0),(3,a5 0),(4,a4 k),(5,a5 p)])
  (fun⟨wr,k,p⟩=>wr)
  (fun⟨wr,k,p⟩=>(Ext w wr)∧(p=base^k)∧(p≤18446744073709551615)∧(k≤64))
  (fun⟨wr,k,p⟩=>18446744073709551616-p)
  (⟨w,0,1⟩:a6×Nat×Nat) ⟨aF,(Nat.pow_zero base).symm,(by decide),(by decide)⟩ E ⟨rfl,rfl,rfl,rfl,rfl,i3⟩ ?_
 rintro⟨wr,k,p⟩ ⟨q,o,r,D⟩
 refine d9 [(0,a4 base),(2,a4 0),(3,a5 0),(4,a4 k),(5,a5 p)] wr E ⟨rfl,rfl,rfl,rfl,rfl,i3⟩ (aD (aD ?_))
 have F:1≤p:=by rw [o];exact eT (by omega)
 by_cases f:p≤18446744073709551615/base
 ·have j:p*base≤18446744073709551615:=(Nat.le_div_iff_mul_le (by omega)).1 f
  refine aE (mv 2 E (eH E E (v:= a5 (IntKind.u64.wrap ((base:Nat):Int))) (v':= a5 base) (jR (by first | omega | exact hle64)) (bF E E E ((18446744073709551615/base:Nat):Int) (vV (a:=18446744073709551615) (b:=base) E E) (aA E E E true (eM (a:=p) (b:=18446744073709551615/base) E E) (a7 (b8 E (aY (aJ (bI (sr (mv 2 E (eH E E (v:= a5 (IntKind.u64.wrap ((base:Nat):Int))) (v':= a5 base) (jR (by first | omega | exact hle64)) (bF E E E ((p*base:Nat):Int) (vW (a:=p) (b:=base) E E) ?_)))))))))))))
  refine mv 1 E (a7 (aE (mv 1 E (bF E E E ((k+1:Nat):Int) (d6 (a:=k) (b:=1) E E) (mv 1 E (bA (bU (cW (⟨wr,k+1,p*base⟩:a6×Nat×Nat) ⟨q,(by rw [o,dK]),j,(ID hbl (by rw [dK,←o];exact j))⟩ (by show 18446744073709551616-p*base<18446744073709551616-p;have:p*2≤p*base:=gP p hbl;omega) E ⟨rfl,rfl,rfl,rfl,rfl,i3⟩))))))))
 ·have j:18446744073709551615<p*base:=o8 (fun h=>f ((Nat.le_div_iff_mul_le (by omega)).2 h))
  refine aE (mv 2 E (eH E E (v:= a5 (IntKind.u64.wrap ((base:Nat):Int))) (v':= a5 base) (jR (by first | omega | exact hle64)) (bF E E E ((18446744073709551615/base:Nat):Int) (vV (a:=18446744073709551615) (b:=base) E E) (aA E E E false (dX (a:=p) (b:=18446744073709551615/base) E E) (a7 (aI E (dA (d7 (dG (d8 (aJ (sr (mv 1 E ?_)))))))))))))
  refine mv 3 E (a7 (aW (aV [a4 k,a5 p] E ⟨rfl,rfl,i3⟩ ?_)))
  exact⟨k,⟨by rw [←o];exact r,by rw [dK,←o];exact j,D⟩,_,rfl,⟨_,_,rfl,rfl,(show bP .u64 ((p:Nat):Int)=_ by rw [o])⟩,q⟩
theorem yB {pc:Nat}(hS:Signs w)(_hgS:1<lb)(hbl:2≤base)(hbu:base≤36)(hW:Wr w g base k unit PA pn pc OA on oc)(hO:Own w lb 5 1 OA on oc (bs.map B8))(hgl:lb≤g)(hlb:lb≤w.heap.size){v:Nat}(hv:v≤18446744073709551615)(hwd:width≤64)(hon:on≤549755813888):aU aG 118 #[a1 g 0,a5 v,a4 width] w (s6 w lb g base k unit PA pn pc OA (bs++cN (d4 (db base v) width))):=by
 refine bJ Tryz.func118 E (n:=48) E (bq E) (args:= [a1 g 0,a5 v,a4 width]) (bH [(0,a1 g 0),(1,a5 v),(2,a4 width)] ⟨rfl,rfl,rfl,i3⟩ (sr (eK E (z:= .agg ((cB 64 0).map B8).toArray) (vs:=(cB 64 0).map B8) (fun _=>by kernel_rfl) E fun f v2 nb=>?_)))
 have bi:=nb.bk
 have D:w.heap.size≤f:=by rw [←nb.at_];exact (UpdW.refl lb w).size
 have bm:g<f:=by rw [←nb.at_];exact hW.lt
 have e5:=nb.ext
 have o:UpdW lb w v2:=(UpdW.refl lb w).trans e5
 have e:Ext w v2:=(Ext.refl w).trans e5
 refine a7 (sr (mv 1 E (a7 (aD (bI ?_)))))
 refine dJ (T:=a6×Nat×Nat×List Nat×List Nat)
  (fun⟨wr,vv,n,l,acc⟩=> [(0,a1 g 0),(2,a4 width),(6,a1 f 0),(1,a5 vv),(7,a4 n)])
  (fun⟨wr,vv,n,l,acc⟩=>wr)
  (fun⟨wr,vv,n,l,acc⟩=>(UpdW lb w wr)∧(Ext w wr)∧(db base v=acc++db base vv)∧(n+acc.length=64)∧(l.length=64)∧(l.drop n=cN acc)∧(vv≤18446744073709551615)∧(Bk wr f 166 (l.map B8)))
  (fun⟨wr,vv,n,l,acc⟩=>vv)
  (⟨v2,v,64,cB 64 0,[]⟩:a6×Nat×Nat×List Nat×List Nat) ⟨o,e,rfl,rfl,(List.length_replicate),(by rw [List.drop_eq_nil_of_le (by rw [List.length_replicate];decide)];rfl),hv,bi⟩ E ⟨rfl,rfl,rfl,rfl,rfl,i3⟩ ?_
 rintro⟨wr,vv,n,l,acc⟩ ⟨o,e,L,hn,Z,ap,bh,b_d⟩
 refine d9 [(0,a1 g 0),(2,a4 width),(6,a1 f 0),(1,a5 vv),(7,a4 n)] wr E ⟨rfl,rfl,rfl,rfl,rfl,i3⟩ (aD (aD ?_))
 by_cases br:vv>0
 ·have ah:=jQ hbl (show vv≠0 by omega)
  have bu:acc.length<64:=E9 hbl hv L (by rw [ah];simp)
  refine aE (mv 1 E (aA E E E true (iM (a:=vv) (b:=0) E E) (a7 (b8 E (aY (aJ (bI (sr (mv 1 E (bF E E E ((n-1:Nat):Int) (kK (a:=n) (b:=1) E E) (mv 1 E (a7 (aD ?_)))))))))))))
  refine aE (mv 3 E (pf g 0 E (pf g 0 E (aH E E (aS (fun _=>by kernel_rfl) (hW.ext e) E) (eH E E (v:= a5 (IntKind.u64.wrap ((base:Nat):Int))) (v':= a5 base) (jR (by first | omega | exact hle64)) (bF E E E ((vv%base:Nat):Int) (vU (a:=vv) (b:=base) E E) (t8 E E E Tryz.underlying167 iV (vv%base) E (cU (fM _ (by omega)) hbu) ⟨1,vv%base,none⟩ (rW _ _) (aH E E (cO D7 ((hS.ext e) _ (cU (fM _ (by omega)) hbu))) (t8 E E E Tryz.underlying166 iV (n-1) E (by omega) ⟨f,n-1,none⟩ (rW _ _) ?_)))))))))
  have bf:=b_d
  refine fO E E E iV E bf (AM (by rw [Z];omega)) E ((l.set (n-1) (sgn (vv%base))).map B8) (A8 _ _ _) fun v6 bg u9 _=>?_
  have O:Ext w v6:=u9.ext e D
  have j:UpdW lb w v6:=o.upd u9 (aN hlb D) (fun _ _ _ h=>absurd h (vT D))
  refine a7 (aE (mv 2 E (pf g 0 E (pf g 0 E (aH E E (aS (fun _=>by kernel_rfl) ((hW.ext e).vN u9) E) (eH E E (v:= a5 (IntKind.u64.wrap ((base:Nat):Int))) (v':= a5 base) (jR (by first | omega | exact hle64)) (bF E E E ((vv/base:Nat):Int) (vV (a:=vv) (b:=base) E E) (mv 1 E (bA (bU (cW (⟨v6,vv/base,n-1,l.set (n-1) (sgn (vv%base)),acc++ [vv%base]⟩:a6×Nat×Nat×List Nat×List Nat) ⟨j,O,(by rw [L,ah,List.append_assoc];rfl),(by rw [cK,List.length_singleton];omega),(by rw [List.length_set];exact Z),(by rw [CE (by omega),show n-1+1=n by omega,ap,EZ]),(aN (f5 _ _) bh),bg⟩ (iB (by omega) (by omega)) E ⟨rfl,rfl,rfl,rfl,rfl,i3⟩)))))))))))
 ·refine aE (mv 1 E (aA E E E false (fH (a:=vv) (b:=0) E E) (a7 (aI E (dA (d7 (dG (d8 (aJ (aD (bI ?_)))))))))))
  have H:db base v=acc:=by rw [L,show vv=0 by omega,kH,fA]
  refine dJ (T:=a6×Nat×List Nat×Nat)
   (fun⟨wq,m,M,z⟩=> [(0,a1 g 0),(2,a4 width),(6,a1 f 0),(7,a4 m)])
   (fun⟨wq,m,M,z⟩=>wq)
   (fun⟨wq,m,M,z⟩=>(UpdW lb w wq)∧(Ext w wq)∧(m+z+acc.length=64)∧(z≤width-acc.length)∧(M.length=64)∧(M.drop m=cB z 48++cN acc)∧(Bk wq f 166 (M.map B8)))
   (fun⟨wq,m,M,z⟩=>m)
   (⟨wr,n,l,0⟩:a6×Nat×List Nat×Nat) ⟨o,e,(by omega),(cE _),Z,ap,b_d⟩ E ⟨rfl,rfl,rfl,rfl,i3⟩ ?_
  rintro⟨wq,m,M,z⟩ ⟨o,e,_,_,r,X,b_d⟩
  refine d9 [(0,a1 g 0),(2,a4 width),(6,a1 f 0),(7,a4 m)] wq E ⟨rfl,rfl,rfl,rfl,i3⟩ (aD (aD ?_))
  by_cases bo:64-m<width
  ·refine aE (mv 1 E (bF E E E ((64-m:Nat):Int) (kK (a:=64) (b:=m) E E) (mv 1 E (aA E E E true (d5 (a:=64-m) (b:=width) E E) (a7 (b8 E (aY (aJ (bI (sr (mv 1 E (bF E E E ((m-1:Nat):Int) (kK (a:=m) (b:=1) E E) (mv 1 E ?_)))))))))))))
   refine a7 (aE (mv 1 E (t8 E E E Tryz.underlying166 iV (m-1) E (by omega) ⟨f,m-1,none⟩ (rW _ _) ?_)))
   have ae:=b_d
   refine fO E E E iV E ae (AM (by rw [r];omega)) E ((M.set (m-1) 48).map B8) (A8 _ _ _) fun aa ao aq _=>?_
   have O:Ext w aa:=aq.ext e D
   have j:UpdW lb w aa:=o.upd aq (aN hlb D) (fun _ _ _ h=>absurd h (vT D))
   refine bA (bU (cW (⟨aa,m-1,M.set (m-1) 48,z+1⟩:a6×Nat×List Nat×Nat) ⟨j,O,(by omega),(by omega),(by rw [List.length_set];exact r),(by rw [CE (by omega),show m-1+1=m by omega,X,sJ];rfl),ao⟩ (show m-1<m by omega) E ⟨rfl,rfl,rfl,rfl,i3⟩))
  ·refine aE (mv 1 E (bF E E E ((64-m:Nat):Int) (kK (a:=64) (b:=m) E E) (mv 1 E (aA E E E false (f8 (a:=64-m) (b:=width) E E) (a7 (aI E (dA (d7 (dG (d8 (aJ (bH [(0,a1 g 0),(2,a4 width),(6,a1 f 0),(7,a4 m),(30,a4 m),(31,a4 ((64-m:Nat):Int)),(32,a4 width),(33,ik)] ⟨rfl,rfl,rfl,rfl,rfl,rfl,rfl,rfl,i3⟩ ?_))))))))))))
   obtain⟨U,hv,q⟩:∃v,v=wq.drew∧Ext wq v:=⟨_,rfl,(Ext.refl _).drew⟩
   have j:UpdW lb w U:=o.trans q
   have O:Ext w U:=e.trans q
   have I:=(hO.ext (e.trans q))
   obtain⟨F,V,ak,ar,au,W,ag⟩:=yN (P:=aG) (t:=68) (ty:=68) (m:=64-m) (c:=64-m) i7 mB E (by decide) (by decide) I (aN hlb j.size) (news:=((M).drop m).map B8) (by rw [List.length_map,fN,r,eI]) (OT (b_d.ext q) (r) (by omega)) (PC _) (by omega)
   have ay:UpdW lb w ak:=j.updO W (fun p hp=>(I.block p hp).1) (fun p cs t fr hp h=>cA ((yZ hO) p cs t fr hp h))
   have Y:=((hW.ext (e.trans q)).updO W (cT I (hW.ext (e.trans q)) (by decide)))
   obtain⟨aj,av,ab,ai,_⟩:=GZ (P:=aG) (v:= a9 F (on+(64-m)) V) (off:=4) (T:=68) (fun _=>by kernel_rfl) E Y (bq E) E [a4 (base:Int),a4 (k:Int),a5 (unit:Int),a9 PA pn pc,a9 F (on+(64-m)) V] rfl
   have ax:UpdW lb w aj:=ay.upd ai hgl (fun _ _ _ h=>bY (vS hW h))
   refine NW eR (w:=U) [a1 g 0,a1 g 0,a1 g 0,a1 g 4,a9 OA on oc,a4 m,a9 (some (if 64=m then ⟨f,0,none⟩ else (⟨f,0,none⟩:a8).add (m*1))) (64-m) (64-m),a9 F (on+(64-m)) V,a1 g 0,a1 g 4,undef] [U,ak,aj] [7,10] [[],[],[1],[2],[3],[],[5],[4,6],[0],[8],[7,9]] [[],[],[1],[1,2],[1,2,3],[],[5],[1,2,3,4,5,6],[0,1,2,3,4,5,6,7],[0,1,2,3,4,5,6,7,8],[0,1,2,3,4,5,6,7,8,9]] [(0,0),(0,1),(1,0),(2,0),(3,0),(4,0),(5,0),(6,0),(7,0),(8,1),(9,1),(10,1)] E hv ?_ ?_
   ·refine jP _ E E E E E (jF E) (jP _ E E E E E (jF E) (jP _ E E E E E (jF E) (jP _ E E E E E (fX E) (jP _ E E E E E (fX E) (jP _ E E E E E (iY E (aS (fun _=>by kernel_rfl) (hW.ext (e.trans q)) E)) (jP _ E E E E E (jF E) (jP _ E E E E E (HY E E Tryz.underlying166 iV (by omega)) (N0 _ E E E E E E E (I2 E E ar) (jP _ E E E E E (fX E) (jP _ E E E E E (fX E) (MY _ E E E E E E (HX E E av) ?_)))))))))))
    exact MZ
   clear hv
   refine rO [(0,a1 g 0),(2,a4 width),(6,a1 f 0),(7,a4 m),(30,a4 m),(31,a4 ((64-m:Nat):Int)),(32,a4 width),(33,ik),(38,a1 g 0),(39,a1 g 0),(40,a1 g 0),(41,a1 g 4),(42,a9 OA on oc),(43,a4 m),(44,a9 (some (if 64=m then ⟨f,0,none⟩ else (⟨f,0,none⟩:a8).add (m*1))) (64-m) (64-m)),(45,a9 F (on+(64-m)) V),(46,a1 g 0),(47,a1 g 4)] ⟨rfl,rfl,rfl,rfl,rfl,rfl,rfl,rfl,rfl,rfl,rfl,rfl,rfl,rfl,rfl,rfl,rfl,rfl,i3⟩ (jN [] E i3 ?_)
   have am:bs.map B8++((M).drop m).map B8=(bs++cN (d4 (db base v) width)).map B8:=by rw [X,←H,tI,show z=width-(db base v).length by rw [H];omega];simp only [List.map_append]
   exact⟨rfl,F,_,_,ab,am▸((au.updT Y (by decide) ai)),ax,ag.of j.size⟩
theorem qH {Q:cQ→Act→a6→Prop}{l:Fr}{k:fV}{b:Int}(hw:cF ops l gd=some true)(hx:bK l x=some (.int k a))(hy:bK l y=some (.int k b))(c:Int)(h:wl P ops Q n rest ((d,.int k c)::l) w)(hc:max a b=c:=by omega)(hn:d<n:=by decide):wl P ops Q n (⟨some d,.call {callee:= .builtin .max,args:= #[x,y],argTypes:=ts},ty,pos,af,gd⟩::rest) l w:=by
 refine dU hw hn (fun a' f=>?_) h
 have e:(if b>a then b else a)=c:=by rw [←hc];split <;> omega
 unfold execOp
 simp only [resolve,invoke,builtin,bQ,eO,dE,List.map_toArray,List.map_cons,List.map_nil,f.ev hx,f.ev hy,Builtin.max_,List.foldlM,Builtin.max2,e]
theorem xD {Q:cQ→Act→a6→Prop}{l:Fr}{k:fV}{b:Int}(hw:cF ops l gd=some true)(hx:bK l x=some (.int k a))(hy:bK l y=some (.int k b))(c:Int)(hc:min a b=c)(hn:d<n)(h:wl P ops Q n rest ((d,.int k c)::l) w):wl P ops Q n (⟨some d,.call {callee:= .builtin .min,args:= #[x,y],argTypes:=ts},ty,pos,af,gd⟩::rest) l w:=by
 refine dU hw hn (fun a' f=>?_) h
 have e:(if b<a then b else a)=c:=by rw [←hc];split <;> omega
 unfold execOp
 simp only [resolve,invoke,builtin,bQ,eO,dE,List.map_toArray,List.map_cons,List.map_nil,f.ev hx,f.ev hy,Builtin.min_,List.foldlM,Builtin.min2,e]
theorem yG (hx:Wi w A n c m)(hl:n≤1099511627775):aU aG 64 #[a9 A n c] w (Gv w (Is (a4 ((cX m:Nat):Int)))):=by
 obtain⟨xs,h1,rfl⟩:=hx
 refine (zP h1 hl).mono fun e w' h=>?_
 obtain⟨k,h2,rfl,f⟩:=h
 exact⟨_,rfl,(show bP .i64 (k:Int)=_ by rw [h2.out]),f⟩
theorem GH {v:Nat}(hx:Wi w A n c m)(hl:n≤1099511627775)(hv0:v≠0)(hvb:v≤18446744073709551615):aU aG 117 #[a9 A n c,a5 (v:Int)] w (Gv w (T3 (WR w.heap.size (m/v)) (Is (a5 ((m%v:Nat):Int))) (Is (a4 0)))):=by
 obtain⟨xs,h1,rfl⟩:=hx
 refine (CI h1 hl hv0 hvb).mono fun e w' h=>?_
 obtain⟨A,n,cap,r',rfl,h2,_,j,_,f,o⟩:=h
 exact⟨_,rfl,⟨_,_,_,rfl,⟨A,n,cap,rfl,j.out,f⟩,(show bP .u64 (r':Int)=_ by rw [h2.out]),rfl⟩,o⟩
def g0 (b k at_:Nat):List Nat→List Nat
 | []=> []
 | [x]=>d4 (db b x) at_
 | x::y::r=>d4 (db b x) k++g0 b k at_ (y::r)
theorem vO {a x:Nat}{r:List Nat}:g0 b k a (x::r)=d4 (db b x) (if r= [] then a else k)++g0 b k a r:=by
 cases r with
 | nil=>simp [g0]
 | cons y r=>simp [g0]
theorem oS (h:k≤l.length):d4 l k=l:=by rw [d4,Nat.sub_eq_zero_of_le h];simp
theorem yY {r:List Nat}:l++d4 r k=d4 (l++r) (l.length+k):=by
 unfold d4
 rw [List.append_assoc,cK]
 congr 2
 congr 1
 omega
theorem rS (hb:2≤b)(hq:m/b^k≠0):db b m=d4 (db b (m%b^k)) k++db b (m/b^k):=by
 have q:0<b^k:=eT (by omega)
 have hl:(db b (m%b^k)).length≤k:=j2 hb (fM _ q)
 have f:(d4 (db b (m%b^k)) k).length=k:=by rw [mA];omega
 have hn:nb b (d4 (db b (m%b^k)) k)=m%b^k:=by rw [d4,IZ,oW hb]
 have p:nb b (d4 (db b (m%b^k)) k++db b (m/b^k))=m:=by
  rw [zN,hn,f,oW hb,kP]
 have o:kL b (d4 (db b (m%b^k)) k++db b (m/b^k)):=DD (DD (nT hb _) (fun x r=>by rw [List.eq_of_mem_replicate r];omega)) (nT hb _)
 have ht:=CM hb (m/b^k)
 have j:(db b (m/b^k)).length≠0:=fun e=>hq ((rH hb).1 e)
 have key:=NS hb o (cA (by
  rw [cK,f,bE,List.getElem?_append_right (by rw [f];omega),f,show k+(db b (m/b^k)).length-1-k=(db b (m/b^k)).length-1 by omega,←bE]
  rcases ht with h | h
  ·exact absurd h j
  ·exact h))
 rw [p] at key
 exact key
theorem OH {a:Nat}(hb:2≤b)(_hk:1≤k)(hu:2≤b^k):∀(n m:Nat),m≤n→m≠0→g0 b k a (db (b^k) m)=d4 (db b m) (((db (b^k) m).length-1)*k+a):=by
 intro n
 induction n with
 | zero=>intro m hm h0;omega
 | succ n ih=>
  intro m hm h0
  have e:=jQ hu h0
  rw [e,vO]
  by_cases hq:m/b^k=0
  ·have e2:db (b^k) (m/b^k)= []:=by rw [hq];rfl
   have e3:m%b^k=m:=eZ ((Nat.div_eq_zero_iff_lt (by omega)).1 hq)
   rw [e2,if_pos rfl,e3]
   simp [g0]
  ·have hne:db (b^k) (m/b^k)≠ []:=fun e=>hq ((vI hu).1 e)
   rw [if_neg hne,ih (m/b^k) (by have:=iB (show 0<m by omega) (show 1<b^k by omega);omega) hq]
   rw [yY,←rS hb hq]
   congr 1
   have hl:(db b (m%b^k)).length≤k:=j2 hb (fM _ (by omega))
   have hp:0<(db (b^k) (m/b^k)).length:=List.length_pos_iff.2 hne
   rw [mA,cS,Nat.max_eq_right hl]
   obtain⟨p,hp'⟩:∃p,(db (b^k) (m/b^k)).length=p+1:=⟨_,(Nat.succ_pred_eq_of_pos hp).symm⟩
   rw [hp']
   simp only [oA,dM]
   omega
theorem JS (hb:2≤b)(hu:2≤b^k)(h0:m≠0):((db (b^k) m).length-1)*k<(db b m).length:=by
 have h1:=IA hu h0
 rw [←Nat.pow_mul,cM] at h1
 refine o8 fun h=>?_
 have h2:=AC hb m
 have e:=fJ (show 0<b by omega) h
 omega
theorem IC {pl:Nat}(hb:2≤b)(hk:1≤k)(hu:2≤b^k)(hpl:(db (b^k) m).length=pl):cB (width-pl*k) 48++cN (g0 b k (min (width+k-pl*k) k) (db (b^k) m))=cN (d4 (db b m) width):=by
 by_cases h0:m=0
 ·subst h0
  have e:pl=0:=by rw [←hpl];rfl
  subst e
  rw [kH,kH]
  simp [g0,cN,d4,y8]
 ·have j:1≤pl:=by
   have:(db (b^k) m).length≠0:=fun e=>h0 ((rH hu).1 e)
   omega
  have f:=JS hb hu h0
  rw [OH hb hk hu m m (aZ _) h0,hpl]
  rw [hpl] at f
  obtain⟨q,rfl⟩:∃q,pl=q+1:=⟨pl-1,by omega⟩
  have h:(db b m).length≤(q+1)*k:=by
   refine j2 hb ?_
   have:=AC hu m
   rw [hpl,←Nat.pow_mul,cM] at this
   exact this
  rw [dM,Nat.one_mul] at h
  rw [oA] at f
  rw [oA,dM,Nat.one_mul]
  rw [tI,tI,←List.append_assoc,List.replicate_append_replicate]
  congr 2
  generalize q*k=qk at*
  omega
theorem nE (v:aC)(h:Bk w g T [v]):∀j u,[v][j]?=some u→w.cell? ((⟨g,0,none⟩:a8).add j)=some u:=by
 intro j u f
 have e:=(eJ.1 f).1
 rw [g7,dY,h.cell e,bE,f];rfl
theorem oX (hb:2≤b)(h:(wd m).length≤n):(db b m).length≤64*n:=by
 refine j2 hb ?_
 have h1:=m9 m
 rw [kM,←Nat.pow_mul] at h1
 exact cU h1 (aN (fJ (by decide) (gP _ h)) (Nat.pow_le_pow_left hb _))
theorem Kept.refl (w:a6)(A:Option a8):Kept w A A:=fun p e=>bY ⟨p,e,rfl⟩
theorem Kept.next {v:a6}{B C:Option a8}(h:Kept w A B)(k:Kept v B C)(hs:w.heap.size≤v.heap.size):Kept w A C:=fun p j=>by
 rcases k p j with⟨q,o,e⟩ | e
 ·rcases h q o with⟨r,hr,f⟩ | f
  ·exact bY ⟨r,hr,by rw [e,f]⟩
  ·exact cA (by omega)
 ·exact cA (aN hs e)
theorem JV {B:Option a8}(h:Own w lb 5 1 A n c us)(k:Kept w A B):∀(p:a8) (cs:Array aC) (t:aQ) (fr:Nat×Nat),B=some p→w.heap[p.block]?=some (.cells cs t fr)→t=5:=fun p cs t fr f h'=>by
 rcases k p f with⟨q,j,e⟩ | e
 ·rw [e] at h';exact yZ h q cs t fr j h'
 ·exact absurd h' (vT e)
theorem HW {z:Nat}:(bs++cB (z+1) 48).map B8=(bs++cB z 48).map B8++ [.int .u8 48]:=by
 rw [List.replicate_succ',←List.append_assoc,List.map_append];rfl
theorem jG (h:Own w b T 1 A n c (l.map B8)):n=l.length:=by have:=h.rv.len;rw [List.length_map,eI] at this;exact this.symm
theorem pF (h:q<l.length):l.drop q=l.getD q 0::l.drop (q+1):=by rw [mP h,bE,bS h];rfl
theorem yC {pc:Nat}(hS:Signs w)(hgS:1<lb)(hbl:2≤base)(hbu:base≤36)(hW:Wr w g base k unit PA pn pc OA on oc)(hO:Own w lb 5 1 OA on oc (bs.map B8))(hgl:lb≤g)(hlb:lb≤w.heap.size)(ha:Wi w A an ac m)(hal:an≤4194304)(hun:unit=base^k)(hkk:PieceK base k)(hwd:width≤137438953472)(hon:on≤137438953472):aU aG 107 #[a1 g 0,a9 A an ac,a4 width] w (s6 w lb g base k unit PA pn pc OA (bs++cN (d4 (db base m) width))):=by
 have ap:(wd m).length≤4194304:=aN ha.len hal
 have fb:unit≤18446744073709551615:=by rw [hun];exact hkk.le
 have dr:1≤k:=by refine Nat.pos_of_ne_zero (fun e=>?_);have:=hkk.gt;rw [e,dY,Nat.pow_one] at this;omega
 have X:2≤unit:=by rw [hun];exact aN hbl (aN (Nat.le_of_eq (Nat.pow_one base).symm) (fJ (by omega) dr))
 refine bJ Tryz.func107 E (n:=93) E (bq E) (args:= [a1 g 0,a9 A an ac,a4 width]) (bH [(0,a1 g 0),(1,a9 A an ac),(2,a4 width)] ⟨rfl,rfl,rfl,i3⟩ (sr (mv 1 E (a7 (aD (bI ?_))))))
 obtain⟨M,L,_⟩:∃M,M≤w.heap.size∧w.heap.size≤M:=⟨_,aZ _,(Ext.refl w).size⟩
 refine dJ (T:=a6×Option a8×Nat×Nat×Nat×Option a8×Nat×Nat×List Nat)
  (fun⟨wr,QA,qn,qc,mm,r,f,D,ps⟩=> [(0,a1 g 0),(2,a4 width),(1,a9 QA qn qc),(6,a9 r f D)])
  (fun⟨wr,QA,qn,qc,mm,r,f,D,ps⟩=>wr)
  (fun⟨wr,QA,qn,qc,mm,r,f,D,ps⟩=>(UpdW lb w wr)∧(Ext w wr)∧(M≤wr.heap.size)∧(db unit m=ps++db unit mm)∧(ps.length=f)∧(Wi wr QA qn qc mm)∧(qn≤4194304)∧(Own wr M 50 1 r f D (ps.map bG))∧(mm≤m))
  (fun⟨wr,QA,qn,qc,mm,r,f,D,ps⟩=>mm)
  (⟨w,A,an,ac,m,none,0,0,[]⟩:a6×Option a8×Nat×Nat×Nat×Option a8×Nat×Nat×List Nat) ⟨(UpdW.refl lb w),aF,L,rfl,rfl,ha,hal,(Own.nil _ _ _ _),(aZ _)⟩ E ⟨rfl,rfl,rfl,rfl,i3⟩ ?_
 rintro⟨wr,QA,qn,qc,mm,r,f,D,ps⟩ ⟨o,aa,L,ba,aq,hq,_,hP,dq⟩
 refine d9 [(0,a1 g 0),(2,a4 width),(1,a9 QA qn qc),(6,a9 r f D)] wr E ⟨rfl,rfl,rfl,rfl,i3⟩ (aD (aD ?_))
 by_cases ao:mm=0
 ·have cj:cX mm=0:=by rw [ao];rfl
  refine aE (mv 1 E (bC E E (vs:= [a9 QA qn qc]) (by kernel_rfl) (by decide) (yG hq (by omega)) ?_))
  rintro _ v1 ⟨_,rfl,r3,e2⟩
  refine bB ?_
  have F:UpdW lb w v1:=o.trans e2
  have br:Ext w v1:=aa.trans e2
  obtain rfl:=r3
  refine aA E E E false (fH (a:=cX mm) (b:=0) E E) (a7 (aI E (dA (d7 (dG (d8 (aJ (aD ?_))))))))
  have H:db unit m=ps:=by rw [ba,ao,kH,fA]
  have psWf:Wf ps:=fun x hx=>by have:=nT X m x (H.symm▸hx);rw [cH];omega
  have psW:∀q,ps.getD q 0≤18446744073709551615:=fun q=>by have:=s7 psWf q;rw [cH] at this;omega
  have fv:f*k≤268435456*64:=i2 (by have:=oX X ap;rw [H,aq] at this;omega) hkk.le64
  have fw:f≤268435456:=by have:=oX X ap;rw [H,aq] at this;omega
  refine aE (mv 1 E (pu (v:= a4 f) E (bF E E E (((f:Nat):Int)-1) (gL E) (mv 1 E (pf g 0 E (pf g 1 E (aH E E (aS (fun _=>by kernel_rfl) (hW.ext (aa.trans e2)) E) (bF E E E (((f*k:Nat):Int)-(k:Int)) (D5 (by rw [Int.sub_mul,Int.one_mul,gD]) (by have:=hkk.le64;omega) (by omega)) (mv 1 E (a7 (aD (sr (mv 1 E ?_)))))))))))))
  refine mv 1 E (a7 (bI ?_))
  refine dJ (T:=a6×Nat×Nat×Option a8×Nat×Nat)
   (fun⟨wz,nn,z,OB,ob,V⟩=> [(0,a1 g 0),(2,a4 width),(6,a9 r f D),(10,a4 (((f*k:Nat):Int)-(k:Int))),(11,a4 nn)])
   (fun⟨wz,nn,z,OB,ob,V⟩=>wz)
   (fun⟨wz,nn,z,OB,ob,V⟩=>(UpdW lb w wz)∧(nn+z=width)∧(z≤width-f*k)∧(ob=on+z)∧(Bk wz g 136 [a4 (base:Int),a4 (k:Int),a5 (unit:Int),a9 PA pn pc,a9 OB ob V])∧(Own wz lb 5 1 OB ob V ((bs++cB z 48).map B8))∧(Kept w OA OB)∧(Own wz M 50 1 r f D (ps.map bG))∧(M≤wz.heap.size))
   (fun⟨wz,nn,z,OB,ob,V⟩=>nn)
   (⟨v1,width,0,OA,on,oc⟩:a6×Nat×Nat×Option a8×Nat×Nat) ⟨F,rfl,(cE _),rfl,(hW.ext (aa.trans e2)),(by rw [List.replicate_zero,fA];exact (hO.ext (aa.trans e2))),(Kept.refl w OA),(hP.ext e2),(aN L (e2.size))⟩ E ⟨rfl,rfl,rfl,rfl,rfl,i3⟩ ?_
  rintro⟨wz,nn,z,OB,ob,V⟩ ⟨o,_,_,aK,b_g,ch,O,dw,dx⟩
  refine d9 [(0,a1 g 0),(2,a4 width),(6,a9 r f D),(10,a4 (((f*k:Nat):Int)-(k:Int))),(11,a4 nn)] wz E ⟨rfl,rfl,rfl,rfl,rfl,i3⟩ (aD (aD ?_))
  by_cases fx:nn>f*k
  ·refine aE (mv 3 E (pf g 0 E (pf g 1 E (aH E E (aS (fun _=>by kernel_rfl) b_g E) (bF E E E ((f*k:Nat):Int) (vX) (qH E E E (((f*k:Nat):Int)) (aA E E E true (iM (a:=nn) (b:=f*k) E E) (a7 (b8 E (aY (aJ (aD (bI ?_)))))))))))))
   refine aE (mv 2 E (pf g 0 E (pf g 4 E (aH E E (aS (fun _=>by kernel_rfl) b_g E) (dN E E (k:=1) (e:=5) [.int .u8 48] (fun _=>by kernel_rfl) fun _ v5 nb=>?_)))))
   have ep:=nb.bk
   have e7:=nb.ext
   clear nb
   have F:UpdW lb w v5:=o.trans e7
   have au:=(ch.ext e7)
   refine fB E E E i7 mB E au (aN hlb F.size) [.int .u8 48] E (nE _ ep) E fun A9 ce ee dl W dz=>?_
   have du:=O.next dz F.size
   have bg:UpdW lb w ee:=F.updO W (fun p hp=>(au.block p hp).1) (fun p cs t fr hp h=>cA (JV hO O p cs t fr hp h))
   refine pf g 0 E (pf g 4 E ?_)
   have ah:=((b_g.ext e7).updO W (cT au (b_g.ext e7) (by decide)))
   refine fO E E E (fun _=>by kernel_rfl) E ah (bq E) E [a4 (base:Int),a4 (k:Int),a5 (unit:Int),a9 PA pn pc,a9 A9 (ob+1) ce] E fun cg bo am _=>?_
   have bv:UpdW lb w cg:=bg.upd am hgl (fun _ _ _ h=>bY (vS hW h))
   refine bA (bU (aJ (aE (mv 1 E (bF E E E ((nn-1:Nat):Int) (kK (a:=nn) (b:=1) E E) (mv 1 E (bA (cW (⟨cg,nn-1,z+1,A9,ob+1,ce⟩:a6×Nat×Nat×Option a8×Nat×Nat) ⟨bv,(by omega),(by omega),(by omega),bo,(by rw [HW];exact (dl.updT ah (by decide) am)),du,(((dw.ext e7).updOT au (by decide) W).updT ah (by decide) am),(aN dx ((aN (aN e7.size W.size) am.by_.size)))⟩ (show nn-1<nn by omega) E ⟨rfl,rfl,rfl,rfl,rfl,i3⟩))))))))
  ·refine aE (mv 3 E (pf g 0 E (pf g 1 E (aH E E (aS (fun _=>by kernel_rfl) b_g E) (bF E E E ((f*k:Nat):Int) (vX) (qH E E E (((f*k:Nat):Int)) (aA E E E false (fH (a:=nn) (b:=f*k) E E) (a7 (aI E (dA (d7 (dG (d8 ?_)))))))))))))
   refine aJ (aD ?_)
   have eh:z=width-f*k:=by omega
   refine aE (mv 1 E (pu (v:= a4 f) E (bF E E E (((f:Nat):Int)-1) (gL E) (mv 1 E (a7 (bI ?_))))))
   refine dJ (T:=a6×Nat×Int×Option a8×Nat×Nat)
    (fun⟨wt,j,ii,OD,od,Y⟩=> [(0,a1 g 0),(2,a4 width),(6,a9 r f D),(10,a4 (((f*k:Nat):Int)-(k:Int))),(12,a4 ii)])
    (fun⟨wt,j,ii,OD,od,Y⟩=>wt)
    (fun⟨wt,j,ii,OD,od,Y⟩=>(UpdW lb w wt)∧(j≤f)∧(ii=(j:Int)-1)∧(od≤on+width+(f-j)*64)∧(Bk wt g 136 [a4 (base:Int),a4 (k:Int),a5 (unit:Int),a9 PA pn pc,a9 OD od Y])∧(Own wt lb 5 1 OD od Y ((bs++cB (width-f*k) 48++cN (g0 base k (min (width+k-f*k) k) (ps.drop j))).map B8))∧(Kept w OA OD)∧(Own wt M 50 1 r f D (ps.map bG)))
    (fun⟨wt,j,ii,OD,od,Y⟩=>j)
    (⟨wz,f,_,OB,ob,V⟩:a6×Nat×Int×Option a8×Nat×Nat) ⟨o,(aZ _),rfl,(by omega),b_g,(by rw [List.drop_of_length_le (by omega),show g0 base k (min (width+k-f*k) k) []= [] from rfl,←eh];simpa [cN] using (ch)),O,dw⟩ E ⟨rfl,rfl,rfl,rfl,rfl,i3⟩ ?_
   rintro⟨wt,j,ii,OD,od,Y⟩ ⟨o,_,_,_,b_g,ai,O,ar⟩
   refine d9 [(0,a1 g 0),(2,a4 width),(6,a9 r f D),(10,a4 (((f*k:Nat):Int)-(k:Int))),(12,a4 ii)] wt E ⟨rfl,rfl,rfl,rfl,rfl,i3⟩ (aD (aD ?_))
   by_cases fp:0<j
   ·obtain⟨q,rfl⟩:∃q,j=q+1:=⟨j-1,by omega⟩
    obtain rfl:ii=(q:Int):=by omega
    have cf:ps.getD q 0≤18446744073709551615:=by have:=psW q;omega
    refine aE (mv 1 E (aA E E E true (BD (by omega)) (a7 (b8 E (aY (aJ (aD (bI (sr (mv 1 E (pf g 0 E (pf g 1 E (aH E E (aS (fun _=>by kernel_rfl) b_g E) ?_)))))))))))))
    refine mv 1 E (a7 (aD (aD ?_)))
    by_cases fk:q+1=f
    ·refine aE (mv 2 E (pu (v:= a4 f) E (bF E E E (((f:Nat):Int)-1) (gL E) (aA E E E true (C5 (by omega)) (a7 (b8 E (aE (mv 2 E (bF E E E (((width:Nat):Int)-(((f*k:Nat):Int)-(k:Int))) (gL E (h1:=(by have:=hkk.le64;omega)) (h2:=(by have:=hkk.le64;omega))) (qH E E E (((width+k-f*k:Nat):Int)) (mv 1 E (pf g 0 E (pf g 1 E ?_)))))))))))))
     refine aH E E (aS (fun _=>by kernel_rfl) b_g E) (xD E E E (((min (width+k-f*k) k:Nat):Int)) (by omega) (by decide) (mv 1 E (a7 (aE (mv 3 E ?_)))))
     obtain⟨pw,bf,bd,eg⟩:=((ar).rd psWf).at (i:=q) (by omega)
     refine cG E E E lW mX q E pw bf (aH E E (cO nS bd) (mv 1 E (bC E E (vs:= [a1 g 0,a5 ((ps.getD q 0:Nat):Int),a4 ((min (width+k-f*k) k:Nat):Int)]) (by kernel_rfl) (by decide) (yB (o.signs hS hgS) hgS hbl hbu b_g ai hgl (aN hlb o.size) cf (by have:=hkk.le64;omega) (by have:=hkk.le64;omega)) ?_)))
     rintro _ bu ⟨rfl,ei,cv,ea,dy,ae,av,cx⟩
     refine bB ?_
     have F:UpdW lb w bu:=o.then av
     have dd:=O.next cx o.size
     have ak:cv≤on+width+(f-q)*64:=by have h1:=(jG ae).symm;have h2:=jG ae;rw [h2,cK,qM,mA,←jG ai];have h3:(db base (ps.getD q 0)).length≤64:=j2 hbl (cU (show ps.getD q 0<2^64 by omega) (Nat.pow_le_pow_left hbl 64));have:=hkk.le64;omega
     have U:bs++cB (width-f*k) 48++cN (g0 base k (min (width+k-f*k) k) (ps.drop (q+1)))++cN (d4 (db base (ps.getD q 0)) (min (width+k-f*k) k))=bs++cB (width-f*k) 48++cN (g0 base k (min (width+k-f*k) k) (ps.drop q)):=by rw [pF (by omega:q<ps.length),vO,qN,List.append_assoc,if_pos (List.drop_of_length_le (by omega))]
     refine bA (bU (aJ (aE (mv 1 E (bF E E E (((q:Nat):Int)-1) (gL E) (mv 1 E (bA (cW (⟨bu,q,(q:Int)-1,ei,cv,ea⟩:a6×Nat×Int×Option a8×Nat×Nat) ⟨F,(by omega),rfl,ak,dy,(U▸(ae)),dd,(av.own ar (by decide) (by decide))⟩ (show q<q+1 by omega) E ⟨rfl,rfl,rfl,rfl,rfl,i3⟩))))))))
    ·refine aE (mv 2 E (pu (v:= a4 f) E (bF E E E (((f:Nat):Int)-1) (gL E) (aA E E E false (C6 (by omega)) (a7 (aI E (aY (aJ (aE (mv 3 E ?_))))))))))
     obtain⟨pw,bf,bd,eg⟩:=((ar).rd psWf).at (i:=q) (by omega)
     refine cG E E E lW mX q E pw bf (aH E E (cO nS bd) (mv 1 E (bC E E (vs:= [a1 g 0,a5 ((ps.getD q 0:Nat):Int),a4 k]) (by kernel_rfl) (by decide) (yB (o.signs hS hgS) hgS hbl hbu b_g ai hgl (aN hlb o.size) cf (by have:=hkk.le64;omega) (by have:=hkk.le64;omega)) ?_)))
     rintro _ cu ⟨rfl,em,dm,fd,cm,ag,aw,cz⟩
     refine bB ?_
     have F:UpdW lb w cu:=o.then aw
     have bz:=O.next cz o.size
     have ak:dm≤on+width+(f-q)*64:=by have h1:=(jG ag).symm;have h2:=jG ag;rw [h2,cK,qM,mA,←jG ai];have h3:(db base (ps.getD q 0)).length≤64:=j2 hbl (cU (show ps.getD q 0<2^64 by omega) (Nat.pow_le_pow_left hbl 64));have:=hkk.le64;omega
     have U:bs++cB (width-f*k) 48++cN (g0 base k (min (width+k-f*k) k) (ps.drop (q+1)))++cN (d4 (db base (ps.getD q 0)) k)=bs++cB (width-f*k) 48++cN (g0 base k (min (width+k-f*k) k) (ps.drop q)):=by rw [pF (by omega:q<ps.length),vO,qN,List.append_assoc,if_neg (fun e=>by have:=congrArg List.length e;rw [fN] at this;simp only [List.length_nil] at this;omega)]
     refine bA (bU (aJ (aE (mv 1 E (bF E E E (((q:Nat):Int)-1) (gL E) (mv 1 E (bA (cW (⟨cu,q,(q:Int)-1,em,dm,fd⟩:a6×Nat×Int×Option a8×Nat×Nat) ⟨F,(by omega),rfl,ak,cm,(U▸(ag)),bz,(aw.own ar (by decide) (by decide))⟩ (show q<q+1 by omega) E ⟨rfl,rfl,rfl,rfl,rfl,i3⟩))))))))
   ·refine aE (mv 1 E (aA E E E false (BE (by omega)) (a7 (aI E (dA (d7 (dG (d8 (jN [] E i3 ?_)))))))))
    have da:j=0:=by omega
    have ck:bs++cB (width-f*k) 48++cN (g0 base k (min (width+k-f*k) k) (ps.drop j))=bs++cN (d4 (db base m) width):=by rw [da,iR,List.append_assoc,←H,hun,IC hbl dr (hun▸X) (by rw [←hun,H,aq])]
    exact⟨rfl,OD,_,_,b_g,ck▸(ai),o,O⟩
 ·have cj:cX mm≠0:=fun e=>ao (nR.1 e)
  have ay:=jQ X ao
  have ew:(wd (mm/unit)).length≤4194304:=aN (lB (aN (f5 _ _) dq)) ap
  have fj:=oX X ap
  have ft:ps.length<(db unit m).length:=by rw [ba,ay,cK,cS];omega
  refine aE (mv 1 E (bC E E (vs:= [a9 QA qn qc]) (by kernel_rfl) (by decide) (yG hq (by omega)) ?_))
  rintro _ ci ⟨_,rfl,fg,I⟩
  refine bB ?_
  have F:UpdW lb w ci:=o.trans I
  have br:Ext w ci:=aa.trans I
  obtain rfl:=fg
  refine aA E E E true (iM (a:=cX mm) (b:=0) E E) (a7 (b8 E (aY (aJ (bI (sr (mv 2 E (pf g 0 E (pf g 2 E (aH E E (aS (fun _=>by kernel_rfl) (hW.ext (aa.trans I)) E) ?_))))))))))
  have ey:=((hP.ext I)).block
  refine bC E E (vs:= [a9 QA qn qc,a5 unit]) (by kernel_rfl) (by decide) (GH (hq.ext I) (by omega) (by omega) fb) ?_
  rintro _ cr ⟨_,rfl,fe,ab⟩
  refine bB ?_
  have bg:UpdW lb w cr:=F.trans ab
  have ef:Ext w cr:=br.trans ab
  obtain⟨_,_,_,rfl,⟨az,dh,de,rfl,fh,bw⟩,r47_1,r47_2⟩:=fe
  have df:∀p q,r=some p→az=some q→p.block≠q.block:=fun p q hp hq=>by have:=(ey p hp).2;have:=(bw.block q hq).1;omega
  obtain rfl:=r47_1
  obtain rfl:=r47_2
  refine mv 1 E (pu (v:= a9 az dh de) E (pu (v:= a5 ((mm%unit:Nat):Int)) E (pu (v:= a4 0) E (mv 3 E (a7 (sr (mv 2 E (dN E E (k:=1) (e:=50) [a5 ((mm%unit:Nat):Int)] (fun _=>by kernel_rfl) fun _ co nb=>?_))))))))
  have cd:=nb.bk
  have Z:=nb.ext
  clear nb
  have bv:UpdW lb w co:=bg.trans Z
  have ec:Ext w co:=ef.trans Z
  have ax:=(hP.ext (I.t (ab.t Z)))
  refine fB E E E lW kF E ax (aN L ((aN (aN I.size ab.size) Z.size))) [a5 ((mm%unit:Nat):Int)] E (nE _ cd) E fun el fa bi dg aj _=>?_
  have cb:Ext w bi:=aj.ext ec (fun p hp=>by have:=ax.block p hp;omega)
  have ej:UpdW lb w bi:=(UpdW.refl lb w).trans cb
  refine mv 1 E (a7 (aE (mv 2 E (bA (bU (cW (⟨bi,az,dh,de,mm/unit,el,f+1,fa,ps++ [mm%unit]⟩:a6×Option a8×Nat×Nat×Nat×Option a8×Nat×Nat×List Nat) ⟨ej,cb,(aN L ((aN (aN (aN I.size ab.size) Z.size) aj.size))),(by rw [ba,ay,List.append_assoc];rfl),(by rw [cK,aq];rfl),((bw.ext Z).updO aj df).wi,(by rw [fh];exact ew),(by rw [List.map_append];exact dg),(aN (f5 _ _) dq)⟩ (iB (by omega) (by omega)) E ⟨rfl,rfl,rfl,rfl,i3⟩))))))
def aT (b m:Nat):List Nat:=if m=0 then [48] else cN (db b m)
theorem yU:∀(ns:List Nat) (r:ByteArray),(ns.map fun x:Nat=>(x:Int)).foldl (fun r n=>r.push (UInt8.ofNat n.toNat)) r=⟨r.data++(ns.map UInt8.ofNat).toArray⟩
 | [],r=>by simp
 | n::ns,r=>by
  rw [List.map_cons,List.foldl_cons,yU ns]
  simp [ByteArray.push,Array.push]
theorem GW (h:Own w lb T 1 A n c (bs.map B8)):(Conv.bytesToString (a9 A n c)).run P w= .ok (.string (aB bs)) w:=by
 cases A with
 | none=>
  rcases h with⟨_,_,_,h⟩ | ⟨g,cs,q,_⟩
  ·rw [List.map_eq_nil_iff] at h;subst h;rfl
  ·cases q
 | some a=>
  have hn:=jG h
  have hl:=qU (P:=P) (w:=w) (p:=a) (bs.map B8) 0 #[] (fun j e=>by
   rw [List.length_map] at e
   obtain⟨a',f,o⟩:=h.rv.get j (by omega)
   cases f
   rw [dY];exact o)
  have hr:=run_bytesToString (P:=P) w a n c (bs.map fun x:Nat=>(x:Int)) (by
   rw [List.length_map,←hn] at hl
   unfold loadCells
   rw [hl]
   congr 1
   simp [B8,Function.comp_def])
  rw [hr,yU]
  rw [show ByteArray.empty.data= #[] from rfl,Array.empty_append]
  rfl
theorem qF {Q:cQ→Act→a6→Prop}{l:Fr}(hw:cF ops l gd=some true)(hx:bK l x=some (a9 A k c))(ho:Own w lb T 1 A k c (bs.map B8))(h:wl aG ops Q n rest ((d,.string (aB bs))::l) w)(hn:d<n:=by decide):wl aG ops Q n (⟨some d,.convert 68 9 x,ty,pos,af,gd⟩::rest) l w:=by
 refine dU hw hn (fun a' j=>?_) h
 have e:(convert 68 9 (a'.eval x)).run aG w= .ok (.string (aB bs)) w:=by
  rw [j.ev hx]
  have h1:(underlying 68).run aG w= .ok (.slice 5) w:=gM i7 w
  have h2:(underlying 9).run aG w= .ok .string w:=gM Tryz.underlying9 w
  have f:(underlying 5).run aG w= .ok (.int .u8) w:=gM Tryz.underlying5 w
  unfold convert
  simp only [bQ,h1,h2,f,dE]
  exact GW ho
 show ((convert 68 9 (a'.eval x)>>=fun r=>pure (eP r):Sem eC)).run aG w=_
 rw [bQ,e];rfl
theorem FP (a b:List Nat):aB a++aB b=aB (a++b):=by
 unfold aB
 rw [ByteArray.mk_append_mk,List.map_append]
theorem eD (a:List Nat):(aB a).size=a.length:=by simp [aB,ByteArray.size]
theorem jD {a b:List Nat}(h:a.length+b.length≤1099511627776):(binOp .add t (.string (aB a)) (.string (aB b))).run P w= .ok (.string (aB (a++b))) w:=by
 have h1:=run_string_add_sum (P:=P) w (aB a) (aB b) (by rw [eD,eD];omega)
 rw [FP] at h1
 simp [binOp,h1]
theorem BP (hx:Wi w A n c m)(hl:n≤1099511627776):aU aG 47 #[a9 A n c] w (Gv w (WR w.heap.size m)):=by
 obtain⟨xs,h1,rfl⟩:=hx
 exact (j0 h1 (hl:=hl)).mono (gw (aZ _))
theorem oG (h:(wd m).length≤n)(hb:2≤b:=by decide):(aT b m).length≤64*n+1:=by
 unfold aT
 split
 ·simp
 ·rw [qM];have:=oX hb h;omega
def lZ (x:Int):List Nat:=if x<0 then [45]++aT 10 x.natAbs else aT 10 x.natAbs
theorem GG {pc:Nat}(hS:Signs w)(hgS:1<lb)(hbl:2≤base)(hbu:base≤36)(hW:Wr w g base k unit PA pn pc OA on oc)(hO:Own w lb 5 1 OA on oc (bs.map B8))(hgl:lb≤g)(hlb:lb≤w.heap.size)(ha:Wi w A an ac m)(hal:an≤4194304)(hun:unit=base^k)(hkk:PieceK base k)(hwd:width≤137438953472)(hon:on≤137438953472):aU aG 86 #[a1 g 0,a9 A an ac,a4 (-1),a4 width] w (s6 w lb g base k unit PA pn pc OA (bs++cN (d4 (db base m) width))):=by
 refine bJ Tryz.func86 E (n:=74) E (bq E) (args:= [a1 g 0,a9 A an ac,a4 (-1),a4 width]) (bH [(0,a1 g 0),(1,a9 A an ac),(2,a4 (-1)),(3,a4 width)] ⟨rfl,rfl,rfl,rfl,i3⟩ (aD (sr (mv 1 E (aA E E E true (by decide) (mv 4 E (pu (v:= gx) E (a7 (b8 E (sr (mv 3 E (bC E E (vs:= [a1 g 0,a9 A an ac,a4 width]) (by kernel_rfl) (by decide) (yC hS hgS hbl hbu hW hO hgl (aN hlb (UpdW.refl lb w).size) ha hal hun hkk hwd hon) ?_))))))))))))
 rintro _ r ⟨rfl,q,_,_,p,e,j,f⟩
 refine bB ?_
 have o:UpdW lb w r:=(UpdW.refl lb w).then j
 have h:=(Kept.refl w OA).next f (UpdW.refl lb w).size
 refine a7 (aW (bO (aV [] E i3 ?_)))
 exact⟨rfl,q,_,_,p,e,o,h⟩
theorem FU {α:Type}{p:List α→Prop}(nil:p [])(snoc:∀r a,p r→p (r++ [a]))(l:List α):p l:=by
 have h:∀r:List α,p r.reverse:=by
  intro r
  induction r with
  | nil=>exact nil
  | cons a r ih=>rw [List.reverse_cons];exact snoc _ _ ih
 have:=h l.reverse
 rwa [List.reverse_reverse] at this
theorem oJ (hb:∀b,b∈bs→b<256)(hi:i<bs.length)(h:i<(aB bs).size):((aB bs)[i]'h).toNat=bs.getD i 0:=by
 have e:(aB bs)[i]'h=UInt8.ofNat (bs.getD i 0):=by
  show ((bs.map UInt8.ofNat).toArray)[i]'(by simpa using hi)=_
  rw [List.getElem_toArray,List.getElem_map,bE,bS hi];rfl
 rw [e,UInt8.toNat_ofNat']
 refine eZ ?_
 rw [bE,bS hi]
 exact hb _ (jA hi)
def It (w:a6)(g:Nat)(bs:List Nat)(pos:Nat):Prop:=w.heap[g]?=some (.stringIter (aB bs) pos)
theorem It.lt {pos:Nat}(h:It w g bs pos):g<w.heap.size:=(lT.1 h).1
theorem It.ext {pos:Nat}(h:It w g bs pos)(e:Ext w w'):It w' g bs pos:=e.heap h
theorem It.upd {pos:Nat}(h:It w g bs pos)(e:Upd k w w')(hne:g≠k):It w' g bs pos:=e.heap h hne
theorem It.updO {pos:Nat}(h:It w g bs pos)(e:UpdO A w w')(hne:∀p,A=some p→p.block≠g):It w' g bs pos:=e.heap h hne
theorem pA {t s pos:Nat}(h:Own w b t s A n c us)(hi:It w g bs pos):∀p,A=some p→p.block≠g:=fun p f e=>by
 rcases h with⟨h,_⟩ | ⟨k,cs,o,_,j,_⟩
 ·rw [h] at f;cases f
 ·rw [o] at f;cases f
  simp only at e
  subst e
  unfold Bk at j
  unfold It at hi
  rw [j] at hi
  cases hi
theorem Own.updI {t s pos:Nat}(h:Own w b t s A n c us)(hi:It w g bs pos)(u:Upd g w w'):Own w' b t s A n c us:=h.upd u (pA h hi)
section
variable {P:bT}{Q:cQ→Act→a6→Prop}{n:Nat}{l:Fr}{w:a6}{ops:Array aX}{rest:List aX}{d:Nat}{ty:aQ}{pos:String}{af:Array eA}{gd:Option (Nat×Bool)}
theorem sZ (hw:cF ops l gd=some true)(hx:bK l x=some (.string (aB bs)))(ht:P.underlying t=some .string)(h:∀g w',w.heap.size=g→It w' g bs 0→Ext w w'→wl P ops Q n rest ((d,a1 g 0)::l) w')(hn:d<n:=by decide):wl P ops Q n (⟨some d,.range t x,ty,pos,af,gd⟩::rest) l w:=by
 refine dU hw hn (fun a' f=>?_) (h _ (w.iter (aB bs) 0) E (World.iter_heap w _ 0) ((Ext.refl w).alloc _))
 have e:(Instr.range t (a'.eval x)).run P w= .ok (a1 w.heap.size 0) (w.iter (aB bs) 0):=by rw [f.ev hx];exact run_range_string w t _ ht
 show ((Instr.range t (a'.eval x)>>=fun r=>pure (eP r):Sem eC)).run P w=_
 rw [bQ,e];rfl
theorem H4 {p:Nat}(h:It w g bs p)(hp:p<bs.length)(ty:aQ):∃w',(Instr.next (a1 g 0) true ty).run P w= .ok (.tuple #[gx,a4 (p:Int),.int .i32 ((Utf8.decode (aB bs) p).1:Int)]) w'∧It w' g bs (p+(Utf8.decode (aB bs) p).2)∧Upd g w w':=by
 have j:p<(aB bs).size:=by rw [eD];exact hp
 refine⟨{w with heap:=w.heap.setIfInBounds g (.stringIter (aB bs) (p+(Utf8.decode (aB bs) p).2))},?_,?_,?_⟩
 ·unfold It at h
  simp only [Instr.next,getObj,setObj,bQ,Sem.run,h,Result.andThen,j,if_true]
  simp [goInt]
 ·unfold It
  have:=h.lt
  simp [this]
 ·refine⟨⟨rfl,rfl,rfl,by simp,fun k _ f=>?_⟩⟩
  have:g≠k:=fun e=>f (by rw [e])
  simp [this]
theorem H3 {p:Nat}(h:It w g bs p)(hp:¬p<bs.length)(ty:aQ):(Instr.next (a1 g 0) true ty).run P w= .ok (.tuple #[ik]) w:=by
 have e:¬p<(aB bs).size:=by rw [eD];exact hp
 unfold It at h
 simp [Instr.next,getObj,Sem.run,h,e]
theorem xC {p:Nat}(hw:cF ops l gd=some true)(hx:bK l x=some (a1 g 0))(h:It w g bs p)(hp:p<bs.length)(hn:d<n)(k:∀w',It w' g bs (p+(Utf8.decode (aB bs) p).2)→Upd g w w'→wl P ops Q n rest ((d,.tuple #[gx,a4 (p:Int),.int .i32 ((Utf8.decode (aB bs) p).1:Int)])::l) w'):wl P ops Q n (⟨some d,.next x true,ty,pos,af,gd⟩::rest) l w:=by
 obtain⟨w',hr,h1,h2⟩:=H4 (P:=P) h hp ty
 refine dU hw hn (fun a' f=>?_) (k w' h1 h2)
 have e:(Instr.next (a'.eval x) true ty).run P w= .ok (.tuple #[gx,a4 (p:Int),.int .i32 ((Utf8.decode (aB bs) p).1:Int)]) w':=by rw [f.ev hx];exact hr
 show ((Instr.next (a'.eval x) true ty>>=fun r=>pure (eP r):Sem eC)).run P w=_
 rw [bQ,e];rfl
theorem t6 {p:Nat}(hw:cF ops l gd=some true)(hx:bK l x=some (a1 g 0))(h:It w g bs p)(hp:¬p<bs.length)(hn:d<n)(k:wl P ops Q n rest ((d,.tuple #[ik])::l) w):wl P ops Q n (⟨some d,.next x true,ty,pos,af,gd⟩::rest) l w:=by
 refine dU hw hn (fun a' f=>?_) k
 have e:(Instr.next (a'.eval x) true ty).run P w= .ok (.tuple #[ik]) w:=by rw [f.ev hx];exact H3 (P:=P) h hp ty
 show ((Instr.next (a'.eval x) true ty>>=fun r=>pure (eP r):Sem eC)).run P w=_
 rw [bQ,e];rfl
end
def dv (c:Nat):Nat:=if 48≤c∧c≤57 then c-48 else if 97≤c∧c≤122 then c-87 else if 65≤c∧c≤90 then c-55 else 36
theorem MW (c:Nat):dv c≤36:=by unfold dv;split <;> (try split) <;> (try split) <;> omega
theorem vC (h:128≤c):dv c=36:=by unfold dv;rw [if_neg (by omega),if_neg (by omega),if_neg (by omega)]
theorem CL (hb:∀b,b∈bs→b<256){p:Nat}(hp:p<bs.length)(h:bs.getD p 0<128):Utf8.decode (aB bs) p=(bs.getD p 0,1):=by
 have f:p<(aB bs).size:=by rw [eD];exact hp
 have e:=oJ hb hp f
 rw [decode_ascii (aB bs) p f (by rw [e];exact h),e]
def cC (b:Nat)(ds:List Nat):Nat:=ds.foldl (fun a d=>a*b+d) 0
theorem tD (b:Nat)(ds:List Nat)(d:Nat):cC b (ds++ [d])=cC b ds*b+d:=by unfold cC;rw [List.foldl_append];rfl
theorem tF (b a:Nat):∀ds:List Nat,ds.foldl (fun a d=>a*b+d) a=a*b^ds.length+cC b ds
 | []=>by simp [cC]
 | d::ds=>by
  have e:cC b (d::ds)=(0*b+d)*b^ds.length+cC b ds:=by
   unfold cC;rw [List.foldl_cons];exact tF b _ ds
  rw [List.foldl_cons,tF b _ ds,e,cS,dK]
  simp only [mL,dY,dM,Nat.mul_assoc]
  rw [cM b (b^ds.length)]
  omega
theorem xK (b:Nat)(xs ys:List Nat):cC b (xs++ys)=cC b xs*b^ys.length+cC b ys:=by
 unfold cC
 rw [List.foldl_append,tF]
 rfl
theorem tE (_hb:1≤b):∀ds:List Nat,(∀d,d∈ds→d<b)→cC b ds<b^ds.length:=by
 intro ds
 induction ds using FU with
 | nil=>intro _;simp [cC]
 | snoc r a ih=>
  intro h
  have h1:=ih fun d hd=>h d (by simp [hd])
  have h2:=h a (by simp)
  rw [tD,cK,List.length_singleton,dK]
  have h3:(cC b r+1)*b≤b^r.length*b:=eG b h1
  rw [dM,Nat.one_mul] at h3
  omega
def kN (b:Nat)(bs:List Nat):Prop:=bs≠ []∧∀c,c∈bs→dv c<b
end
section
open Go.ChangeShapes Go.WideShapes Go.ChangeAt Go.RowKit
theorem FM {a b:List Nat}(ha:∀x,x∈a→x<256)(hb:∀x,x∈b→x<256)(h:aB a=aB b):a=b:=by
 have hl:a.length=b.length:=by rw [←eD a,h,eD]
 refine List.ext_getElem hl fun i h1 h2=>?_
 have j:=oJ ha h1 (by rw [eD];exact h1)
 have f:=oJ hb h2 (by rw [eD];exact h2)
 have e:((aB a)[i]'(by rw [eD];exact h1)).toNat=((aB b)[i]'(by rw [eD];exact h2)).toNat:=by
  congr 1;simp only [h]
 rw [j,f,bE,bS h1,bE,bS h2] at e
 exact e
def iW (o:fW)(a b:List Nat):Option Bool:=match o with
 | .eql=>some (decide (a=b))
 | .neq=>some (!decide (a=b))
 | _=>none
theorem F6 {a b:ByteArray}(h:a.toList=b.toList):a=b:=by
 rw [ByteArray.toList_eq,ByteArray.toList_eq] at h
 exact Go.WideShapes.bytes_inj h
section
variable {P:bT}{Q:cQ→Act→a6→Prop}{n:Nat}{l:Fr}{w:a6}{ops:Array aX}{rest:List aX}{d:Nat}{ty:aQ}{pos:String}{af:Array eA}{gd:Option (Nat×Bool)}
theorem GX {a b:List Nat}{r:Bool}(ha:∀x,x∈a→x<256)(hb:∀x,x∈b→x<256)(hr:iW o a b=some r):((do eqGuard o t x y (.string (aB a)) (.string (aB b));binOp o t (.string (aB a)) (.string (aB b))):Sem aC).run P w= .ok (.bool r) w:=by
 have key:((aB a).toList==(aB b).toList)=decide (a=b):=by
  by_cases h:a=b
  ·subst h;simp
  ·rw [decide_eq_false h,beq_eq_false_iff_ne]
   exact fun e=>h (FM ha hb (F6 e))
 cases o <;> simp only [iW,reduceCtorEq,dR] at hr
 ·subst hr;simp [eqGuard,binOp,Op.stringOp,key]
 ·subst hr;simp [eqGuard,binOp,Op.stringOp,key]
theorem iD {a b:List Nat}(hw:cF ops l gd=some true)(hx:bK l x=some (.string (aB a)))(hy:bK l y=some (.string (aB b)))(ha:∀x,x∈a→x<256)(r:Bool)(hr:iW o a b=some r)(h:wl P ops Q n rest ((d,.bool r)::l) w)(hb:∀x,x∈b→x<256:=by decide)(hn:d<n:=by decide):wl P ops Q n (⟨some d,.binOp o t x y t',ty,pos,af,gd⟩::rest) l w:=
 dU hw hn (fun a' ha'=>by
  have e:((do eqGuard o t x y (a'.eval x) (a'.eval y);binOp o t (a'.eval x) (a'.eval y)):Sem aC).run P w= .ok (.bool r) w:=by
   rw [ha'.ev hx,ha'.ev hy];exact GX ha hb hr
  show ((((do eqGuard o t x y (a'.eval x) (a'.eval y);binOp o t (a'.eval x) (a'.eval y)):Sem aC)>>=fun r=>pure (eP r)):Sem eC).run P w=_
  rw [bQ,e];rfl) h
end
theorem FO (bs:List Nat)(i j:Nat):(aB bs).extract i j=aB ((bs.take j).drop i):=by
 refine ByteArray.ext ?_
 rw [ByteArray.data_extract]
 unfold aB
 rw [List.extract_toArray,List.extract_eq_take_drop,mO,j9,List.drop_take]
theorem FN (bs:List Nat)(i:Nat):(aB bs).extract i (aB bs).size=aB (bs.drop i):=by rw [FO,eD,List.take_length]
section
variable {P:bT}{Q:cQ→Act→a6→Prop}{n:Nat}{l:Fr}{w:a6}{ops:Array aX}{rest:List aX}{d:Nat}{ty:aQ}{pos:String}{af:Array eA}{gd:Option (Nat×Bool)}
theorem yH {s:ByteArray}(ht:P.underlying t=some .string):(Instr.sliceAt t (.string s) low high none).run P w=(Instr.slice t (.string s) low high none).run P w:=by
 have e:(underlying t).run P w= .ok .string w:=gM ht w
 unfold Instr.sliceAt
 simp only [bQ,e,dE]
theorem EB (hw:cF ops l gd=some true)(hx:bK l x=some (.string (aB bs)))(hy:bK l y=some (a4 (i:Int)))(ht:P.underlying t=some .string)(hi:i≤bs.length)(hn:d<n)(h:wl P ops Q n rest ((d,.string (aB (bs.drop i)))::l) w):wl P ops Q n (⟨some d,.slice t x (some y) none none,ty,pos,af,gd⟩::rest) l w:=
 dU hw hn (fun a' f=>by
  have e:(Instr.sliceAt t (a'.eval x) ((some y).map a'.eval) (Option.map a'.eval none) (Option.map a'.eval none)).run P w= .ok (.string (aB (bs.drop i))) w:=by
   show (Instr.sliceAt t (a'.eval x) (some (a'.eval y)) none none).run P w=_
   rw [f.ev hx,f.ev hy,yH ht,run_slice_string_l (ht:=ht) (kl:= .i64) (l:=(i:Int)) (h0:=by omega) (h1:=by rw [eD];omega),gC,FN]
  show ((Instr.sliceAt t (a'.eval x) ((some y).map a'.eval) (Option.map a'.eval none) (Option.map a'.eval none)>>=fun r=>pure (eP r):Sem eC)).run P w=_
  rw [bQ,e];rfl) h
end
end
section
open Go.RowKit
theorem pC (hR:(0≤R∧R≤64)):aU aG 31 #[a4 R] w (Gv w (Is (gx))):=by
 refine bJ Tryz.func31 E (n:=9) E (bq E) (args:= [a4 R]) (bH [(0,a4 R)] ⟨rfl,i3⟩ (sr (mv 1 E (a7 (sr (mv 1 E (aA E E E true (kI hR.1) (mv 2 E (aA E E E true (kI hR.2) (pu (v:= gx) E (mv 1 E (a7 (aW ?_)))))))))))))
 refine aV [gx] E ⟨rfl,i3⟩ ?_
 exact⟨_,rfl,rfl,aF⟩
theorem BQ (hR:¬(0≤R∧R≤64)):aU aG 31 #[a4 R] w (Gv w (Is (ik))):=by
 refine bJ Tryz.func31 E (n:=9) E (bq E) (args:= [a4 R]) (bH [(0,a4 R)] ⟨rfl,i3⟩ (sr (mv 1 E (a7 (aD ?_)))))
 by_cases h1:0≤R
 ·have e:¬R≤64:=fun h=>hR ⟨h1,h⟩
  refine aE (mv 1 E (aA E E E true (kI h1) (mv 2 E (aA E E E false (rU e) (pu (v:= ik) E (mv 1 E (a7 (aW (aV [F0] E ⟨rfl,i3⟩ ?_)))))))))
  exact⟨_,rfl,rfl,aF⟩
 ·refine aE (mv 1 E (aA E E E false (rU h1) (mv 3 E (pu (v:= ik) E (mv 1 E (a7 (aW (aV [F0] E ⟨rfl,i3⟩ ?_))))))))
  exact⟨_,rfl,rfl,aF⟩
theorem BR (hr:r≤64)(hc:c≤64)(hn:na=r*c):aU aG 13 #[.agg #[a4 r,a4 c,a9 Aa na capa]] w (Gv w (Is (a4 0))):=by
 have F:=lC hr hc
 refine bJ Tryz.func13 E (n:=24) E (bq E) (args:= [.agg #[a4 r,a4 c,a9 Aa na capa]]) (bH [(0,.agg #[a4 r,a4 c,a9 Aa na capa])] ⟨rfl,i3⟩ (sr (bx [a4 r,a4 c,a9 Aa na capa] aF E E E fun h _ e _ _ o=>(mv 1 E (a7 (aD (sr (pf h 0 E (aH E E (aS bL e E) (cl (vs:= [a4 r]) o (pC ⟨by omega,by omega⟩) E (by kernel_rfl) fun _ _ H j q=>?_))))))))))
 obtain rfl:=H
 refine pu (v:= ik) E (mv 1 E (pf h 1 E (aH E E (aS bL (e.ext j) E) (cl (vs:= [a4 c]) q (pC ⟨by omega,by omega⟩) E (by kernel_rfl) fun _ _ D f p=>?_))))
 obtain rfl:=D
 refine pu (v:= ik) E (pu (v:= ik) E (mv 1 E (pf h 2 E (aH E E (aS jS (e.ext (j.t f)) E) (pu (v:= a4 na) E (pf h 0 E (aH E E (aS bL (e.ext (j.t f)) E) (pf h 1 E (aH E E (aS bL (e.ext (j.t f)) E) (bF E E E ((r*c:Nat):Int) (lK (a:=r) (b:=c) E E) (aA E E E false (lJ (a:=na) (b:=r*c) E E) (pu (v:= ik) E (bA ?_)))))))))))))
 refine aJ (aI E (aY (aJ (sr (mv 1 E (a7 (aW (aV [I0] E ⟨rfl,i3⟩ ?_))))))))
 exact⟨_,rfl,rfl,p⟩
theorem LU (hR:¬(0≤R∧R≤64)):aU aG 13 #[.agg #[a4 R,a4 C,a9 Aa na capa]] w (Gv w (Is (a4 1))):=by
 refine bJ Tryz.func13 E (n:=24) E (bq E) (args:= [.agg #[a4 R,a4 C,a9 Aa na capa]]) (bH [(0,.agg #[a4 R,a4 C,a9 Aa na capa])] ⟨rfl,i3⟩ (sr (bx [a4 R,a4 C,a9 Aa na capa] aF E E E fun j _ e _ _ f=>(mv 1 E (a7 (aD (sr (pf j 0 E (aH E E (aS bL e E) (cl (vs:= [a4 R]) f (BQ hR) E (by kernel_rfl) fun _ _ o _ h=>?_))))))))))
 obtain rfl:=o
 refine pu (v:= gx) E (mv 5 E (pu (v:= gx) E (mv 10 E (pu (v:= gx) E (a7 (b8 E (sr (mv 1 E (a7 (aW (bO (aV [a4 1] E ⟨rfl,i3⟩ ?_))))))))))))
 exact⟨_,rfl,rfl,h⟩
theorem LT (hR:(0≤R∧R≤64))(hC:¬(0≤C∧C≤64)):aU aG 13 #[.agg #[a4 R,a4 C,a9 Aa na capa]] w (Gv w (Is (a4 1))):=by
 refine bJ Tryz.func13 E (n:=24) E (bq E) (args:= [.agg #[a4 R,a4 C,a9 Aa na capa]]) (bH [(0,.agg #[a4 R,a4 C,a9 Aa na capa])] ⟨rfl,i3⟩ (sr (bx [a4 R,a4 C,a9 Aa na capa] aF E E E fun p _ e _ _ f=>(mv 1 E (a7 (aD (sr (pf p 0 E (aH E E (aS bL e E) (cl (vs:= [a4 R]) f (pC hR) E (by kernel_rfl) fun _ _ r q j=>?_))))))))))
 obtain rfl:=r
 refine pu (v:= ik) E (mv 1 E (pf p 1 E (aH E E (aS bL (e.ext q) E) (cl (vs:= [a4 C]) j (BQ hC) E (by kernel_rfl) fun _ _ o _ h=>?_))))
 obtain rfl:=o
 refine pu (v:= gx) E (pu (v:= gx) E (mv 10 E (pu (v:= gx) E (a7 (b8 E (sr (mv 1 E (a7 (aW (bO (aV [a4 1] E ⟨rfl,i3⟩ ?_)))))))))))
 exact⟨_,rfl,rfl,h⟩
theorem LS (hr:r≤64)(hc:c≤64)(hn:na≠r*c):aU aG 13 #[.agg #[a4 r,a4 c,a9 Aa na capa]] w (Gv w (Is (a4 1))):=by
 have F:=lC hr hc
 refine bJ Tryz.func13 E (n:=24) E (bq E) (args:= [.agg #[a4 r,a4 c,a9 Aa na capa]]) (bH [(0,.agg #[a4 r,a4 c,a9 Aa na capa])] ⟨rfl,i3⟩ (sr (bx [a4 r,a4 c,a9 Aa na capa] aF E E E fun h _ e _ _ o=>(mv 1 E (a7 (aD (sr (pf h 0 E (aH E E (aS bL e E) (cl (vs:= [a4 r]) o (pC ⟨by omega,by omega⟩) E (by kernel_rfl) fun _ _ H j q=>?_))))))))))
 obtain rfl:=H
 refine pu (v:= ik) E (mv 1 E (pf h 1 E (aH E E (aS bL (e.ext j) E) (cl (vs:= [a4 c]) q (pC ⟨by omega,by omega⟩) E (by kernel_rfl) fun _ _ D f p=>?_))))
 obtain rfl:=D
 refine pu (v:= ik) E (pu (v:= ik) E (mv 1 E (pf h 2 E (aH E E (aS jS (e.ext (j.t f)) E) (pu (v:= a4 na) E (pf h 0 E (aH E E (aS bL (e.ext (j.t f)) E) (pf h 1 E (aH E E (aS bL (e.ext (j.t f)) E) (bF E E E ((r*c:Nat):Int) (lK (a:=r) (b:=c) E E) (aA E E E true (iL (a:=na) (b:=r*c) E E) (pu (v:= gx) E (bA ?_)))))))))))))
 refine aJ (b8 E (sr (mv 1 E (a7 (aW (bO (aV [a4 1] E ⟨rfl,i3⟩ ?_)))))))
 exact⟨_,rfl,rfl,p⟩
theorem LR (h:¬jV R C na):aU aG 13 #[.agg #[a4 R,a4 C,a9 Aa na capa]] w (Gv w (Is (a4 1))):=by
 by_cases f:0≤R∧R≤64
 ·by_cases j:0≤C∧C≤64
  ·obtain⟨r,rfl⟩:∃r:Nat,R=r:=⟨R.toNat,by omega⟩
   obtain⟨c,rfl⟩:∃c:Nat,C=c:=⟨C.toNat,by omega⟩
   exact LS (by omega) (by omega) (fun e=>h ⟨f,j,by rw [e];exact gD r c⟩)
  ·exact LT f j
 ·exact LU f
theorem LQ (h:jV R C na):aU aG 13 #[.agg #[a4 R,a4 C,a9 Aa na capa]] w (Gv w (Is (a4 0))):=by
 obtain⟨h1,h2,e⟩:=h
 obtain⟨r,rfl⟩:∃r:Nat,R=r:=⟨R.toNat,by omega⟩
 obtain⟨c,rfl⟩:∃c:Nat,C=c:=⟨C.toNat,by omega⟩
 exact BR (by omega) (by omega) (by rw [←gD] at e;omega)
theorem FV (hr:r≤64)(hc:c≤64)(hn:n=r*c):jV (r:Int) (c:Int) n:=⟨⟨by omega,by omega⟩,⟨by omega,by omega⟩,by rw [hn];exact gD r c⟩
theorem LO (hb:b≤w.heap.size)(hlb:lb≤w.heap.size)(hxa:ZF w Aa na capa K zs)(hna:na≤1048576)(hKB:K≤17179869184):aU aG 24 #[a9 Aa na capa,.func (.func 25) #[] #[]] w (Gv w (LE none K b lb na zs)):=by
 obtain⟨msa,X,aj⟩:=hxa
 refine bJ Tryz.func24 E (n:=26) E (bq E) (args:= [a9 Aa na capa,.func (.func 25) #[] #[]]) (bH [(0,a9 Aa na capa),(1,.func (.func 25) #[] #[])] ⟨rfl,rfl,i3⟩ (sr (mv 1 E (a7 (sr (mv 1 E (pu (v:= a4 na) E (t7 (k:=na) none K w.heap.size E E E fun h v2 ag kD e5=>?_))))))))
 have V:h≤v2.heap.size:=by have:=(kD.block _ E).2;exact Nat.le_of_lt this
 have Y:w.heap.size≤h:=by rw [←ag];exact (Ext.refl w).size
 clear ag
 have f:=(Ext.refl w).trans e5
 have bv:=kD.block
 refine mv 1 E (a7 (aD (sr (mv 1 E (pu (v:= a4 na) E (mv 1 E (a7 (bI ?_))))))))
 have ae:=kD
 rw [xL zs na] at ae
 refine dJ (T:=a6×Nat) (fun⟨wr,i⟩=> [(0,a9 Aa na capa),(1,.func (.func 25) #[] #[]),(4,a9 none 0 0),(5,a9 (some ⟨h,0,none⟩) na na),(8,a9 Aa na capa),(9,a4 na),(10,a9 (some ⟨h,0,none⟩) na na),(11,a9 Aa na capa),(12,a4 na),(13,a4 i)]) (fun⟨wr,i⟩=>wr) (fun⟨wr,i⟩=>(Ext w wr)∧(i≤na)∧(h≤wr.heap.size)∧(Lz none K w.heap.size wr h (some ⟨h,0,none⟩) na na (iU zs na i))) (fun⟨wr,i⟩=>na-i)
  (⟨v2,0⟩:a6×Nat) ⟨f,(by omega),V,ae⟩ E ⟨rfl,rfl,rfl,rfl,rfl,rfl,rfl,rfl,rfl,rfl,i3⟩ ?_
 rintro⟨wr,i⟩ ⟨f,_,l_someg10noneb,l_someg10none⟩
 refine d9 [(0,a9 Aa na capa),(1,.func (.func 25) #[] #[]),(4,a9 none 0 0),(5,a9 (some ⟨h,0,none⟩) na na),(8,a9 Aa na capa),(9,a4 na),(10,a9 (some ⟨h,0,none⟩) na na),(11,a9 Aa na capa),(12,a4 na),(13,a4 i)] wr E ⟨rfl,rfl,rfl,rfl,rfl,rfl,rfl,rfl,rfl,rfl,i3⟩ ?_
 have au:=l_someg10none.block
 refine aD ?_
 by_cases bf:i<na
 ·refine aE (aA E E E true (d5 (a:=i) (b:=na) E E) (a7 (aD (b8 E (aY (aJ (aD (bI (sr (mv 1 E ?_))))))))))
  obtain⟨az,O,U,Z,ax,ah,aq⟩:=X.at (i:=i) (by omega)
  refine cG E E E kG eB.size i E az ax (aH E E (ah _ f _ _ eB) (eK E (z:= .agg #[F0,S0]) (vs:= [F0,S0]) (fun _=>by kernel_rfl) E fun g9 _ nb=>?_))
  have j:=nb.bk
  have ao:w.heap.size≤g9:=by rw [←nb.at_];exact f.size
  have F:∀p:a8,(some ⟨h,0,none⟩)=some p→p.block≠g9:=fun p hp=>by have:=(l_someg10none).block p hp;have:=nb.at_;omega
  have r:=nb.ext
  clear nb
  have ba:=f.trans r
  refine mv 1 E (so eB j [.bool O,a9 U (msa.getD i 0) Z] ba ao E E E E fun _ ab W L=>(a7 (aE (mv 3 E (lo eB ab [.bool O,a9 U (msa.getD i 0) Z] E E E (tA [.agg #[.bool O,a9 U (msa.getD i 0) Z]] E E E (enters_of Tryz.func25 (by kernel_rfl) E) (by decide) (KN L.size (aq.ext L) (aN (aj i) (uM hKB E))) ?_))))))
  rintro _ _ ⟨_,rfl,bi,D⟩
  refine bB ?_
  have ay:=L.trans D
  obtain⟨bo,bj,bg,bh,rfl,ak⟩:=bi
  obtain⟨am,_,_,_,_,o,_,M,ar⟩:=((((l_someg10none.ext r).updT j W F).ext D)).at (i:=i) (by omega)
  have ap:=ar.zr
  have bw:ln ((iU zs na i).getD i 0)≤K:=ap.ln_le M
  refine cG E E E kG eB.size i E am o ?_
  have I:=(((l_someg10none.ext r).updT j W F).ext D)
  obtain⟨_,_⟩:=I.own
  refine x9 (e:=⟨bo,bj,bg,bh⟩) (z:=(zs.getD i 0)) E E E o (by omega) I (bY ak) (ak.le (aN aq.ln (aj i))) fun ai aa H=>?_
  have bm:=H.ext ay (fun p hp=>by have:=au p hp;omega)
  have q:h≤ai.heap.size:=aN (aN (aN (aN l_someg10noneb r.size) W.by_.size) D.size) H.size
  refine bA (bU (aJ (aE (bF E E E ((i+1:Nat):Int) (d6 (a:=i) (b:=1) E E) (mv 1 E (bA ?_))))))
  have av:=aa
  rw [xM X.len bf] at av
  refine cW (⟨ai,i+1⟩:a6×Nat) ⟨bm,(by omega),q,av⟩ (show na-(i+1)<na-i by omega) E ⟨rfl,rfl,rfl,rfl,rfl,rfl,rfl,rfl,rfl,rfl,i3⟩
 ·refine aE (aA E E E false (f8 (a:=i) (b:=na) E E) (a7 (aD (aI E (dA (d7 (dG (d8 (aJ (sr (mv 2 E (a7 (aW ?_)))))))))))))
  refine aV [a9 (some ⟨h,0,none⟩) na na] E ⟨rfl,i3⟩ ?_
  have aw:=(l_someg10none).mono (aZ _) hb (aN hlb Y)
  rw [show i=na by omega,xN X.len] at aw
  exact⟨_,rfl,⟨_,_,rfl,aw⟩,f⟩
theorem LP (hb:b≤w.heap.size)(hlb:lb≤w.heap.size)(hxa:ZF w Aa na capa K zs)(hr:r≤64)(hc:c≤64)(hna:na=r*c)(hKB:K≤17179869184):aU aG 9 #[.agg #[a4 r,a4 c,a9 Aa na capa]] w (Gv w (T2 (MQ ((r:Nat):Int) ((c:Nat):Int) (LE none K b lb na zs)) (Is (a4 0)))):=by
 have br:=hxa
 obtain⟨msa,ba,bj⟩:=hxa
 have bu:=lC hr hc
 refine bJ Tryz.func9 E (n:=19) E (bq E) (args:= [.agg #[a4 r,a4 c,a9 Aa na capa]]) (bH [(0,.agg #[a4 r,a4 c,a9 Aa na capa])] ⟨rfl,i3⟩ (sr (bx [a4 r,a4 c,a9 Aa na capa] aF E E E fun Y _ D _ _ bd=>(jT [I0,I0,S0] bd D.lt (fun _=>by kernel_rfl) E fun g6 _ aj Z _ e8 ax=>(mv 1 E (a7 (aD (sr (lo dP (D.ext e8) [a4 r,a4 c,a9 Aa na capa] E E E (cl (vs:= [.agg #[a4 r,a4 c,a9 Aa na capa]]) ax (BR (by omega) (by omega) hna) E (by kernel_rfl) fun _ V bm q O=>?_))))))))))
 obtain rfl:=bm
 refine mv 1 E (a7 (sr (mv 1 E (aA E E E false (by decide) (a7 (aI E (aY (aJ (aD ?_)))))))))
 obtain⟨L,U,_,W,_,_⟩:∃lb,lb≤V.heap.size∧V.heap.size≤lb∧w.heap.size≤lb∧Y<lb∧g6<lb:=⟨V.heap.size,aZ _,aZ _,O.size,(D.ext (e8.t q)).lt,(aj.ext q).lt⟩
 refine fG eR 8 [] [Is (a1 Y 0),Is (a4 r),Is (a1 Y 1),Is (a4 c),Is (a1 Y 2),Is (a9 Aa na capa),LE none K w.heap.size L na zs,MQ ((r:Nat):Int) ((c:Nat):Int) (LE none K w.heap.size L na zs)] [[],[0],[],[2],[],[4],[5],[1,3,6]] [[],[0],[],[2],[],[4],[4,5],[0,1,2,3,4,5,6],[0,1,2,3,4,5,6,7],[0,1,2,3,4,5,6,7,8]] rfl
  (aP E E (aK E E ?_) (aP E E (aK E E ?_) (aP E E (aK E E ?_) (aP E E (aK E E ?_) (aP E E (aK E E ?_) (aP E E (aK E E ?_) (aP E E (aK E E ?_) (aP E E (aK E E ?_) fE)))))))) ?_
 ·exact fun _ _=>aL (pf Y 0 E (aO E aF E))
 ·exact fun _ aw=>dk E E (aL (aH E E (aS bL (D.ext (e8.t (q.t aw))) E) (aO E aF E)))
 ·exact fun _ _=>aL (pf Y 1 E (aO E aF E))
 ·exact fun _ bh=>dk E E (aL (aH E E (aS bL (D.ext (e8.t (q.t bh))) E) (aO E aF E)))
 ·exact fun _ _=>aL (pf Y 2 E (aO E aF E))
 ·exact fun _ au=>dk E E (aL (aH E E (aS jS (D.ext (e8.t (q.t au))) E) (aO E aF E)))
 ·intro _ aa
  have F:=O.trans aa
  refine dk E E (aL (cl (vs:= [a9 Aa na capa,.func (.func 25) #[] #[]]) F (LO F.size (aN U aa.size) ((show ZF w _ _ _ _ _ from⟨msa,ba,bj⟩).ext F) (by omega) hKB) E (by kernel_rfl) fun _ _ ay az ap=>?_))
  obtain⟨_,_,rfl,M⟩:=ay
  have bf:=M.block
  exact aO E az ⟨_,_,rfl,M⟩
 ·intro _ _
  refine dk E E (dk E E (eE E E fun _ _ av _ bi=>?_))
  obtain⟨ah,aq,rfl,o⟩:=av
  have bg:=o.block
  have o:=o.ext bi
  refine aL (pu (v:= .agg #[a4 r,a4 c,a9 ah na aq]) E ?_)
  exact aO E aF ⟨_,rfl,⟨_,_,rfl,o⟩⟩
 ·intro _ ai
  have F:=O.trans ai
  refine dk E E (dk E E (dk E E (dk E E (dk E E (dk E E (eE E E fun _ _ ak _ ag=>?_))))))
  obtain⟨_,_,rfl,j⟩:=ak
  have ar:=j.block
  have j:=j.ext ag
  refine eE E E fun _ _ am _ ab=>?_
  obtain⟨_,rfl,⟨f,h,rfl,e⟩⟩:=am
  have I:=e.block
  have e:=e.ext ab
  refine aL ?_
  have H:=(aj.ext (q.t ai))
  refine so dP H [a4 r,a4 c,a9 f na h] F Z E E E E fun _ X ae ap=>(mv 1 E (bA (fF (aJ (aW (aV [.agg #[a4 r,a4 c,a9 f na h],I0] E ⟨⟨_,rfl,gH dP X [a4 r,a4 c,a9 f na h] E (bq E) rfl⟩,rfl,i3⟩ ?_))))))
  exact⟨_,rfl,⟨_,_,rfl,⟨_,rfl,⟨_,_,rfl,((e.updT H ae (show∀p:a8,f=some p→p.block≠g6 from fun p hp=>by have:=I p hp;omega))).mono (aZ _) hb (aN hlb W)⟩⟩,rfl⟩,ap⟩
end
end Go.Proofs.YtnpbbknemflpnaaGreatDoor
