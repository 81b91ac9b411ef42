/- Parts LongB, DivC, Gcd, Int, Sxz, Sxl, Sxw, IntB, IntC, IntD, IntE, Pop, Small, Zg, Sxb, Ab, Upto, Stays, Zs, UptoZ, App, Zh, Bz, joined. -/
import Derived.Test.YtnpbbknemflpnaaGreatW1
import Derived.IntWalk
import Derived.KernelRfl
import Derived.Test.YtnpbbknemflpnaaGreatRows
import Derived.WalkKit
import Derived.ProofKit
import Derived.OpenShut
import Derived.JoinedCond
import Derived.ChangeSame
import Derived.ChangeSlices
import Derived.ChangeStays
import Derived.Deep.Slices
import Derived.DataShut
import Derived.ArgAppend

open Go renaming Addr → a6, Calls → aR, Edge → eR, Ending → dI, Exit → cE, IntKind → j9, Oper → aP, Operand → cA, Program → bP, TypeId → aO, Value → aF, World → a0, bodyPost_ret → eV, run_underlying → o3
open Go.Addr renaming add → mZ
open Bool renaming and_eq_true → dU, false_eq_true → zY
open Go.Builtin renaming append_ → lY
open Go.Instr renaming makeSlice → lV
open Int renaming emod_nonneg → oB, natCast_mul → jA, toNat_natCast → jV
open Go.IntKind renaming bits → pP, signed → pO, wrap → sG
open Go.Lib renaming hid → aU
open List renaming all_eq_true → eZ, cons_append → sD, drop_zero → lU, getD_eq_getElem?_getD → bO, getElem?_eq_getElem → d8, getElem?_eq_some_iff → fF, getElem?_take → iN, length_append → kI, length_cons → iE, length_take → dH, range → d7, replicate → dL, size_toArray → uW
open Nat renaming add_mul → dS, add_zero → eA, beq → lT, div_le_self → iM, eq_of_beq_eq_true → o8, eq_zero_or_pos → kH, le_refl → aI, le_trans → a7, lt_of_lt_of_le → cJ, mod_lt → j7, mul_comm → cY, mul_le_mul_right → dX, mul_one → gY, mul_zero → iC, sub_add_cancel → jS, zero_add → fE, zero_le → bX
open Go.Next renaming value → iA
open Option.some renaming injEq → fB
open Or renaming inl → bE, inr → bK
open Go.Result renaming andThen_ok → eD
open Go.Sem renaming run_bind → c8, run_pure → fO
open Go.Proofs.Tryz renaming prog → aJ
open Go.Value renaming int → kU
open Go.World renaming setCell → o4
namespace Go.Proofs.YtnpbbknemflpnaaGreat
set_option maxRecDepth 20000
set_option maxHeartbeats 8000000
variable {A Aa Ab B C:Option a6}{H:Type}{K N a b b' base base' bytes c ca cap cap' cb d fuel g g' gp hi i id j k m n n' na off q r x3 x4 x5 x6:Nat}{P:bP}{T T' e t t' t'' ty:aO}{W W' w w' w0:a0}{acc:Fr}{af:Array eR}{args l' tmps:Array aF}{cs news us vs:List aF}{ds l l1 ms xs ys:List Nat}{dst:Option Tmp}{er m0 r0 x y z z':Int}{f:FuncId}{fn:Func}{gd:Option (Nat×Bool)}{hi' lo':Option cA}{high low:Option aF}{o:BinOp}{ol rest:List aP}{op:Op}{ops:Array aP}{p pa pv:List MemPlace}{pos:String}{s s' sa sb:Bool}{ts:Array aO}{u v:aF}{zs:List Int}
section
open Go.RowKit
theorem M6 {u2 u1 u0 v1 v0 D:Nat}(h2:u2≤v1)(h1:u1≤18446744073709551615)(h0:u0≤18446744073709551615)(hv1:v1≤18446744073709551615)(hv0:v0≤18446744073709551615)(hpos:0<v1)(k1:D≤18446744073709551615)(k2:D*(v1*WB+v0)≤(u2*WB+u1)*WB+u0)(k3:D=18446744073709551615∨(u2*WB+u1)*WB+u0<(D+1)*(v1*WB+v0))(w:a0)(n:Nat):aR aJ 112 #[AT (u2:Int),AT (u1:Int),AT (u0:Int),AT (v1:Int),AT (v0:Int)] (w.drewN n) (fun e w''=>e= .returned (AT (D:Int))∧∃m,w''=w.drewN m):=by
 refine Calls.quiet_of ((PB h2 h1 h0 hv1 hv0 hpos (w.drewN n)).mono ?_)
 rintro e w' ⟨d,rfl,a,b,c,m,rfl⟩
 rw [M7 a b.out c.out k1 k2 k3]
 exact⟨rfl,m,rfl⟩
theorem D4 (hl:K≤l.length)(hl1:K≤l1.length)(hw:Wf l1)(hd:l1.drop K=l.drop K)(h:nv l<WB^K):nv l1<WB^K:=by
 have J:=lF l K hl
 have H:=lF l1 K hl1
 have I:=jI hw K
 rw [hd] at H
 rcases kH (nv (l.drop K)) with o | o
 ·rw [o,iC] at H;omega
 ·have:=Nat.le_mul_of_pos_right (WB^K) o
  omega
theorem PA (hx:Rd w A N cap xs)(hN:N≤274877906944)(hy:Rd w B n cap' ys)(hn:2≤n)(hnN:n≤N)(htop:ys.getD (n-1) 0≠0):aR aJ 96 #[By A N cap,By B n cap'] w (R8 w (nv xs/nv ys) (nv xs%nv ys)):=by
 obtain⟨b,y,rfl,hyk,hyb,hcy⟩:=hy.get (i:=n-1) (by omega)
 have hlx:=aU hx.len
 have hly:=aU hy.len
 have hyp:(0:Int)<(n:Int):=by omega
 go_enter Tryz.func96,Tryz.ntmps96
 go_wp2_with fail
 refine (bits_LeadingZeros64 y hyb _).mono ?_
 rintro e w' ⟨s,hs,hs64',rfl,rfl⟩
 have hstart:=L3 hx.wf hy.wf hlx.out hly.out (by omega) hnN hyk.out (by rw [←hyk.out];exact htop) hyb hs.out
 obtain⟨hs64,hVfit,hUfit,hVpos,hVlow,hUV⟩:=hstart
 have HVfit:=aU hVfit
 have HUfit:=aU hUfit
 have HVpos:=aU hVpos
 have HVlow:=aU hVlow
 have HUV:=aU hUV
 clear hVfit hUfit hVpos hVlow hUV htop
 go_wp2_with fail
 refine (EL hy (by omega) hs64 (by omega) (aI _) HVfit.out).mono ?_
 rintro e w1 ⟨gv,vs,rfl,hgv,hbv,hwv,hlv,hvv,hx1⟩
 go_wp2_with fail
 refine (EL (n:=N+1) (hx.ext hx1) (by omega) hs64 (by omega) (by omega) HUfit.out).mono ?_
 rintro e w2 ⟨gu,us,rfl,hgu,hbu,hwu,hlu,hvu,hx2⟩
 obtain⟨M,hM1,hM2⟩:∃M,M+n≤N+1∧N+1≤M+n:=⟨N+1-n,by omega,by omega⟩
 have hmk:=lD (P:=aJ) Tryz.underlying39 lH G (by decide) ((N:Int)-(n:Int)+1) (by omega) (by omega)
 have et:((N:Int)-(n:Int)+1).toNat=M:=by omega
 rw [et] at hmk
 clear et
 go_wp2_with fail
 clear hmk
 have hbv2:=hbv.ext hx2
 have hguv:gv<gu:=cJ hbv.lt hgu
 obtain⟨gq,hgq⟩:∃gq,w2.heap.size=gq:=⟨_,rfl⟩
 rw [hgq]
 have hguq:gu<gq:=by rw [←hgq];exact hbu.lt
 obtain⟨wa,hwa⟩:∃wa,w2.alloc (.cells (zc (.int .u64 0) M) 45)=wa:=⟨_,rfl⟩
 rw [hwa]
 have hbq:Bk wa gq 45 ((dL M 0).map bD):=by
  rw [←hwa,←hgq,←mB];exact Bk.new' _ _ _
 have hea:Ext w2 wa:=by rw [←hwa];exact (Ext.refl w2).alloc _
 have hgw:w.heap.size≤gv:=hgv
 have hgw2:w.heap.size≤gu:=by omega
 have hgw3:w.heap.size≤gq:=by omega
 have hbva:=hbv2.ext hea
 have hbua:=hbu.ext hea
 have hexa:Ext w wa:=(hx1.trans hx2).trans hea
 clear hgq hwa hbv hbu hbv2 hea hcy
 have hL0:Hid (Lg (nv ys*2^s) (nv xs*2^s) M us (dL M 0)):=by
  refine⟨?_,?_⟩
  ·rw [List.drop_of_length_le (by rw [List.length_replicate];exact aI _),hvu.out];simp [nv]
  ·rw [hvu.out,show M=N+1-n from by omega];exact HUV.out
 have hv1:Hid (0<vs.getD (n-1) 0):=by
  refine Nat.pos_of_ne_zero (fun h0=>?_)
  have e1:=oM vs (n-1) (by rw [hlv.out];omega) h0
  rw [jS (by omega),List.take_of_length_le (by rw [hlv.out];exact aI _),hvv.out] at e1
  have e2:=jI hwv (n-1)
  have:=HVlow.out
  omega
 go_loopw [11] (fun u wr=>∃(k:Nat) (l ql:List Nat),k≤M∧u= AI ((k:Int)-1)∧Hid (l.length=N+1)∧Wf l∧Hid (ql.length=M)∧Wf ql∧Bk wr gv 45 (vs.map bD)∧Bk wr gu 45 (l.map bD)∧Bk wr gq 45 (ql.map bD)∧
  Hid (Lg (nv ys*2^s) (nv xs*2^s) k l ql)∧Ext w wr) (fun u wr=>(intOf u+1).toNat)
 case atStart=>exact⟨M,us,_,aI _,fG,hlu,hwu,List.length_replicate,lN _,hbva,hbua,hbq,hL0,hexa⟩
 case round=>
  obtain⟨k,l,ql,hk,rfl,hll,hwl,hlq,hwq,hbv,hbu,hbq',hL,hr⟩:=hrel
  clear hbva hbua hbq hexa hL0 hlu hvu
  by_cases hk0:0<k
  ·obtain⟨j,rfl⟩:∃j,k=j+1:=⟨k-1,by omega⟩
   have ek:((j+1:Nat):Int)-1=(j:Int):=by omega
   rw [ek]
   obtain⟨u2,hu2k,hu2b,hcu2⟩:=hbu.word hwl (i:=j+n) (by rw [hll.out];omega)
   obtain⟨u1,hu1k,hu1b,hcu1⟩:=hbu.word hwl (i:=j+n-1) (by rw [hll.out];omega)
   obtain⟨u0,hu0k,hu0b,hcu0⟩:=hbu.word hwl (i:=j+n-2) (by rw [hll.out];omega)
   obtain⟨v1,hv1k,hv1b,hcv1⟩:=hbv.word hwv (i:=n-1) (by rw [hlv.out];omega)
   obtain⟨v0,hv0k,hv0b,hcv0⟩:=hbv.word hwv (i:=n-2) (by rw [hlv.out];omega)
   have hgs:=fun d=>L4 (d:=d) hL.out hn (by rw [hll.out];omega) hwl hlv.out hwv hvv.out hv1.out
   rw [hu2k.out,hu1k.out,hu0k.out,hv1k.out,hv0k.out] at hgs
   have hu2v:u2≤v1:=(hgs 0).2.1
   have hv1p:0<v1:=by rw [←hv1k.out];exact hv1.out
   have HGS:=aU hgs
   clear hgs
   have hfin:∀(q:Nat) (l2:List Nat) (wr2:a0),q=nv l/(WB^j*(nv ys*2^s))→nv l2=nv l%(WB^j*(nv ys*2^s))→q≤18446744073709551615→l2.length=N+1→Wf l2→Bk wr2 gv 45 (vs.map bD)→Bk wr2 gu 45 (l2.map bD)→Bk wr2 gq 45 ((ql.set j q).map bD)→Ext w wr2→
     ∃(k:Nat) (l ql:List Nat),k≤M∧kU .i64 ((j:Int)-1)= AI ((k:Int)-1)∧Hid (l.length=N+1)∧Wf l∧Hid (ql.length=M)∧Wf ql∧Bk wr2 gv 45 (vs.map bD)∧Bk wr2 gu 45 (l.map bD)∧Bk wr2 gq 45 (ql.map bD)∧
      Hid (Lg (nv ys*2^s) (nv xs*2^s) k l ql)∧Ext w wr2:=by
    intro q l2 wr2 h1 h2 h3 h4 h5 h6 h7 h8 h9
    exact⟨j,l2,ql.set j q,by omega,rfl,h4,h5,(show _=_ by rw [List.length_set];exact hlq.out),fD hwq j (by rw [cQ];omega),h6,h7,h8,hL.out.step (by rw [hlq.out];omega) HVpos.out h1 h2,h9⟩
   have FIN:=aU hfin
   clear hfin
   go_upto_region 9 with (fail)
   obtain⟨d,hdb,hd1,hd2⟩:=M9 ((u2*WB+u1)*WB+u0) (v1*WB+v0) (by rw [cQ];omega)
   have hdd:=aU ((HGS.out d).2.2 hdb hd1 hd2)
   have HLT:=aU (HGS.out d).1
   have HD1:=aU hd1
   have HD2:=aU hd2
   clear hd1 hd2 HGS
   have w1e:IntKind.i64.wrap ((j:Int)+(n:Int))=(j:Int)+(n:Int):=IntWalk.i64_in _ (by omega)
   have w2e:IntKind.i64.wrap ((j:Int)+(n:Int)-1)=(j:Int)+(n:Int)-1:=IntWalk.i64_in _ (by omega)
   have w3e:IntKind.i64.wrap ((j:Int)+(n:Int)-2)=(j:Int)+(n:Int)-2:=IntWalk.i64_in _ (by omega)
   have w4e:IntKind.i64.wrap ((n:Int)-1)=(n:Int)-1:=IntWalk.i64_in _ (by omega)
   have w5e:IntKind.i64.wrap ((n:Int)-2)=(n:Int)-2:=IntWalk.i64_in _ (by omega)
   have t1:((j:Int)+(n:Int)).toNat=j+n:=by omega
   have t2:((j:Int)+(n:Int)-1).toNat=j+n-1:=by omega
   have t3:((j:Int)+(n:Int)-2).toNat=j+n-2:=by omega
   have t4:((n:Int)-1).toNat=n-1:=by omega
   have t5:((n:Int)-2).toNat=n-2:=by omega
   have b1:0≤(j:Int)+(n:Int):=by omega
   have b2:0≤(j:Int)+(n:Int)-1:=by omega
   have b3:0≤(j:Int)+(n:Int)-2:=by omega
   have b4:0≤(n:Int)-1:=by omega
   have b5:0≤(n:Int)-2:=by omega
   have c1:(j:Int)+(n:Int)<(N:Int)+1:=by omega
   have c2:(j:Int)+(n:Int)-1<(N:Int)+1:=by omega
   have c3:(j:Int)+(n:Int)-2<(N:Int)+1:=by omega
   have c4:(n:Int)-1<(n:Int):=by omega
   have c5:(n:Int)-2<(n:Int):=by omega
   go_quiet (exact M6 hu2v hu1b hu0b hv1b hv0b hv1p hdb HD1.out HD2.out _ _)
   clear w1e w2e w3e w4e w5e t1 t2 t3 t4 t5 b1 b2 b3 b4 b5 c1 c2 c3 c4 c5
   obtain⟨wd,hwd⟩:∃wd,wr.drewN nq=wd:=⟨_,rfl⟩
   rw [hwd]
   have hbu1:Bk wd gu 45 (l.map bD):=by rw [←hwd];exact hbu.drewN nq
   have hbv1:Bk wd gv 45 (vs.map bD):=by rw [←hwd];exact hbv.drewN nq
   have hbq1:Bk wd gq 45 (ql.map bD):=by rw [←hwd];exact hbq'.drewN nq
   have hr1:Ext w wd:=by rw [←hwd];exact hr.drewN nq
   clear hwd hcu2 hcu1 hcu0 hcv1 hcv0
   have hvrd:=hbv1.rd hwv (o:=0) (n:=n) (cap:=n) (aI _) (by rw [hlv.out];omega) (by rw [eY];omega)
   rw [lU,List.take_of_length_le (by rw [hlv.out];exact aI _)] at hvrd
   go_wp2_with fail
   rw [show j+n+1-j=n+1 from by omega]
   refine (P9 (o:=j) (m:=n) hbu1 hwl hvrd (fun a ha=>by cases ha;show gv≠gu;omega) (by rw [hll.out];omega) (by omega) (by omega) hdb).mono ?_
   rintro e w4 ⟨bb,rfl,l1,c,hb4,hw4,hll4,hdr4,hc4,hP4,hu4⟩
   have hll4':Hid (l1.length=N+1):=(show _=_ by rw [hll4.out,hll.out])
   have hL1:Hid (nv l1<WB^(j+n+1)):=D4 (by rw [hll.out];omega) (by rw [hll4'.out];omega) hw4 hdr4.out HLT.out
   have hcase:=L6 (D:=WB^j*(nv ys*2^s)) (Nat.mul_pos (Nat.pow_pos eQ) HVpos.out) hdd.out.1 hdd.out.2 HLT.out hL1.out (by
    have h:=hP4.out.2
    rw [hvv.out,Nat.mul_left_comm] at h
    exact h) hc4
   have hbc:=hP4.out.1
   have hbv4:=hbv1.upd hu4 (by omega)
   have hbq4:=hbq1.upd hu4 (by omega)
   have hr4:=hu4.ext hr1 hgw2
   have hbb:bb=false∧c=0∨bb=true∧c=1:=by
    rcases bb with _ | _
    ·left;refine⟨rfl,?_⟩;simp at hbc;omega
    ·right;exact⟨rfl,hbc.1 rfl⟩
   clear hP4 hbc hc4 hbv hbu hbq' hbu1 hbv1 hbq1 hr hr1 hvrd
   rcases hbb with⟨rfl,hc⟩ | ⟨rfl,hc⟩
   ·have h0:=aU (hcase.1 hc)
    clear hcase hc
    obtain⟨z,hz,_,hcz⟩:=hbq4.word hwq (i:=j) (by rw [hlq.out];omega)
    have hfz:=hbq4.frozen j
    have hjM:(j:Int)<(M:Int):=by omega
    go_wp2_with fail
    go_roundw
    case rel=>exact FIN.out d l1 _ h0.out.1 h0.out.2 hdb hll4'.out hw4 (hbv4.far (by show gv≠gq;omega) _) (hb4.far (by show gu≠gq;omega) _) (by rw [←eS];exact hbq4.set _ _) (hr4.setCell hgw3 _)
    case measure=>simp [intOf]
   ·have h0:=aU (hcase.2 hc)
    clear hcase hc
    obtain⟨q,rfl⟩:∃q,d=q+1:=⟨_,h0.out.1⟩
    have hq:Hid (q=nv l/(WB^j*(nv ys*2^s))):=(show _=_ from Nat.succ.inj h0.out.1)
    have hvrd:=hbv4.rd hwv (o:=0) (n:=n) (cap:=n) (aI _) (by rw [hlv.out];omega) (by rw [eY];omega)
    rw [lU,List.take_of_length_le (by rw [hlv.out];exact aI _)] at hvrd
    go_wp2_with fail
    rw [show j+n+1-j=n+1 from by omega]
    refine (PC (o:=j) (m:=n) hb4 hw4 hvrd (fun a ha=>by cases ha;show gv≠gu;omega) (by rw [hll4'.out];omega) (by omega) (by omega)).mono ?_
    rintro e w5 ⟨rfl,l2,c2,hb5,hw5,hll5,hdr5,hc5,hP5,hu5⟩
    have hll5':Hid (l2.length=N+1):=(show _=_ by rw [hll5.out,hll4'.out])
    have hL2:Hid (nv l2<WB^(j+n+1)):=D4 (by rw [hll4'.out];omega) (by rw [hll5'.out];omega) hw5 hdr5.out hL1.out
    have hfin2:Hid (nv l2=nv l%(WB^j*(nv ys*2^s))):=h0.out.2 (nv l2) c2 hc5 hL2.out (by have h:=hP5.out;rw [hvv.out] at h;exact h)
    have hbv5:=hbv4.upd hu5 (by omega)
    have hbq5:=hbq4.upd hu5 (by omega)
    have hr5:=hu5.ext hr4 hgw2
    clear hP5 hc5 hbv4 hbq4 hr4 hb4 hvrd h0
    obtain⟨z,hz,_,hcz⟩:=hbq5.word hwq (i:=j) (by rw [hlq.out];omega)
    have hfz:=hbq5.frozen j
    have hjM:(j:Int)<(M:Int):=by omega
    go_wp2_with fail
    go_roundw
    case rel=>exact FIN.out q l2 _ hq.out hfin2.out (by omega) hll5'.out hw5 (hbv5.far (by show gv≠gq;omega) _) (hb5.far (by show gu≠gq;omega) _) (by rw [←eS];exact hbq5.set _ _) (hr5.setCell hgw3 _)
    case measure=>simp [intOf]
  ·obtain rfl:k=0:=by omega
   have ek:((0:Nat):Int)-1= -1:=rfl
   rw [ek]
   have hLv:Hid (nv l<nv ys*2^s):=by
    have:=hL.out.lt
    rw [Nat.pow_zero,gY] at this
    exact this
   have hQ:=L5 (X:=nv xs) (Y:=nv ys) (s:=s) (Q:=nv ql) (L:=nv l) (Nat.pos_of_mul_pos_right HVpos.out) (by have:=hL.out.eq;simpa using this) hLv.out
   have hln:Hid (nv (l.take n)=nv l):=by
    show _=_
    have e1:=lF l n (by rw [hll.out];omega)
    rcases kH (nv (l.drop n)) with h0 | h0
    ·rw [h0,iC,eA] at e1;exact e1.symm
    ·have:=Nat.le_mul_of_pos_right (WB^n) h0
     have h2:=hLv.out
     have h3:=HVfit.out
     omega
   have HQ:=aU hQ
   clear hQ
   have hurd:=hbu.rd hwl (o:=0) (n:=n) (cap:=N+1) (by omega) (by rw [hll.out];omega) (by rw [eY];omega)
   rw [lU] at hurd
   go_wp2_with fail
   refine (KC hurd (by omega) (by omega)).mono ?_
   rintro e w6 ⟨A6,n6,c6,rfl,hn6,hr6,ho6,hx6⟩
   rw [hln.out,HQ.out.2] at hn6 hr6 ho6
   have hqrd:=(hbq'.ext hx6).rd hwq (o:=0) (n:=M) (cap:=M) (aI _) (by rw [hlq.out];omega) (by rw [eY];omega)
   rw [lU,List.take_of_length_le (by rw [hlq.out];exact aI _)] at hqrd
   go_wp2_with fail
   refine (iH hqrd).mono ?_
   rintro e w7 ⟨A7,n7,c7,rfl,hn7,hr7,ho7,hx7⟩
   rw [HQ.out.1] at hn7 hr7 ho7
   go_wp2_with fail
   go_ret2
   exact⟨A7,n7,c7,A6,n6,c6,rfl,hn7,hr7,ho7.mono (hr.trans hx6).size,hn6,hr6.ext hx7,(ho6.mono hr.size).ext hx7,(hr.trans hx6).trans hx7,fun p p' hp hp'=>by have h1:=ho7.block p hp;have h2:=ho6.block p' hp';omega⟩
def FX (w:a0)(q r:Nat)(er:Int)(e:dI)(w':a0):Prop:=
 ∃A n cap B m cap',e= .returned (.tuple #[By A n cap,By B m cap',AI er])∧Hid (n=(wd q).length)∧Rd w' A n cap (wd q)∧Own w' w.heap.size 45 1 A n cap ((wd q).map bD)∧
  Hid (m=(wd r).length)∧Rd w' B m cap' (wd r)∧Own w' w.heap.size 45 1 B m cap' ((wd r).map bD)∧Ext w w'
def RetQREA (w:a0)(q r:Nat)(er:Int)(e:dI)(w':a0):Prop:=
 ∃A n cap B m cap',e= .returned (.tuple #[By A n cap,By B m cap',AI er])∧Hid (n=(wd q).length)∧Rd w' A n cap (wd q)∧Own w' w.heap.size 45 1 A n cap ((wd q).map bD)∧
  Hid (m=(wd r).length)∧Rd w' B m cap' (wd r)∧Own w' w.heap.size 45 1 B m cap' ((wd r).map bD)∧Ext w w'∧∀p p',A=some p→B=some p'→p.block≠p'.block
theorem RetQREA.old {e:dI}(h:RetQREA w q r er e w'):FX w q r er e w':=by
 obtain⟨A,n,cap,B,m,cap',U,I,h3,J,h5,o,h7,H,_⟩:=h
 exact⟨A,n,cap,B,m,cap',U,I,h3,J,h5,o,h7,H⟩
theorem H5 (h:m≠0):(wd m).getD ((wd m).length-1) 0≠0:=by
 intro o
 have hl:0<(wd m).length:=Nat.pos_of_ne_zero (fun e=>h (k9.1 e))
 have H:=oM (wd m) ((wd m).length-1) (by omega) o
 rw [jS (by omega),List.take_of_length_le (aI _),dQ] at H
 have J:=jI (rL m) ((wd m).length-1)
 have I:=C8 h
 omega
theorem vS {v:Nat}(h:1=(wd m).length)(hv:(wd m).getD 0 0=v):m=v:=by
 have o:=dY (wd m) 0 (by omega)
 rw [List.take_of_length_le (by omega),dQ,hv] at o
 simpa [nv] using o
theorem EN (hx:Rd w A n cap xs)(hl:n≤274877906944)(hy:Rd w B n' cap' ys)(hl':n'≤274877906944)(h0:nv ys≠0):aR aJ 77 #[By A n cap,By B n' cap'] w (RetQREA w (nv xs/nv ys) (nv xs%nv ys) 0):=by
 go_enter Tryz.func77,Tryz.ntmps77
 go_wp2_with fail
 refine (iH hy).mono ?_
 rintro e w1 ⟨A1,n1,c1,rfl,hn1,hr1,ho1,hx1⟩
 have hn1p:0<n1:=by
  rw [hn1.out];exact Nat.pos_of_ne_zero (fun e=>h0 (k9.1 e))
 have hn1b:n1≤n':=by
  have:=fR hy.wf
  rw [hn1.out,←hy.len];exact this
 have b0:((n1:Int)==0)=false:=by simp;omega
 by_cases h1:n1=1
 ·subst h1
  obtain⟨a,v,rfl,hvk,hvb,hcv⟩:=hr1.get (i:=0) (by omega)
  have hv:Hid (nv ys=v):=vS hn1.out hvk.out
  have hcv0:w1.cell? a=some (AT (v:Int)):=by simpa [mZ] using hcv
  go_wp2_with fail
  refine (PD (hx.ext hx1) (by omega) (v:=v) (by rw [←hv.out];exact h0) hvb).mono ?_
  rintro e w2 ⟨A2,n2,c2,r,rfl,hr,hrb,hn2,hr2,ho2,hx2⟩
  go_wp2_with fail
  have hone:=Rd.one w2 hrb
  refine (iH hone).mono ?_
  rintro e w3 ⟨A3,n3,c3,rfl,hn3,hr3,ho3,hx3⟩
  rw [wX,hr.out,←hv.out] at hn3 hr3 ho3
  rw [←hv.out] at hn2 hr2 ho2
  have hal:Ext w2 w3:=((Ext.refl w2).alloc _).trans hx3
  go_wp2_with fail
  go_ret3
  exact⟨A2,n2,c2,A3,n3,c3,rfl,hn2,hr2.ext hal,(ho2.mono hx1.size).ext hal,hn3,hr3,ho3.mono (a7 (hx1.trans hx2).size (by simp)),(hx1.trans hx2).trans hal,fun p p' hp hp'=>by have h1:=ho2.block p hp;have h2:=ho3.block p' hp';simp only [World.alloc,Array.size_push] at h2;omega⟩
 ·have b1:((n1:Int)==1)=false:=by simp;omega
  go_wp2_with fail
  refine (iH (hx.ext hx1)).mono ?_
  rintro e w2 ⟨A2,n2,c2,rfl,hn2,hr2,ho2,hx2⟩
  have hn2b:n2≤n:=by
   have:=fR hx.wf
   rw [hn2.out,←hx.len];exact this
  go_wp2_with fail
  refine (tC hr2 (hr1.ext hx2)).mono ?_
  rintro e w3 ⟨c,hc,hcl,hch,rfl,hx3⟩
  rw [dQ,dQ] at hc
  by_cases hlt:nv xs<nv ys
  ·have hneg:c<0:=by rw [hc.out];exact p9.2 hlt
   go_wp2_with fail
   go_ret3
   rw [Nat.div_eq_of_lt hlt,Nat.mod_eq_of_lt hlt]
   exact⟨none,0,0,A2,n2,c2,rfl,rfl,Rd.nil _,Own.nil _ _ _ _,hn2,hr2.ext hx3,(ho2.mono hx1.size).ext hx3,(hx1.trans hx2).trans hx3,fun p p' hp=>by cases hp⟩
  ·have hneg:¬c<0:=by rw [hc.out,p9];exact hlt
   have HL:=aU hlt
   have hn12:n1≤n2:=by rw [hn1.out,hn2.out];exact nL (by omega)
   clear hlt
   go_wp2_with fail
   refine (PA (hr2.ext hx3) (by omega) ((hr1.ext hx2).ext hx3) (by omega) hn12 (by rw [hn1.out];exact H5 h0)).mono ?_
   rintro e w4 ⟨A4,n4,c4,A5,n5,c5,rfl,hn4,hr4,ho4,hn5,hr5,ho5,hx4,hap⟩
   rw [dQ,dQ] at hn4 hr4 ho4 hn5 hr5 ho5
   go_wp2_with fail
   go_ret3
   have hs:=((hx1.trans hx2).trans hx3)
   exact⟨A4,n4,c4,A5,n5,c5,rfl,hn4,hr4,ho4.mono hs.size,hn5,hr5,ho5.mono hs.size,hs.trans hx4,hap⟩
theorem yH (hx:Rd w A n cap xs)(hl:n≤274877906944)(hy:Rd w B n' cap' ys)(hl':n'≤274877906944)(h0:nv ys≠0):aR aJ 77 #[By A n cap,By B n' cap'] w (FX w (nv xs/nv ys) (nv xs%nv ys) 0):=(EN hx hl hy hl' h0).mono fun _ _ h=>h.old
theorem EM (hx:Rd w A n cap xs)(hl:n≤274877906944)(hy:Rd w B n' cap' ys)(hl':n'≤274877906944)(h0:nv ys≠0)(h1:nv xs%nv ys=0):aR aJ 59 #[By A n cap,By B n' cap'] w (rN w (nv xs/nv ys) 0):=by
 go_enter Tryz.func59,Tryz.ntmps59
 have H1:=aU h1
 clear h1
 go_wp2_with fail
 refine (yH hx hl hy hl' h0).mono ?_
 rintro e w1 ⟨A4,n4,c4,A5,n5,c5,rfl,hn4,hr4,ho4,hn5,hr5,ho5,hx4⟩
 obtain rfl:n5=0:=by rw [hn5.out,H1.out];rfl
 go_wp2_with fail
 go_ret2
 exact⟨A4,n4,c4,rfl,hn4,hr4,ho4,hx4⟩
def AM:Option aF→Nat
 | some (.int _ z)=>z.toNat
 | _=>0
def numAt (w:a0):aF→Nat
 | .slice (some a) n _=>nv ((d7 n).map fun i=>AM (w.cell? (a.add i)))
 | _=>0
theorem Rd.numAt (h:Rd w A n cap xs):Go.Proofs.YtnpbbknemflpnaaGreat.numAt w (By A n cap)=nv xs:=by
 have o:=h.len
 cases A with
 | none=>
  have hn:n=0:=by
   rcases kH n with I | I
   ·exact I
   ·obtain⟨a,H,_⟩:=h.rv.get 0 (by omega)
    cases H
  have:xs= []:=List.eq_nil_of_length_eq_zero (by omega)
  subst this
  rfl
 | some a=>
  show nv _=_
  congr 1
  apply List.ext_getElem
  ·simp [o]
  ·intro i _ J
   obtain⟨a',x,H,hx,_,U⟩:=h.get (i:=i) (by omega)
   cases H
   have e:xs[i]=x:=by
    have:=hx.out
    simpa [bO,d8 J] using this
   simp [U,AM,e]
theorem DL (a b:Nat):Nat.gcd a b=Nat.gcd b (a%b):=by
 rw [Nat.gcd_comm a b,Nat.gcd_rec b a,Nat.gcd_comm]
def RB (w:a0)(x:Nat)(e:dI)(w':a0):Prop:=
 ∃g,e= .returned (By (some ⟨g,0,none⟩) 1 1)∧w.heap.size≤g∧Bk w' g 45 ([x].map bD)∧x≤18446744073709551615∧Ext w w'
theorem P8 {x y:Nat}(hx:x≤18446744073709551615)(hy:y≤18446744073709551615)(w:a0):aR aJ 108 #[AT (x:Int),AT (y:Int)] w (RB w (Nat.gcd x y)):=by
 go_enter Tryz.func108,Tryz.ntmps108
 go_wp2_with fail
 go_loopw [0,1] (fun u v wr=>∃a b:Nat,u= AT (a:Int)∧v= AT (b:Int)∧a≤18446744073709551615∧b≤18446744073709551615∧Hid (Nat.gcd a b=Nat.gcd x y)∧Ext w wr) (fun u v wr=>(intOf v).toNat)
 case atStart=>exact⟨x,y,rfl,rfl,hx,hy,rfl,Ext.refl w⟩
 case round=>
  obtain⟨a,b,rfl,rfl,ha,hb,hg,hr⟩:=hrel
  by_cases h0:b=0
  ·subst h0
   have b0:((0:Int) != 0)=false:=rfl
   go_wp2_with fail
   go_ret
   have e:Nat.gcd x y=a:=by rw [←hg.out,Nat.gcd_zero_right]
   rw [e]
   exact⟨wr.heap.size,rfl,hr.size,Bk.new wr 45 [AT (a:Int)],ha,hr.alloc _⟩
  ·have b0:((b:Int) != 0)=true:=by simp;omega
   have b1:((b:Int)==0)=false:=by simp;omega
   have h2:¬(b:Int)≤0:=by omega
   have h5:=oB (a:Int) (b:=(b:Int)) (by omega)
   have h6:=Int.emod_lt_of_pos (a:Int) (b:=(b:Int)) (by omega)
   have HM:=aU (j7 a (show 0<b by omega))
   go_wp2_with fail
   go_quiet (fail)
   go_wp2_with fail
   go_roundw
   case rel=>exact⟨b,a%b,rfl,fG (h:=(by simp)),hb,by have:=HM.out;omega,(show _=_ by rw [←hg.out,←DL]),hr.drewN _⟩
   case measure=>have:=HM.out;simp [intOf];omega
theorem PE (hx:Rd w A n cap xs)(hl:n≤274877906944)(hy:Rd w B n' cap' ys)(hl':n'≤274877906944):aR aJ 94 #[By A n cap,By B n' cap'] w (mO w (Nat.gcd (nv xs) (nv ys))):=by
 go_enter Tryz.func94,Tryz.ntmps94
 go_wp2_with fail
 refine (iH hx).mono ?_
 rintro e w1 ⟨A1,n1,c1,rfl,hn1,hr1,ho1,hx1⟩
 have hn1b:n1≤274877906944:=by rw [hn1.out];exact a7 (by have:=fR hx.wf;rw [hx.len] at this;exact this) hl
 go_wp2_with fail
 refine (iH (hy.ext hx1)).mono ?_
 rintro e w2 ⟨A2,n2,c2,rfl,hn2,hr2,ho2,hx2⟩
 have hn2b:n2≤274877906944:=by rw [hn2.out];exact a7 (by have:=fR hy.wf;rw [hy.len] at this;exact this) hl'
 go_wp2_with fail
 go_loopw [5,6] (fun u v wr=>∃(A B:Option a6) (n cap m cap' a b:Nat),u= By A n cap∧v= By B m cap'∧n≤274877906944∧m≤274877906944∧Hid (n=(wd a).length)∧Hid (m=(wd b).length)∧Rd wr A n cap (wd a)∧Own wr w.heap.size 45 1 A n cap ((wd a).map bD)∧
  Rd wr B m cap' (wd b)∧Own wr w.heap.size 45 1 B m cap' ((wd b).map bD)∧Hid (Nat.gcd a b=Nat.gcd (nv xs) (nv ys))∧Ext w wr) (fun u v wr=>numAt wr v)
 case atStart=>exact⟨A1,A2,n1,c1,n2,c2,nv xs,nv ys,rfl,rfl,hn1b,hn2b,hn1,hn2,hr1.ext hx2,ho1.ext hx2,hr2,ho2.mono hx1.size,rfl,hx1.trans hx2⟩
 case round=>
  obtain⟨A,B,n,cap,m,cap',a,b,rfl,rfl,hnb,hmb,hn,hm,hra,hoa,hrb,aA,hg,hr⟩:=hrel
  clear hr1 hr2 ho1 ho2 hx hy hn1 hn2
  by_cases hm0:0<m
  ·have hb0:b≠0:=fun h=>by rw [hm.out,h] at hm0;simp [lA] at hm0
   have HB:=aU hb0
   clear hb0
   by_cases hcase:n=1∧m=1
   ·obtain⟨rfl,rfl⟩:=hcase
    obtain⟨p,x,rfl,hxk,hxb,hcx⟩:=hra.get (i:=0) (by omega)
    obtain⟨q,y,rfl,hyk,hyb,hcy⟩:=hrb.get (i:=0) (by omega)
    have ea:Hid (a=x):=vS hn.out hxk.out
    have eb:Hid (b=y):=vS hm.out hyk.out
    have hcx0:wr.cell? p=some (AT (x:Int)):=by simpa [mZ] using hcx
    have hcy0:wr.cell? q=some (AT (y:Int)):=by simpa [mZ] using hcy
    clear hcx hcy
    go_wp2_with fail
    go_region_with (first
     | (go_at_call 108;refine (P8 hxb hyb _).mono ?_;rintro er w5 ⟨g5,rfl,hg5,hb5,hx5b,hx5⟩))
    all_goals
     go_wp2_with fail
     go_ret
     have h5:Ext w w5:=hr.trans (Ext.trans (by repeat (first | exact Ext.refl _ | assumption | apply Ext.drewN | apply Ext.drew | apply Ext.alloc)) hx5)
     have hgs:wr.heap.size≤g5:=hg5
     have hne:Nat.gcd x y≠0:=by
      have:=Nat.gcd_pos_of_pos_right x (n:=y) (Nat.pos_of_ne_zero (by rw [←eb.out];exact HB.out))
      omega
     have e6:Nat.gcd (nv xs) (nv ys)=Nat.gcd x y:=by rw [←hg.out,ea.out,eb.out]
     rw [e6]
     exact rM (ys:= [Nat.gcd x y]) (a7 hr.size hgs) hb5 G (aI _) (by rw [eY];omega) (by rw [vR (by rw [cQ];omega) hne];rfl) h5
   ·have hd:decide ((n:Int)=1)=false∨decide ((m:Int)=1)=false:=by
     by_cases h:n=1
     ·right;simp;omega
     ·left;simp;omega
    have key:∀(Q' R':Option a6) (nq cq nr cr:Nat) (w5:a0),Hid (nr=(wd (a%b)).length)→Rd w5 R' nr cr (wd (a%b))→Own w5 wr.heap.size 45 1 R' nr cr ((wd (a%b)).map bD)→Ext wr w5→
      (∃(A B':Option a6) (n cap m' cap'' a b:Nat),Value.slice B m cap'= By A n cap∧Value.slice R' nr cr= By B' m' cap''∧n≤274877906944∧m'≤274877906944∧Hid (n=(wd a).length)∧Hid (m'=(wd b).length)∧Rd w5 A n cap (wd a)∧Own w5 w.heap.size 45 1 A n cap ((wd a).map bD)∧
       Rd w5 B' m' cap'' (wd b)∧Own w5 w.heap.size 45 1 B' m' cap'' ((wd b).map bD)∧Hid (Nat.gcd a b=Nat.gcd (nv xs) (nv ys))∧Ext w w5)∧numAt w5 (By R' nr cr)<numAt wr (By B m cap'):=by
     intro Q' R' nq cq nr cr w5 h1 h2 h3 h4
     have hmod:a%b<b:=j7 a (Nat.pos_of_ne_zero HB.out)
     refine⟨⟨B,R',m,cap',nr,cr,b,a%b,rfl,rfl,hmb,?_,hm,h1,hrb.ext h4,aA.ext h4,h2,h3.mono hr.size,(show _=_ by rw [←hg.out,←DL]),hr.trans h4⟩,?_⟩
     ·rw [h1.out]
      refine a7 (nL (Nat.le_of_lt hmod)) ?_
      rw [←hm.out];exact hmb
     ·rw [h2.numAt,hrb.numAt,dQ,dQ];exact hmod
    have KEY:=aU key
    clear key
    by_cases hn1':n=1
    ·have hm1:((m:Int)==1)=false:=by
      have:¬m=1:=fun h=>hcase ⟨hn1',h⟩
      simp;omega
     have bn1:((n:Int)==1)=true:=by simp;omega
     clear hcase hd hn1'
     go_wp2_with fail
     refine (yH hra (by omega) hrb (by omega) (by rw [dQ];exact HB.out)).mono ?_
     rintro e w5 ⟨Aq,nq,cq,Ar,nr,cr,rfl,hnq,hrq,hoq,hnr,hrr,hor,hx5⟩
     rw [dQ,dQ] at hnr hrr hor
     go_wp2_with fail
     go_roundw
     case rel=>exact (KEY.out Aq Ar nq cq nr cr w5 hnr hrr hor hx5).1
     case measure=>exact (KEY.out Aq Ar nq cq nr cr w5 hnr hrr hor hx5).2
    ·have bn1:((n:Int)==1)=false:=by simp;omega
     clear hcase hd hn1'
     go_wp2_with fail
     refine (yH hra (by omega) hrb (by omega) (by rw [dQ];exact HB.out)).mono ?_
     rintro e w5 ⟨Aq,nq,cq,Ar,nr,cr,rfl,hnq,hrq,hoq,hnr,hrr,hor,hx5⟩
     rw [dQ,dQ] at hnr hrr hor
     go_wp2_with fail
     go_roundw
     case rel=>exact (KEY.out Aq Ar nq cq nr cr w5 hnr hrr hor hx5).1
     case measure=>exact (KEY.out Aq Ar nq cq nr cr w5 hnr hrr hor hx5).2
  ·have hb0:b=0:=k9.1 (by rw [←hm.out];omega)
   have e:Nat.gcd (nv xs) (nv ys)=a:=by rw [←hg.out,hb0,Nat.gcd_zero_right]
   have HE:=aU e
   clear e hb0
   go_wp2_with fail
   go_ret
   rw [HE.out]
   exact⟨A,n,cap,rfl,hn,hra,hoa,hr⟩
def sg (s:Bool)(m:Nat):Int:=if s then-(m:Int) else m
theorem mA (m:Nat):sg false m=m:=rfl
theorem wC (m:Nat):sg true m= -(m:Int):=rfl
theorem jF (s:Bool)(m:Nat):(sg s m).natAbs=m:=by cases s <;> simp [sg]
theorem J2 (z:Int):sg (decide (z<0)) z.natAbs=z:=by
 by_cases h:z<0
 ·rw [decide_eq_true h,wC];omega
 ·rw [decide_eq_false h,mA];omega
theorem J0 (s:Bool):sg s 0=0:=by cases s <;> rfl
theorem wE:sg s m=0↔m=0:=by cases s <;> simp [sg]
theorem BQ (s:Bool)(m:Nat):sg (!s) m= -sg s m:=by cases s <;> simp [sg]
theorem BR (s:Bool)(m:Nat):decide (sg s m<0)=(s&&decide (0<m)):=by
 cases s
 ·simp [sg]
 ·by_cases h:0<m
  ·simp [sg,h]
  ·have:m=0:=by omega
   subst this
   simp [sg]
theorem J4 (s:Bool)(m k:Nat):sg s (m+k)=sg s m+sg s k:=by cases s <;> simp [sg] <;> omega
theorem BP (h:k≤m):sg s (m-k)=sg s m+sg (!s) k:=by cases s <;> simp [sg] <;> omega
theorem J3 (s t:Bool)(m k:Nat):sg (s != t) (m*k)=sg s m*sg t k:=by
 cases s <;> cases t <;> simp [sg,Int.mul_neg,Int.neg_mul]
theorem wD (s t:Bool)(m k:Nat):sg (s != t) (m/k)=(sg s m).tdiv (sg t k):=by
 cases s <;> cases t <;> simp [sg,Int.tdiv_neg,Int.neg_tdiv]
theorem J1 (s t:Bool)(m k:Nat):sg s (m%k)=(sg s m).tmod (sg t k):=by
 cases s <;> cases t <;> simp [sg,Int.tmod_neg,Int.neg_tmod] <;> rfl
def ln (z:Int):Nat:=(wd z.natAbs).length
theorem fJ (h:x.natAbs≤y.natAbs):ln x≤ln y:=nL h
theorem gL (x:Int):ln (-x)=ln x:=by unfold ln;rw [Int.natAbs_neg]
theorem k0 (hx:ln x≤a)(hy:ln y≤b):ln (x+y)≤max a b+1:=by
 have h:=nL (Int.natAbs_add_le x y)
 have o:=LK x.natAbs y.natAbs
 unfold ln at*
 omega
theorem i7 (hx:ln x≤a)(hy:ln y≤b):ln (x-y)≤max a b+1:=by
 rw [Int.sub_eq_add_neg]
 exact k0 hx (by rw [gL];exact hy)
theorem eX (hx:ln x≤a)(hy:ln y≤b):ln (x*y)≤a+b:=by
 have h:=LJ x.natAbs y.natAbs
 unfold ln at*
 rw [Int.natAbs_mul]
 omega
theorem D6:ln 0=0:=rfl
theorem tL:ln 1=1:=by decide+kernel
def Zi (w:a0)(s:Bool)(A:Option a6)(n cap:Nat)(z:Int):Prop:=∃xs,Rd w A n cap xs∧sg s (nv xs)=z
theorem Zi.ext (h:Zi w s A n cap z)(e:Ext w w'):Zi w' s A n cap z:=by
 obtain⟨xs,o,H⟩:=h
 exact⟨xs,o.ext e,H⟩
theorem Zi.ln (h:Zi w s A n cap z):Go.Proofs.YtnpbbknemflpnaaGreat.ln z≤n:=by
 obtain⟨xs,o,rfl⟩:=h
 have:=fR o.wf
 rw [o.len] at this
 unfold Go.Proofs.YtnpbbknemflpnaaGreat.ln
 rw [jF]
 exact this
theorem Zi.not (h:Zi w s A n cap z):Zi w (!s) A n cap (-z):=by
 obtain⟨xs,o,rfl⟩:=h
 exact⟨xs,o,BQ _ _⟩
structure Zr (w:a0)(base:Nat)(s:Bool)(A:Option a6)(n cap:Nat)(z:Int):Prop where
 sgn:s=decide (z<0)
 len:n=ln z
 own:Own w base 45 1 A n cap ((wd z.natAbs).map bD)
theorem Zr.rd (h:Zr w base s A n cap z):Rd w A n cap (wd z.natAbs):=h.own.rd (rL _)
theorem Zr.ext (h:Zr w base s A n cap z)(e:Ext w w'):Zr w' base s A n cap z:=⟨h.sgn,h.len,h.own.ext e⟩
theorem Zr.mono (h:Zr w base s A n cap z)(e:base'≤base):Zr w base' s A n cap z:=⟨h.sgn,h.len,h.own.mono e⟩
theorem Zr.zi (h:Zr w base s A n cap z):Zi w s A n cap z:=⟨_,h.rd,by rw [dQ,h.sgn,J2]⟩
theorem Zr.upd (h:Zr w base s A n cap z)(hg:g<base)(e:Upd g w w'):Zr w' base s A n cap z:=
 ⟨h.sgn,h.len,h.own.upd e (fun a o=>by have:=(h.own.block a o).1;omega)⟩
theorem Zr.cast (h:Zr w base s A n cap z)(e:z=z'):Zr w base s A n cap z':=e▸h
theorem Zr.le (h:Zr w base s A n cap z)(hb:ln z≤b):n≤b:=by rw [h.len];exact hb
theorem Zr.ln_le (h:Zr w base s A n cap z)(hb:n≤b):ln z≤b:=by rw [←h.len];exact hb
theorem Zr.zero:Zr w base false none 0 0 0:=⟨by decide,rfl,Own.nil _ _ _ _⟩
def j4 (w:a0)(z:Int)(e:dI)(w':a0):Prop:=
 ∃s A n cap,e= .returned (O s A n cap)∧Zr w' w.heap.size s A n cap z∧Ext w w'
def FW (w:a0)(z:Int)(er:Int)(e:dI)(w':a0):Prop:=
 ∃s A n cap,e= .returned (.tuple #[O s A n cap,AI er])∧Zr w' w.heap.size s A n cap z∧Ext w w'
def uI (w:a0)(q r:Int)(er:Int)(e:dI)(w':a0):Prop:=
 ∃s A n cap s' B m cap',e= .returned (.tuple #[O s A n cap,O s' B m cap',AI er])∧Zr w' w.heap.size s A n cap q∧Zr w' w.heap.size s' B m cap' r∧Ext w w'
theorem i9 (h:s'=decide (sg s m<0))(hn:n=(wd m).length)(ho:Own w base 45 1 A n cap ((wd m).map bD))(hz:sg s m=z):Zr w base s' A n cap z:=by
 have e:z.natAbs=m:=by rw [←hz,jF]
 rw [hz] at h
 exact⟨h,by unfold ln;rw [e];exact hn,by rw [e];exact ho⟩
theorem Bk.two {a b:aF}(h:Bk w g t [a,b]):w.cell? ⟨g,0,none⟩=some a∧w.cell? ⟨g,1,none⟩=some b∧w.frozen? ⟨g,0,none⟩=false∧w.frozen? ⟨g,1,none⟩=false:=
 ⟨h.cell (i:=0) (by simp),h.cell (i:=1) (by simp),h.frozen 0,h.frozen 1⟩
theorem Bk.two_set {a b:aF}(h:Bk w g t [a,b])(u v:aF):Bk ((w.setCell ⟨g,0,none⟩ u).setCell ⟨g,1,none⟩ v) g t [u,v]:=(h.set 0 u).set 1 v
theorem Upd.two (u v:aF):Upd g w ((w.setCell ⟨g,0,none⟩ u).setCell ⟨g,1,none⟩ v):=((Upd.refl g w).setCell 0 u).setCell 1 v
theorem Bk.sec {l:Array aF}{a b:aF}:Bk ((w.alloc (.cells l t')).alloc (.cells #[a,b] t)) (w.heap.size+1) t [a,b]:=by
 have:=Bk.new (w.alloc (.cells l t')) t [a,b]
 simpa using this
theorem Bk.thi {l:Array aF}{a b:aF}:Bk (((w.alloc (.cells l t')).alloc (.cells l' t'')).alloc (.cells #[a,b] t)) (w.heap.size+2) t [a,b]:=by
 have:=Bk.new ((w.alloc (.cells l t')).alloc (.cells l' t'')) t [a,b]
 simpa using this
theorem Bk.fou {t''':aO}{l l'':Array aF}{a b:aF}:Bk ((((w.alloc (.cells l t')).alloc (.cells l' t'')).alloc (.cells l'' t''')).alloc (.cells #[a,b] t)) (w.heap.size+3) t [a,b]:=by
 have:=Bk.new (((w.alloc (.cells l t')).alloc (.cells l' t'')).alloc (.cells l'' t''')) t [a,b]
 simpa using this
theorem uC (w:a0)(t t':aO)(a b c d:aF):∃g g2 wa,w.heap.size+1=g2∧w.heap.size=g∧(w.alloc (.cells #[a,b] t)).alloc (.cells #[c,d] t')=wa∧Bk wa g t [a,b]∧Bk wa g2 t' [c,d]∧Ext w wa∧g<g2∧g2<wa.heap.size∧g≠g2∧g2≠g:=
 ⟨_,_,_,rfl,rfl,rfl,(Bk.new w t [a,b]).alloc _,Bk.sec,((Ext.refl w).alloc _).alloc _,by omega,by simp,by omega,by omega⟩
theorem rC (w:a0)(t t' t'':aO)(a b c d e f:aF):∃g g2 g3 wa,w.heap.size+1+1=g3∧w.heap.size+1=g2∧w.heap.size=g∧((w.alloc (.cells #[a,b] t)).alloc (.cells #[c,d] t')).alloc (.cells #[e,f] t'')=wa∧Bk wa g t [a,b]∧Bk wa g2 t' [c,d]∧Bk wa g3 t'' [e,f]∧Ext w wa∧g<g2∧g2<g3∧g3<wa.heap.size∧g≠g2∧g2≠g∧g≠g3∧g3≠g∧g2≠g3∧g3≠g2:=
 ⟨_,_,_,_,rfl,rfl,rfl,rfl,((Bk.new w t [a,b]).alloc _).alloc _,Bk.sec.alloc _,Bk.thi,(((Ext.refl w).alloc _).alloc _).alloc _,by omega,by omega,by simp,by omega,by omega,by omega,by omega,by omega,by omega⟩
theorem yS (w:a0)(t t' t'' t''':aO)(a b c d e f i j:aF):∃g g2 g3 g4 wa,w.heap.size+1+1+1=g4∧w.heap.size+1+1=g3∧w.heap.size+1=g2∧w.heap.size=g∧(((w.alloc (.cells #[a,b] t)).alloc (.cells #[c,d] t')).alloc (.cells #[e,f] t'')).alloc (.cells #[i,j] t''')=wa∧Bk wa g t [a,b]∧Bk wa g2 t' [c,d]∧Bk wa g3 t'' [e,f]∧Bk wa g4 t''' [i,j]∧Ext w wa∧g<g2∧g2<g3∧g3<g4∧g4<wa.heap.size∧g≠g2∧g2≠g∧g≠g3∧g3≠g∧g2≠g3∧g3≠g2∧g≠g4∧g4≠g∧g2≠g4∧g4≠g2∧g3≠g4∧g4≠g3:=
 ⟨_,_,_,_,_,rfl,rfl,rfl,rfl,rfl,(((Bk.new w t [a,b]).alloc _).alloc _).alloc _,(Bk.sec.alloc _).alloc _,Bk.thi.alloc _,Bk.fou,((((Ext.refl w).alloc _).alloc _).alloc _).alloc _,by omega,by omega,by omega,by simp,by omega,by omega,by omega,by omega,by omega,by omega,by omega,by omega,by omega,by omega,by omega,by omega⟩
theorem iV {w2:a0}{x y:aF}(_hb:Bk w2 g T [x,y])(hz:Zr w2 base s A n cap z)(he:Ext w w2)(hg:g<base:=by omega)(hw:w.heap.size≤g:=by omega):j4 w z (.returned (O s A n cap)) ((w2.setCell ⟨g,0,none⟩ (.bool s)).setCell ⟨g,1,none⟩ (By A n cap)):=
 ⟨s,A,n,cap,rfl,(hz.upd hg (Upd.two _ _)).mono (by omega),(Upd.two _ _).ext he hw⟩
theorem jH {a b:aF}{s:Tmp}(hf:fn.results= #[.cell s 41])(hs:tmps.getD s undef= a9 g 0)(h:Bk w g t [a,b]):(results fn tmps).run aJ w= .ok (.agg #[a,b]) w:=by
 obtain⟨h1,h2,_,_⟩:=h.two
 have hs2:tmps[s]?.getD undef= a9 g 0:=by simpa using hs
 simp [results,hf,hs2,loadVar,loadCells,loadCellsFrom,go_sem,h1,h2]
def bU (x y:Int):Int:=if x<y then-1 else if x=y then 0 else 1
theorem JB (x y:Int): -1≤bU x y∧bU x y≤1:=by unfold bU;split <;> (try split) <;> omega
theorem sX:bU x y<0↔x<y:=by unfold bU;split <;> (try split) <;> omega
theorem oI:bU x y=0↔x=y:=by unfold bU;split <;> (try split) <;> omega
theorem BS:0<bU x y↔y<x:=by unfold bU;split <;> (try split) <;> omega
def zH (v:Int)(w:a0)(e:dI)(w':a0):Prop:=∃c:Int,Hid (c=v)∧ -1≤c∧c≤1∧e= .returned (AI c)∧Ext w w'
theorem iO (hn:n=(wd m).length):aR aJ 41 #[.bool s,By A n cap] w fun e w'=>∃s',e= .returned (O s' A n cap)∧Hid (s'=decide (sg s m<0))∧Ext w w':=by
 have hm:decide (0<m)=decide (0<n):=by
  by_cases h:m=0
  ·rw [h] at hn⊢;rw [hn];rfl
  ·have:n≠0:=fun e=>h (k9.1 (by rw [←hn,e]))
   rw [decide_eq_true (show 0<m by omega),decide_eq_true (show 0<n by omega)]
 have HM:Hid (decide (sg s m<0)=(s&&decide (0<n))):=(show _=_ by rw [BR,hm])
 clear hm hn
 go_enter Tryz.func41,Tryz.ntmps41
 cases s
 ·go_wp2_with fail
  refine eV (v:= O false A n cap) (by simp [results,Tryz.results41,go_sem]) G ?_
  exact⟨_,rfl,(show _=_ by rw [HM.out];rfl),(Ext.refl w).alloc _⟩
 ·by_cases h:n=0
  ·subst h
   go_wp2_with fail
   refine eV (v:= O false A 0 cap) (by simp [results,Tryz.results41,go_sem]) G ?_
   exact⟨_,rfl,(show _=_ by rw [HM.out];rfl),(Ext.refl w).alloc _⟩
  ·have h0:0<n:=by omega
   have hd:decide (0<n)=true:=decide_eq_true h0
   have hi:0<(n:Int):=by omega
   go_wp2_with fail
   refine eV (v:= O true A n cap) (by simp [results,Tryz.results41,go_sem]) G ?_
   exact⟨_,rfl,(show _=_ by rw [HM.out,hd];rfl),(Ext.refl w).alloc _⟩
theorem GD (hx:Zi w s A n cap x)(hl:n≤68719476736):aR aJ 45 #[O s A n cap] w (j4 w (-x)):=by
 obtain⟨xs,hr,rfl⟩:=hx
 go_enter Tryz.func45,Tryz.ntmps45
 go_upto_region 1 with (fail)
 obtain⟨g,g2,wa,hg2,hg,hwa,hb1,hb2,hea,l12,l2,n12,n21⟩:=uC w 41 41 (.bool s) (By A n cap) (Hs) (By none 0 0)
 rw [hg2,hg,hwa]
 have hgw:w.heap.size≤g:=Nat.le_of_eq hg
 clear hwa hg hg2
 obtain⟨f1,f2,f3,f4⟩:=hb1.two
 obtain⟨k1,k2,k3,k4⟩:=hb2.two
 go_region_held3 (fun w'=>w'.cell? ⟨g,0,none⟩=some (.bool s)∧w'.cell? ⟨g,1,none⟩=some (By A n cap)) (go_keep)
  (first
  | (go_at_call 47;refine (iH (hr.ext (by repeat (first | exact Ext.refl _ | assumption | apply Ext.drewN | apply Ext.drew | apply Ext.alloc)))).mono ?_;rintro e w1 ⟨A1,n1,c1,rfl,hn1,hr1,ho1,hx1⟩;have he1:Ext wa w1:=Ext.trans (by repeat (first | exact Ext.refl _ | assumption | apply Ext.drewN | apply Ext.drew | apply Ext.alloc)) hx1;have hc1:=hb1.ext he1;have hc2:=hb2.ext he1;obtain⟨f1',f2',f3',f4'⟩:=hc1.two;obtain⟨k1',k2',k3',k4'⟩:=hc2.two)
  | (go_at_call 41;refine (iO hn1.out).mono ?_;rintro e w2 ⟨s',rfl,hs',hx2⟩;have hd1:=hc1.ext hx2;have hd2:=hc2.ext hx2;obtain⟨f1'',f2'',f3'',f4''⟩:=hd1.two;obtain⟨k1'',k2'',k3'',k4''⟩:=hd2.two))
 go_wp2_with fail
 refine eV (jH G G (hd2.two_set _ _)) G ?_
 exact iV hd2 ((i9 hs'.out hn1.out ho1 (BQ _ _)).ext hx2) (hea.trans (he1.trans hx2)) (hg:=(by first | omega | (simp;omega)))
theorem GF (hx:Zi w s A n cap x)(hl:n≤68719476736):aR aJ 46 #[O s A n cap] w (j4 w (x)):=by
 obtain⟨xs,hr,rfl⟩:=hx
 go_enter Tryz.func46,Tryz.ntmps46
 go_upto_region 1 with (fail)
 obtain⟨g,g2,wa,hg2,hg,hwa,hb1,hb2,hea,l12,l2,n12,n21⟩:=uC w 41 41 (.bool s) (By A n cap) (Hs) (By none 0 0)
 rw [hg2,hg,hwa]
 have hgw:w.heap.size≤g:=Nat.le_of_eq hg
 clear hwa hg hg2
 obtain⟨f1,f2,f3,f4⟩:=hb1.two
 obtain⟨k1,k2,k3,k4⟩:=hb2.two
 go_region_held3 (fun w'=>w'.cell? ⟨g,0,none⟩=some (.bool s)∧w'.cell? ⟨g,1,none⟩=some (By A n cap)) (go_keep)
  (first
  | (go_at_call 47;refine (iH (hr.ext (by repeat (first | exact Ext.refl _ | assumption | apply Ext.drewN | apply Ext.drew | apply Ext.alloc)))).mono ?_;rintro e w1 ⟨A1,n1,c1,rfl,hn1,hr1,ho1,hx1⟩;have he1:Ext wa w1:=Ext.trans (by repeat (first | exact Ext.refl _ | assumption | apply Ext.drewN | apply Ext.drew | apply Ext.alloc)) hx1;have hc1:=hb1.ext he1;have hc2:=hb2.ext he1;obtain⟨f1',f2',f3',f4'⟩:=hc1.two;obtain⟨k1',k2',k3',k4'⟩:=hc2.two)
  | (go_at_call 41;refine (iO hn1.out).mono ?_;rintro e w2 ⟨s',rfl,hs',hx2⟩;have hd1:=hc1.ext hx2;have hd2:=hc2.ext hx2;obtain⟨f1'',f2'',f3'',f4''⟩:=hd1.two;obtain⟨k1'',k2'',k3'',k4''⟩:=hd2.two))
 go_wp2_with fail
 refine eV (jH G G (hd2.two_set _ _)) G ?_
 exact iV hd2 ((i9 hs'.out hn1.out ho1 G).ext hx2) (hea.trans (he1.trans hx2)) (hg:=(by first | omega | (simp;omega)))
theorem GJ (hx:Zi w s A n cap x)(hl:n≤68719476736):aR aJ 22 #[O s A n cap] w (j4 w (x.natAbs:Int)):=by
 obtain⟨xs,hr,rfl⟩:=hx
 go_enter Tryz.func22,Tryz.ntmps22
 go_upto_region 1 with (fail)
 obtain⟨g,g2,wa,hg2,hg,hwa,hb1,hb2,hea,l12,l2,n12,n21⟩:=uC w 41 41 (.bool s) (By A n cap) (Hs) (By none 0 0)
 rw [hg2,hg,hwa]
 have hgw:w.heap.size≤g:=Nat.le_of_eq hg
 clear hwa hg hg2
 obtain⟨f1,f2,f3,f4⟩:=hb1.two
 go_wp2_with fail
 refine (iH (hr.ext hea)).mono ?_
 rintro e w1 ⟨A1,n1,c1,rfl,hn1,hr1,ho1,hx1⟩
 have hc2:=hb2.ext hx1
 go_wp2_with fail
 refine (iO hn1.out).mono ?_
 rintro e w2 ⟨s',rfl,hs',hx2⟩
 have hd2:=hc2.ext hx2
 obtain⟨k1,k2,k3,k4⟩:=hd2.two
 go_wp2_with fail
 refine eV (jH G G (hd2.two_set _ _)) G ?_
 exact iV hd2 ((i9 hs'.out hn1.out ho1 (by rw [jF,mA])).ext hx2) (hea.trans (hx1.trans hx2))
theorem AC {t:Bool}(hx:Zi w s A n cap x)(hl:n≤68719476736)(hy:Zi w t B m cap' y)(hl':m≤68719476736):aR aJ 20 #[O s A n cap,O t B m cap'] w (j4 w (x*y)):=by
 obtain⟨xs,hr,rfl⟩:=hx
 obtain⟨ys,hq,rfl⟩:=hy
 go_enter Tryz.func20,Tryz.ntmps20
 go_upto_region 1 with (fail)
 obtain⟨g,g2,g3,wa,hg3,hg2,hg,hwa,hb1,hb2,hb3,hea,l12,l23,l3,n12,n21,n13,n31,n23,n32⟩:=rC w 41 41 41 (.bool s) (By A n cap) (.bool t) (By B m cap') (Hs) (By none 0 0)
 rw [hg3,hg2,hg,hwa]
 have hgw:w.heap.size≤g:=Nat.le_of_eq hg
 clear hwa hg hg2 hg3
 obtain⟨f1,f2,f3,f4⟩:=hb1.two
 obtain⟨h1,h2,h3,h4⟩:=hb2.two
 obtain⟨k1,k2,k3,k4⟩:=hb3.two
 go_region_held3 (fun w'=>w'.cell? ⟨g,0,none⟩=some (.bool s)∧w'.cell? ⟨g,1,none⟩=some (By A n cap)∧w'.cell? ⟨g2,0,none⟩=some (.bool t)∧w'.cell? ⟨g2,1,none⟩=some (By B m cap')) (go_keep)
  (first
  | (go_at_call 42;refine (KL (hr.ext (by repeat (first | exact Ext.refl _ | assumption | apply Ext.drewN | apply Ext.drew | apply Ext.alloc))) (hq.ext (by repeat (first | exact Ext.refl _ | assumption | apply Ext.drewN | apply Ext.drew | apply Ext.alloc))) (by omega)).mono ?_;rintro e w1 ⟨A1,n1,c1,rfl,hn1,hr1,ho1,hx1⟩;have he1:Ext wa w1:=Ext.trans (by repeat (first | exact Ext.refl _ | assumption | apply Ext.drewN | apply Ext.drew | apply Ext.alloc)) hx1;have hc1:=hb1.ext he1;have hc2:=hb2.ext he1;have hc3:=hb3.ext he1;obtain⟨f1',f2',f3',f4'⟩:=hc1.two;obtain⟨h1',h2',h3',h4'⟩:=hc2.two;obtain⟨k1',k2',k3',k4'⟩:=hc3.two)
  | (go_at_call 41;refine (iO hn1.out).mono ?_;rintro e w2 ⟨s',rfl,hs',hx2⟩;have hd1:=hc1.ext hx2;have hd2:=hc2.ext hx2;have hd3:=hc3.ext hx2;obtain⟨f1'',f2'',f3'',f4''⟩:=hd1.two;obtain⟨h1'',h2'',h3'',h4''⟩:=hd2.two;obtain⟨k1'',k2'',k3'',k4''⟩:=hd3.two))
 go_wp2_with fail
 refine eV (jH G G (hd3.two_set _ _)) G ?_
 exact iV hd3 ((i9 hs'.out hn1.out ho1 (J3 _ _ _ _)).ext hx2) (hea.trans (he1.trans hx2)) (hg:=(by first | omega | (simp;omega)))
theorem vI (hx:Zi w s A n cap x)(hl:n≤68719476736):aR aJ 34 #[O s A n cap] w (zH (bU x 0) w):=by
 obtain⟨xs,hr,rfl⟩:=hx
 go_enter Tryz.func34,Tryz.ntmps34
 go_upto_region 1 with (fail)
 have hb1:=Bk.new w 41 (a4 s A n cap)
 obtain⟨wa,hwa⟩:∃wa,w.alloc (.cells #[.bool s,.slice A n cap] 41)=wa:=⟨_,rfl⟩
 rw [hwa]
 obtain⟨g,hg⟩:∃g,w.heap.size=g:=⟨_,rfl⟩
 rw [hg] at hb1⊢
 have hb1':Bk wa g 41 (a4 s A n cap):=by rw [←hwa];exact hb1
 have hea:Ext w wa:=by rw [←hwa];exact (Ext.refl w).alloc _
 clear hwa hg hb1
 obtain⟨f1,f2,f3,f4⟩:=hb1'.two
 go_wp2_with fail
 refine (KD (hr.ext hea) (by omega)).mono ?_
 rintro e w1 ⟨b,hb,rfl,hx1'⟩
 have hx1:=hea.trans hx1'
 obtain⟨f1',f2',f3',f4'⟩:=(hb1'.ext hx1').two
 by_cases h0:b=0
 ·subst h0
  have hz:nv xs=0:=rD.1 hb.out.symm
  have HZ:=aU hz
  clear hz
  go_wp2_with fail
  go_ret
  exact⟨0,(show _=_ by rw [HZ.out,J0];rfl),by omega,by omega,rfl,hx1⟩
 ·have bb:((b:Int)==0)=false:=by simp;omega
  have hz:0<nv xs:=Nat.pos_of_ne_zero (fun e=>h0 (by rw [hb.out,e];rfl))
  have HZ:=aU hz
  clear hz h0
  cases s
  ·go_wp2_with fail
   go_ret
   refine⟨1,?_,by omega,by omega,rfl,hx1⟩
   show _=_
   rw [mA,bU,if_neg (by omega),if_neg (by have:=HZ.out;omega)]
  ·go_wp2_with fail
   go_ret
   refine⟨-1,?_,by omega,by omega,rfl,hx1⟩
   show _=_
   rw [wC,bU,if_pos (by have:=HZ.out;omega)]
theorem Own.updT {s:Nat}(h:Own w base t s A n cap vs)(hb:Bk w g T us)(hT:t≠T)(e:Upd g w w'):Own w' base t s A n cap vs:=by
 refine h.upd e (fun a o hg=>?_)
 rcases h with⟨h,_⟩ | ⟨k,cs,I,_,H,_⟩
 ·rw [h] at o;cases o
 ·rw [I] at o
  cases o
  simp only at hg
  subst hg
  unfold Bk at H hb
  rw [H] at hb
  injection hb with hb
  injection hb with h1 h2
  exact hT h2
theorem Zr.updT (h:Zr w base s A n cap z)(hb:Bk w g T us)(e:Upd g w w')(hT:45≠T:=by decide):Zr w' base s A n cap z:=
 ⟨h.sgn,h.len,h.own.updT hb hT e⟩
theorem Bk.updN (h:Bk w g T vs)(e:Upd g' w w')(hne:g≠g'):Bk w' g T vs:=h.upd e hne
theorem Bk.vN (h:Bk w g T vs)(e:Upd g' w w')(hne : g≠g' := by omega):Bk w' g T vs := h.updN e hne
theorem k8 (x:Int):ln (x.natAbs:Int)=ln x:=by unfold ln;rw [Int.natAbs_natCast]
theorem pZ (h:x=y):bZ .eql (bU x y) 0=some true:=by
 have e:bU x y=0:=oI.2 h
 rw [e];rfl
theorem qA (h:x≠y):bZ .eql (bU x y) 0=some false:=by
 have e:¬bU x y=0:=fun e=>h (oI.1 e)
 simp only [bZ,fB,beq_eq_false_iff_ne,ne_eq];exact e
theorem pX (h:x≠y):bZ .neq (bU x y) 0=some true:=by
 have e:¬bU x y=0:=fun e=>h (oI.1 e)
 simp only [bZ,fB,bne_iff_ne,ne_eq];exact e
theorem pY (h:x=y):bZ .neq (bU x y) 0=some false:=by
 have e:bU x y=0:=oI.2 h
 rw [e];rfl
theorem J7 (h:x<y):bZ .lss (bU x y) 0=some true:=by
 have e:=sX.2 h
 simp only [bZ,fB,decide_eq_true_eq];exact e
theorem J8 (h:y≤x):bZ .lss (bU x y) 0=some false:=by
 have e:¬bU x y<0:=fun e=>by have:=sX.1 e;omega
 simp only [bZ,fB,decide_eq_false_iff_not];exact e
theorem J9 (h:y<x):bZ .gtr (bU x y) 0=some true:=by
 have e:=BS.2 h
 simp only [bZ,fB,decide_eq_true_eq];exact e
theorem JA (h:x≤y):bZ .gtr (bU x y) 0=some false:=by
 have e:¬0<bU x y:=fun e=>by have:=BS.1 e;omega
 simp only [bZ,fB,decide_eq_false_iff_not];exact e
structure AggT (P:bP)(T:aO)(k:Nat):Prop where
 agg:∀w,(isAgg T).run P w= .ok true w
 size:∀w,(sizeOf T).run P w= .ok k w
theorem wJ {p:a6}(h:w.cell? p=some v):(load p).run P w= .ok v w:=by
 simp only [load,Sem.run,h]
theorem wF {p:a6}(h:w.cell? p=some u)(hf:w.frozen? p=false)(h1:v.oneCell'=true):(store p v).run P w= .ok () (w.setCell p v):=by
 rw [run_store P w p v .plain h1,h,hf];rfl
theorem wI {P:bP}{w:a0}{p:a6}:∀(vs:List aF) (i:Nat) (acc:Array aF),(∀j,j<vs.length→w.cell? (p.add (i+j))=some (vs.getD j undef))→
  (loadCellsFrom p i vs.length acc).run P w= .ok (acc++vs.toArray) w
 | [],i,acc,_=>by simp [loadCellsFrom]
 | v::vs,i,acc,h=>by
  have h0:=h 0 (by simp)
  simp only [eA,List.getD_cons_zero] at h0
  have ih:=wI (P:=P) (p:=p) vs (i+1) (acc.push v) (fun j hj=>by
   have:=h (j+1) (by simpa using hj)
   rw [show i+1+j=i+(j+1) by omega]
   simpa using this)
  show ((load (p.add i)>>=fun v=>loadCellsFrom p (i+1) vs.length (acc.push v):Sem (Array aF))).run P w=_
  have e:(load (p.add i)).run P w= .ok v w:=wJ h0
  rw [c8,e]
  simp only [eD,ih]
  simp
theorem bY (hT:AggT P T k)(hb:Bk w g T' vs)(us:List aF)(hu:us.length=k)(hle:off+k≤vs.length)(he:(vs.drop off).take k=us):(loadVar T ⟨g,off,none⟩).run P w= .ok (.agg us.toArray) w:=by
 subst hu
 have h:=wI (P:=P) (w:=w) (p:=⟨g,off,none⟩) us 0 #[] (fun j hj=>by
  rw [fE,iZ,hb.cell (by omega)]
  congr 1
  rw [←he]
  simp only [bO,iN,List.getElem?_drop]
  rw [if_pos hj])
 unfold loadVar loadCells
 rw [c8,hT.agg w]
 simp only [eD,if_true,c8,hT.size w,h]
 simp
theorem aQ (hT:∀w,(isAgg T).run P w= .ok false w)(hb:Bk w g T' vs)(hv:vs[i]?=some v):(loadVar T ⟨g,i,none⟩).run P w= .ok v w:=by
 have hi:i<vs.length:=(fF.1 hv).1
 have h:=hb.cell hi
 rw [bO,hv] at h
 unfold loadVar
 rw [c8,hT w]
 simp only [eD,zY,if_false]
 exact wJ h
def gA (vs:List aF)(off:Nat)(us:List aF):List aF:=vs.take off++us++vs.drop (off+us.length)
theorem sR {P:bP}{g:Nat}{T:aO}:∀(us:List aF) (i off:Nat) (w:a0) (vs:List aF),Bk w g T vs→off+i+us.length≤vs.length→(∀u∈us,u.oneCell'=true)→
  ∃w',(storeCells ⟨g,off,none⟩ us i).run P w= .ok () w'∧Bk w' g T (gA vs (off+i) us)∧Upd g w w'∧w'.heap.size=w.heap.size
 | [],i,off,w,vs,hb,_,_=>⟨w,rfl,by simpa [gA] using hb,Upd.refl g w,rfl⟩
 | u::us,i,off,w,vs,hb,hle,h1=>by
  have hi:off+i<vs.length:=by simp at hle;omega
  have U:=hb.cell hi
  have hf:=hb.frozen (off+i)
  have o:=hb.set (off+i) u
  obtain⟨w',hr,h,I,J⟩:=sR (P:=P) us (i+1) off (w.setCell ⟨g,off+i,none⟩ u) (vs.set (off+i) u) o (by simp at hle⊢;omega) (fun x hx=>h1 x (by simp [hx]))
  refine⟨w',?_,?_,((Upd.refl g w).setCell (off+i) u).trans I,by rw [J];simp [o4]⟩
  ·show ((store ((⟨g,off,none⟩:a6).add i) u>>=fun _=>storeCells ⟨g,off,none⟩ us (i+1):Sem Unit)).run P w=_
   rw [iZ,c8,wF U hf (h1 u (by simp))]
   exact hr
  ·have e:gA (vs.set (off+i) u) (off+(i+1)) us=gA vs (off+i) (u::us):=by
    unfold gA
    have H:(vs.set (off+i) u).take (off+(i+1))=vs.take (off+i)++ [u]:=by
     rw [show off+(i+1)=off+i+1 by omega,B6 _ _ (by simpa using hi) undef,List.take_set_of_le (aI _)]
     congr 2
     rw [bO,List.getElem?_set_self hi];rfl
    rw [H,List.drop_set_of_lt (by omega)]
    simp only [iE,List.append_assoc,sD,List.nil_append]
    rw [show off+(i+1)+us.length=off+i+(us.length+1) by omega]
   rw [←e];exact h
theorem jG (hT:AggT P T k)(hk:us.length=k)(hb:Bk w g T' vs)(hle:off+k≤vs.length)(h1:us.all (·.oneCell')=true)(us':List aF)(he:gA vs off us=us'):∃w',(storeVar T ⟨g,off,none⟩ (.agg us.toArray)).run P w= .ok () w'∧Bk w' g T' us'∧Upd g w w'∧w'.heap.size=w.heap.size:=by
 subst hk
 obtain⟨w',hr,h,o,H⟩:=sR (P:=P) us 0 off w vs hb (by omega) (by simpa [eZ] using h1)
 rw [eA,he] at h
 refine⟨w',?_,h,o,H⟩
 unfold storeVar
 rw [c8]
 show ((sizeOf T).run P w).andThen _=_
 rw [hT.size w]
 have e:(Value.agg us.toArray).cells=us.toArray:=rfl
 simp only [eD,e,uW,ne_eq,not_true,if_false]
 exact hr
theorem fC {Q:cE→Act→a0→Prop}{l:Fr}(hw:cZ ops l gd=some true){x y:cA}(hx:bT l x=some (a9 g off))(hy:bT l y=some (.agg us.toArray))(hT:AggT P T k)(hk:us.length=k)(hb:Bk w g T' vs)(hle:off+k≤vs.length)(h1:us.all (·.oneCell')=true)(us':List aF)(he:gA vs off us=us')(h:∀w',Bk w' g T' us'→Upd g w w'→w'.heap.size=w.heap.size→wl P ops Q n rest l w'):wl P ops Q n (⟨none,.store T x y,ty,pos,af,gd⟩::rest) l w:=by
 obtain⟨w',hr,o,H,I⟩:=jG (P:=P) hT hk hb hle h1 us' he
 exact AN hw (p:=⟨g,off,none⟩) hx hy (w':=w') hr (h w' o H I)
theorem jC {Q:cE→Act→a0→Prop}{l:Fr}(hw:cZ ops l gd=some true){x y:cA}(hx:bT l x=some (a9 g off))(hy:bT l y=some v)(hT:∀w,(sizeOf T).run P w= .ok 1 w)(hv:v.cells= #[v])(hb:Bk w g T' vs)(hle:off<vs.length)(h1:v.oneCell'=true)(us':List aF)(he:vs.set off v=us')(h:∀w',Bk w' g T' us'→Upd g w w'→w'.heap.size=w.heap.size→wl P ops Q n rest l w'):wl P ops Q n (⟨none,.store T x y,ty,pos,af,gd⟩::rest) l w:=by
 have o:=hb.set off v
 rw [he] at o
 refine AN hw (p:=⟨g,off,none⟩) hx hy (w':=w.setCell ⟨g,off,none⟩ v) ?_ (h _ o ((Upd.refl g w).setCell off v) (by simp [o4]))
 unfold storeVar
 rw [c8]
 show ((sizeOf T).run P w).andThen _=_
 rw [hT w]
 simp only [eD,hv,uW,iE,List.length_nil,ne_eq,not_true,fE,if_false]
 show ((store ((⟨g,off,none⟩:a6).add 0) v>>=fun _=>storeCells ⟨g,off,none⟩ [] (0+1):Sem Unit)).run P w=_
 rw [iZ,eA,c8,wF (hb.cell hle) (hb.frozen off) h1]
 rfl
section
variable {P:bP}{Q:cE→Act→a0→Prop}{n:Nat}{l:Fr}{w:a0}{ops:Array aP}{rest:List aP}{d:Nat}{ty:aO}{pos:String}{af:Array eR}{gd:Option (Nat×Bool)}
theorem JF {s:Nat}{a:a6}{k:j9}{i:Int}(hT:P.underlying t=some (.slice e))(hs:∀w,(sizeOf e).run P w= .ok s w)(h0:0≤i)(h1:i<m):(Instr.indexAt t (By (some a) m c) (.int k i)).run P w= .ok (.pointer (some (a.add (i.toNat*s)))) w:=by
 have h:(underlying t).run P w= .ok (.slice e) w:=o3 hT w
 unfold Instr.indexAt
 simp only [asIntOf,c8,fO,eD,h]
 rw [if_pos ⟨h0,h1⟩]
 simp only [c8,hs w,eD,fO]
def CJ (v:Option aF)(k:Nat)(dflt:Nat):Prop:=(v=none∧k=dflt)∨v=some (AI (k:Int))
theorem sZ {k:BoundsCode}(h:i≤cap):(Instr.sliceBound (AI (i:Int)) cap k).run P w= .ok i w:=by
 unfold Instr.sliceBound
 simp only [asIntOf,c8,fO,eD]
 rw [if_pos ⟨by omega,by omega⟩]
 rfl
theorem JE {s lo:Nat}(hT:P.underlying t=some (.slice e))(hs:∀w,(sizeOf e).run P w= .ok s w)(h1:CJ low lo 0)(h2:CJ high hi m)(h3:lo≤hi)(h4:hi≤c):(Instr.sliceAt t (By A m c) low high none).run P w= .ok (By (if c=lo then A else A.map (·.add (lo*s))) (hi-lo) (c-lo)) w:=by
 have h:(underlying t).run P w= .ok (.slice e) w:=o3 hT w
 have hb:(Instr.sliceBounds true m c low high none).run P w= .ok (lo,hi,c) w:=by
  unfold Instr.sliceBounds
  rcases h1 with⟨rfl,rfl⟩ | rfl <;> rcases h2 with⟨rfl,rfl⟩ | rfl
  ·simp only [c8,fO,eD]
  ·simp only [c8,fO,eD,sZ h4,if_true]
  ·simp only [c8,fO,eD,Option.isSome,sZ h3]
  ·simp only [c8,fO,eD,Option.isSome,sZ h4,sZ h3,if_true]
 unfold Instr.sliceAt
 simp only [c8,h,eD]
 unfold Instr.slice
 simp only [c8,h,eD,hb,hs w,fO]
theorem vM (hw:cZ ops l gd=some true){x:cA}{s lo:Nat}(hx:bT l x=some (By A m c))(hT:P.underlying t=some (.slice e))(hs:∀w,(sizeOf e).run P w= .ok s w)(h1:match lo' with | none=>lo=0 | some y=>bT l y=some (AI (lo:Int)))(h2:match hi' with | none=>hi=m | some y=>bT l y=some (AI (hi:Int)))(h3:lo≤hi)(h4:hi≤c)(hv:Value.slice (if c=lo then A else A.map (·.add (lo*s))) (hi-lo) (c-lo)=v)(hn:d<n)(h:wl P ops Q n rest ((d,v)::l) w):wl P ops Q n (⟨some d,.slice t x lo' hi' none,ty,pos,af,gd⟩::rest) l w:=
 fP hw hn (fun a' o=>by
  have e:(Instr.sliceAt t (a'.eval x) (lo'.map a'.eval) (hi'.map a'.eval) (Option.map a'.eval none)).run P w= .ok v w:=by
   rw [o.ev hx,←hv]
   refine JE hT hs ?_ ?_ h3 h4
   ·cases lo' with
    | none=>exact bE ⟨rfl,h1⟩
    | some y=>exact bK (by show some (a'.eval y)=_;rw [o.ev h1])
   ·cases hi' with
    | none=>exact bE ⟨rfl,h2⟩
    | some y=>exact bK (by show some (a'.eval y)=_;rw [o.ev h2])
  show ((Instr.sliceAt t (a'.eval x) (lo'.map a'.eval) (hi'.map a'.eval) (Option.map a'.eval none)>>=fun r=>pure (iA r):Sem Next)).run P w=_
  rw [c8,e];rfl) h
theorem D5 {p:a6}(hT:AggT P T k)(us:List aF)(hu:us.length=k)(hc:∀j,j<us.length→w.cell? (p.add j)=some (us.getD j undef)):(loadVar T p).run P w= .ok (.agg us.toArray) w:=by
 subst hu
 have h:=wI (P:=P) (w:=w) (p:=p) us 0 #[] (fun j hj=>by rw [fE];exact hc j hj)
 unfold loadVar loadCells
 rw [c8,hT.agg w]
 simp only [eD,if_true,c8,hT.size w,h]
 simp
theorem cP {p:a6}(hT:∀w,(isAgg T).run P w= .ok false w)(hc:w.cell? p=some v):(loadVar T p).run P w= .ok v w:=by
 unfold loadVar
 rw [c8,hT w]
 simp only [eD,zY,if_false]
 exact wJ hc
end
theorem MF {a b:Int}(h:b≤a):bZ .geq a b=some true:=by simp only [bZ,fB,decide_eq_true_eq];omega
theorem MG {a b:Int}(h:a<b):bZ .geq a b=some false:=by simp only [bZ,fB,decide_eq_false_iff_not];omega
theorem KY {a b:Int}(h:a<b):bZ .lss a b=some true:=by simp only [bZ,fB,decide_eq_true_eq];omega
theorem KZ {a b:Int}(h:b≤a):bZ .lss a b=some false:=by simp only [bZ,fB,decide_eq_false_iff_not];omega
theorem MA {a b:Int}(h:b<a):bZ .gtr a b=some true:=by simp only [bZ,fB,decide_eq_true_eq];omega
theorem MB {a b:Int}(h:a≤b):bZ .gtr a b=some false:=by simp only [bZ,fB,decide_eq_false_iff_not];omega
theorem OZ {a b:Int}(h:a=b):bZ .eql a b=some true:=by subst h;simp [bZ]
theorem P0 {a b:Int}(h:a≠b):bZ .eql a b=some false:=by simp only [bZ,fB,beq_eq_false_iff_ne,ne_eq];exact h
theorem K8 {a b:Int}(h:a≠b):bZ .neq a b=some true:=by simp only [bZ,fB,bne_iff_ne,ne_eq];exact h
theorem K9 {a b:Int}(h:a=b):bZ .neq a b=some false:=by subst h;simp [bZ]
theorem QQ {a b c:Int}(h:a+b=c)(h1: -9223372036854775808≤c)(h2:c≤9223372036854775807):iX .add .i64 a b=some c:=by
 simp only [iX,fB];rw [h];exact IntWalk.i64_in _ ⟨h1,h2⟩
theorem zA {a b c:Int}(h:a-b=c)(h1: -9223372036854775808≤c:=by omega)(h2:c≤9223372036854775807:=by omega):iX .sub .i64 a b=some c:=by
 simp only [iX,fB];rw [h];exact IntWalk.i64_in _ ⟨h1,h2⟩
theorem QP {a b c:Int}(h:a*b=c)(h1: -9223372036854775808≤c)(h2:c≤9223372036854775807):iX .mul .i64 a b=some c:=by
 simp only [iX,fB];rw [h];exact IntWalk.i64_in _ ⟨h1,h2⟩
theorem Rd.at (h:Rd w A n c xs)(hi:i<n):∃p,A.map (·.add (i*1))=some p∧w.cell? p=some (AT ((xs.getD i 0:Nat):Int))∧xs.getD i 0≤18446744073709551615:=by
 obtain⟨a,x,rfl,o,hb,H⟩:=h.get hi
 refine⟨a.add i,by rw [gY];rfl,?_,by rw [o.out];exact hb⟩
 rw [o.out];exact H
theorem FJ (g i:Nat):(some (⟨g,0,none⟩:a6)).map (·.add (i*1))=some ⟨g,i,none⟩:=by
 rw [gY]
 show some ((⟨g,0,none⟩:a6).add i)=_
 rw [iZ,fE]
section
variable {P:bP}{Q:cE→Act→a0→Prop}{n:Nat}{l:Fr}{w:a0}{ops:Array aP}{rest:List aP}{d:Nat}{op:Op}{ty:aO}{pos:String}{af:Array eR}{gd:Option (Nat×Bool)}
theorem BZ {s:Nat}{k:j9}{i:Int}{p:a6}(hT:P.underlying t=some (.slice e))(hs:∀w,(sizeOf e).run P w= .ok s w)(hi:i=(j:Int))(hj:j<m)(hp:A.map (·.add (j*s))=some p):(Instr.indexAt t (By A m c) (.int k i)).run P w= .ok (.pointer (some p)) w:=by
 subst hi
 cases A with
 | none=>cases hp
 | some a=>
  have h:=JF (P:=P) (w:=w) (t:=t) (e:=e) (s:=s) (m:=m) (c:=c) (a:=a) (k:=k) (i:=(j:Int)) hT hs (by omega) (by omega)
  rw [h]
  rw [jV]
  injection hp with hp
  rw [←hp]
theorem aX (hw:cZ ops l gd=some true){x y:cA}{s:Nat}{k:j9}{i:Int}(hx:bT l x=some (By A m c))(hy:bT l y=some (.int k i))(hT:P.underlying t=some (.slice e))(hs:∀w,(sizeOf e).run P w= .ok s w)(j:Nat)(hi:i=(j:Int))(p:a6)(hp:A.map (·.add (j*s))=some p)(h:wl P ops Q n rest ((d,.pointer (some p))::l) w)(hj:j<m:=by omega)(hn:d<n:=by decide):wl P ops Q n (⟨some d,.indexAddr t x y,ty,pos,af,gd⟩::rest) l w:=
 fP hw hn (fun a' o=>by
  have e:(Instr.indexAt t (a'.eval x) (a'.eval y)).run P w= .ok (.pointer (some p)) w:=by rw [o.ev hx,o.ev hy];exact BZ hT hs hi hj hp
  show ((Instr.indexAt t (a'.eval x) (a'.eval y)>>=fun r=>pure (iA r):Sem Next)).run P w=_
  rw [c8,e];rfl) h
theorem fH {x y:cA}{s:Nat}{k:j9}{i:Int}(hx:bT l x=some (By A m c))(hy:bT l y=some (.int k i))(hT:P.underlying t=some (.slice e))(hs:∀w,(sizeOf e).run P w= .ok s w)(j:Nat)(hi:i=(j:Int))(p:a6)(hp:A.map (·.add (j*s))=some p)(hj:j<m:=by omega):gW P n l ⟨dst,.indexAddr t x y,ty,pos,af,gd⟩ w (.value (.pointer (some p))) w:=fun a' h=>by
 have e:(Instr.indexAt t (a'.eval x) (a'.eval y)).run P w= .ok (.pointer (some p)) w:=by rw [h.ev hx,h.ev hy];exact BZ hT hs hi hj hp
 show ((Instr.indexAt t (a'.eval x) (a'.eval y)>>=fun r=>pure (iA r):Sem Next)).run P w=_
 rw [c8,e];rfl
theorem JP {x y:cA}{k:j9}{a b:Int}(hx:bT l x=some (.int k a))(hy:bT l y=some (.int k b))(c:Bool)(hc:bZ o a b=some c):gW P n l ⟨dst,.binOp o t x y t',ty,pos,af,gd⟩ w (.value (.bool c)) w:=fun a' h=>by
 have e:((do eqGuard o t x y (a'.eval x) (a'.eval y);binOp o t (a'.eval x) (a'.eval y)):Sem aF).run P w= .ok (.bool c) w:=by
  rw [h.ev hx,h.ev hy];exact C1 hc
 show ((((do eqGuard o t x y (a'.eval x) (a'.eval y);binOp o t (a'.eval x) (a'.eval y)):Sem aF)>>=fun r=>pure (iA r)):Sem Next).run P w=_
 rw [c8,e];rfl
theorem JD (hT:∀w,(sizeOf T).run P w= .ok 1 w)(hv:v.cells= #[v])(hb:Bk w g T' vs)(hle:off<vs.length)(h1:v.oneCell'=true)(us':List aF)(he:vs.set off v=us'):∃w',(storeVar T ⟨g,off,none⟩ v).run P w= .ok () w'∧Bk w' g T' us'∧Upd g w w'∧w'.heap.size=w.heap.size:=by
 have h:=hb.set off v
 rw [he] at h
 refine⟨w.setCell ⟨g,off,none⟩ v,?_,h,(Upd.refl g w).setCell off v,by simp [o4]⟩
 unfold storeVar
 rw [c8]
 show ((sizeOf T).run P w).andThen _=_
 rw [hT w]
 simp only [eD,hv,uW,iE,List.length_nil,ne_eq,not_true,fE,if_false]
 show ((store ((⟨g,off,none⟩:a6).add 0) v>>=fun _=>storeCells ⟨g,off,none⟩ [] (0+1):Sem Unit)).run P w=_
 rw [iZ,eA,c8,wF (hb.cell hle) (hb.frozen off) h1]
 rfl
theorem GS {z:aF}{x y:cA}(hw:cZ ops l gd=some true){i:Int}(hx:bT l x=some (AI i))(hy:bT l y=some (AI i))(hi:i=(k:Int))(ht:P.underlying t=some (.slice e))(hinfo:(P.info? e).map (fun i=>(i.zero,i.size,i.bytes))=some (some z,1,bytes))(hz:z.cells= #[z])(hby:bytes≤64)(hk:k≤1099511627776)(hn:d<n)(h:∀g w',w.heap.size=g→Bk w' g e (dL k z)→Ext w w'→wl P ops Q n rest ((d,By (some ⟨g,0,none⟩) k k)::l) w'):wl P ops Q n (⟨some d,.makeSlice t x y,ty,pos,af,gd⟩::rest) l w:=by
 subst hi
 have o:=lD (P:=P) ht hinfo hz hby (k:Int) (by omega) (by omega) w
 rw [jV] at o
 refine fP hw hn (fun a' H=>?_) (h _ (w.alloc (.cells (zc z k) e)) G (Bk.new' _ _ _) ((Ext.refl w).alloc _))
 have e':(lV t (a'.eval x) (a'.eval y)).run P w= .ok (By (some ⟨w.heap.size,0,none⟩) k k) (w.alloc (.cells (zc z k) e)):=by rw [H.ev hx,H.ev hy];exact o
 show ((lV t (a'.eval x) (a'.eval y)>>=fun r=>pure (iA r):Sem Next)).run P w=_
 rw [c8,e'];rfl
end
theorem L7 (hT:∀w,(isAgg T).run P w= .ok false w)(hb:Bk w g T' (l.map fun x:Nat=>kU .i64 (x:Int)))(hi:i<l.length):(loadVar T ⟨g,i,none⟩).run P w= .ok (AI ((l.getD i 0:Nat):Int)) w:=by
 refine aQ hT hb ?_
 simp [bO,d8 hi]
theorem LL {x:Nat}(h:l.length=N):(l.set i x).length=N:=by rw [List.length_set];exact h
theorem LM {f:Nat→aF}(h:i<l.length):i<(l.map f).length:=by rw [List.length_map];exact h
theorem dB {A B:Int}(ha:A=(a:Int))(hb:B=(b:Int))(h:a<b:=by omega):bZ .lss A B=some true:=by subst ha hb;exact KY (by omega)
theorem dK {A B:Int}(ha:A=(a:Int))(hb:B=(b:Int))(h:b≤a:=by omega):bZ .lss A B=some false:=by subst ha hb;exact KZ (by omega)
theorem nV {A B:Int}(ha:A=(a:Int))(hb:B=(b:Int))(h:b<a:=by omega):bZ .gtr A B=some true:=by subst ha hb;exact MA (by omega)
theorem mM {A B:Int}(ha:A=(a:Int))(hb:B=(b:Int))(h:a≤b:=by omega):bZ .gtr A B=some false:=by subst ha hb;exact MB (by omega)
theorem QC {A B:Int}(ha:A=(a:Int))(hb:B=(b:Int))(h:b≤a):bZ .geq A B=some true:=by subst ha hb;exact MF (by omega)
theorem F7 {A B:Int}(ha:A=(a:Int))(hb:B=(b:Int))(h:a<b):bZ .geq A B=some false:=by subst ha hb;exact MG (by omega)
theorem kD {A B:Int}(ha:A=(a:Int))(hb:B=(b:Int))(h:a=b:=by omega):bZ .eql A B=some true:=by subst ha hb;exact OZ (by omega)
theorem kS {A B:Int}(ha:A=(a:Int))(hb:B=(b:Int))(h:a≠b:=by omega):bZ .eql A B=some false:=by subst ha hb;exact P0 (by omega)
theorem nU {A B:Int}(ha:A=(a:Int))(hb:B=(b:Int))(h:a≠b:=by omega):bZ .neq A B=some true:=by subst ha hb;exact K8 (by omega)
theorem kC {A B:Int}(ha:A=(a:Int))(hb:B=(b:Int))(h:a=b:=by omega):bZ .neq A B=some false:=by subst ha hb;exact K9 (by omega)
theorem bW {A B:Int}(ha:A=(a:Int))(hb:B=(b:Int))(h:a+b≤9223372036854775807:=by omega):iX .add .i64 A B=some ((a+b:Nat):Int):=by
 subst ha hb;exact QQ (by omega) (by omega) (by omega)
theorem iY {A B:Int}(ha:A=(a:Int))(hb:B=(b:Int))(h:b≤a:=by omega)(h2:a≤9223372036854775807:=by omega):iX .sub .i64 A B=some ((a-b:Nat):Int):=by
 subst ha hb;exact zA (by omega)
theorem kE {A B:Int}(ha:A=(a:Int))(hb:B=(b:Int))(h:a*b≤9223372036854775807:=by omega):iX .mul .i64 A B=some ((a*b:Nat):Int):=by
 subst ha hb;exact QP (by rw [←jA]) (by omega) (by omega)
theorem pU (w:a0):(sizeOf 45).run aJ w= .ok 1 w:=by kernel_rfl
theorem rI (w:a0):(isAgg 45).run aJ w= .ok false w:=by kernel_rfl
theorem pS:Tryz.prog.underlying 39=some (.slice 45):=Tryz.underlying39
theorem JN {a b:aF}{s u:Tmp}(hf:fn.results= #[.cell s 41,.tmp u])(hs:tmps.getD s undef= a9 g 0)(hu:tmps.getD u undef=v)(h:Bk w g t [a,b]):(results fn tmps).run aJ w= .ok (.tuple #[.agg #[a,b],v]) w:=by
 obtain⟨h1,h2,_,_⟩:=h.two
 have hs2:tmps[s]?.getD undef= a9 g 0:=by simpa using hs
 have hu2:tmps[u]?.getD undef=v:=by simpa using hu
 simp [results,hf,hs2,hu2,loadVar,loadCells,loadCellsFrom,go_sem,h1,h2]
theorem nF {a b c d:aF}{s s' u:Tmp}(hf:fn.results= #[.cell s 41,.cell s' 41,.tmp u])(hs:tmps.getD s undef= a9 g 0)(hs':tmps.getD s' undef= a9 g' 0)(hu:tmps.getD u undef=v)(h:Bk w g t [a,b])(h':Bk w g' t' [c,d]):(results fn tmps).run aJ w= .ok (.tuple #[.agg #[a,b],.agg #[c,d],v]) w:=by
 obtain⟨h1,h2,_,_⟩:=h.two
 obtain⟨h3,h4,_,_⟩:=h'.two
 have hs2:tmps[s]?.getD undef= a9 g 0:=by simpa using hs
 have hs3:tmps[s']?.getD undef= a9 g' 0:=by simpa using hs'
 have hu2:tmps[u]?.getD undef=v:=by simpa using hu
 simp [results,hf,hs2,hs3,hu2,loadVar,loadCells,loadCellsFrom,go_sem,h1,h2,h3,h4]
theorem Bk.two_far {l:List aF}(h:Bk w g t l)(hne:g≠g')(u v:aF):Bk ((w.setCell ⟨g',0,none⟩ u).setCell ⟨g',1,none⟩ v) g t l:=(h.far (p:=⟨g',0,none⟩) hne u).far (p:=⟨g',1,none⟩) hne v
theorem sH {t:Bool}(hx:Zi w s A n cap x)(hl:n≤274877906944)(hy:Zi w t B m cap' y)(hl':m≤274877906944):aR aJ 82 #[O s A n cap,O t B m cap'] w (j4 w (x+y)):=by
 obtain⟨xs,hr,rfl⟩:=hx
 obtain⟨ys,hq,rfl⟩:=hy
 go_enter Tryz.func82,Tryz.ntmps82
 go_upto_region 1 with (fail)
 obtain⟨g,g2,g3,wa,hg3,hg2,hg,hwa,hb1,hb2,hb3,hea,l12,l23,l3,n12,n21,n13,n31,n23,n32⟩:=rC w 41 41 41 (.bool s) (By A n cap) (.bool t) (By B m cap') (Hs) (By none 0 0)
 rw [hg3,hg2,hg,hwa]
 have hgw:w.heap.size≤g:=Nat.le_of_eq hg
 clear hwa hg hg2 hg3
 obtain⟨f1,f2,f3,f4⟩:=hb1.two
 obtain⟨h1,h2,h3,h4⟩:=hb2.two
 obtain⟨k1,k2,k3,k4⟩:=hb3.two
 by_cases hst:s=t
 ·have bs:(s==t)=true:=by rw [hst];cases t <;> rfl
  go_upto_region 2 with (fail)
  go_region_held3 (fun w'=>w'.cell? ⟨g,0,none⟩=some (.bool s)∧w'.cell? ⟨g,1,none⟩=some (By A n cap)∧w'.cell? ⟨g2,0,none⟩=some (.bool t)∧w'.cell? ⟨g2,1,none⟩=some (By B m cap')) (go_keep)
   (first
   | (go_at_call 101;refine (KE (hr.ext (by repeat (first | exact Ext.refl _ | assumption | apply Ext.drewN | apply Ext.drew | apply Ext.alloc))) (by omega) (hq.ext (by repeat (first | exact Ext.refl _ | assumption | apply Ext.drewN | apply Ext.drew | apply Ext.alloc))) (by omega)).mono ?_;rintro e w1 ⟨A1,n1,c1,rfl,hn1,hr1,ho1,hx1⟩;have he1:Ext wa w1:=Ext.trans (by repeat (first | exact Ext.refl _ | assumption | apply Ext.drewN | apply Ext.drew | apply Ext.alloc)) hx1;have hb1:=hb1.ext he1;have hb2:=hb2.ext he1;have hb3:=hb3.ext he1;obtain⟨f1,f2,f3,f4⟩:=hb1.two;obtain⟨h1,h2,h3,h4⟩:=hb2.two;obtain⟨k1,k2,k3,k4⟩:=hb3.two)
   | (go_at_call 41;refine (iO hn1.out).mono ?_;rintro e w2 ⟨s',rfl,hs',hx2⟩;have hd1:=hb1.ext hx2;have hd2:=hb2.ext hx2;have hd3:=hb3.ext hx2;obtain⟨f1,f2,f3,f4⟩:=hd1.two;obtain⟨h1,h2,h3,h4⟩:=hd2.two;obtain⟨k1,k2,k3,k4⟩:=hd3.two))
  go_wp2_with fail
  refine eV (jH G G (hd3.two_set _ _)) G ?_
  exact iV hd3 ((i9 hs'.out hn1.out ho1 (by rw [J4,hst])).ext hx2) (hea.trans (he1.trans hx2)) (hg:=(by first | omega | (simp;omega)))
 ·have bs:(s==t)=false:=by cases s <;> cases t <;> simp_all
  have ht:Hid (t= !s):=by show _=_;cases s <;> cases t <;> simp_all
  clear hst
  go_wp2_with fail
  refine (tC (hr.ext hea) (hq.ext hea)).mono ?_
  rintro e w1 ⟨c,hc,hcl,hch,rfl,hx1⟩
  have hb1:=hb1.ext hx1
  have hb2:=hb2.ext hx1
  have hb3:=hb3.ext hx1
  have he1:=hea.trans hx1
  have hsz:=hx1.size
  clear f1 f2 f3 f4 h1 h2 h3 h4 k1 k2 k3 k4
  obtain⟨f1,f2,f3,f4⟩:=hb1.two
  obtain⟨h1,h2,h3,h4⟩:=hb2.two
  by_cases hlt:c<0
  ·have hle:nv xs≤nv ys:=by rw [hc.out] at hlt;exact Nat.le_of_lt (p9.1 hlt)
   have HLE:=aU hle
   clear hle
   go_upto_region 5 with (fail)
   obtain⟨wb,hwb⟩:∃wb,(((w1.setCell ⟨g,0,none⟩ (.bool t)).setCell ⟨g,1,none⟩ (.slice B m cap')).setCell ⟨g2,0,none⟩ (.bool s)).setCell ⟨g2,1,none⟩ (.slice A n cap)=wb:=⟨_,rfl⟩
   rw [hwb]
   have hd1:Bk wb g 41 (a4 t B m cap'):=by rw [←hwb];exact (hb1.two_set _ _).two_far n12 _ _
   have hd2:Bk wb g2 41 (a4 s A n cap):=by rw [←hwb];exact (hb2.two_far n21 _ _).two_set _ _
   have hd3:Bk wb g3 41 (a4 false none 0 0):=by rw [←hwb];exact (hb3.two_far n31 _ _).two_far n32 _ _
   have heb:Ext w wb:=by
    rw [←hwb]
    exact (Upd.two _ _).ext ((Upd.two _ _).ext he1 hgw) (by omega)
   have hszb:wb.heap.size=w1.heap.size:=by rw [←hwb];simp [o4]
   clear hwb f1 f2 f3 f4 h1 h2 h3 h4
   obtain⟨f1,f2,f3,f4⟩:=hd1.two
   obtain⟨h1,h2,h3,h4⟩:=hd2.two
   go_wp2_with fail
   refine (CU (hq.ext heb) (by omega) (hr.ext heb) (by omega) HLE.out).mono ?_
   rintro e w2 ⟨A2,n2,c2,rfl,hn2,hr2,ho2,hx2⟩
   obtain⟨f1,f2,f3,f4⟩:=(hd1.ext hx2).two
   have hd3:=hd3.ext hx2
   go_wp2_with fail
   refine (iO hn2.out).mono ?_
   rintro e w3 ⟨s',rfl,hs',hx3⟩
   have hd3:=hd3.ext hx3
   obtain⟨k1,k2,k3,k4⟩:=hd3.two
   go_wp2_with fail
   refine eV (jH G G (hd3.two_set _ _)) G ?_
   exact iV hd3 ((i9 hs'.out hn2.out ho2 (by rw [BP HLE.out,ht.out,Bool.not_not,Int.add_comm])).ext hx3) (heb.trans (hx2.trans hx3))
  ·have hle:nv ys≤nv xs:=by rw [hc.out] at hlt;exact Nat.le_of_not_lt (fun h=>hlt (p9.2 h))
   have HLE:=aU hle
   clear hle
   go_wp2_with fail
   refine (CU (hr.ext he1) (by omega) (hq.ext he1) (by omega) HLE.out).mono ?_
   rintro e w2 ⟨A2,n2,c2,rfl,hn2,hr2,ho2,hx2⟩
   obtain⟨f1,f2,f3,f4⟩:=(hb1.ext hx2).two
   have hd3:=hb3.ext hx2
   go_wp2_with fail
   refine (iO hn2.out).mono ?_
   rintro e w3 ⟨s',rfl,hs',hx3⟩
   have hd3:=hd3.ext hx3
   obtain⟨k1,k2,k3,k4⟩:=hd3.two
   go_wp2_with fail
   refine eV (jH G G (hd3.two_set _ _)) G ?_
   exact iV hd3 ((i9 hs'.out hn2.out ho2 (by rw [BP HLE.out,ht.out])).ext hx3) (he1.trans (hx2.trans hx3))
theorem AA {t:Bool}(hx:Zi w s A n cap x)(hl:n≤274877906944)(hy:Zi w t B m cap' y)(hl':m≤274877906944):aR aJ 61 #[O s A n cap,O t B m cap'] w (j4 w (x-y)):=by
 go_enter Tryz.func61,Tryz.ntmps61
 go_upto_region 1 with (fail)
 obtain⟨g,g2,g3,wa,hg3,hg2,hg,hwa,hb1,hb2,hb3,hea,l12,l23,l3,n12,n21,n13,n31,n23,n32⟩:=rC w 41 41 41 (.bool s) (By A n cap) (.bool t) (By B m cap') (Hs) (By none 0 0)
 rw [hg3,hg2,hg,hwa]
 have hgw:w.heap.size≤g:=Nat.le_of_eq hg
 clear hwa hg hg2 hg3
 obtain⟨f1,f2,f3,f4⟩:=hb1.two
 obtain⟨h1,h2,h3,h4⟩:=hb2.two
 obtain⟨k1,k2,k3,k4⟩:=hb3.two
 go_wp2_with fail
 refine (sH (hx.ext hea) hl (hy.not.ext hea) hl').mono ?_
 rintro e w1 ⟨s1,A1,n1,c1,rfl,z1,hx1⟩
 have hd3:=hb3.ext hx1
 clear f1 f2 f3 f4 h1 h2 h3 h4 k1 k2 k3 k4
 obtain⟨k1,k2,k3,k4⟩:=hd3.two
 go_wp2_with fail
 refine eV (jH G G (hd3.two_set _ _)) G ?_
 exact iV hd3 (z1.cast Int.sub_eq_add_neg.symm) (hea.trans hx1)
theorem GE {t u:Bool}{cap'':Nat}(hx:Zi w s A n cap x)(hl:n≤68719476736)(hy:Zi w t B m cap' y)(hl':m≤68719476736)(hz:Zi w u C k cap'' z)(hl'':k≤68719476736):aR aJ 103 #[O s A n cap,O t B m cap',O u C k cap''] w (j4 w (x*y+z)):=by
 have lx:=a7 hx.ln hl
 have ly:=a7 hy.ln hl'
 go_enter Tryz.func103,Tryz.ntmps103
 go_upto_region 1 with (fail)
 obtain⟨g,g2,g3,g4,wa,hg4,hg3,hg2,hg,hwa,hb1,hb2,hb3,hb4,hea,l12,l23,l34,l4,n12,n21,n13,n31,n23,n32,n14,n41,n24,n42,n34,n43⟩:=yS w 41 41 41 41 (.bool s) (By A n cap) (.bool t) (By B m cap') (.bool u) (By C k cap'') (Hs) (By none 0 0)
 rw [hg4,hg3,hg2,hg,hwa]
 have hgw:w.heap.size≤g:=Nat.le_of_eq hg
 clear hwa hg hg2 hg3 hg4
 obtain⟨f1,f2,f3,f4⟩:=hb1.two
 obtain⟨h1,h2,h3,h4⟩:=hb2.two
 obtain⟨i1,i2,i3,i4⟩:=hb3.two
 obtain⟨k1,k2,k3,k4⟩:=hb4.two
 go_region_held3 (fun w'=>w'.cell? ⟨g,0,none⟩=some (.bool s)∧w'.cell? ⟨g,1,none⟩=some (By A n cap)∧w'.cell? ⟨g2,0,none⟩=some (.bool t)∧w'.cell? ⟨g2,1,none⟩=some (By B m cap')∧w'.cell? ⟨g3,0,none⟩=some (.bool u)∧w'.cell? ⟨g3,1,none⟩=some (By C k cap'')) (go_keep)
  (first
  | (go_at_call 20;refine (AC (hx.ext (by repeat (first | exact Ext.refl _ | assumption | apply Ext.drewN | apply Ext.drew | apply Ext.alloc))) hl (hy.ext (by repeat (first | exact Ext.refl _ | assumption | apply Ext.drewN | apply Ext.drew | apply Ext.alloc))) hl').mono ?_;rintro e w1 ⟨s1,A1,n1,c1,rfl,z1,hx1⟩;have q1:n1≤274877906944:=(a7 (z1.le (eX lx ly)) (by omega));have he1:Ext wa w1:=Ext.trans (by repeat (first | exact Ext.refl _ | assumption | apply Ext.drewN | apply Ext.drew | apply Ext.alloc)) hx1;have hb1:=hb1.ext he1;have hb2:=hb2.ext he1;have hb3:=hb3.ext he1;have hb4:=hb4.ext he1;obtain⟨f1,f2,f3,f4⟩:=hb1.two;obtain⟨h1,h2,h3,h4⟩:=hb2.two;obtain⟨i1,i2,i3,i4⟩:=hb3.two;obtain⟨k1,k2,k3,k4⟩:=hb4.two)
  | (go_at_call 82;refine (sH z1.zi q1 (hz.ext (hea.trans he1)) (by omega)).mono ?_;rintro e w2 ⟨s2,A2,n2,c2,rfl,z2,hx2⟩;have hb1:=hb1.ext hx2;have hb2:=hb2.ext hx2;have hb3:=hb3.ext hx2;have hb4:=hb4.ext hx2;obtain⟨f1,f2,f3,f4⟩:=hb1.two;obtain⟨h1,h2,h3,h4⟩:=hb2.two;obtain⟨i1,i2,i3,i4⟩:=hb3.two;obtain⟨k1,k2,k3,k4⟩:=hb4.two))
 go_wp2_with fail
 have hsz:=he1.size
 refine eV (jH G G (hb4.two_set _ _)) G ?_
 exact iV hb4 z2 (hea.trans (he1.trans hx2))
theorem GI {t:Bool}(hx:Zi w s A n cap x)(hl:n≤68719476736)(hy:Zi w t B m cap' y)(hl':m≤68719476736):aR aJ 54 #[O s A n cap,O t B m cap'] w (zH (bU x y) w):=by
 go_enter Tryz.func54,Tryz.ntmps54
 go_upto_region 1 with (fail)
 obtain⟨g,g2,wa,hg2,hg,hwa,hb1,hb2,hea,l12,l2,n12,n21⟩:=uC w 41 41 (.bool s) (By A n cap) (.bool t) (By B m cap')
 rw [hg2,hg,hwa]
 have hgw:w.heap.size≤g:=Nat.le_of_eq hg
 clear hwa hg hg2
 obtain⟨f1,f2,f3,f4⟩:=hb1.two
 obtain⟨h1,h2,h3,h4⟩:=hb2.two
 go_region_held3 (fun w'=>w'.cell? ⟨g,0,none⟩=some (.bool s)∧w'.cell? ⟨g,1,none⟩=some (By A n cap)∧w'.cell? ⟨g2,0,none⟩=some (.bool t)∧w'.cell? ⟨g2,1,none⟩=some (By B m cap')) (go_keep)
  (first
  | (go_at_call 34;(with_reducible refine (vI (hx.ext (hea.trans (by repeat (first | exact Ext.refl _ | assumption | apply Ext.drewN | apply Ext.drew | apply Ext.alloc)))) hl).mono ?_);rintro e w2 ⟨c,hc,hcl,hch,rfl,hx2⟩;have he2:Ext wa w2:=Ext.trans (by repeat (first | exact Ext.refl _ | assumption | apply Ext.drewN | apply Ext.drew | apply Ext.alloc)) hx2;obtain⟨f1,f2,f3,f4⟩:=(hb1.ext he2).two;obtain⟨h1,h2,h3,h4⟩:=(hb2.ext he2).two)
  | (go_at_call 34;(with_reducible refine (vI (hy.ext (hea.trans (by repeat (first | exact Ext.refl _ | assumption | apply Ext.drewN | apply Ext.drew | apply Ext.alloc)))) hl').mono ?_);rintro e w2 ⟨d,hd,hdl,hdh,rfl,hx2⟩;have he2:Ext wa w2:=Ext.trans (by repeat (first | exact Ext.refl _ | assumption | apply Ext.drewN | apply Ext.drew | apply Ext.alloc)) hx2;obtain⟨f1,f2,f3,f4⟩:=(hb1.ext he2).two;obtain⟨h1,h2,h3,h4⟩:=(hb2.ext he2).two))
 all_goals
  have e2:=hea.trans he2
  clear hx2
  have p1:c<0↔x<0:=by rw [hc.out];exact sX
  have p2:c=0↔x=0:=by rw [hc.out];exact oI
  have p3:d<0↔y<0:=by rw [hd.out];exact sX
  have p4:d=0↔y=0:=by rw [hd.out];exact oI
  have hlt:c<d→x<y:=by omega
  have hgt:d<c→y<x:=by omega
  have H1:=aU p1
  have H2:=aU p2
  have H3:=aU p3
  have H4:=aU p4
  clear p1 p2 p3 p4
  rcases Int.lt_trichotomy c d with h | h | h
  ·have bn:(c != d)=true:=by simp;omega
   have HL:=aU (hlt h)
   clear hlt hgt
   go_wp2_with fail
   go_ret
   exact⟨-1,(show _=_ by rw [bU,if_pos HL.out]),by omega,by omega,rfl,e2⟩
  ·subst h
   have bn:(c != c)=false:=by simp
   clear hlt hgt
   obtain⟨xs,hr,hxv⟩:=hx
   obtain⟨ys,hq,hyv⟩:=hy
   have HX:=aU hxv
   have HY:=aU hyv
   clear hxv hyv
   go_wp2_with fail
   refine (tC (hr.ext e2) (hq.ext e2)).mono ?_
   rintro e w3 ⟨k,hk,hkl,hkh,rfl,hx3⟩
   have fin:c*k=bU x y:=by
    have ax:x.natAbs=nv xs:=by rw [←HX.out,jF]
    have ay:y.natAbs=nv ys:=by rw [←HY.out,jF]
    have k1:k<0↔nv xs<nv ys:=by rw [hk.out];exact p9
    have k2:0<k↔nv ys<nv xs:=by rw [hk.out];exact PW
    have p1:=H1.out
    have p2:=H2.out
    have p3:=H3.out
    have p4:=H4.out
    have hc3:c= -1∨c=0∨c=1:=by omega
    have hk3:k= -1∨k=0∨k=1:=by omega
    rcases hc3 with rfl | rfl | rfl
    ·rcases hk3 with rfl | rfl | rfl <;> (unfold bU;split <;> (try split) <;> omega)
    ·unfold bU;split <;> (try split) <;> omega
    ·rcases hk3 with rfl | rfl | rfl <;> (unfold bU;split <;> (try split) <;> omega)
   have FIN:=aU fin
   clear fin
   have hc3:c= -1∨c=0∨c=1:=by omega
   rcases hc3 with rfl | rfl | rfl
   ·go_wp2_with fail
    go_ret
    exact⟨-k,(show _=_ by rw [←FIN.out];omega),by omega,by omega,rfl,e2.trans hx3⟩
   ·go_wp2_with fail
    go_ret
    exact⟨0,(show _=_ by rw [←FIN.out];omega),by omega,by omega,rfl,e2.trans hx3⟩
   ·go_wp2_with fail
    go_ret
    exact⟨k,(show _=_ by rw [←FIN.out];omega),by omega,by omega,rfl,e2.trans hx3⟩
  ·have bn:(c != d)=true:=by simp;omega
   have hnl:¬c<d:=by omega
   have HG:=aU (hgt h)
   clear hlt hgt
   go_wp2_with fail
   go_ret
   exact⟨1,(show _=_ by have:=HG.out;rw [bU,if_neg (by omega),if_neg (by omega)]),by omega,by omega,rfl,e2⟩
theorem GH {t:Bool}(hx:Zi w s A n cap x)(hl:n≤68719476736)(hy:Zi w t B m cap' y)(hl':m≤68719476736)(h0:y≠0)(h1:y∣x):aR aJ 40 #[O s A n cap,O t B m cap'] w (FW w (x.tdiv y) 0):=by
 obtain⟨xs,hr,rfl⟩:=hx
 obtain⟨ys,hq,rfl⟩:=hy
 have hz:nv ys≠0:=fun e=>h0 (wE.2 e)
 have hd:nv xs%nv ys=0:=by
  have:=Int.natAbs_dvd_natAbs.2 h1
  rw [jF,jF] at this
  exact Nat.mod_eq_zero_of_dvd this
 have HZ:=aU hz
 have HD:=aU hd
 clear hz h0 hd h1
 go_enter Tryz.func40,Tryz.ntmps40
 go_upto_region 1 with (fail)
 obtain⟨g,g2,g3,wa,hg3,hg2,hg,hwa,hb1,hb2,hb3,hea,l12,l23,l3,n12,n21,n13,n31,n23,n32⟩:=rC w 41 41 41 (.bool s) (By A n cap) (.bool t) (By B m cap') (Hs) (By none 0 0)
 rw [hg3,hg2,hg,hwa]
 have hgw:w.heap.size≤g:=Nat.le_of_eq hg
 clear hwa hg hg2 hg3
 obtain⟨f1,f2,f3,f4⟩:=hb1.two
 obtain⟨h1,h2,h3,h4⟩:=hb2.two
 obtain⟨k1,k2,k3,k4⟩:=hb3.two
 go_wp2_with fail
 refine (EM (hr.ext hea) (by omega) (hq.ext hea) (by omega) HZ.out HD.out).mono ?_
 rintro e w1 ⟨A1,n1,c1,rfl,hn1,hr1,ho1,hx1⟩
 have hb1:=hb1.ext hx1
 have hb2:=hb2.ext hx1
 have hb3:=hb3.ext hx1
 have he1:=hea.trans hx1
 have hsz:=hx1.size
 clear f1 f2 f3 f4 h1 h2 h3 h4 k1 k2 k3 k4
 obtain⟨f1,f2,f3,f4⟩:=hb1.two
 obtain⟨h1,h2,h3,h4⟩:=hb2.two
 obtain⟨k1,k2,k3,k4⟩:=hb3.two
 go_wp2_with fail
 refine (iO hn1.out).mono ?_
 rintro e w2 ⟨s',rfl,hs',hx2⟩
 have hd3:=hb3.ext hx2
 clear f1 f2 f3 f4 h1 h2 h3 h4 k1 k2 k3 k4
 obtain⟨k1,k2,k3,k4⟩:=hd3.two
 go_wp2_with fail
 refine eV (JN G G G (hd3.two_set _ _)) G ?_
 obtain⟨s4,A4,n4,c4,he,hz,hx⟩:=iV (w:=w) hd3 ((i9 hs'.out hn1.out ho1 (wD _ _ _ _)).ext hx2) (he1.trans hx2)
 cases he
 exact⟨_,_,_,_,rfl,hz,hx⟩
theorem QO {t:Bool}(hx:Zi w s A n cap x)(hl:n≤68719476736)(hy:Zi w t B m cap' y)(hl':m≤68719476736):aR aJ 75 #[O s A n cap,O t B m cap'] w (j4 w (Int.gcd x y:Int)):=by
 obtain⟨xs,hr,rfl⟩:=hx
 obtain⟨ys,hq,rfl⟩:=hy
 go_enter Tryz.func75,Tryz.ntmps75
 go_upto_region 1 with (fail)
 obtain⟨g,g2,g3,wa,hg3,hg2,hg,hwa,hb1,hb2,hb3,hea,l12,l23,l3,n12,n21,n13,n31,n23,n32⟩:=rC w 41 41 41 (.bool s) (By A n cap) (.bool t) (By B m cap') (Hs) (By none 0 0)
 rw [hg3,hg2,hg,hwa]
 have hgw:w.heap.size≤g:=Nat.le_of_eq hg
 clear hwa hg hg2 hg3
 obtain⟨f1,f2,f3,f4⟩:=hb1.two
 obtain⟨h1,h2,h3,h4⟩:=hb2.two
 obtain⟨k1,k2,k3,k4⟩:=hb3.two
 go_wp2_with fail
 refine (PE (hr.ext hea) (by omega) (hq.ext hea) (by omega)).mono ?_
 rintro e w1 ⟨A1,n1,c1,rfl,hn1,hr1,ho1,hx1⟩
 have hd3:=hb3.ext hx1
 clear f1 f2 f3 f4 h1 h2 h3 h4 k1 k2 k3 k4
 obtain⟨k1,k2,k3,k4⟩:=hd3.two
 go_wp2_with fail
 refine eV (jH G G (hd3.two_set _ _)) G ?_
 refine iV hd3 (i9 (s:=false) (m:=Nat.gcd (nv xs) (nv ys)) ?_ hn1.out ho1 ?_) (hea.trans hx1)
 ·rw [mA];simp
 ·rw [mA,Int.gcd,jF,jF]
theorem AB {v:Nat}(hv:v≤9223372036854775807):aR aJ 38 #[AI (v:Int)] w (j4 w ((v:Int))):=by
 have hn:¬(v:Int)<0:=by omega
 go_enter Tryz.func38,Tryz.ntmps38
 go_upto_region 3 with (fail)
 obtain⟨g,hg⟩:∃g,w.heap.size=g:=⟨_,rfl⟩
 obtain⟨wa,hwa⟩:∃wa,w.alloc (.cells #[.bool false,.slice none 0 0] 41)=wa:=⟨_,rfl⟩
 rw [hg,hwa]
 have hb:Bk wa g 41 (a4 false none 0 0):=by rw [←hwa,←hg];exact Bk.new w 41 (a4 false none 0 0)
 have hea:Ext w wa:=by rw [←hwa];exact (Ext.refl w).alloc _
 have hga:w.heap.size≤g:=Nat.le_of_eq hg
 have hgl:g<wa.heap.size:=hb.lt
 clear hwa hg
 obtain⟨k1,k2,k3,k4⟩:=hb.two
 have h1:Rd (wa.alloc (.cells #[AT (v:Int)] 45)) (some ⟨wa.heap.size,0,none⟩) 1 1 [v]:=Rd.one wa (by omega)
 go_wp2_with fail
 refine (iH (h1.ext (by repeat (first | exact Ext.refl _ | assumption | apply Ext.drewN | apply Ext.drew | apply Ext.alloc)))).mono ?_
 rintro e w1 ⟨A1,n1,c1,rfl,hn1,hr1,ho1,hx1⟩
 rw [wX] at hn1 ho1
 have hx1':Ext wa w1:=Ext.trans (by repeat (first | exact Ext.refl _ | assumption | apply Ext.drewN | apply Ext.drew | apply Ext.alloc)) hx1
 have hd:=hb.ext hx1'
 have hsz:=hx1'.size
 go_wp2_with fail
 refine (iO hn1.out).mono ?_
 rintro e w2 ⟨s',rfl,hs',hx2⟩
 have hd:=hd.ext hx2
 clear k1 k2 k3 k4
 obtain⟨k1,k2,k3,k4⟩:=hd.two
 go_wp2_with fail
 refine eV (jH G G (hd.two_set _ _)) G ?_
 exact iV hd ((i9 hs'.out hn1.out ho1 (mA _)).ext hx2) (hea.trans (hx1'.trans hx2)) (hg:=(by simp;omega))
def RetZZEA (w:a0)(q r:Int)(er:Int)(e:dI)(w':a0):Prop:=
 ∃s A n cap s' B m cap',e= .returned (.tuple #[O s A n cap,O s' B m cap',AI er])∧Zr w' w.heap.size s A n cap q∧Zr w' w.heap.size s' B m cap' r∧Ext w w'∧∀p q,A=some p→B=some q→p.block≠q.block
theorem RetZZEA.old {q r:Int}{e:dI}(h:RetZZEA w q r er e w'):uI w q r er e w':=by
 obtain⟨s,A,n,c,s',B,m,c',I,o,J,H,_⟩:=h
 exact⟨s,A,n,c,s',B,m,c',I,o,J,H⟩
theorem GA {t:Bool}(hx : Zi w s A n cap x)(hl : n ≤ 68719476736)(hy : Zi w t B m cap' y)(hl' : m ≤ 68719476736)(h0 : y ≠ 0):aR aJ 117 #[.agg #[.bool s, By A n cap], .agg #[.bool t, By B m cap']] w (RetZZEA w (x.tdiv y) (x.tmod y) 0) := by
  obtain ⟨xs, hr, rfl⟩ := hx
  obtain ⟨ys, hq, rfl⟩ := hy
  have hz : nv ys ≠ 0 := fun e => h0 (wE.2 e)
  have HZ := aU hz
  clear hz h0
  go_enter Tryz.func117, Tryz.ntmps117
  go_upto_region 1 with (fail)
  obtain ⟨g, g2, g3, g4, wa, hg4, hg3, hg2, hg, hwa, hb1, hb2, hb3, hb4, hea, l12, l23, l34, l4, n12, n21, n13, n31, n23, n32, n14, n41, n24, n42, n34, n43⟩ := yS w 41 41 41 41 (.bool s) (By A n cap) (.bool t) (By B m cap') (Hs) (By none 0 0) (Hs) (By none 0 0)
  rw [hg4, hg3, hg2, hg, hwa]
  have hgw : w.heap.size ≤ g := Nat.le_of_eq hg
  clear hwa hg hg2 hg3 hg4
  obtain ⟨f1, f2, f3, f4⟩ := hb1.two
  obtain ⟨h1, h2, h3, h4⟩ := hb2.two
  go_wp2_with fail
  refine (EN (hr.ext hea) (by omega) (hq.ext hea) (by omega) HZ.out).mono ?_
  rintro e w1 ⟨Aq, nq, cq, Ar, nr, cr, rfl, hnq, hrq, hoq, hnr, hrr, hor, hx1, hap⟩
  replace hap := aU hap
  clear f1 f2 f3 f4 h1 h2 h3 h4
  have hb1 := hb1.ext hx1
  have hb2 := hb2.ext hx1
  have hb3 := hb3.ext hx1
  have hb4 := hb4.ext hx1
  have hsz := hx1.size
  have e1 := hea.trans hx1
  go_upto_region 4 with (fail)
  obtain ⟨f1, f2, f3, f4⟩ := hb1.two
  obtain ⟨h1, h2, h3, h4⟩ := hb2.two
  obtain ⟨i1, i2, i3, i4⟩ := hb3.two
  obtain ⟨k1, k2, k3, k4⟩ := hb4.two
  go_region_held3 (fun w' => w'.cell? ⟨g, 0, none⟩ = some (.bool s) ∧ w'.cell? ⟨g, 1, none⟩ = some (By A n cap) ∧ w'.cell? ⟨g2, 0, none⟩ = some (.bool t) ∧ w'.cell? ⟨g2, 1, none⟩ = some (By B m cap')) (go_keep)
    (first
    | (go_at_call 41; (with_reducible refine (iO hnq.out).mono ?_); rintro e w5 ⟨s5, rfl, hs5, hx5⟩; have he5 : Ext w1 w5 := Ext.trans (by repeat (first | exact Ext.refl _ | assumption | apply Ext.drewN | apply Ext.drew | apply Ext.alloc)) hx5; clear f1 f2 f3 f4 h1 h2 h3 h4 i1 i2 i3 i4 k1 k2 k3 k4; obtain ⟨f1, f2, f3, f4⟩ := (hb1.ext he5).two; obtain ⟨h1, h2, h3, h4⟩ := (hb2.ext he5).two; obtain ⟨i1, i2, i3, i4⟩ := (hb3.ext he5).two; obtain ⟨k1, k2, k3, k4⟩ := (hb4.ext he5).two)
    | (go_at_call 41; (with_reducible refine (iO hnr.out).mono ?_); rintro e w6 ⟨s6, rfl, hs6, hx6⟩; have he6 : Ext w1 w6 := Ext.trans (by repeat (first | exact Ext.refl _ | assumption | apply Ext.drewN | apply Ext.drew | apply Ext.alloc)) hx6; clear f1 f2 f3 f4 h1 h2 h3 h4 i1 i2 i3 i4 k1 k2 k3 k4; obtain ⟨f1, f2, f3, f4⟩ := (hb1.ext he6).two; obtain ⟨h1, h2, h3, h4⟩ := (hb2.ext he6).two; obtain ⟨i1, i2, i3, i4⟩ := (hb3.ext he6).two; obtain ⟨k1, k2, k3, k4⟩ := (hb4.ext he6).two))
  all_goals
    clear f1 f2 f3 f4 h1 h2 h3 h4 i1 i2 i3 i4 k1 k2 k3 k4
    first
    | (obtain ⟨wb, hwb⟩ : ∃ wb, (((w6.setCell ⟨g3, 0, none⟩ (.bool s5)).setCell ⟨g3, 1, none⟩ (.slice Aq nq cq)).setCell ⟨g4, 0, none⟩ (.bool s6)).setCell ⟨g4, 1, none⟩ (.slice Ar nr cr) = wb := ⟨_, rfl⟩
       rw [hwb]
       have hL := he6)
    | (obtain ⟨wb, hwb⟩ : ∃ wb, (((w5.setCell ⟨g3, 0, none⟩ (.bool s5)).setCell ⟨g3, 1, none⟩ (.slice Aq nq cq)).setCell ⟨g4, 0, none⟩ (.bool s6)).setCell ⟨g4, 1, none⟩ (.slice Ar nr cr) = wb := ⟨_, rfl⟩
       rw [hwb]
       have hL := he5)
    have q3 : Bk wb g3 41 [.bool s5, By Aq nq cq] := by rw [← hwb]; exact ((hb3.ext hL).two_set _ _).two_far n34 _ _
    have q4 : Bk wb g4 41 [.bool s6, By Ar nr cr] := by rw [← hwb]; exact ((hb4.ext hL).two_far n43 _ _).two_set _ _
    have r5 : Zr wb w.heap.size s5 Aq nq cq ((sg s (nv xs)).tdiv (sg t (nv ys))) := by
      rw [← hwb]
      exact (((((i9 hs5.out hnq.out hoq (wD _ _ _ _)).ext hL).upd (by omega) (Upd.two _ _)).upd (by omega) (Upd.two _ _)).mono (by omega))
    have r6 : Zr wb w.heap.size s6 Ar nr cr ((sg s (nv xs)).tmod (sg t (nv ys))) := by
      rw [← hwb]
      exact (((((i9 hs6.out hnr.out hor (J1 _ _ _ _)).ext hL).upd (by omega) (Upd.two _ _)).upd (by omega) (Upd.two _ _)).mono (by omega))
    have eb : Ext w wb := by rw [← hwb]; exact (Upd.two _ _).ext ((Upd.two _ _).ext (e1.trans hL) (by omega)) (by omega)
    clear hwb
    go_wp2_with fail
    refine eV (nF G G G G q3 q4) G ?_
    exact ⟨s5, Aq, nq, cq, s6, Ar, nr, cr, rfl, r5, r6, eb, hap.out⟩
theorem A8 {t:Bool}(hx:Zi w s A n cap x)(hl:n≤68719476736)(hy:Zi w t B m cap' y)(hl':m≤68719476736)(h0:y≠0):aR aJ 117 #[O s A n cap,O t B m cap'] w (uI w (x.tdiv y) (x.tmod y) 0):=(GA hx hl hy hl' h0).mono fun _ _ h=>h.old
structure Flo (q r x y:Int):Prop where
 eq:q*y+r=x
 pos:0<y→0≤r∧r<y
 neg:y<0→y<r∧r≤0
theorem m8 (h:y≠0):(x.tmod y).natAbs<y.natAbs:=by
 rw [Int.natAbs_tmod]
 exact j7 _ (by omega)
theorem E9 (h0:y≠0)(h:x.tmod y=0∨(decide (x.tmod y<0)=decide (y<0))):Flo (x.tdiv y) (x.tmod y) x y:=by
 have H:=m8 (x:=x) h0
 refine⟨by rw [Int.mul_comm];exact Int.mul_tdiv_add_tmod x y,fun _=>?_,fun hn=>?_⟩
 ·rcases h with h | h
  ·omega
  ·have o:¬y<0:=by omega
   rw [decide_eq_false o] at h
   have:=of_decide_eq_false h
   omega
 ·rcases h with h | h
  ·omega
  ·rw [decide_eq_true hn] at h
   have:=of_decide_eq_true h
   omega
theorem OQ (h0:y≠0)(h:x.tmod y≠0)(h2:decide (x.tmod y<0)≠decide (y<0)):Flo (x.tdiv y-1) (x.tmod y+y) x y:=by
 have I:=m8 (x:=x) h0
 refine⟨?_,fun _=>?_,fun hn=>?_⟩
 ·have:=Int.mul_tdiv_add_tmod x y
  rw [Int.sub_mul,Int.one_mul,Int.mul_comm]
  omega
 ·have H:¬y<0:=by omega
  rw [decide_eq_false H] at h2
  have:x.tmod y<0:=by
   refine Int.lt_of_not_ge (fun _=>h2 (decide_eq_false (by omega)))
  omega
 ·rw [decide_eq_true hn] at h2
  have:¬x.tmod y<0:=fun o=>h2 (decide_eq_true o)
  omega
theorem Zi.sgn (h:Zi w s A n cap z)(h0:z≠0):s=decide (z<0):=by
 obtain⟨xs,_,rfl⟩:=h
 have o:nv xs≠0:=fun e=>h0 (wE.2 e)
 rw [BR,decide_eq_true (show 0<nv xs by omega),Bool.and_true]
theorem QH (w:a0)(t t':aO)(l l':List aF):∃g g2 wa,w.heap.size+1=g2∧w.heap.size=g∧(w.alloc (.cells l.toArray t)).alloc (.cells l'.toArray t')=wa∧Bk wa g t l∧Bk wa g2 t' l'∧Ext w wa∧g<g2∧g2<wa.heap.size∧g≠g2∧g2≠g:=by
 refine⟨_,_,_,rfl,rfl,rfl,(Bk.new w t l).alloc _,?_,((Ext.refl w).alloc _).alloc _,by omega,by simp,by omega,by omega⟩
 have:=Bk.new (w.alloc (.cells l.toArray t)) t' l'
 simpa using this
theorem Zr.upd_hi (h0:Zr w0 base' s A n cap z')(hw:w0.heap.size≤g)(h:Zr w base s A n cap z)(e:Upd g w w'):Zr w' base s A n cap z:=
 ⟨h.sgn,h.len,h.own.upd e (fun a o=>by have:=(h0.own.block a o).2;omega)⟩
def RG (w:a0)(x y:Int)(e:dI)(w':a0):Prop:=∃q r,Hid (Flo q r x y)∧uI w q r 0 e w'
theorem GG {t:Bool}(hx : Zi w s A n cap x)(hl : n ≤ 68719476736)(hy : Zi w t B m cap' y)(hl' : m ≤ 68719476736)(h0 : y ≠ 0):aR aJ 104 #[.agg #[.bool s, By A n cap], .agg #[.bool t, By B m cap']] w (RG w x y) := by
  have HT := aU (hy.sgn h0)
  have H0 := aU h0
  have LX := aU (a7 hx.ln hl)
  have LY := aU (a7 hy.ln hl')
  clear h0
  go_enter Tryz.func104, Tryz.ntmps104
  go_upto_region 1 with (fail)
  obtain ⟨g, g2, g3, g4, wa, hg4, hg3, hg2, hg, hwa, hb1, hb2, hb3, hb4, hea, l12, l23, l34, l4, n12, n21, n13, n31, n23, n32, n14, n41, n24, n42, n34, n43⟩ := yS w 41 41 41 41 (.bool s) (By A n cap) (.bool t) (By B m cap') (Hs) (By none 0 0) (Hs) (By none 0 0)
  rw [hg4, hg3, hg2, hg, hwa]
  have hgw : w.heap.size ≤ g := Nat.le_of_eq hg
  clear hwa hg hg2 hg3 hg4
  obtain ⟨f1, f2, f3, f4⟩ := hb1.two
  obtain ⟨h1, h2, h3, h4⟩ := hb2.two
  go_wp2_with fail
  refine (A8 (hx.ext hea) hl (hy.ext hea) hl' H0.out).mono ?_
  rintro e w1 ⟨sq, Aq, nq, cq, sr, Ar, nr, cr, rfl, zq, zr, hx1⟩
  clear f1 f2 f3 f4 h1 h2 h3 h4
  have bq : nq ≤ 68719476736 := zq.le (a7 (fJ (by rw [Int.natAbs_tdiv]; exact iM _ _)) LX.out)
  have br : nr ≤ 68719476736 := zr.le (a7 (fJ (Nat.le_of_lt (m8 H0.out))) LY.out)
  go_upto_region 2 with (fail)
  obtain ⟨g7, g8, v1, hg8, hg7, hv1, hb7, hb8, he, l78, l8, n78, n87⟩ := QH w1 41 41 [.bool sq, By Aq nq cq] [.bool sr, By Ar nr cr]
  rw [hg8, hg7, hv1]
  have hs7 : w1.heap.size ≤ g7 := Nat.le_of_eq hg7
  have zr1 := zr
  have zq := zq.ext he
  have zr := zr.ext he
  have x1 := hx1.trans he
  have hb2 := hb2.ext x1
  have hb3 := hb3.ext x1
  have hb4 := hb4.ext x1
  have e1 := hea.trans x1
  have sz1 := hx1.size
  clear hg8 hg7 hv1 he hb1 hx1
  obtain ⟨f1, f2, f3, f4⟩ := hb7.two
  obtain ⟨h1, h2, h3, h4⟩ := hb8.two
  obtain ⟨i1, i2, i3, i4⟩ := hb2.two
  have hn37 : g3 ≠ g7 := by omega
  have hn38 : g3 ≠ g8 := by omega
  have hn47 : g4 ≠ g7 := by omega
  have hn48 : g4 ≠ g8 := by omega
  have hn27 : g2 ≠ g7 := by omega
  have hn28 : g2 ≠ g8 := by omega
  have hn73 := hn37.symm
  have hn83 := hn38.symm
  have hn74 := hn47.symm
  have hn84 := hn48.symm
  by_cases hr0 : x.tmod y = 0
  · obtain rfl : nr = 0 := by rw [zr.len, hr0]; rfl
    have HF : Hid (Flo (x.tdiv y) (x.tmod y) x y) := E9 H0.out (bE hr0)
    clear hr0
    go_upto_region 5 with (fail)
    clear f1 f2 f3 f4 h1 h2 h3 h4 i1 i2 i3 i4
    obtain ⟨f1, f2, f3, f4⟩ := hb7.two
    obtain ⟨h1, h2, h3, h4⟩ := hb8.two
    obtain ⟨i1, i2, i3, i4⟩ := hb3.two
    obtain ⟨k1, k2, k3, k4⟩ := hb4.two
    go_region_held3 (fun w' => w'.cell? ⟨g7, 0, none⟩ = some (.bool sq) ∧ w'.cell? ⟨g7, 1, none⟩ = some (By Aq nq cq) ∧ w'.cell? ⟨g8, 0, none⟩ = some (.bool sr) ∧ w'.cell? ⟨g8, 1, none⟩ = some (By Ar 0 cr)) (go_keep) (fail)
    all_goals
      go_wp2_with fail
      first
      | (refine eV (nF rfl rfl rfl rfl (((hb3.drew).two_set _ _).two_far n34 _ _) (((hb4.drew).two_far n43 _ _).two_set _ _)) rfl ?_
         exact ⟨x.tdiv y, x.tmod y, HF, _, _, _, _, _, _, _, _, rfl, (((zq.ext (Ext.refl _).drew).upd (by omega) (Upd.two _ _)).upd (by omega) (Upd.two _ _)).mono (by omega), (((zr.ext (Ext.refl _).drew).upd (by omega) (Upd.two _ _)).upd (by omega) (Upd.two _ _)).mono (by omega), (Upd.two _ _).ext ((Upd.two _ _).ext e1.drew (by omega)) (by omega)⟩)
      | (refine eV (nF rfl rfl rfl rfl (((hb3.drew).two_far n34 _ _).two_set _ _) (((hb4.drew).two_set _ _).two_far n43 _ _)) rfl ?_
         exact ⟨x.tdiv y, x.tmod y, HF, _, _, _, _, _, _, _, _, rfl, (((zq.ext (Ext.refl _).drew).upd (by omega) (Upd.two _ _)).upd (by omega) (Upd.two _ _)).mono (by omega), (((zr.ext (Ext.refl _).drew).upd (by omega) (Upd.two _ _)).upd (by omega) (Upd.two _ _)).mono (by omega), (Upd.two _ _).ext ((Upd.two _ _).ext e1.drew (by omega)) (by omega)⟩)
  · have hnn : 0 < nr := by
      have : nr ≠ 0 := fun e => hr0 (by have h := zr.len; rw [e] at h; have := k9.1 h.symm; omega)
      omega
    have hn : 0 < (nr : Int) := by omega
    by_cases hss : sr = t
    · have bs : (sr == t) = true := by rw [hss]; cases t <;> rfl
      have HF : Hid (Flo (x.tdiv y) (x.tmod y) x y) := E9 H0.out (bK (by rw [← zr.sgn, ← HT.out, hss]))
      clear hr0 hss
      go_upto_region 5 with (fail)
      clear f1 f2 f3 f4 h1 h2 h3 h4 i1 i2 i3 i4
      obtain ⟨f1, f2, f3, f4⟩ := hb7.two
      obtain ⟨h1, h2, h3, h4⟩ := hb8.two
      obtain ⟨i1, i2, i3, i4⟩ := hb3.two
      obtain ⟨k1, k2, k3, k4⟩ := hb4.two
      go_region_held3 (fun w' => w'.cell? ⟨g7, 0, none⟩ = some (.bool sq) ∧ w'.cell? ⟨g7, 1, none⟩ = some (By Aq nq cq) ∧ w'.cell? ⟨g8, 0, none⟩ = some (.bool sr) ∧ w'.cell? ⟨g8, 1, none⟩ = some (By Ar nr cr)) (go_keep) (fail)
      all_goals
        go_wp2_with fail
        first
        | (refine eV (nF rfl rfl rfl rfl (((hb3.drew).two_set _ _).two_far n34 _ _) (((hb4.drew).two_far n43 _ _).two_set _ _)) rfl ?_
           exact ⟨x.tdiv y, x.tmod y, HF, _, _, _, _, _, _, _, _, rfl, (((zq.ext (Ext.refl _).drew).upd (by omega) (Upd.two _ _)).upd (by omega) (Upd.two _ _)).mono (by omega), (((zr.ext (Ext.refl _).drew).upd (by omega) (Upd.two _ _)).upd (by omega) (Upd.two _ _)).mono (by omega), (Upd.two _ _).ext ((Upd.two _ _).ext e1.drew (by omega)) (by omega)⟩)
        | (refine eV (nF rfl rfl rfl rfl (((hb3.drew).two_far n34 _ _).two_set _ _) (((hb4.drew).two_set _ _).two_far n43 _ _)) rfl ?_
           exact ⟨x.tdiv y, x.tmod y, HF, _, _, _, _, _, _, _, _, rfl, (((zq.ext (Ext.refl _).drew).upd (by omega) (Upd.two _ _)).upd (by omega) (Upd.two _ _)).mono (by omega), (((zr.ext (Ext.refl _).drew).upd (by omega) (Upd.two _ _)).upd (by omega) (Upd.two _ _)).mono (by omega), (Upd.two _ _).ext ((Upd.two _ _).ext e1.drew (by omega)) (by omega)⟩)
    · have bs : (sr == t) = false := by cases sr <;> cases t <;> simp_all
      have HF : Hid (Flo (x.tdiv y - 1) (x.tmod y + y) x y) := OQ H0.out hr0 (by rw [← zr.sgn, ← HT.out]; exact hss)
      clear hr0 hss
      go_upto_region 3 with (fail)
      go_region_with (first
        | (go_at_call 38; refine (AB (v := 1) (by omega)).mono ?_; rintro e w5 ⟨s5, A5, n5, c5, rfl, z5, hx5⟩; have b5 : n5 ≤ 1 := z5.le (by decide +kernel); have he5 : Ext v1 w5 := Ext.trans (by repeat (first | exact Ext.refl _ | assumption | apply Ext.drewN | apply Ext.drew | apply Ext.alloc)) hx5; clear f1 f2 f3 f4 h1 h2 h3 h4 i1 i2 i3 i4; obtain ⟨f1, f2, f3, f4⟩ := (hb7.ext he5).two)
        | (go_at_call 61; refine (AA (zq.zi.ext (by repeat (first | exact Ext.refl _ | assumption | apply Ext.drewN | apply Ext.drew | apply Ext.alloc))) (by omega) z5.zi (by omega)).mono ?_; rintro e w6 ⟨s6, A6, n6, c6, rfl, z6, hx6⟩; have he6 : Ext v1 w6 := he5.trans hx6; clear f1 f2 f3 f4; obtain ⟨f1, f2, f3, f4⟩ := (hb7.ext he6).two))
      all_goals
        clear f1 f2 f3 f4
        obtain ⟨wb, hwb⟩ : ∃ wb, (w6.setCell ⟨g7, 0, none⟩ (.bool s6)).setCell ⟨g7, 1, none⟩ (.slice A6 n6 c6) = wb := ⟨_, rfl⟩
        rw [hwb]
        have sz5 := he5.size
        have q7 : Bk wb g7 41 [.bool s6, By A6 n6 c6] := by rw [← hwb]; exact (hb7.ext he6).two_set _ _
        have q8 : Bk wb g8 41 [.bool sr, By Ar nr cr] := by rw [← hwb]; exact (hb8.ext he6).two_far n87 _ _
        have q2 : Bk wb g2 41 [.bool t, By B m cap'] := by rw [← hwb]; exact (hb2.ext he6).two_far hn27 _ _
        have q3 : Bk wb g3 41 [Hs, By none 0 0] := by rw [← hwb]; exact (hb3.ext he6).two_far hn37 _ _
        have q4 : Bk wb g4 41 [Hs, By none 0 0] := by rw [← hwb]; exact (hb4.ext he6).two_far hn47 _ _
        have y6 : Zr wb w5.heap.size s6 A6 n6 c6 (x.tdiv y - 1) := by rw [← hwb]; exact z6.upd (by omega) (Upd.two _ _)
        have yr : Zr wb wa.heap.size sr Ar nr cr (x.tmod y) := by rw [← hwb]; exact Zr.upd_hi zr1 hs7 (zr.ext he6) (Upd.two _ _)
        have eb : Ext w wb := by rw [← hwb]; exact (Upd.two _ _).ext (e1.trans he6) (by omega)
        have szb : w6.heap.size ≤ wb.heap.size := by rw [← hwb]; simp [o4]
        have sz6 := hx6.size
        clear hwb
        obtain ⟨h1, h2, h3, h4⟩ := q8.two
        obtain ⟨i1, i2, i3, i4⟩ := q2.two
        go_wp2_with fail
        refine (sH yr.zi (by omega) (hy.ext eb) (by omega)).mono ?_
        rintro e w7 ⟨s9, A9, n9, c9, rfl, z9, hx7⟩
        clear h1 h2 h3 h4 i1 i2 i3 i4
        obtain ⟨h1, h2, h3, h4⟩ := (q8.ext hx7).two
        go_upto_region 5 with (fail)
        clear h1 h2 h3 h4
        obtain ⟨wc, hwc⟩ : ∃ wc, (w7.setCell ⟨g8, 0, none⟩ (.bool s9)).setCell ⟨g8, 1, none⟩ (.slice A9 n9 c9) = wc := ⟨_, rfl⟩
        rw [hwc]
        have u7 : Bk wc g7 41 [.bool s6, By A6 n6 c6] := by rw [← hwc]; exact (q7.ext hx7).two_far n78 _ _
        have u8 : Bk wc g8 41 [.bool s9, By A9 n9 c9] := by rw [← hwc]; exact (q8.ext hx7).two_set _ _
        have u3 : Bk wc g3 41 [Hs, By none 0 0] := by rw [← hwc]; exact (q3.ext hx7).two_far hn38 _ _
        have u4 : Bk wc g4 41 [Hs, By none 0 0] := by rw [← hwc]; exact (q4.ext hx7).two_far hn48 _ _
        have t6 : Zr wc w5.heap.size s6 A6 n6 c6 (x.tdiv y - 1) := by rw [← hwc]; exact (y6.ext hx7).upd (by omega) (Upd.two _ _)
        have t9 : Zr wc wb.heap.size s9 A9 n9 c9 (x.tmod y + y) := by rw [← hwc]; exact z9.upd (by omega) (Upd.two _ _)
        have ec : Ext w wc := by rw [← hwc]; exact (Upd.two _ _).ext (eb.trans hx7) (by omega)
        clear hwc q7 q8 q2 q3 q4
        obtain ⟨f1, f2, f3, f4⟩ := u7.two
        obtain ⟨h1, h2, h3, h4⟩ := u8.two
        obtain ⟨i1, i2, i3, i4⟩ := u3.two
        obtain ⟨k1, k2, k3, k4⟩ := u4.two
        go_region_held3 (fun w' => w'.cell? ⟨g7, 0, none⟩ = some (.bool s6) ∧ w'.cell? ⟨g7, 1, none⟩ = some (By A6 n6 c6) ∧ w'.cell? ⟨g8, 0, none⟩ = some (.bool s9) ∧ w'.cell? ⟨g8, 1, none⟩ = some (By A9 n9 c9)) (go_keep) (fail)
        all_goals
          go_wp2_with fail
          first
          | (refine eV (nF rfl rfl rfl rfl (((u3.drew).two_set _ _).two_far n34 _ _) (((u4.drew).two_far n43 _ _).two_set _ _)) rfl ?_
             exact ⟨x.tdiv y - 1, x.tmod y + y, HF, _, _, _, _, _, _, _, _, rfl, (((t6.ext (Ext.refl _).drew).upd (by omega) (Upd.two _ _)).upd (by omega) (Upd.two _ _)).mono (by omega), (((t9.ext (Ext.refl _).drew).upd (by omega) (Upd.two _ _)).upd (by omega) (Upd.two _ _)).mono (by omega), (Upd.two _ _).ext ((Upd.two _ _).ext ec.drew (by omega)) (by omega)⟩)
          | (refine eV (nF rfl rfl rfl rfl (((u3.drew).two_far n34 _ _).two_set _ _) (((u4.drew).two_set _ _).two_far n43 _ _)) rfl ?_
             exact ⟨x.tdiv y - 1, x.tmod y + y, HF, _, _, _, _, _, _, _, _, rfl, (((t6.ext (Ext.refl _).drew).upd (by omega) (Upd.two _ _)).upd (by omega) (Upd.two _ _)).mono (by omega), (((t9.ext (Ext.refl _).drew).upd (by omega) (Upd.two _ _)).upd (by omega) (Upd.two _ _)).mono (by omega), (Upd.two _ _).ext ((Upd.two _ _).ext ec.drew (by omega)) (by omega)⟩)
end
section
namespace Pop
def mk (m:Nat):Nat→Nat
 | 0=>0
 | k+1=>m+256*mk m k
theorem rG (a A m M:Nat)(ha:a<256)(hm:m<256:=by omega):(a+256*A)&&& (m+256*M)=(a&&& m)+256*(A&&& M):=by
 have o:((a+256*A)&&& (m+256*M))%2^8=a&&& m:=by
  rw [Nat.and_mod_two_pow]
  congr 1 <;> omega
 have H:((a+256*A)&&& (m+256*M))/2^8=A&&& M:=by
  rw [Nat.and_div_two_pow]
  congr 1 <;> omega
 have h:=Nat.mod_add_div ((a+256*A)&&& (m+256*M)) (2^8)
 rw [o,H] at h
 exact h.symm
def f1 (k x:Nat):Nat:=(x/2&&& mk 85 k)+(x&&& mk 85 k)
def f2 (k x:Nat):Nat:=(x/4&&& mk 51 k)+(x&&& mk 51 k)
def f3 (k x:Nat):Nat:=(x/16+x)&&& mk 15 k
def d1 (b:Nat):Nat:=(b/2&&& 85)+(b&&& 85)
def d2 (b:Nat):Nat:=(b/4&&& 51)+(b&&& 51)
def d3 (b:Nat):Nat:=(b/16+b)&&& 15
def pc (b:Nat):Nat:=d3 (d2 (d1 b))
theorem t1:∀b:Fin 256,∀p:Fin 2,((b.val/2+128*p.val)&&& 85)=(b.val/2&&& 85):=by decide+kernel
theorem t2:∀b:Fin 256,∀p:Fin 4,((b.val/4+64*p.val)&&& 51)=(b.val/4&&& 51):=by decide+kernel
theorem t3:∀b:Fin 256,∀p:Fin 5,((d2 (d1 b.val)/16+d2 (d1 b.val)+16*p.val)&&& 15)=pc b.val:=by decide+kernel
theorem t4:∀b:Fin 256,d1 b.val<256∧d2 (d1 b.val)<69∧d2 (d1 b.val)%16≤4∧pc b.val≤8∧(pc b.val=0→b.val=0)∧(128≤b.val→pc b.val≤1→b.val=128):=by decide+kernel
theorem OW {B:Nat}(hb:b<256):f1 (k+1) (b+256*B)=d1 b+256*f1 k B:=by
 unfold f1 d1
 rw [show mk 85 (k+1)=85+256*mk 85 k from rfl]
 have e:(b+256*B)/2=(b/2+128*(B%2))+256*(B/2):=by omega
 rw [e,rG _ _ _ _ (by omega),rG _ _ _ _ hb,t1 ⟨b,hb⟩ ⟨B%2,by omega⟩]
 show (b/2&&& 85)+_+_=_
 omega
theorem OV {B:Nat}(hb:b<256):f2 (k+1) (b+256*B)=d2 b+256*f2 k B:=by
 unfold f2 d2
 rw [show mk 51 (k+1)=51+256*mk 51 k from rfl]
 have e:(b+256*B)/4=(b/4+64*(B%4))+256*(B/4):=by omega
 rw [e,rG _ _ _ _ (by omega),rG _ _ _ _ hb,t2 ⟨b,hb⟩ ⟨B%4,by omega⟩]
 show (b/4&&& 51)+_+_=_
 omega
theorem m9 {B:Nat}(hb:b<256)(hB:f2 k (f1 k B)%16≤4):f3 (k+1) (f2 (k+1) (f1 (k+1) (b+256*B)))=pc b+256*f3 k (f2 k (f1 k B))∧f2 (k+1) (f1 (k+1) (b+256*B))%16≤4:=by
 obtain⟨h,o,_,_⟩:=t4 ⟨b,hb⟩
 rw [OW hb,OV h]
 refine⟨?_,by omega⟩
 generalize f2 k (f1 k B)=C at*
 unfold f3
 rw [show mk 15 (k+1)=15+256*mk 15 k from rfl]
 have e:(d2 (d1 b)+256*C)/16+(d2 (d1 b)+256*C)=(d2 (d1 b)/16+d2 (d1 b)+16*(C%16))+256*(C/16+C):=by omega
 have h2':d2 (d1 b)<69:=o
 rw [e,rG _ _ _ _ (by omega),t3 ⟨b,hb⟩ ⟨C%16,by omega⟩]
theorem P5 {b0 b1 b2 b3 b4 b5 b6 b7:Nat}(h0:b0<256)(h1:b1<256)(h2:b2<256)(h3:b3<256)(h4:b4<256)(h5:b5<256)(h6:b6<256)(h7:b7<256):f3 8 (f2 8 (f1 8 (b0+256*(b1+256*(b2+256*(b3+256*(b4+256*(b5+256*(b6+256*(b7+256*0))))))))))
   =pc b0+256*(pc b1+256*(pc b2+256*(pc b3+256*(pc b4+256*(pc b5+256*(pc b6+256*pc b7)))))):=by
 have o:=m9 (k:=0) (B:=0) h7 (by decide)
 have h:=m9 h6 o.2
 have J:=m9 h5 h.2
 have I:=m9 h4 J.2
 have H:=m9 h3 I.2
 have s2:=m9 h2 H.2
 have s1:=m9 h1 s2.2
 have U:=m9 h0 s1.2
 rw [U.1,s1.1,s2.1,H.1,I.1,J.1,h.1,o.1]
 simp [f3,mk]
theorem OP {p0 p1 p2 p3 p4 p5 p6 p7:Nat}(h0:p0≤8)(h1:p1≤8)(h2:p2≤8)(h3:p3≤8)(h4:p4≤8)(h5:p5≤8)(h6:p6≤8)(h7:p7≤8)(e3:x3=p0+256*(p1+256*(p2+256*(p3+256*(p4+256*(p5+256*(p6+256*p7)))))))(e4:x4=x3+x3/256)(e5:x5=x4+x4/65536)(e6:x6=x5+x5/4294967296):x6%128=p0+p1+p2+p3+p4+p5+p6+p7∧x6<18446744073709551616:=by
 have h:x4=(p0+p1)+256*((p1+p2)+256*((p2+p3)+256*((p3+p4)+256*((p4+p5)+256*((p5+p6)+256*((p6+p7)+256*p7)))))):=by omega
 clear e3 e4
 have o:x5=(p0+p1+p2+p3)+256*((p1+p2+p3+p4)+256*((p2+p3+p4+p5)+256*((p3+p4+p5+p6)+256*((p4+p5+p6+p7)+256*((p5+p6+p7)+256*((p6+p7)+256*p7)))))):=by omega
 clear h e5
 have gq:x5/4294967296=(p4+p5+p6+p7)+256*((p5+p6+p7)+256*((p6+p7)+256*p7)):=by omega
 rw [gq] at e6
 have H:x6=(p0+p1+p2+p3+p4+p5+p6+p7)+256*(((p1+p2+p3+p4)+256*((p2+p3+p4+p5)+256*((p3+p4+p5+p6)+256*((p4+p5+p6+p7)+256*((p5+p6+p7)+256*((p6+p7)+256*p7))))))+((p5+p6+p7)+256*((p6+p7)+256*p7))):=by omega
 clear gq e6 o
 omega
theorem one {x x1 x2:Nat}(hx:x<18446744073709551616)(hh:9223372036854775808≤x)(e1:x1=f1 8 x)(e2:x2=f2 8 x1)(e3:x3=f3 8 x2)(e4:x4=x3+x3/256)(e5:x5=x4+x4/65536)(e6:x6=x5+x5/4294967296):x6%128=1↔x=9223372036854775808:=by
 obtain⟨b0,q0,ag,bo⟩:∃b q,b<256∧x=b+256*q:=⟨x%256,x/256,by omega,by omega⟩
 obtain⟨H,q1,aq,bc⟩:∃b q,b<256∧q0=b+256*q:=⟨q0%256,q0/256,by omega,by omega⟩
 obtain⟨b2,q2,aj,cf⟩:∃b q,b<256∧q1=b+256*q:=⟨q1%256,q1/256,by omega,by omega⟩
 obtain⟨U,q3,ar,cd⟩:∃b q,b<256∧q2=b+256*q:=⟨q2%256,q2/256,by omega,by omega⟩
 obtain⟨b4,q4,ao,bh⟩:∃b q,b<256∧q3=b+256*q:=⟨q3%256,q3/256,by omega,by omega⟩
 obtain⟨I,q5,ae,bz⟩:∃b q,b<256∧q4=b+256*q:=⟨q4%256,q4/256,by omega,by omega⟩
 obtain⟨J,o,ac,bi⟩:∃b q,b<256∧q5=b+256*q:=⟨q5%256,q5/256,by omega,by omega⟩
 have ak:o<256:=by omega
 have hb7':128≤o:=by omega
 have e:=P5 ag aq aj ar ao ae ac ak
 have ex:x=b0+256*(H+256*(b2+256*(U+256*(b4+256*(I+256*(J+256*(o+256*0))))))):=by omega
 rw [←ex,←e1,←e2,←e3] at e
 have p0:=(t4 ⟨b0,ag⟩).2.2.2
 have p1:=(t4 ⟨H,aq⟩).2.2.2
 have p2:=(t4 ⟨b2,aj⟩).2.2.2
 have p3:=(t4 ⟨U,ar⟩).2.2.2
 have p4:=(t4 ⟨b4,ao⟩).2.2.2
 have p5:=(t4 ⟨I,ae⟩).2.2.2
 have p6:=(t4 ⟨J,ac⟩).2.2.2
 have p7:=(t4 ⟨o,ak⟩).2.2.2
 have hf:=(OP p0.1 p1.1 p2.1 p3.1 p4.1 p5.1 p6.1 p7.1 e e4 e5 e6).1
 simp only at p0 p1 p2 p3 p4 p5 p6 p7
 rw [hf]
 show (pc b0+pc H+pc b2+pc U+pc b4+pc I+pc J+pc o=1)↔_
 constructor
 ·intro h
  have h7:pc o≠0:=fun hz=>by have:=p7.2.1 hz;omega
  have hs:pc b0+pc H+pc b2+pc U+pc b4+pc I+pc J=0∧pc o=1:=by clear p0 p1 p2 p3 p4 p5 p6 p7 e e1 e2 e3 e4 e5 e6 ex bo bc cf cd bh bz bi hf;omega
  obtain⟨hs,_⟩:=hs
  have z0:=p0.2.1 (by omega)
  have z1:=p1.2.1 (by omega)
  have z2:=p2.2.1 (by omega)
  have z3:=p3.2.1 (by omega)
  have z4:=p4.2.1 (by omega)
  have z5:=p5.2.1 (by omega)
  have z6:=p6.2.1 (by omega)
  have z7:=p7.2.2 hb7' (by omega)
  omega
 ·intro h
  obtain rfl:o=128:=by omega
  obtain rfl:b0=0:=by omega
  obtain rfl:H=0:=by omega
  obtain rfl:b2=0:=by omega
  obtain rfl:U=0:=by omega
  obtain rfl:b4=0:=by omega
  obtain rfl:I=0:=by omega
  obtain rfl:J=0:=by omega
  decide
end Pop
end
section
open Go.RowKit
theorem GB {v:Nat}(hv1:1≤v)(hv:v≤9223372036854775808):aR aJ 38 #[AI (-(v:Int))] w (j4 w (-(v:Int))):=by
 have hn: -(v:Int)<0:=by omega
 have w1e:IntKind.u64.wrap (-(v:Int))=18446744073709551616-(v:Int):=by
  simp only [sG,pP,pO]
  simp
  omega
 have w2e:IntKind.u64.wrap (-(18446744073709551616-(v:Int)))=(v:Int):=by
  simp only [sG,pP,pO]
  simp
  omega
 have W1:=aU w1e
 have W2:=aU w2e
 clear w1e w2e
 go_enter Tryz.func38,Tryz.ntmps38
 go_upto_region 2 with (fail)
 obtain⟨g,hg⟩:∃g,w.heap.size=g:=⟨_,rfl⟩
 obtain⟨wa,hwa⟩:∃wa,w.alloc (.cells #[.bool false,.slice none 0 0] 41)=wa:=⟨_,rfl⟩
 rw [hg,hwa]
 have hb:Bk wa g 41 (a4 false none 0 0):=by rw [←hwa,←hg];exact Bk.new w 41 (a4 false none 0 0)
 have hea:Ext w wa:=by rw [←hwa];exact (Ext.refl w).alloc _
 have hga:w.heap.size≤g:=Nat.le_of_eq hg
 have hgl:g<wa.heap.size:=hb.lt
 clear hwa hg
 obtain⟨k1,k2,k3,k4⟩:=hb.two
 have h1:Rd (wa.alloc (.cells #[AT (v:Int)] 45)) (some ⟨wa.heap.size,0,none⟩) 1 1 [v]:=Rd.one wa (by omega)
 have w1e:=W1.out
 have w2e:=W2.out
 go_wp2_with fail
 clear w1e w2e
 refine (iH (h1.ext (by repeat (first | exact Ext.refl _ | assumption | apply Ext.drewN | apply Ext.drew | apply Ext.alloc)))).mono ?_
 rintro e w1 ⟨A1,n1,c1,rfl,hn1,hr1,ho1,hx1⟩
 rw [wX] at hn1 ho1
 have hx1':Ext wa w1:=Ext.trans (by repeat (first | exact Ext.refl _ | assumption | apply Ext.drewN | apply Ext.drew | apply Ext.alloc)) hx1
 have hd:=hb.ext hx1'
 have hsz:=hx1'.size
 go_wp2_with fail
 refine (iO hn1.out).mono ?_
 rintro e w2 ⟨s',rfl,hs',hx2⟩
 have hd:=hd.ext hx2
 clear k1 k2 k3 k4
 obtain⟨k1,k2,k3,k4⟩:=hd.two
 go_wp2_with fail
 refine eV (jH G G (hd.two_set _ _)) G ?_
 exact iV hd ((i9 hs'.out hn1.out ho1 (wC _)).ext hx2) (hea.trans (hx1'.trans hx2)) (hg:=(by simp;omega))
theorem GC {v:Int}(h1: -9223372036854775808≤v)(h2:v≤9223372036854775807):aR aJ 38 #[AI v] w (j4 w v):=by
 by_cases h:0≤v
 ·obtain⟨m,rfl⟩:=Int.eq_ofNat_of_zero_le h
  exact AB (by omega)
 ·obtain⟨m,o⟩:∃m:Nat,v= -(m:Int):=⟨v.natAbs,by omega⟩
  subst o
  exact GB (by omega) (by omega)
theorem aG:AggT aJ 41 2:=⟨fun _=>by kernel_rfl,fun _=>by kernel_rfl⟩
theorem uE:AggT aJ 123 4:=⟨fun _=>by kernel_rfl,fun _=>by kernel_rfl⟩
theorem fU:∀w,(isAgg 4).run aJ w= .ok false w:=fun _=>by kernel_rfl
theorem fT:∀w,(isAgg 39).run aJ w= .ok false w:=fun _=>by kernel_rfl
theorem cF:Tryz.prog.follows .mixedOrders=true:=by kernel_rfl
def Is (u v:aF)(_:a0):Prop:=v=u
def ZR (b:Nat)(z:Int)(v:aF)(w:a0):Prop:=∃s A n c,v= O s A n c∧Zr w b s A n c z
def WR (b:Nat)(m:Nat)(v:aF)(w:a0):Prop:=∃A n c,v= By A n c∧n=(wd m).length∧Own w b 45 1 A n c ((wd m).map bD)
def Wi (w:a0)(A:Option a6)(n c:Nat)(m:Nat):Prop:=∃xs,Rd w A n c xs∧nv xs=m
theorem Zi.wi (h:Zi w s A n c z):Wi w A n c z.natAbs:=by
 obtain⟨xs,o,H⟩:=h
 exact⟨xs,o,by rw [←H,jF]⟩
def PR (b:Nat)(T:aO)(vs:List aF)(v:aF)(w:a0):Prop:=∃g,v= a9 g 0∧b≤g∧Bk w g T vs
theorem PR.old (h:PR b T vs v w):uK w v:=by
 obtain⟨g,rfl,_,H⟩:=h
 intro k o
 rw [DF o];exact H.lt
theorem R1 (hn:n=(wd m).length)(ho:Own w b 45 1 A n c ((wd m).map bD)):Zr w b false A n c (m:Int):=
 i9 (m:=m) (s:=false) (by rw [mA];symm;exact decide_eq_false (by omega)) hn ho (mA m)
def T2 (R S:aF→a0→Prop)(v:aF)(w:a0):Prop:=∃a b,v= .tuple #[a,b]∧R a w∧S b w
def T3 (R S T:aF→a0→Prop)(v:aF)(w:a0):Prop:=∃a b c,v= .tuple #[a,b,c]∧R a w∧S b w∧T c w
def Gv (w:a0)(R:aF→a0→Prop)(e:dI)(w':a0):Prop:=∃v,e= .returned v∧R v w'∧Ext w w'
section
variable {w w':a0}{b:Nat}{z x y:Int}{v u:aF}{R S T:aF→a0→Prop}
theorem ZR.cast (h:ZR b z v w)(e:z=x):ZR b x v w:=e▸h
theorem gz (hb:b≤w.heap.size)(e:dI)(w':a0)(h:j4 w z e w'):Gv w (ZR b z) e w':=by
 obtain⟨s,A,n,c,rfl,o,H⟩:=h
 exact⟨_,rfl,⟨s,A,n,c,rfl,o.mono hb⟩,H⟩
theorem M4 (hb:b≤w.heap.size)(e:dI)(w':a0)(h:FW w z er e w'):Gv w (T2 (ZR b z) (Is (AI er))) e w':=by
 obtain⟨s,A,n,c,rfl,o,H⟩:=h
 exact⟨_,rfl,⟨_,_,rfl,⟨s,A,n,c,rfl,o.mono hb⟩,rfl⟩,H⟩
theorem DH (hb:b≤w.heap.size)(e:dI)(w':a0)(h:uI w x y er e w'):Gv w (T3 (ZR b x) (ZR b y) (Is (AI er))) e w':=by
 obtain⟨s,A,n,c,s',B,m,c',rfl,H,h1',o⟩:=h
 exact⟨_,rfl,⟨_,_,_,rfl,⟨s,A,n,c,rfl,H.mono hb⟩,⟨s',B,m,c',rfl,h1'.mono hb⟩,rfl⟩,o⟩
theorem M5 (hb:b≤w.heap.size)(e:dI)(w':a0)(h:rN w m er e w'):Gv w (T2 (WR b m) (Is (AI er))) e w':=by
 obtain⟨A,n,c,rfl,H,_,I,o⟩:=h
 exact⟨_,rfl,⟨_,_,rfl,⟨A,n,c,rfl,H.out,I.mono hb⟩,rfl⟩,o⟩
theorem Gv.imp (hi:∀v w,R v w→S v w)(e:dI)(w':a0)(h:Gv w R e w'):Gv w S e w':=by
 obtain⟨v,rfl,o,H⟩:=h
 exact⟨v,rfl,hi _ _ o,H⟩
theorem ZR.imp (hb:b≤b')(v:aF)(w:a0)(h:ZR b' z v w):ZR b z v w:=by
 obtain⟨s,A,n,c,rfl,h⟩:=h
 exact⟨s,A,n,c,rfl,h.mono hb⟩
theorem T2.imp {R' S':aF→a0→Prop}(h1:∀v w,R v w→R' v w)(h2:∀v w,S v w→S' v w)(v:aF)(w:a0)(h:T2 R S v w):T2 R' S' v w:=by
 obtain⟨a,c,rfl,o,H⟩:=h
 exact⟨a,c,rfl,h1 _ _ o,h2 _ _ H⟩
theorem T3.imp {R' S' T':aF→a0→Prop}(h1:∀v w,R v w→R' v w)(h2:∀v w,S v w→S' v w)(h0:∀v w,T v w→T' v w)(v:aF)(w:a0)(h:T3 R S T v w):T3 R' S' T' v w:=by
 obtain⟨a,c,d,rfl,H,I,o⟩:=h
 exact⟨a,c,d,rfl,h1 _ _ H,h2 _ _ I,h0 _ _ o⟩
theorem Is.imp (v:aF)(w:a0)(h:Is u v w):Is u v w:=h
theorem DI (e:dI)(w':a0)(h:zH z w e w'):Gv w (Is (AI z)) e w':=by
 obtain⟨c,o,_,_,rfl,H⟩:=h
 exact⟨_,rfl,(show kU .i64 c=_ by rw [o.out]),H⟩
end
section
variable {w:a0}{b:Nat}(hb:b≤w.heap.size){s t u:Bool}{A B C:Option a6}{n cap m cap' k cap'':Nat}{x y z:Int}
include hb
theorem DP (hx:Zi w s A n cap x)(hl:n≤274877906944)(hy:Zi w t B m cap' y)(hl':m≤274877906944):aR aJ 82 #[O s A n cap,O t B m cap'] w (Gv w (ZR b (x+y))):=(sH hx hl hy hl').mono (gz hb)
theorem nO (hx:Zi w s A n cap x)(hl:n≤274877906944)(hy:Zi w t B m cap' y)(hl':m≤274877906944):aR aJ 61 #[O s A n cap,O t B m cap'] w (Gv w (ZR b (x-y))):=(AA hx hl hy hl').mono (gz hb)
theorem iU (hx:Zi w s A n cap x)(hl:n≤68719476736)(hy:Zi w t B m cap' y)(hl':m≤68719476736):aR aJ 20 #[O s A n cap,O t B m cap'] w (Gv w (ZR b (x*y))):=(AC hx hl hy hl').mono (gz hb)
theorem xX (hx:Zi w s A n cap x)(hl:n≤68719476736)(hy:Zi w t B m cap' y)(hl':m≤68719476736)(hz:Zi w u C k cap'' z)(hl'':k≤68719476736):aR aJ 103 #[O s A n cap,O t B m cap',O u C k cap''] w (Gv w (ZR b (x*y+z))):=(GE hx hl hy hl' hz hl'').mono (gz hb)
theorem oW (hx:Zi w s A n cap x)(hl:n≤68719476736):aR aJ 45 #[O s A n cap] w (Gv w (ZR b (-x))):=(GD hx hl).mono (gz hb)
theorem oX (hx:Zi w s A n cap x)(hl:n≤68719476736):aR aJ 22 #[O s A n cap] w (Gv w (ZR b (x.natAbs:Int))):=(GJ hx hl).mono (gz hb)
theorem nP (hx:Zi w s A n cap x)(hl:n≤68719476736):aR aJ 46 #[O s A n cap] w (Gv w (ZR b x)):=(GF hx hl).mono (gz hb)
theorem lI {v:Int}(h1: -9223372036854775808≤v)(h2:v≤9223372036854775807):aR aJ 38 #[AI v] w (Gv w (ZR b v)):=(GC h1 h2).mono (gz hb)
theorem DM (hx:Zi w s A n cap x)(hl:n≤68719476736)(hy:Zi w t B m cap' y)(hl':m≤68719476736)(h0:y≠0):aR aJ 117 #[O s A n cap,O t B m cap'] w (Gv w (T3 (ZR b (x.tdiv y)) (ZR b (x.tmod y)) (Is (AI 0)))):=(A8 hx hl hy hl' h0).mono (DH hb)
omit hb in
theorem MI (hn:n=(wd m).length)(ho:Own w b 45 1 A n cap ((wd m).map bD)):aR aJ 41 #[.bool s,By A n cap] w (Gv w (ZR b (sg s m))):=
 (iO hn).mono fun e w' h=>by
  obtain⟨s',rfl,H,o⟩:=h
  exact⟨_,rfl,⟨s',A,n,cap,rfl,i9 H.out hn (ho.ext o) rfl⟩,o⟩
theorem OG (hx:Wi w A n cap i)(hl:n≤274877906944)(hy:Wi w B m cap' j)(hl':m≤274877906944)(h0:j≠0)(h1:i%j=0):aR aJ 59 #[By A n cap,By B m cap'] w (Gv w (T2 (WR b (i/j)) (Is (AI 0)))):=by
 obtain⟨ys,hy,rfl⟩:=hy
 obtain⟨xs,hx,rfl⟩:=hx
 exact (EM hx hl hy hl' h0 h1).mono (M5 hb)
theorem qM (hx:Zi w s A n cap x)(hl:n≤68719476736)(hy:Zi w t B m cap' y)(hl':m≤68719476736)(h0:y≠0)(h1:y∣x):aR aJ 40 #[O s A n cap,O t B m cap'] w (Gv w (T2 (ZR b (x.tdiv y)) (Is (AI 0)))):=(GH hx hl hy hl' h0 h1).mono (M4 hb)
theorem E7 (hx:Zi w s A n cap x)(hl:n≤68719476736)(hy:Zi w t B m cap' y)(hl':m≤68719476736):aR aJ 75 #[O s A n cap,O t B m cap'] w (Gv w (ZR b (Int.gcd x y:Int))):=(QO hx hl hy hl').mono (gz hb)
end
section
variable {w:a0}{s t:Bool}{A B:Option a6}{n cap m cap':Nat}{x y:Int}
theorem f8 (hx:Zi w s A n cap x)(hl:n≤68719476736):aR aJ 34 #[O s A n cap] w (Gv w (Is (AI (bU x 0)))):=(vI hx hl).mono DI
theorem DO (hx:Zi w s A n cap x)(hl:n≤68719476736)(hy:Zi w t B m cap' y)(hl':m≤68719476736):aR aJ 54 #[O s A n cap,O t B m cap'] w (Gv w (Is (AI (bU x y)))):=(GI hx hl hy hl').mono DI
end
theorem xS (h:eT (O s A n c) g):∃p,A=some p∧p.block=g:=by
 rcases h with h | ⟨_,p,_,_,h,o⟩
 ·cases h
 ·injection h with h
  injection h with h
  injection h with _ h
  injection h with h _
  injection h with h
  exact⟨p,h,o⟩
theorem DG (h:eT (O s none n c) g):False:=by
 obtain⟨p,h,_⟩:=xS h
 cases h
theorem Zr.new (h:Zr w b s A n c x):∀g,eT (O s A n c) g→b≤g:=fun g hg=>by
 obtain⟨p,o,_⟩:=xS hg
 have:=(h.own.block p o).1
 omega
theorem Zr.old (h:Zr w b s A n c x):∀g,eT (O s A n c) g→g<w.heap.size:=fun g hg=>by
 obtain⟨p,o,_⟩:=xS hg
 have:=(h.own.block p o).2
 omega
theorem ZR.old (h:ZR b x v w):uK w v:=by
 obtain⟨s,A,n,c,rfl,h⟩:=h
 exact h.old
def TE (R S T:aF→a0→Prop)(v:aF)(w:a0):Prop:=∃a b c,v= .tuple #[a,b,c]∧R a w∧S b w∧T c w∧(∀g,eT a g→eT b g→False)∧(∀g,eT a g→eT c g→False)∧∀g,eT b g→eT c g→False
theorem TE.imp {R S T R' S' T':aF→a0→Prop}(h1:∀v w,R v w→R' v w)(h2:∀v w,S v w→S' v w)(h3:∀v w,T v w→T' v w):∀v w,TE R S T v w→TE R' S' T' v w:=by
 rintro v w ⟨a,b,c,h,r,s,t,ap⟩
 exact⟨a,b,c,h,h1 _ _ r,h2 _ _ s,h3 _ _ t,ap⟩
theorem TE.t3 {R S T:aF→a0→Prop}:∀v w,TE R S T v w→T3 R S T v w:=by
 rintro v w ⟨a,b,c,h,r,s,t,_⟩
 exact⟨a,b,c,h,r,s,t⟩
theorem pA (h:∀g,eT u g→g<N)(k:∀g,eT v g→N≤g):∀g,eT u g→eT v g→False:=fun g H o=>Nat.lt_irrefl _ (cJ (h g H) (k g o))
section
variable {P:bP}{Q:cE→Act→a0→Prop}{n:Nat}{l:Fr}{w:a0}{ops:Array aP}{rest:List aP}{d:Nat}{op:Op}{ty:aO}{pos:String}{af:Array eR}{gd:Option (Nat×Bool)}
theorem jX (hw:cZ ops l gd=some true)(hk:jL l op=true)(cells:List aF)(hr:∀w,(execOp (rho l) ⟨some d,op,ty,pos,af,gd⟩).run P w= .ok (.value (By (some ⟨w.heap.size,0,none⟩) k k)) (w.alloc (.cells cells.toArray e)))(h:∀g w',NewBk w w' g e cells→wl P ops Q n rest ((d,By (some ⟨g,0,none⟩) k k)::l) w')(hn:d<n:=by decide):wl P ops Q n (⟨some d,op,ty,pos,af,gd⟩::rest) l w:=
 fP hw hn (fun a o=>by rw [oY hk o];exact hr w) (h _ _ (NewBk.mk' w e cells))
end
def O1 (b x:Nat)(v:aF)(w:a0):Prop:=∃A,v= By A 1 1∧Own w b 45 1 A 1 1 [bD x]
theorem O1.mk_ {x:Nat}(h:NewBk w w' g 45 [bD x])(hb:b≤w.heap.size):Own w' b 45 1 (some ⟨g,0,none⟩) 1 1 [bD x]:=
 Own.mk_ (by rw [←h.at_];exact hb) h.bk (aI _) (by rw [eY];omega) G rfl
theorem JU {x:Nat}(h:Own w b 45 1 A 1 1 [bD x])(hx:x≤18446744073709551615)(h0:x≠0):Own w b 45 1 A 1 1 ((wd x).map bD):=by
 rw [vR (by rw [cQ];omega) h0];exact h
theorem LO {x:Nat}(hx:x≤18446744073709551615)(h0:x≠0):1=(wd x).length:=by rw [vR (by rw [cQ];omega) h0];rfl
section
variable {P:bP}{Q:cE→Act→a0→Prop}{n:Nat}{l:Fr}{w:a0}
def mG (n:Nat)(ops:Array aP):Nat→List aP→Fr→Option (Fr×List aP)
 | 0,rest,l=>some (l,rest)
 | _+1,[],_=>none
 | k+1,⟨some d,op,_,_,_,gd⟩::rest,l=>
  match Nat.blt d n with
  | true=>
   match cZ ops l gd with
   | some true=>
    match op with
    | .move x=>match bT l x with
     | some v=>mG n ops k rest ((d,v)::l)
     | none=>none
    | .assign x=>match bT l x with
     | some v=>mG n ops k rest ((d,v)::l)
     | none=>none
    | _=>none
   | some false=>mG n ops k rest ((d,undef)::l)
   | none=>none
  | false=>none
 | _+1,_::_,_=>none
theorem mv {ops:Array aP}:∀(k:Nat){rest rest':List aP}{l l':Fr},mG n ops k rest l=some (l',rest')→wl P ops Q n rest' l' w→wl P ops Q n rest l w
 | 0,rest,rest',l,l',h,hw=>by
  simp only [mG,fB,Prod.mk.injEq] at h
  obtain⟨rfl,rfl⟩:=h
  exact hw
 | k+1,[],rest',l,l',h,hw=>by simp [mG] at h
 | k+1,⟨none,op,ty,pos,af,gd⟩::rest,rest',l,l',h,hw=>by simp [mG] at h
 | k+1,⟨some d,op,ty,pos,af,gd⟩::rest,rest',l,l',h,hw=>by
  unfold mG at h
  split at h
  ·rename_i H
   have hd':d<n:=Nat.le_of_ble_eq_true H
   split at h
   ·rename_i hg
    split at h
    ·split at h
     ·rename_i o
      exact GQ hg o hd' (mv k h hw)
     ·cases h
    ·split at h
     ·rename_i o
      exact GT hg o hd' (mv k h hw)
     ·cases h
    ·cases h
   ·rename_i hg
    exact GP hg hd' (mv k h hw)
   ·cases h
  ·cases h
theorem sr {y:Code}(h:wl P ol.toArray (Exit.then (fun a w=>y.wp P Q a w) Q) n ol l w):cw P Q n (.seq (.region id ol.toArray false) y) l w:=aH (aL h)
theorem aE {y:Code}(h:cw P Q n y l w):wl P ops (Exit.then (fun a w=>y.wp P Q a w) Q) n [] l w:=aS (aM h)
theorem pu (hk:(cZ ops l gd==some true&&jL l op&&Nat.blt d n)=true)(h:wl P ops Q n rest ((d,v)::l) w)(hr:(execOp (rho l) ⟨some d,op,ty,pos,af,gd⟩).run P w= .ok (.value v) w:=by kernel_rfl):wl P ops Q n (⟨some d,op,ty,pos,af,gd⟩::rest) l w:=by
 rw [dU,dU,beq_iff_eq] at hk
 exact AO hk.1.1 hk.1.2 (Nat.le_of_ble_eq_true hk.2) hr h
section
variable {ops:Array aP}{rest:List aP}{d:Nat}{ty:aO}{pos:String}{af:Array eR}{gd:Option (Nat×Bool)}{w0:a0}
theorem bx {x:cA}(vs:List aF)(h0:Ext w0 w)(hx:bT l x=some v)(hk:(cZ ops l gd==some true&&Nat.blt d n)=true)(hv:v.cells=vs.toArray)(h:∀g w',Bk w' g t vs→w0.heap.size≤g→Ext w w'→Ext w0 w'→wl P ops Q n rest ((d,a9 g 0)::l) w'):wl P ops Q n (⟨some d,.box t x,ty,pos,af,gd⟩::rest) l w:=by
 rw [dU,beq_iff_eq] at hk
 exact m3 hk.1 hx hv (hn:=(Nat.le_of_ble_eq_true hk.2)) fun g w' nb=>h g w' nb.bk (by rw [←nb.at_];exact h0.size) nb.ext (h0.trans nb.ext)
theorem mN {x:cA}(vs:List aF)(h0:Ext w0 w)(hq:gp<w.heap.size)(hx:bT l x=some v)(hk:(cZ ops l gd==some true&&Nat.blt d n)=true)(hv:v.cells=vs.toArray)(h:∀g w',Bk w' g t vs→w0.heap.size≤g→gp<g→Ext w w'→Ext w0 w'→wl P ops Q n rest ((d,a9 g 0)::l) w'):wl P ops Q n (⟨some d,.box t x,ty,pos,af,gd⟩::rest) l w:=by
 rw [dU,beq_iff_eq] at hk
 exact m3 hk.1 hx hv (hn:=(Nat.le_of_ble_eq_true hk.2)) fun g w' nb=>h g w' nb.bk (by rw [←nb.at_];exact h0.size) (by rw [←nb.at_];exact hq) nb.ext (h0.trans nb.ext)
theorem al (vs:List aF)(h0:Ext w0 w)(hz:∀w,(zeroValue t).run P w= .ok (.agg vs.toArray) w)(hk:(cZ ops l gd==some true&&Nat.blt d n)=true)(h:∀g w',Bk w' g t vs→w0.heap.size≤g→Ext w w'→Ext w0 w'→wl P ops Q n rest ((d,a9 g 0)::l) w'):wl P ops Q n (⟨some d,.alloc t,ty,pos,af,gd⟩::rest) l w:=by
 rw [dU,beq_iff_eq] at hk
 exact dM hk.1 hz G (hn:=(Nat.le_of_ble_eq_true hk.2)) fun g w' nb=>h g w' nb.bk (by rw [←nb.at_];exact h0.size) nb.ext (h0.trans nb.ext)
theorem dG (vs:List aF)(h0:Ext w0 w)(hq:gp<w.heap.size)(hz:∀w,(zeroValue t).run P w= .ok (.agg vs.toArray) w)(hk:(cZ ops l gd==some true&&Nat.blt d n)=true)(h:∀g w',Bk w' g t vs→w0.heap.size≤g→gp<g→Ext w w'→Ext w0 w'→wl P ops Q n rest ((d,a9 g 0)::l) w'):wl P ops Q n (⟨some d,.alloc t,ty,pos,af,gd⟩::rest) l w:=by
 rw [dU,beq_iff_eq] at hk
 exact dM hk.1 hz G (hn:=(Nat.le_of_ble_eq_true hk.2)) fun g w' nb=>h g w' nb.bk (by rw [←nb.at_];exact h0.size) (by rw [←nb.at_];exact hq) nb.ext (h0.trans nb.ext)
theorem cl {xs:Array cA}{R:aF→a0→Prop}(h0:Ext w0 w)(hc:aR P f vs.toArray w (Gv w R))(hk:(cZ ops l gd==some true&&jL l (.call {callee:= .value (.func f),args:=xs,argTypes:=ts})&&Nat.blt d n)=true)(hr:(execOp (rho l) ⟨some d,.call {callee:= .value (.func f),args:=xs,argTypes:=ts},ty,pos,af,gd⟩).run P w= .ok (.enter f vs.toArray) w)(h:∀v w',R v w'→Ext w w'→Ext w0 w'→wl P ops Q n rest ((d,v)::l) w'):wl P ops Q n (⟨some d,.call {callee:= .value (.func f),args:=xs,argTypes:=ts},ty,pos,af,gd⟩::rest) l w:=by
 rw [dU,dU,beq_iff_eq] at hk
 refine bR hk.1.1 hk.1.2 hr (Nat.le_of_ble_eq_true hk.2) hc ?_
 rintro _ w' ⟨v,rfl,r,e⟩
 exact bL (h v w' r e (h0.trans e))
theorem lo {x:cA}(hT:AggT P T k)(hb:Bk w g T' vs)(us:List aF)(hx:bT l x=some (a9 g off))(hk:(cZ ops l gd==some true&&Nat.blt d n&&lT us.length k&&Nat.ble (off+k) vs.length)=true)(he:(vs.drop off).take k=us)(h:wl P ops Q n rest ((d,.agg us.toArray)::l) w):wl P ops Q n (⟨some d,.load T x,ty,pos,af,gd⟩::rest) l w:=by
 rw [dU,dU,dU,beq_iff_eq] at hk
 exact aK hk.1.1.1 hx (bY hT hb us (o8 hk.1.2) (Nat.le_of_ble_eq_true hk.2) he) h (hn:=(Nat.le_of_ble_eq_true hk.1.1.2))
theorem so {x y:cA}(hT:AggT P T k)(hb:Bk w g T' vs)(us':List aF)(h0:Ext w0 w)(hg:w0.heap.size≤g)(hx:bT l x=some (a9 g off))(hy:bT l y=some (.agg us.toArray))(hk:(cZ ops l gd==some true&&lT us.length k&&Nat.ble (off+k) vs.length&&us.all (·.oneCell'))=true)(he:gA vs off us=us')(h:∀w',Bk w' g T' us'→Upd g w w'→Ext w0 w'→wl P ops Q n rest l w'):wl P ops Q n (⟨none,.store T x y,ty,pos,af,gd⟩::rest) l w:=by
 rw [dU,dU,dU,beq_iff_eq] at hk
 exact fC hk.1.1.1 hx hy hT (o8 hk.1.1.2) hb (Nat.le_of_ble_eq_true hk.1.2) hk.2 us' he fun w' b u _=>h w' b u (u.ext h0 hg)
end
theorem dk {Rs:List (aF→a0→Prop)}{w1:a0}{k:Fr→Prop}(hR:Rs[j]?=some (Is v))(hd:bN ol j=some d)(h:Deps ol Rs w0 w1 k ds ((d,v)::acc)):Deps ol Rs w0 w1 k (j::ds) acc:=
 aT hR hd fun v' _ hr _ _=>by
  obtain rfl:=hr
  exact h
theorem pf (g off:Nat)(hk:(cZ ops l gd==some true&&jL l op&&Nat.blt d n)=true)(h:wl P ops Q n rest ((d,a9 g off)::l) w)(hr:(execOp (rho l) ⟨some d,op,ty,pos,af,gd⟩).run P w= .ok (.value (a9 g off)) w:=by kernel_rfl):wl P ops Q n (⟨some d,op,ty,pos,af,gd⟩::rest) l w:=pu hk h (hr:=hr)
theorem bq (h:Nat.ble m k=true):m≤k:=Nat.le_of_ble_eq_true h
theorem aZ (h:a≤b)(k:Nat.ble b c=true):a≤c:=a7 h (Nat.le_of_ble_eq_true k)
end
abbrev S0:aF:= By none 0 0
abbrev F0:aF:= Hs
abbrev I0:aF:= AI 0
end
section
open Go.ChangeShapes Go.WideShapes Go.ChangeAt Go.RowKit
theorem JT:ownKnob Tryz.prog.godebug=none:=by kernel_rfl
theorem yP:Tryz.prog.cellsOf 45=1:=by kernel_rfl
theorem QE (d:DataW H):1≤Rows.uptoBulk d:=by
 cases d with
 | lit l=>cases l <;> simp [Rows.uptoBulk]
 | nil=>simp [Rows.uptoBulk]
 | ptr d=>simp [Rows.uptoBulk]
 | slice elems spare=>simp [Rows.uptoBulk]
 | agg parts=>simp [Rows.uptoBulk]
 | iface t d=>simp [Rows.uptoBulk]
 | map entries=>simp [Rows.uptoBulk]
 | held h=>simp [Rows.uptoBulk]
theorem FA (l:List (DataW H)):l.length≤Rows.uptoBulkAll l:=by
 induction l with
 | nil=>simp [Rows.uptoBulkAll]
 | cons x r ih=>have:=QE x;simp only [Rows.uptoBulkAll,iE];omega
theorem QD (elems spare:List (DataW H)):elems.length+spare.length≤Rows.uptoBulk (.slice elems spare):=by
 have h:=FA elems
 have o:=FA spare
 simp only [Rows.uptoBulk]
 omega
theorem QF {l:List (DataW H)}(hk:Rows.uptoSmall H l=true):Rows.uptoBulkAll l≤1048576:=of_decide_eq_true hk
theorem AR {n:Int}(h:(Lit.int .u64 n).wf=true):0≤n∧n≤18446744073709551615:=by
 simpa [Lit.wf,IntKind.min,IntKind.max,pO,pP] using h
theorem JS {enc:aO×aF→H}{f:Func}{s:ChangeSpec}{apart fresh handsOn again:Bool}{ds gs:List (DataW H)}{before:List MemPlace}(hW:DataW.Whole enc P f.params.toList s.vars apart W args.toList ds gs before)(hres:∀(b:Nat) (sp:Nat→Bool) (hd:Bool),DataW.TrodAll enc P W' b sp hd f.resultTypes.toList (v.resultList f.resultTypes.size) (s.fn H (ds++gs)).results [])(hargs:∀sp:Nat→Bool,(∀p∈before,sp p.block=true)→DataW.TrodAll enc P W' 0 sp true f.params.toList args.toList (s.fn H (ds++gs)).args pa)(hvars:∀sp:Nat→Bool,(∀p∈before,sp p.block=true)→DataW.TrodVars enc P W' sp s.vars (s.fn H (ds++gs)).vars pv)(hps:before=pa++pv)(hb:Below W.heap.size W W')(hok:∀(j:Nat) (t:aO) (r:aF),f.resultTypes[j]?=some t→(v.resultList f.resultTypes.size)[j]?=some r→Value.okWide P W' .any 0 t r):s.post enc P f apart fresh handsOn again W args v W':=by
 have I:∀p∈before,p.block<W.heap.size:=fun p h=>hW.lt p h
 have o:∀p∈before,(fun b=>decide (b<W.heap.size)) p.block=true:=fun p h=>by simpa using I p h
 refine⟨ds,gs,before,[],pa,pv,hW,hres _ _ _,hargs _ o,hvars _ o,World.keptBut_mono (fun p h=>⟨h,?_⟩) (hb.frame (· ∈before)),fun _=>?_⟩
 ·rw [hps,List.mem_append] at h
  exact bK h
 ·obtain⟨_,_,_,_,_,hz,hn⟩:=hW
  refine⟨hok,_,_,([]++pa)++pv,⟨[]++pa,pv,trodAll_append (hargs _ (fun _ _=>rfl)) (hres _ _ _),hvars _ (fun _ _=>rfl),rfl,?_,?_⟩,?_⟩
  ·intro b off h
   have J:MemPlace.cell b off∈before:=by rw [hps];simpa using h
   rw [hb.frozen (I _ J)]
   exact hz b off J
  ·intro U
   have:=hn U
   rw [hps] at this
   simpa using this
  ·intro p h _
   rw [hps]
   simpa using h
theorem LU:laidOutB aJ=true:=by kernel_rfl
theorem KT:mapsRowed aJ=true:=by kernel_rfl
def IP (P:bP):Bool:=(d7 P.types.size).all fun t=>match P.underlying t with
 | some (.slice e)=>decide (0<P.cellsOf e)
 | _=>true
theorem IO:IP aJ=true:=by kernel_rfl
theorem IQ (ht:t<Tryz.prog.types.size)(hu:Tryz.prog.underlying t=some (.slice e)):0<Tryz.prog.cellsOf e:=by
 have:=eZ.1 IO t (List.mem_range.2 ht)
 simpa [hu] using this
theorem IE {enc:aO×aF→H}{d:DataW H}(ht:t<Tryz.prog.types.size)(h:DataW.Trod enc aJ W 0 (fun _=>true) true t v d p)(he:Ext W W')(hp:∀q∈p,q.block<W.heap.size){sp:Nat→Bool}(hsp:∀q∈p,sp q.block=true):DataW.Trod enc aJ W' 0 sp true t v d p:=by
 obtain⟨n,hn⟩:=h
 exact⟨n,DataW.trod_stays (kids_rows LU KT) IQ (fun h=>by cases h) ht hn (fun q o=>he.below.same (hp q o)) hsp⟩
theorem ID {enc:aO×aF→H}(he:Ext W W'){sp:Nat→Bool}:∀{ts:List aO}{vs:List aF}{ds:List (DataW H)}{p:List MemPlace},(∀t∈ts,t<Tryz.prog.types.size)→
  DataW.TrodAll enc aJ W 0 (fun _=>true) true ts vs ds p→(∀q∈p,q.block<W.heap.size)→(∀q∈p,sp q.block=true)→DataW.TrodAll enc aJ W' 0 sp true ts vs ds p:=by
 intro ts
 induction ts with
 | nil=>
  intro vs ds p _ h _ _
  obtain⟨rfl,rfl,rfl⟩:=trodAll_nil h
  exact trodAll_mk0
 | cons t ts ih=>
  intro vs ds p ht h hp hsp
  obtain⟨v,vs',d,ds',p1,p2,rfl,rfl,rfl,h1,h2⟩:=trodAll_cons h
  exact trodAll_cons_mk (IE (ht t (by simp)) h1 he (fun q hq=>hp q (by simp [hq])) (fun q hq=>hsp q (by simp [hq]))) (ih (fun t h=>ht t (by simp [h])) h2 (fun q hq=>hp q (by simp [hq])) (fun q hq=>hsp q (by simp [hq])))
end
section
open Go.RowKit
structure Zl (w:a0)(A:Option a6)(n cap:Nat)(zs:List Int)(ms:List Nat):Prop where
 len:zs.length=n
 mlen:ms.length=n
 le:n≤cap
 max:cap≤maxLen
 get:∀i,i<n→∃a s B c,A=some a∧w.cell? (a.add (i*2))=some (.bool s)∧w.cell? (a.add (i*2+1))=some (By B (ms.getD i 0) c)∧Zi w s B (ms.getD i 0) c (zs.getD i 0)
theorem Zl.ext (h:Zl w A n cap zs ms)(e:Ext w w'):Zl w' A n cap zs ms:=
 ⟨h.len,h.mlen,h.le,h.max,fun i hi=>by
  obtain⟨a,s,B,c,I,o,J,H⟩:=h.get i hi
  exact⟨a,s,B,c,I,e.cell o,e.cell J,H.ext e⟩⟩
theorem DK:∀(ms:List Nat) (i:Nat),ms.getD i 0≤ms.sum
 | [],i=>by simp
 | m::r,0=>by simp
 | m::r,i+1=>by
  have:=DK r i
  simp only [List.getD_cons_succ,List.sum_cons]
  omega
end
section
open Go.ChangeShapes Go.WideShapes Go.ChangeAt Go.RowKit
theorem Q7:Tryz.prog.cellsOf 41=2:=by kernel_rfl
theorem F4:Tryz.prog.cellsOf 39=1:=by kernel_rfl
theorem F6:Tryz.prog.cellsOf 4=1:=by kernel_rfl
theorem OT:∃f0 f1:Field,Tryz.prog.underlying 41=some (.struct #[f0,f1])∧f0.type=4∧f0.offset=0∧f1.type=39∧f1.offset=1:=⟨_,_,Tryz.underlying41,rfl,rfl,rfl,rfl⟩
theorem JY {enc:aO×aF→H}{d:DataW H}(hf:DataW.trod enc aJ W 0 (fun _=>true) true fuel 39 [v]=some (d,p)):∃A n cap xs,v= By A n cap∧Rd W A n cap xs∧n≤Rows.uptoBulk d∧
   ∀W',Ext W W'→∀sp:Nat→Bool,(∀q∈p,sp q.block=true)→∃fuel',DataW.trod enc aJ W' 0 sp true fuel' 39 [v]=some (d,p):=by
 rcases open_ints Tryz.underlying39 Tryz.underlying45 yP hf with⟨U,hx⟩ | ⟨a,n',cap',zs,U,_,hl,hm,hz,hx,o,I⟩
 ·obtain rfl:=List.singleton_inj.1 U
  simp only [Prod.mk.injEq] at hx
  obtain⟨rfl,rfl⟩:=hx
  exact⟨none,0,0,[],rfl,Rd.nil W,bX _,fun W' _ sp _=>by obtain⟨fu,h⟩:=shut_slice_nil (enc:=enc) (w:=W') (base:=0) (spare:=sp) (held:=true) Tryz.underlying39;exact⟨fu,h⟩⟩
 ·obtain rfl:=List.singleton_inj.1 U
  simp only [Prod.mk.injEq] at hx
  obtain⟨rfl,rfl⟩:=hx
  simp only [if_true] at hz
  have ae:0<cap'→a.block<W.heap.size:=fun hc=>World.block_lt_of_cell? W (a.add 0) (o 0 (by omega)) |> fun h=>by rwa [yU] at h
  have ar:∀z∈zs,((z.toNat:Nat):Int)=z:=fun z hz'=>Int.toNat_of_nonneg (AR (I z hz')).1
  have au:(zs.take n').length=n':=by rw [dH];omega
  refine⟨some a,n',cap',(zs.take n').map Int.toNat,rfl,⟨⟨by simp;omega,hl,hm,fun i hi=>⟨a,rfl,?_⟩,fun b hb hc=>by cases hb;exact ae hc⟩,?_⟩,?_,?_⟩
  ·rw [o i (by omega)]
   have J:i<zs.length:=by omega
   have ac:zs[i]∈zs:=List.getElem_mem J
   have e:(((zs.take n').map Int.toNat).map bD).getD i undef= AT ((zs[i].toNat:Nat):Int):=by
    simp [bO,List.getElem?_map,show i<n' by omega,d8 J]
   rw [e,ar _ ac]
   simp [bO,d8 J]
  ·intro x hx
   obtain⟨z,aj,rfl⟩:=List.mem_map.1 hx
   have:=AR (I z (List.mem_of_mem_take aj))
   rw [cQ];omega
  ·have:=QD (H:=H) (lits .u64 (zs.take n')) (lits .u64 (zs.drop n'))
   have e:(lits (H:=H) .u64 (zs.take n')).length=n':=by simp [lits];omega
   omega
  ·intro W' he sp aq
   have hcell':∀i,i<zs.length→W'.cell? (a.add i)=some (AT (zs.getD i 0)):=fun i hi=>he.cell (o i hi)
   by_cases ai:zs.length=0
   ·have ag:cap'=0:=by omega
    have ah:n'=0:=by omega
    subst ag;subst ah
    have t0:=shut_ints (enc:=enc) (w:=W') (base:=0) (spare:=sp) (held:=true) (a:=a) (len:=0) (cap:=0) (zs:=zs) 0 Tryz.underlying39 Tryz.underlying45 yP (bX _) (aI _) hm (by simp [ai]) hcell' I
    exact⟨2,t0⟩
   ·have ab:sp a.block=true:=aq (.cell a.block a.off) (MemPlace.mem_row.2 ⟨0,by omega,by simp⟩)
    have t0:=shut_ints (enc:=enc) (w:=W') (base:=0) (spare:=sp) (held:=true) (a:=a) (len:=n') (cap:=cap') (zs:=zs) 0 Tryz.underlying39 Tryz.underlying45 yP (bX _) hl hm (by simp [ab,hz]) hcell' I
    exact⟨2,t0⟩
theorem JX {enc:aO×aF→H}{c0 c1:aF}{x:DataW H×List MemPlace}(h:DataW.trod enc aJ W 0 (fun _=>true) true fuel 41 [c0,c1]=some x):∃s A n cap z,c0= .bool s∧c1= By A n cap∧Zi W s A n cap z∧n+1≤Rows.uptoBulk x.1∧
   ∀W',Ext W W'→∀sp:Nat→Bool,(∀q∈x.2,sp q.block=true)→∃fuel',DataW.trod enc aJ W' 0 sp true fuel' 41 [c0,c1]=some x:=by
 obtain⟨_,f1,hu,t0,o0,t1,o1⟩:=OT
 obtain⟨y0,y1,n,rfl,hl,o,I⟩:=trod_struct2 hu h
 rw [t0,o0,F6] at o
 rw [t1,o1,F4] at I
 have e0:(([c0,c1]:List aF).drop 0).take 1= [c0]:=rfl
 have e1:(([c0,c1]:List aF).drop 1).take 1= [c1]:=rfl
 rw [e0] at o
 rw [e1] at I
 obtain⟨s,hs,rfl⟩:=DataW.trod_bool Tryz.underlying4 o
 obtain rfl:c0= .bool s:=by simpa using hs
 obtain⟨A,k,cap,xs,rfl,hx,hb,rx⟩:=JY (d:=y1.1) (p:=y1.2) I
 refine⟨s,A,k,cap,_,rfl,rfl,⟨xs,hx,rfl⟩,?_,?_⟩
 ·simp only [Rows.uptoBulk,Rows.uptoBulkAll];omega
 ·intro W' he sp J
  obtain⟨fu,U⟩:=rx W' he sp (fun q hq=>J q (by simp [hq]))
  refine⟨fu+1+1,trod_struct2_mk (y0:=(.lit (.bool s),[])) (y1:=y1) hu hl ?_ ?_⟩
  ·rw [t0,o0,F6,e0]
   simp [DataW.trod,Tryz.underlying4]
  ·rw [t1,o1,F4,e1]
   exact DataW.trod_le (Nat.le_succ _) U
theorem IA (D:Nat→DataW H)(f:Nat→Nat)(n:Nat)(h:∀i,i<n→f i+1≤Rows.uptoBulk (D i)):((d7 n).map f).sum+n≤Rows.uptoBulkAll ((d7 n).map D):=by
 induction n with
 | zero=>simp [Rows.uptoBulkAll]
 | succ n ih=>
  have ih':=ih (fun i hi=>h i (by omega))
  have hn:=h n (by omega)
  rw [List.range_succ,List.map_append,List.map_append,List.sum_append,List.map_singleton,List.map_singleton]
  have e:∀(l:List (DataW H)) (x:DataW H),Rows.uptoBulkAll (l++ [x])=Rows.uptoBulkAll l+Rows.uptoBulk x:=by
   intro l x
   induction l with
   | nil=>simp [Rows.uptoBulkAll]
   | cons y r ihl=>simp only [sD,Rows.uptoBulkAll,ihl];omega
  rw [e]
  simp only [List.sum_singleton]
  omega
theorem P4 {l:List aF}(h:l.length=2):∃a b,l= [a,b]:=by
 match l,h with
 | [a,b],_=>exact⟨a,b,rfl⟩
end
section
open Go.RowKit
theorem UpdO.of (h:w.grownBy w' none):UpdO A w w':=⟨⟨h.os,h.tape,h.output,h.size,fun k o _=>h.block k o (by simp)⟩⟩
theorem Upd.updO (h:Upd g w w'){o:Nat}{x:_}:UpdO (some ⟨g,o,x⟩) w w':=⟨h.by_⟩
theorem CI (hv:cs.take k=vs)(hk:k≤cs.length):(gA cs k us).take (k+us.length)=vs++us:=by
 unfold gA
 have e:(cs.take k++us).length=k+us.length:=by rw [kI,dH,Nat.min_eq_left hk]
 rw [←e,List.take_left',hv]
 rfl
def uM (w:a0)(A A':Option a6):Prop:=∀a',A'=some a'→(∃a,A=some a∧a'.block=a.block)∨w.heap.size≤a'.block
section
variable {P:bP}
theorem JK {z:aF}{s:Nat}(ht:P.underlying t=some (.slice e))(hinfo:(P.info? e).map (fun i=>(i.zero,i.size,i.bytes))=some (some z,s,bytes))(hzs:z.cells.size=s)(hsz:0<s)(hby:bytes≤64){xs:List aF}(hown:Own w base e s A n cap xs)(hb:base≤w.heap.size){a:a6}(hl:news.length=m*s)(hnews:∀j u,news[j]?=some u→w.cell? (a.add j)=some u)(h1:news.all (·.oneCell')=true)(hm:n+m≤1099511627776):∃A' cap' w',(lY #[t,t] ty #[By A n cap,By (some a) m c]).run P w= .ok (By A' (n+m) cap') w'∧Own w' base e s A' (n+m) cap' (xs++news)∧UpdO A w w'∧uM w A A':=by
 obtain⟨i,hi,hz,H,J⟩:=info_parts hinfo
 have h1':∀u∈news,u.oneCell'=true:=by simpa [eZ] using h1
 have I:n+m≤maxLen:=by rw [eY];omega
 have o:(n+m)*bytes≤140737488355328:=by
  have:(n+m)*bytes≤1099511627776*64:=Nat.mul_le_mul hm hby
  omega
 rcases hown with⟨rfl,rfl,rfl,rfl⟩ | ⟨g,cs,rfl,hg,hk,hn,ah,ao,hv⟩
 ·obtain⟨v',w',hr,h2,h3,_⟩:=run_append_own (P:=P) w w.heap.size t ty e i z s bytes ht hi hz H J hzs hsz (By none 0 0) 0 [] (World.ownsRow_nil w _ e s) a m c news hl hnews h1' I o (aI _)
  obtain⟨A',cap',rfl,U⟩:=Own.of_row h2
  exact⟨A',cap',w',hr,U.mono hb,UpdO.of h3,fun a' ha=>bK (U.block a' ha).1⟩
 ·by_cases h:n+m≤cap
  ·have au:n*s+news.length≤cs.length:=by rw [hl,ao,←dS];exact dX s h
   obtain⟨w',ai,ab,hu,_⟩:=sR (P:=P) news 0 (n*s) w cs hk (by omega) h1'
   rw [eA] at ab
   have aa:=run_firstCells_some (P:=P) w i.size m a m c news (by rw [H];exact hl) hnews
   rw [H] at aa
   refine⟨some ⟨g,0,none⟩,cap,w',?_,bK ⟨g,_,rfl,hg,ab,h,ah,?_,?_⟩,hu.updO,fun a' ha=>bE ⟨_,rfl,by cases ha;rfl⟩⟩
   ·simp [lY,o3 ht,sizeOf,typeInfo,hi,Builtin.lenOf,h,aa,Addr.add_lit,H,ai]
   ·unfold gA
    simp only [kI,dH,List.length_drop]
    omega
   ·rw [dS,←hl]
    exact CI hv (by omega)
  ·have hx:=hv
   obtain⟨v',w',hr,h2,h3⟩:=run_append_arg_grows (P:=P) w t ty e i z s bytes ht hi hz H J hzs hsz ⟨g,0,none⟩ n cap xs
    (by rw [←hv,dH];have:=dX s hn;omega)
    (fun j u hj=>by
     have aj:=(fF.1 hj).1
     rw [iZ,fE,hk.cell (by rw [←hv,dH] at aj;omega)]
     rw [←hv,iN] at hj
     split at hj
     ·rw [bO,hj];rfl
     ·cases hj) a m c news hl hnews (by omega) I o
   obtain⟨A',cap',rfl,U⟩:=Own.of_row h2
   exact⟨A',cap',w',hr,U.mono hb,UpdO.of h3,fun a' ha=>bK (U.block a' ha).1⟩
variable {Q:cE→Act→a0→Prop}{n:Nat}{l:Fr}{w:a0}{ops:Array aP}{rest:List aP}{d:Nat}{ty:aO}{pos:String}{af:Array eR}{gd:Option (Nat×Bool)}
theorem GV {x y:cA}{z:aF}{s:Nat}{a:a6}{xs:List aF}(hw:cZ ops l gd=some true)(hx:bT l x=some (By A k cap))(hy:bT l y=some (By (some a) m c))(ht:P.underlying t=some (.slice e))(hinfo:(P.info? e).map (fun i=>(i.zero,i.size,i.bytes))=some (some z,s,bytes))(hzs:z.cells.size=s)(hsz:0<s)(hby:bytes≤64)(hown:Own w base e s A k cap xs)(hb:base≤w.heap.size)(news:List aF)(hl:news.length=m*s)(hnews:∀j u,news[j]?=some u→w.cell? (a.add j)=some u)(h1:news.all (·.oneCell')=true)(hm:k+m≤1099511627776)(hn:d<n)(h:∀A' cap' w',Own w' base e s A' (k+m) cap' (xs++news)→UpdO A w w'→uM w A A'→wl P ops Q n rest ((d,By A' (k+m) cap')::l) w'):wl P ops Q n (⟨some d,.call {callee:= .builtin .append,args:= #[x,y],argTypes:= #[t,t]},ty,pos,af,gd⟩::rest) l w:=by
 obtain⟨A',cap',w',hr,H,J,I⟩:=JK (P:=P) (ty:=ty) ht hinfo hzs hsz hby hown hb hl hnews h1 hm
 refine fP hw hn (fun a' o=>?_) (h A' cap' w' H J I)
 unfold execOp
 simp only [resolve,invoke,builtin,c8,fO,eD,List.map_toArray,List.map_cons,List.map_nil,o.ev hx,o.ev hy]
 rw [hr]
 rfl
end
theorem Own.updOT {s s':Nat}(h:Own w b t s A n cap vs)(ho:Own w b' T s' B m c us)(hT:t≠T)(x:UpdO B w w'):Own w' b t s A n cap vs:=by
 refine h.updO x (fun p q o H hg=>?_)
 rcases ho with⟨U,_⟩ | ⟨k,cs,hB,_,I,_⟩
 ·rw [U] at o;cases o
 ·rcases h with⟨J,_⟩ | ⟨k',cs',hA,_,hk',_⟩
  ·rw [J] at H;cases H
  ·rw [hB] at o;rw [hA] at H
   cases o;cases H
   simp only at hg
   subst hg
   unfold Bk at I hk'
   rw [I] at hk'
   injection hk' with hk'
   injection hk' with e1 e2
   exact hT e2.symm
theorem wS (v:aF)(h:Bk w g T [v]):∀j u,[v][j]?=some u→w.cell? ((⟨g,0,none⟩:a6).add j)=some u:=by
 intro j u hj
 have o:=(fF.1 hj).1
 rw [iZ,fE,h.cell o,bO,hj];rfl
theorem gK (x y:Int):ln (x.tdiv y)≤ln x:=fJ (by rw [Int.natAbs_tdiv];exact iM _ _)
theorem D7 (x y:Int):ln (x.tmod y)≤ln x:=fJ (by rw [Int.natAbs_tmod];exact Nat.mod_le _ _)
theorem yA (h:0≤x.tmod y:=by omega):x.tdiv y=x/y∧x.tmod y=x%y:=by
 have J:=Int.tdiv_mul_add_tmod x y
 rcases Int.lt_trichotomy y 0 with o | o | o
 ·have H:x.tmod y< -y:=by have:=m8 (x:=x) (y:=y) (by omega);omega
  have e:x.tmod y=x%y:=by
   have:x%y=(x.tmod y+y*x.tdiv y)%y:=by rw [Int.mul_comm y];congr 1;omega
   rw [this,Int.add_mul_emod_self_left,←Int.emod_neg,Int.emod_eq_of_lt h H]
  refine⟨?_,e⟩
  have I:=Int.mul_ediv_add_emod x y
  rw [←e] at I
  refine Int.eq_of_mul_eq_mul_left (a:=y) (by omega) ?_
  rw [Int.mul_comm y (x.tdiv y)];omega
 ·subst o;simp
 ·have H:=Int.tmod_lt_of_pos x o
  have e:x.tmod y=x%y:=by
   have:x%y=(x.tmod y+y*x.tdiv y)%y:=by rw [Int.mul_comm y];congr 1;omega
   rw [this,Int.add_mul_emod_self_left,Int.emod_eq_of_lt h H]
  refine⟨?_,e⟩
  have I:=Int.mul_ediv_add_emod x y
  rw [←e] at I
  refine Int.eq_of_mul_eq_mul_left (a:=y) (by omega) ?_
  rw [Int.mul_comm y (x.tdiv y)];omega
theorem EF (h:x.tmod y<0)(hy:y<0):x.tdiv y+1=x/y∧x.tmod y-y=x%y:=by
 have H:=Int.tdiv_mul_add_tmod x y
 have I: -(x.tmod y)< -y:=by have:=m8 (x:=x) (y:=y) (by omega);omega
 have e:x.tmod y-y=x%y:=by
  have:x%y=((x.tmod y-y)+y*(x.tdiv y+1))%y:=by rw [Int.mul_add,Int.mul_comm y];congr 1;omega
  rw [this,Int.add_mul_emod_self_left,←Int.emod_neg,Int.emod_eq_of_lt (by omega) (by omega)]
 refine⟨?_,e⟩
 have o:=Int.mul_ediv_add_emod x y
 rw [←e] at o
 refine Int.eq_of_mul_eq_mul_left (a:=y) (by omega) ?_
 rw [Int.mul_add,Int.mul_comm y (x.tdiv y)];omega
theorem EE (h:x.tmod y<0)(hy:0<y):x.tdiv y-1=x/y∧x.tmod y+y=x%y:=by
 have H:=Int.tdiv_mul_add_tmod x y
 have I: -(x.tmod y)<y:=by have:=m8 (x:=x) (y:=y) (by omega);omega
 have e:x.tmod y+y=x%y:=by
  have:x%y=((x.tmod y+y)+y*(x.tdiv y-1))%y:=by rw [Int.mul_sub,Int.mul_comm y];congr 1;omega
  rw [this,Int.add_mul_emod_self_left,Int.emod_eq_of_lt (by omega) (by omega)]
 refine⟨?_,e⟩
 have o:=Int.mul_ediv_add_emod x y
 rw [←e] at o
 refine Int.eq_of_mul_eq_mul_left (a:=y) (by omega) ?_
 rw [Int.mul_sub,Int.mul_comm y (x.tdiv y)];omega
theorem ML {nb:Nat}(hx:Zi w sa Aa na ca x)(la:na≤68719476736)(hy:Zi w sb Ab nb cb y)(lb:nb≤68719476736)(h0:y≠0):aR aJ 119 #[O sa Aa na ca,O sb Ab nb cb] w (Gv w (T3 (ZR w.heap.size (x/y)) (ZR w.heap.size (x%y)) (Is (AI 0)))):=by
 have Lx:ln x≤68719476736:=a7 hx.ln la
 have Ly:ln y≤68719476736:=a7 hy.ln lb
 refine bQ Tryz.func119 G (n:=41) G (bq G) (args:= [O sa Aa na ca,O sb Ab nb cb]) (bH [(0,O sa Aa na ca),(1,O sb Ab nb cb)] ⟨rfl,rfl,Ht⟩ (sr (bx (a4 sa Aa na ca) aB G G G fun g1 _ jw _ _ kg=>(mN (a4 sb Ab nb cb) kg jw.lt G G G fun g6 _ cd _ _ e8 kc=>(dG [F0,S0] kc cd.lt (fun _=>by kernel_rfl) G fun jv _ bw cz _ ce ku=>(dG [F0,S0] ku bw.lt (fun _=>by kernel_rfl) G fun gx _ bu dl _ av fg=>(mv 1 G (aE (sr (lo aG (jw.ext (e8.t (ce.t av))) (a4 sa Aa na ca) G G G (lo aG (cd.ext (ce.t av)) (a4 sb Ab nb cb) G G G ?_)))))))))))
 have cf:ln ((x).tdiv y)≤68719476736:=a7 (gK _ _) Lx
 have cg:ln ((x).tmod y)≤68719476736:=a7 (D7 _ _) Lx
 refine cl (vs:= [O sa Aa na ca,O sb Ab nb cb]) fg (DM fg.size (hx.ext fg) (aZ la G) (hy.ext fg) (aZ lb G) h0) G (by kernel_rfl) fun _ _ kd ao kq=>?_
 obtain⟨_,_,_,rfl,⟨U,ab,aa,J,rfl,dn⟩,⟨fj,I,H,o,rfl,bj⟩,rfl⟩:=kd
 refine mv 1 G (pu (v:= O U ab aa J) G (pu (v:= O fj I H o) G (pu (v:= AI 0) G (dG [F0,S0] kq (bu.ext ao).lt (fun _=>by kernel_rfl) G fun ie _ fr jl _ ai ka=>(dG [F0,S0] ka fr.lt (fun _=>by kernel_rfl) G fun cj _ jr ib _ ah lf=>?_)))))
 have aq:=(fr.ext ah)
 refine so aG aq (a4 U ab aa J) lf jl G G G G fun _ ey ae kt=>?_
 have ak:=(jr.vN ae)
 refine so aG ak (a4 fj I H o) kt ib G G G G fun je ar ac au=>(mv 1 G (aE (aH (aH ?_))))
 by_cases hr:x.tmod y<0
 ·obtain rfl:fj=true:=by rw [bj.sgn];exact decide_eq_true hr
  refine aL (mv 1 G (pu (v:= Hs) G (mv 1 G (pf cj 0 G (aK G G (aQ fU ar G) (pu (v:= Hs) G (pu (v:= Hs) G (aE (aY G (bA (aM (aH (aH ?_)))))))))))))
  by_cases gn:y<0
  ·obtain rfl:sb=true:=by rw [hy.sgn h0];exact decide_eq_true gn
   have hq:=EF hr gn
   refine aL (pf g6 0 G (aK G G (aQ fU (((cd.ext (ce.t (av.t (ao.t (ai.t ah))))).vN ae).vN ac) G) (aE (bJ G (aH ?_)))))
   have mg:ln ((x.tdiv y)+1)≤68719476737:=a7 (k0 cf (show ln (1)≤1 by decide+kernel)) (by decide)
   have me:ln ((x.tmod y)-y)≤68719476737:=a7 (i7 cg Ly) (by decide)
   refine dP cF 6 [] [Is (O U ab aa J),ZR w.heap.size (1),ZR w.heap.size ((x.tdiv y)+1),Is (O true I H o),Is (O true Ab nb cb),ZR w.heap.size ((x.tmod y)-y)] [[],[],[0,1],[],[],[3,4]] [[],[],[0,1],[],[],[0,1,2,3,4],[0,1,2,3,4,5],[0,1,2,3,4,5,6],[0,1,2,3,4,5,6,7]] rfl
    (aD G G (aA G G ?_) (aD G G (aA G G ?_) (aD G G (aA G G ?_) (aD G G (aA G G ?_) (aD G G (aA G G ?_) (aD G G (aA G G ?_) dF)))))) ?_
   ·exact fun _ kw=>a8 (lo aG ((ey.vN ac).ext kw) (a4 U ab aa J) G G G (aC G aB G))
   ·intro _ kv
    have h:=au.trans kv
    refine a8 (cl (vs:= [AI 1]) h (lI h.size (by decide) (by decide)) G (by kernel_rfl) fun _ _ kk ks ag=>?_)
    obtain⟨_,_,_,_,rfl,ko⟩:=kk
    exact aC G ks ⟨_,_,_,_,rfl,ko⟩
   ·intro _ ir
    have h:=au.trans ir
    refine dk G G (aT G G fun _ _ ky _ kb=>?_)
    obtain⟨ke,kz,kj,li,rfl,fh⟩:=ky
    have fh:=fh.ext kb
    refine a8 ?_
    have mf:ln ((x.tdiv y)+1)≤68719476737:=a7 (k0 cf (show ln (1)≤1 by decide+kernel)) (by decide)
    refine cl (vs:= [O U ab aa J,O ke kz kj li]) h (DP h.size ((((dn.ext (ai.t ah)).updT aq ae).updT ak ac).ext ir).zi (dn.le (aZ cf G)) fh.zi (fh.le (a7 (show ln (1)≤1 by decide+kernel) (by decide)))) G (by kernel_rfl) fun _ _ lh lj ag=>?_
    obtain⟨_,_,_,_,rfl,kp⟩:=lh
    exact aC G lj ⟨_,_,_,_,rfl,kp⟩
   ·exact fun _ kx=>a8 (lo aG (ar.ext kx) (a4 true I H o) G G G (aC G aB G))
   ·exact fun _ ki=>a8 (lo aG ((((cd.ext (ce.t (av.t (ao.t (ai.t ah))))).vN ae).vN ac).ext ki) (a4 true Ab nb cb) G G G (aC G aB G))
   ·intro _ im
    have h:=au.trans im
    refine dk G G (dk G G (a8 ?_))
    have ma:ln ((x.tmod y)-y)≤68719476737:=a7 (i7 cg Ly) (by decide)
    refine cl (vs:= [O true I H o,O true Ab nb cb]) h (nO h.size ((((bj.ext (ai.t ah)).updT aq ae).updT ak ac).ext im).zi (bj.le (aZ cg G)) (hy.ext h) (aZ lb G)) G (by kernel_rfl) fun _ _ iu ic ag=>?_
    obtain⟨_,_,_,_,rfl,jq⟩:=iu
    exact aC G ic ⟨_,_,_,_,rfl,jq⟩
   ·intro _ df
    have h:=au.trans df
    refine dk G G (aT G G fun _ _ ik _ il=>?_)
    obtain⟨_,_,_,_,rfl,fo⟩:=ik
    have fo:=fo.ext il
    refine aT G G fun _ _ iq _ jg=>?_
    obtain⟨cu,dd,ez,ee,rfl,cx⟩:=iq
    have cx:=cx.ext jg
    refine dk G G (dk G G (aT G G fun _ _ ig _ ix=>?_))
    obtain⟨du,eh,fa,em,rfl,fd⟩:=ig
    have fd:=fd.ext ix
    refine a8 ?_
    have bi:=((((bw.ext (av.t (ao.t (ai.t ah)))).vN ae).vN ac).ext df)
    refine so aG bi (a4 cu dd ez ee) h cz G G G G fun _ fx co ag=>?_
    have bh:=(((((bu.ext (ao.t (ai.t ah))).vN ae).vN ac).ext df).vN co)
    refine so aG bh (a4 du eh fa em) ag dl G G G G fun _ gc fb az=>(mv 1 G (aS (dA (aM (bG (dZ (bF [O cu dd ez ee,O du eh fa em,I0] G ⟨⟨_,rfl,bY aG (fx.vN fb) (a4 cu dd ez ee) G (bq G) rfl⟩,⟨_,rfl,bY aG gc (a4 du eh fa em) G (bq G) rfl⟩,rfl,Ht⟩ ?_)))))))
    exact⟨_,rfl,⟨_,_,_,rfl,⟨_,_,_,_,rfl,(((cx.updT bi co).updT bh fb)).cast (hq.1)⟩,⟨_,_,_,_,rfl,(((fd.updT bi co).updT bh fb)).cast (hq.2)⟩,rfl⟩,az⟩
  ·obtain rfl:sb=false:=by rw [hy.sgn h0];exact decide_eq_false gn
   have hq:=EE hr (by omega)
   refine aL (pf g6 0 G (aK G G (aQ fU (((cd.ext (ce.t (av.t (ao.t (ai.t ah))))).vN ae).vN ac) G) (aE (aY G (bA (aM (aH ?_)))))))
   have ll:ln ((x.tdiv y)-1)≤68719476737:=a7 (i7 cf (show ln (1)≤1 by decide+kernel)) (by decide)
   have lu:ln ((x.tmod y)+y)≤68719476737:=a7 (k0 cg Ly) (by decide)
   refine dP cF 6 [] [Is (O U ab aa J),ZR w.heap.size (1),ZR w.heap.size ((x.tdiv y)-1),Is (O true I H o),Is (.agg #[F0,By Ab nb cb]),ZR w.heap.size ((x.tmod y)+y)] [[],[],[0,1],[],[],[3,4]] [[],[],[0,1],[],[],[0,1,2,3,4],[0,1,2,3,4,5],[0,1,2,3,4,5,6],[0,1,2,3,4,5,6,7]] rfl
    (aD G G (aA G G ?_) (aD G G (aA G G ?_) (aD G G (aA G G ?_) (aD G G (aA G G ?_) (aD G G (aA G G ?_) (aD G G (aA G G ?_) dF)))))) ?_
   ·exact fun _ jn=>a8 (lo aG ((ey.vN ac).ext jn) (a4 U ab aa J) G G G (aC G aB G))
   ·intro _ iz
    have h:=au.trans iz
    refine a8 (cl (vs:= [AI 1]) h (lI h.size (by decide) (by decide)) G (by kernel_rfl) fun _ _ jx gt ag=>?_)
    obtain⟨_,_,_,_,rfl,jy⟩:=jx
    exact aC G gt ⟨_,_,_,_,rfl,jy⟩
   ·intro _ ft
    have h:=au.trans ft
    refine dk G G (aT G G fun _ _ ii _ iv=>?_)
    obtain⟨ji,io,jh,ij,rfl,bz⟩:=ii
    have bz:=bz.ext iv
    refine a8 ?_
    have mc:ln ((x.tdiv y)-1)≤68719476737:=a7 (i7 cf (show ln (1)≤1 by decide+kernel)) (by decide)
    refine cl (vs:= [O U ab aa J,O ji io jh ij]) h (nO h.size ((((dn.ext (ai.t ah)).updT aq ae).updT ak ac).ext ft).zi (dn.le (aZ cf G)) bz.zi (bz.le (a7 (show ln (1)≤1 by decide+kernel) (by decide)))) G (by kernel_rfl) fun _ _ jf jb ag=>?_
    obtain⟨_,_,_,_,rfl,jo⟩:=jf
    exact aC G jb ⟨_,_,_,_,rfl,jo⟩
   ·exact fun _ gy=>a8 (lo aG (ar.ext gy) (a4 true I H o) G G G (aC G aB G))
   ·exact fun _ ia=>a8 (lo aG ((((cd.ext (ce.t (av.t (ao.t (ai.t ah))))).vN ae).vN ac).ext ia) [F0,By Ab nb cb] G G G (aC G aB G))
   ·intro _ fq
    have h:=au.trans fq
    refine dk G G (dk G G (a8 ?_))
    have lm:ln ((x.tmod y)+y)≤68719476737:=a7 (k0 cg Ly) (by decide)
    refine cl (vs:= [O true I H o,.agg #[F0,By Ab nb cb]]) h (DP h.size ((((bj.ext (ai.t ah)).updT aq ae).updT ak ac).ext fq).zi (bj.le (aZ cg G)) (hy.ext h) (aZ lb G)) G (by kernel_rfl) fun _ _ ju jk ag=>?_
    obtain⟨_,_,_,_,rfl,jd⟩:=ju
    exact aC G jk ⟨_,_,_,_,rfl,jd⟩
   ·intro _ eg
    have h:=au.trans eg
    refine dk G G (aT G G fun _ _ jj _ iy=>?_)
    obtain⟨_,_,_,_,rfl,fk⟩:=jj
    have fk:=fk.ext iy
    refine aT G G fun _ _ ip _ jp=>?_
    obtain⟨cn,dc,da,dw,rfl,dy⟩:=ip
    have dy:=dy.ext jp
    refine dk G G (dk G G (aT G G fun _ _ iw _ gw=>?_))
    obtain⟨dm,ew,dh,fe,rfl,dq⟩:=iw
    have dq:=dq.ext gw
    refine a8 ?_
    have bc:=((((bw.ext (av.t (ao.t (ai.t ah)))).vN ae).vN ac).ext eg)
    refine so aG bc (a4 cn dc da dw) h cz G G G G fun _ gg ep ag=>?_
    have ba:=(((((bu.ext (ao.t (ai.t ah))).vN ae).vN ac).ext eg).vN ep)
    refine so aG ba (a4 dm ew dh fe) ag dl G G G G fun _ fy cm az=>(mv 1 G (aS (dA (aM (bG (bF [O cn dc da dw,O dm ew dh fe,I0] G ⟨⟨_,rfl,bY aG (gg.vN cm) (a4 cn dc da dw) G (bq G) rfl⟩,⟨_,rfl,bY aG fy (a4 dm ew dh fe) G (bq G) rfl⟩,rfl,Ht⟩ ?_))))))
    exact⟨_,rfl,⟨_,_,_,rfl,⟨_,_,_,_,rfl,(((dy.updT bc ep).updT ba cm)).cast (hq.1)⟩,⟨_,_,_,_,rfl,(((dq.updT bc ep).updT ba cm)).cast (hq.2)⟩,rfl⟩,az⟩
 ·obtain rfl:fj=false:=by rw [bj.sgn];exact decide_eq_false hr
  refine aL (mv 1 G (pu (v:= Hs) G (mv 1 G (pf cj 0 G (aK G G (aQ fU ar G) (pu (v:= BY) G (pu (v:= BY) G (aE (bJ G (aH (bH [(0,O sa Aa na ca),(1,O sb Ab nb cb),(2,a9 g1 0),(3,a9 g6 0),(4,a9 jv 0),(5,a9 gx 0),(11,O sa Aa na ca),(12,O sb Ab nb cb),(13,.tuple #[O U ab aa J,.agg #[F0,By I H o],I0]),(10,.tuple #[O U ab aa J,.agg #[F0,By I H o],I0]),(14,O U ab aa J),(15,.agg #[F0,By I H o]),(16,AI 0),(7,a9 ie 0),(8,a9 cj 0),(9,AI 0),(17,AI 0),(18,Hs),(19,Hs),(20,a9 cj 0),(21,Hs),(22,BY),(23,BY)] ⟨rfl,rfl,rfl,rfl,rfl,rfl,rfl,rfl,rfl,rfl,rfl,rfl,rfl,rfl,rfl,rfl,rfl,rfl,rfl,rfl,rfl,rfl,rfl,Ht⟩ ?_)))))))))))
  obtain⟨fv,hv,aj⟩:∃v,v=je.drew∧Ext je v:=⟨_,rfl,(Ext.refl _).drew⟩
  have h:=au.trans aj
  have bo:=((((bw.ext (av.t (ao.t (ai.t ah)))).vN ae).vN ac).ext aj)
  obtain⟨ja,ge,fz,aw,_⟩:=jG (P:=aJ) (us:= (a4 U ab aa J)) (off:=0) aG G bo (bq G) G (a4 U ab aa J) rfl
  have ag:=aw.ext h cz
  have bg:=(((((bu.ext (ao.t (ai.t ah))).vN ae).vN ac).ext aj).vN aw)
  obtain⟨jt,gj,gk,bv,_⟩:=jG (P:=aJ) (us:= [F0,By I H o]) (off:=0) aG G bg (bq G) G [F0,By I H o] rfl
  have az:=bv.ext ag dl
  refine lK cF (w:=fv) [O U ab aa J,.agg #[F0,By I H o],I0,undef,undef,I0] [fv,ja,jt] [3,4] [[],[],[],[0],[1],[2]] [[],[],[],[0],[0,1,3],[0,1,2,3,4]] [(0,0),(1,0),(1,1),(2,0),(2,1),(2,2),(3,0),(4,1),(5,2)] G hv ?_ ?_
  ·refine aW _ G G G G G (cN G (bY aG ((ey.vN ac).ext aj) (a4 U ab aa J) G (bq G) G)) (aW _ G G G G G (cN G (bY aG (ar.ext aj) [F0,By I H o] G (bq G) G)) (aW _ G G G G G (cN G (bY aG ((ar.ext aj).vN aw) [F0,By I H o] G (bq G) G)) (aW _ G G G G G (dJ G) (aW _ G G G G G (dJ G) (aW _ G G G G G (dJ G) (gU _ G G G G G (gG G G ge) (gU _ G G G G G (gG G G gj) (aW _ G G G G G (wM G) ?_))))))))
   exact lJ
  clear hv
  refine kA [(0,O sa Aa na ca),(1,O sb Ab nb cb),(2,a9 g1 0),(3,a9 g6 0),(4,a9 jv 0),(5,a9 gx 0),(11,O sa Aa na ca),(12,O sb Ab nb cb),(13,.tuple #[O U ab aa J,.agg #[F0,By I H o],I0]),(10,.tuple #[O U ab aa J,.agg #[F0,By I H o],I0]),(14,O U ab aa J),(15,.agg #[F0,By I H o]),(16,AI 0),(7,a9 ie 0),(8,a9 cj 0),(9,AI 0),(17,AI 0),(18,Hs),(19,Hs),(20,a9 cj 0),(21,Hs),(22,BY),(23,BY),(24,O U ab aa J),(25,.agg #[F0,By I H o]),(26,AI 0),(6,AI 0)] ⟨rfl,rfl,rfl,rfl,rfl,rfl,rfl,rfl,rfl,rfl,rfl,rfl,rfl,rfl,rfl,rfl,rfl,rfl,rfl,rfl,rfl,rfl,rfl,rfl,rfl,rfl,rfl,Ht⟩ (aM (bG (dZ (bF [O U ab aa J,.agg #[F0,By I H o],I0] G ⟨⟨_,rfl,bY aG (fz.vN bv) (a4 U ab aa J) G (bq G) rfl⟩,⟨_,rfl,bY aG gk [F0,By I H o] G (bq G) rfl⟩,rfl,Ht⟩ ?_))))
  exact⟨_,rfl,⟨_,_,_,rfl,⟨_,_,_,_,rfl,(((((((dn.ext (ai.t ah)).updT aq ae).updT ak ac).ext aj).updT bo aw).updT bg bv)).cast ((yA).1)⟩,⟨_,_,_,_,rfl,(((((((bj.ext (ai.t ah)).updT aq ae).updT ak ac).ext aj).updT bo aw).updT bg bv)).cast ((yA).2)⟩,rfl⟩,az⟩
theorem MM {nb:Nat}(hb:b≤w.heap.size)(hx:Zi w sa Aa na ca x)(la:na≤68719476736)(hy:Zi w sb Ab nb cb y)(lb:nb≤68719476736)(h0:y≠0):aR aJ 119 #[O sa Aa na ca,O sb Ab nb cb] w (Gv w (T3 (ZR b (x/y)) (ZR b (x%y)) (Is (AI 0)))):=(ML hx la hy lb h0).mono (Gv.imp (T3.imp (ZR.imp hb) (ZR.imp hb) Is.imp))
theorem Zi.sg_ (h:Zi w s A n c z):sg s z.natAbs=z:=by
 obtain⟨xs,_,rfl⟩:=h
 rw [jF]
theorem LF (x y:Int):ln (x/y)≤ln x+1:=by
 by_cases h:x.tmod y<0
 ·rcases Int.lt_trichotomy y 0 with o | o | o
  ·rw [←(EF h o).1]
   exact a7 (k0 (gK x y) (aI _)) (by
    have H:x≠0:=fun e=>by subst e;simp at h
    have I:ln 1=1:=tL
    have J:0<ln x:=by
     refine Nat.pos_of_ne_zero fun e=>H ?_
     have:=k9.1 (show (wd x.natAbs).length=0 from e)
     omega
    omega)
  ·subst o;simp [D6]
  ·rw [←(EE h o).1]
   exact a7 (i7 (gK x y) (aI _)) (by
    have H:x≠0:=fun e=>by subst e;simp at h
    have I:ln 1=1:=tL
    have J:0<ln x:=by
     refine Nat.pos_of_ne_zero fun e=>H ?_
     have:=k9.1 (show (wd x.natAbs).length=0 from e)
     omega
    omega)
 ·rw [←(yA).1]
  exact a7 (gK x y) (Nat.le_succ _)
theorem xK (h:y≠0):ln (x%y)≤ln y:=by
 refine fJ ?_
 have o:=oB x h
 have H:=Int.emod_lt x h
 omega
theorem MJ {nb:Nat}(hx:Zi w sa Aa na ca x)(la:na≤68719476736)(hy:Zi w sb Ab nb cb y)(lb:nb≤68719476736)(h0:y≠0):aR aJ 118 #[O sa Aa na ca,O sb Ab nb cb] w (Gv w (T2 (ZR w.heap.size (x%y)) (Is (AI 0)))):=by
 have Lx:ln x≤68719476736:=a7 hx.ln la
 have Ly:ln y≤68719476736:=a7 hy.ln lb
 refine bQ Tryz.func118 G (n:=18) G (bq G) (args:= [O sa Aa na ca,O sb Ab nb cb]) (bH [(0,O sa Aa na ca),(1,O sb Ab nb cb)] ⟨rfl,rfl,Ht⟩ (sr (bx (a4 sa Aa na ca) aB G G G fun _ _ bi _ _ ce=>(mN (a4 sb Ab nb cb) ce bi.lt G G G fun _ _ ar _ _ e8 bw=>(dG [F0,S0] bw ar.lt (fun _=>by kernel_rfl) G fun _ _ ac au _ ak J=>(mv 1 G (aE (sr (lo aG (bi.ext (e8.t ak)) (a4 sa Aa na ca) G G G (lo aG (ar.ext ak) (a4 sb Ab nb cb) G G G ?_))))))))))
 have cn:ln (x/y)≤68719476737:=a7 (LF _ _) (Nat.succ_le_succ Lx)
 have co:ln (x%y)≤68719476736:=a7 (xK h0) Ly
 refine cl (vs:= [O sa Aa na ca,O sb Ab nb cb]) J (MM J.size (hx.ext J) (aZ la G) (hy.ext J) (aZ lb G) h0) G (by kernel_rfl) fun _ _ cf bj bu=>?_
 obtain⟨_,_,_,rfl,⟨aw,az,aq,ba,rfl,_⟩,⟨H,o,I,h,rfl,cg⟩,rfl⟩:=cf
 refine mv 1 G (pu (v:= O aw az aq ba) G (pu (v:= O H o I h) G (pu (v:= AI 0) G (dG [F0,S0] bu (ac.ext bj).lt (fun _=>by kernel_rfl) G fun _ _ U bg _ bc cj=>(dG [F0,S0] cj U.lt (fun _=>by kernel_rfl) G fun _ _ av ao _ ah bo=>?_)))))
 have ae:=(U.ext ah)
 refine so aG ae (a4 aw az aq ba) bo bg G G G G fun _ _ ag cd=>?_
 have ab:=(av.vN ag)
 refine so aG ab (a4 H o I h) cd ao G G G G fun _ bh ai cm=>(mv 1 G (aE (sr (lo aG bh (a4 H o I h) G G G (mv 1 G ?_)))))
 have aa:=(((ac.ext (bj.t (bc.t ah))).vN ag).vN ai)
 refine so aG aa (a4 H o I h) cm au G G G G fun _ aj bz bv=>(mv 1 G (aE (bG (bF [O H o I h,I0] G ⟨⟨_,rfl,bY aG aj (a4 H o I h) G (bq G) rfl⟩,rfl,Ht⟩ ?_))))
 exact⟨_,rfl,⟨_,_,rfl,⟨_,_,_,_,rfl,((((cg.ext (bc.t ah)).updT ae ag).updT ab ai).updT aa bz)⟩,rfl⟩,bv⟩
theorem DN {nb:Nat}(hb:b≤w.heap.size)(hx:Zi w sa Aa na ca x)(la:na≤68719476736)(hy:Zi w sb Ab nb cb y)(lb:nb≤68719476736)(h0:y≠0):aR aJ 118 #[O sa Aa na ca,O sb Ab nb cb] w (Gv w (T2 (ZR b (x%y)) (Is (AI 0)))):=(MJ hx la hy lb h0).mono (Gv.imp (T2.imp (ZR.imp hb) Is.imp))
theorem MK {nb:Nat}(hx:Zi w sa Aa na ca x)(la:na≤68719476736)(hy:Zi w sb Ab nb cb y)(lb:nb≤68719476736)(h0:y≠0)(hd:x.natAbs%y.natAbs=0):aR aJ 40 #[O sa Aa na ca,O sb Ab nb cb] w (Gv w (T2 (ZR w.heap.size (x.tdiv y)) (Is (AI 0)))):=by
 have Lx:ln x≤68719476736:=a7 hx.ln la
 have Ly:ln y≤68719476736:=a7 hy.ln lb
 refine bQ Tryz.func40 G (n:=27) G (bq G) (args:= [O sa Aa na ca,O sb Ab nb cb]) (bH [(0,O sa Aa na ca),(1,O sb Ab nb cb)] ⟨rfl,rfl,Ht⟩ (sr (bx (a4 sa Aa na ca) aB G G G fun g1 _ ae _ _ ba=>(mN (a4 sb Ab nb cb) ba ae.lt G G G fun g6 _ I _ _ e8 az=>(dG [F0,S0] az I.lt (fun _=>by kernel_rfl) G fun _ _ aj ah _ h o=>(mv 1 G (aE (sr (pf g1 1 G (aK G G (aQ fT (ae.ext (e8.t h)) G) (pf g6 1 G (aK G G (aQ fT (I.ext h) G) ?_))))))))))))
 have L1:(wd (x.natAbs/y.natAbs)).length≤68719476736:=a7 (nL (iM _ _)) Lx
 refine cl (vs:= [By Aa na ca,By Ab nb cb]) o (OG o.size (hx.ext o).wi (aZ la G) (hy.ext o).wi (aZ lb G) (by omega) hd) G (by kernel_rfl) fun _ _ bc aa ar=>?_
 obtain⟨_,_,rfl,⟨ag,ai,ao,rfl,aw,bg⟩,rfl⟩:=bc
 refine mv 1 G (pu (v:= By ag ai ao) G (pu (v:= AI 0) G (mv 2 G (aE (aH (sr (mv 1 G (pu (v:= Hs) G (aE (aY G (bA (aM (aH ?_)))))))))))))
 refine aL (pf g1 0 G (aK G G (aQ fU (ae.ext (e8.t (h.t aa))) G) (pf g6 0 G (aK G G (aQ fU (I.ext (h.t aa)) G) (pu (v:= .bool (!(sa==sb))) G (mv 1 G ?_))))))
 have bw:ln (sg (!(sa==sb)) (Int.natAbs x/Int.natAbs y))≤68719476736:=(show (wd (sg _ _).natAbs).length≤_ by rw [jF];exact L1)
 refine cl (vs:= [.bool (!(sa==sb)),By ag ai ao]) ar (MI aw bg) G (by kernel_rfl) fun _ _ au bi bh=>?_
 obtain⟨ab,J,U,ac,rfl,av⟩:=au
 have H:=(aj.ext (aa.t bi))
 refine so aG H (a4 ab J U ac) bh ah G G G G fun _ ak bj aq=>(mv 1 G (aE (bG (bF [O ab J U ac,I0] G ⟨⟨_,rfl,bY aG ak (a4 ab J U ac) G (bq G) rfl⟩,rfl,Ht⟩ ?_))))
 exact⟨_,rfl,⟨_,_,rfl,⟨_,_,_,_,rfl,((av.updT H bj)).cast (by rw [show (!(sa==sb))=(sa != sb) from rfl,wD,hx.sg_,hy.sg_])⟩,rfl⟩,aq⟩
theorem qL {nb:Nat}(hb:b≤w.heap.size)(hx:Zi w sa Aa na ca x)(la:na≤68719476736)(hy:Zi w sb Ab nb cb y)(lb:nb≤68719476736)(h0:y≠0)(hd:x.natAbs%y.natAbs=0):aR aJ 40 #[O sa Aa na ca,O sb Ab nb cb] w (Gv w (T2 (ZR b (x.tdiv y)) (Is (AI 0)))):=(MK hx la hy lb h0 hd).mono (Gv.imp (T2.imp (ZR.imp hb) Is.imp))
structure ZC where
 s:Bool
 A:Option a6
 n:Nat
 c:Nat
theorem tM (x y:Int):ln (Int.gcd x y:Int)≤max (ln x) (ln y):=by
 by_cases h:x=0
 ·subst h
  rw [Int.gcd_zero_left]
  refine a7 (fJ (x:=(y.natAbs:Int)) (y:=y) (by simp)) (Nat.le_max_right _ _)
 ·refine a7 (fJ (y:=x) ?_) (Nat.le_max_left _ _)
  rw [Int.natAbs_natCast]
  exact Nat.le_of_dvd (by omega) (Int.gcd_dvd_natAbs_left x y)
theorem LR (h:(Int.gcd x y:Int)≠0):(Int.natAbs (x.tdiv (Int.gcd x y:Int)*y):Int)=(Int.lcm x y:Int):=by
 have o:0<Int.gcd x y:=by omega
 have e:(Int.natAbs (x.tdiv (Int.gcd x y:Int)*y))=Int.lcm x y:=by
  rw [Int.natAbs_mul,Int.natAbs_tdiv,Int.natAbs_natCast]
  unfold Int.lcm Nat.lcm Int.gcd
  show x.natAbs/_*y.natAbs=_
  rw [cY,←Nat.mul_div_assoc _ (Nat.gcd_dvd_left _ _),cY]
 rw [e]
theorem MH (x y:Int):x.natAbs%(Int.gcd x y:Int).natAbs=0:=by
 rw [Int.natAbs_natCast]
 exact Nat.mod_eq_zero_of_dvd (Int.gcd_dvd_natAbs_left x y)
theorem OL {nb:Nat}(hb:b≤w.heap.size)(hx:Zi w sa Aa na ca x)(la:na≤17179869184)(hy:Zi w sb Ab nb cb y)(lb:nb≤17179869184):aR aJ 76 #[O sa Aa na ca,O sb Ab nb cb] w (Gv w (ZR b ((Int.lcm x y:Int)))):=by
 refine Calls.mono (R:=Gv w (ZR w.heap.size ((Int.lcm x y:Int)))) ?_ (Gv.imp (ZR.imp hb))
 have Lx:ln x≤17179869184:=a7 hx.ln la
 have Ly:ln y≤17179869184:=a7 hy.ln lb
 refine bQ Tryz.func76 G (n:=25) G (bq G) (args:= [O sa Aa na ca,O sb Ab nb cb]) (bH [(0,O sa Aa na ca),(1,O sb Ab nb cb)] ⟨rfl,rfl,Ht⟩ (sr (bx (a4 sa Aa na ca) aB G G G fun _ _ ce _ _ dy=>(mN (a4 sb Ab nb cb) dy ce.lt G G G fun _ _ bw _ _ e8 dn=>(dG [F0,S0] dn bw.lt (fun _=>by kernel_rfl) G fun _ _ ah bc _ ak ao=>(aE (sr (lo aG (ce.ext (e8.t ak)) (a4 sa Aa na ca) G G G (lo aG (bw.ext ak) (a4 sb Ab nb cb) G G G ?_)))))))))
 have bz:ln ((Int.gcd x y:Int))≤17179869184:=a7 (tM _ _) (Nat.max_le.2 ⟨a7 Lx (by decide),a7 Ly (by decide)⟩)
 refine cl (vs:= [O sa Aa na ca,O sb Ab nb cb]) ao (E7 ao.size (hx.ext ao) (aZ la G) (hy.ext ao) (aZ lb G)) G (by kernel_rfl) fun _ _ eg ag dl=>?_
 obtain⟨U,h,H,o,rfl,ac⟩:=eg
 refine dG [F0,S0] dl (ah.ext ag).lt (fun _=>by kernel_rfl) G fun _ _ ab cu _ J fe=>(so aG ab (a4 U h H o) fe cu G G G G fun _ aa I cj=>(aE (aH (aH ?_))))
 by_cases hg:(Int.gcd x y:Int)=0
 ·have hl:(0:Int)=(Int.lcm x y:Int):=by unfold Int.lcm Nat.lcm;have h1:Nat.gcd x.natAbs y.natAbs=0:=(by exact_mod_cast hg);rw [h1];simp
  refine aL (lo aG aa (a4 U h H o) G G G (cl (vs:= [O U h H o]) cj (f8 ((ac.ext J).updT ab I).zi (ac.le (aZ bz G))) G (by kernel_rfl) fun _ em dh ep ai=>?_))
  obtain rfl:=dh
  refine aN G G G true (pZ hg) (aE (bJ G (sr (pu (v:= .agg #[F0,S0]) G ?_))))
  have az:=(((ah.ext (ag.t J)).vN I).ext ep)
  refine so aG az [F0,S0] ai bc G G G G fun _ dc dw cf=>(aE (bG (dZ (bF [.agg #[F0,S0]] G ⟨⟨_,rfl,bY aG dc [F0,S0] G (bq G) rfl⟩,Ht⟩ ?_))))
  exact⟨_,rfl,⟨_,_,_,_,rfl,(((Zr.zero (w:=em) (base:=w.heap.size)).updT az dw)).cast (hl)⟩,cf⟩
 ·refine aL (lo aG aa (a4 U h H o) G G G (cl (vs:= [O U h H o]) cj (f8 ((ac.ext J).updT ab I).zi (ac.le (aZ bz G))) G (by kernel_rfl) fun _ _ eh ae ai=>?_))
  obtain rfl:=eh
  refine aN G G G false (qA hg) (aE (aY G (bA (aM (sr (lo aG (((ce.ext (e8.t (ak.t (ag.t J)))).vN I).ext ae) (a4 sa Aa na ca) G G G (lo aG (aa.ext ae) (a4 U h H o) G G G ?_)))))))
  have df:ln (x.tdiv (Int.gcd x y:Int))≤17179869184:=a7 (gK _ _) Lx
  refine cl (vs:= [O sa Aa na ca,O U h H o]) ai (qL ai.size (hx.ext ai) (aZ la G) (((ac.ext J).updT ab I).ext ae).zi (ac.le (aZ bz G)) hg (MH x y)) G (by kernel_rfl) fun _ _ fh bu cf=>?_
  obtain⟨_,_,rfl,⟨av,au,ar,aq,rfl,cn⟩,rfl⟩:=fh
  refine mv 1 G (pu (v:= O av au ar aq) G (pu (v:= AI 0) G (dG [F0,S0] cf (aa.ext (ae.t bu)).lt (fun _=>by kernel_rfl) G fun _ _ bg co _ bo dm=>(so aG bg (a4 av au ar aq) dm co G G G G fun _ cm cd aj=>(mv 1 G (aE (sr (lo aG cm (a4 av au ar aq) G G G (lo aG ((((bw.ext (ak.t (ag.t J))).vN I).ext (ae.t (bu.t bo))).vN cd) (a4 sb Ab nb cb) G G G ?_)))))))))
  have cg:ln ((x.tdiv (Int.gcd x y:Int))*y)≤34359738368:=a7 (eX df Ly) (by decide)
  refine cl (vs:= [O av au ar aq,O sb Ab nb cb]) aj (iU aj.size ((cn.ext bo).updT bg cd).zi (cn.le (aZ df G)) (hy.ext aj) (aZ lb G)) G (by kernel_rfl) fun _ _ ew fg ba=>?_
  obtain⟨du,fb,ez,fa,rfl,cz⟩:=ew
  have fo:ln ((Int.natAbs ((x.tdiv (Int.gcd x y:Int))*y):Int))≤34359738368:=(by rw [k8];exact cg)
  refine cl (vs:= [O du fb ez fa]) ba (oX ba.size cz.zi (cz.le (aZ cg G))) G (by kernel_rfl) fun _ _ fd ey dd=>?_
  obtain⟨bh,bv,bi,bj,rfl,ee⟩:=fd
  have aw:=(((((ah.ext (ag.t J)).vN I).ext (ae.t (bu.t bo))).vN cd).ext (fg.t ey))
  refine so aG aw (a4 bh bv bi bj) dd bc G G G G fun _ da dq cx=>(aE (bG (bF [O bh bv bi bj] G ⟨⟨_,rfl,bY aG da (a4 bh bv bi bj) G (bq G) rfl⟩,Ht⟩ ?_)))
  exact⟨_,rfl,⟨_,_,_,_,rfl,((ee.updT aw dq)).cast (LR hg)⟩,cx⟩
structure ExtI (x y r0 r1 m0 m1:Int):Prop where
 nn0:0≤r0
 nn1:0≤r1
 gcd:Int.gcd r0 r1=Int.gcd x y
 d0:y∣r0-m0*x.natAbs
 d1:y∣r1-m1*x.natAbs
 bal:m1.natAbs*r0.natAbs+m0.natAbs*r1.natAbs=y.natAbs
 sgn:m0*m1≤0
 b0:r0.natAbs≤max x.natAbs y.natAbs
 b1:r1.natAbs≤y.natAbs
 mb0:m0.natAbs≤y.natAbs
 mb1:m1.natAbs≤y.natAbs
theorem ExtI.init (h:y≠0):ExtI x y x.natAbs y.natAbs 1 0 where
 nn0:=by omega
 nn1:=by omega
 gcd:=by simp [Int.gcd]
 d0:=by simp
 d1:=by
  rw [Int.zero_mul,Int.sub_zero]
  exact Int.dvd_natAbs.2 (Int.dvd_refl y)
 bal:=by simp
 sgn:=by decide
 b0:=by rw [Int.natAbs_natCast];exact Nat.le_max_left _ _
 b1:=by simp
 mb0:=by show 1≤_;omega
 mb1:=by simp
theorem KF {a b c:Int}(h:a*b≤0)(hc:0≤c):(a-c*b).natAbs=a.natAbs+c.natAbs*b.natAbs:=by
 rw [←Int.natAbs_mul]
 have H:a*(c*b)≤0:=by
  have:a*(c*b)=c*(a*b):=by grind
  rw [this]
  exact Int.mul_nonpos_of_nonneg_of_nonpos hc h
 rcases Int.lt_trichotomy a 0 with o | o | o
 ·have:0≤c*b:=by
   refine Int.le_of_not_gt fun hl=>?_
   have:=Int.mul_pos_of_neg_of_neg o hl
   omega
  omega
 ·subst o;simp
 ·have:c*b≤0:=by
   refine Int.le_of_not_gt fun hl=>?_
   have:=Int.mul_pos o hl
   omega
  omega
theorem ExtI.step {r1 m1:Int}(h:ExtI x y r0 r1 m0 m1)(hr:r1≠0):ExtI x y r1 (r0.tmod r1) m1 (m0-r0.tdiv r1*m1):=by
 have e:=Int.tdiv_mul_add_tmod r0 r1
 have nn:=Int.tmod_nonneg r1 h.nn0
 have H:0≤r0.tdiv r1:=Int.tdiv_nonneg h.nn0 h.nn1
 have U:r0.tmod r1<r1:=Int.tmod_lt_of_pos _ (by have:=h.nn1;omega)
 have J:=KF h.sgn H
 have o:(m0-r0.tdiv r1*m1).natAbs*r1.natAbs+m1.natAbs*(r0.tmod r1).natAbs=y.natAbs:=by
  rw [J,←h.bal]
  have e2:r0.natAbs=(r0.tdiv r1).natAbs*r1.natAbs+(r0.tmod r1).natAbs:=by
   rw [←Int.natAbs_mul,←Int.natAbs_add_of_nonneg (Int.mul_nonneg H h.nn1) nn,e]
  rw [e2]
  grind
 refine⟨h.nn1,nn,?_,h.d1,?_,o,?_,a7 h.b1 (Nat.le_max_right _ _),?_,h.mb1,?_⟩
 ·rw [←h.gcd]
  have:Int.gcd r0 r1=Int.gcd (r0.tmod r1+r1*r0.tdiv r1) r1:=by
   congr 1
   rw [Int.mul_comm];omega
  rw [this,Int.gcd_add_mul_left_left,Int.gcd_comm]
 ·have e3:r0.tmod r1-(m0-r0.tdiv r1*m1)*x.natAbs=(r0-m0*x.natAbs)-r0.tdiv r1*(r1-m1*x.natAbs):=by
   have:r0.tmod r1=r0-r0.tdiv r1*r1:=by omega
   rw [this];grind
  rw [e3]
  exact Int.dvd_sub h.d0 (Int.dvd_mul_of_dvd_right h.d1)
 ·have e4:m1*(m0-r0.tdiv r1*m1)=m0*m1-r0.tdiv r1*(m1*m1):=by grind
  rw [e4]
  have I:0≤m1*m1:=by
   rcases Int.le_total 0 m1 with h | h
   ·exact Int.mul_nonneg h h
   ·exact Int.mul_nonneg_of_nonpos_of_nonpos h h
  have:=Int.mul_nonneg H I
  have:=h.sgn
  omega
 ·have:=h.b1
  have h2:(r0.tmod r1).natAbs≤r1.natAbs:=by omega
  omega
 ·have I:1≤r1.natAbs:=by omega
  have h2:(m0-r0.tdiv r1*m1).natAbs≤(m0-r0.tdiv r1*m1).natAbs*r1.natAbs:=Nat.le_mul_of_pos_right _ I
  omega
structure Bez (x y u v:Int):Prop where
 zero:y=0→u=x.sign∧v=0
 eq:x*u+y*v=Int.gcd x y
 lo:y≠0→0≤u
 hi:y≠0→u*Int.gcd x y<y.natAbs
theorem ExtI.done {m1:Int}(h:ExtI x y r0 0 m0 m1)(hy:y≠0)(hz:z=if x<0 then-m0 else m0):r0=(Int.gcd x y:Int)∧r0≠0∧y.tdiv r0≠0∧y.natAbs%r0.natAbs=0∧(r0-x*(z%y.tdiv r0)).natAbs%y.natAbs=0∧Bez x y (z%y.tdiv r0) ((r0-x*(z%y.tdiv r0)).tdiv y):=by
 have hg:=h.gcd
 rw [Int.gcd_zero_right] at hg
 have e0:r0=(Int.gcd x y:Int):=by have:=h.nn0;omega
 have ae:0<Int.gcd x y:=Int.gcd_pos_of_ne_zero_right x hy
 have U:r0≠0:=by omega
 obtain⟨p,J⟩:=Int.gcd_dvd_right x y
 obtain⟨q,hq⟩:=Int.gcd_dvd_left x y
 rw [←e0] at J hq
 have I:y.tdiv r0=p:=by rw [J];exact Int.mul_tdiv_cancel_left _ U
 have H:p≠0:=fun e=>hy (by rw [J,e,Int.mul_zero])
 have ab:y∣r0-x*z:=by
  have hd:=h.d0
  have hx:x*z=m0*x.natAbs:=by
   rw [hz]
   by_cases hn:x<0
   ·rw [if_pos hn]
    have:(x.natAbs:Int)= -x:=by omega
    rw [this];grind
   ·rw [if_neg hn]
    have:(x.natAbs:Int)=x:=by omega
    rw [this];grind
  rw [hx];exact hd
 have hm:=Int.mul_ediv_add_emod z p
 have o:y∣r0-x*(z%p):=by
  have e1:r0-x*(z%p)=(r0-x*z)+y*(q*(z/p)):=by
   have e2:z%p=z-p*(z/p):=by omega
   have e3:x*(p*(z/p))=y*(q*(z/p)):=by
    calc x*(p*(z/p))=(r0*q)*(p*(z/p)):=by rw [←hq]
     _=(r0*p)*(q*(z/p)):=by grind
     _=y*(q*(z/p)):=by rw [←J]
   rw [e2,Int.mul_sub,e3]
   omega
  rw [e1]
  exact Int.dvd_add ab (Int.dvd_mul_right _ _)
 refine⟨e0,U,by rw [I];exact H,?_,?_,?_⟩
 ·refine Nat.mod_eq_zero_of_dvd (Int.natAbs_dvd_natAbs.2 ⟨p,J⟩)
 ·rw [I]
  exact Nat.mod_eq_zero_of_dvd (Int.natAbs_dvd_natAbs.2 o)
 ·rw [I]
  refine⟨fun e=>absurd e hy,?_,fun _=>oB _ H,fun _=>?_⟩
  ·have:=Int.mul_tdiv_cancel' o
   rw [←e0]
   omega
  ·rw [←e0]
   have h1:=Int.emod_lt z H
   have h2:(z%p)*r0<p.natAbs*r0:=Int.mul_lt_mul_of_pos_right h1 (by omega)
   have h3:(y.natAbs:Int)=p.natAbs*r0:=by
    rw [J,Int.natAbs_mul]
    have:(r0.natAbs:Int)=r0:=by omega
    rw [jA,this,Int.mul_comm]
   omega
theorem J6 (x:Int):bU x 0=x.sign:=by
 unfold bU
 rcases Int.lt_trichotomy x 0 with h | h | h
 ·rw [if_pos h,Int.sign_eq_neg_one_of_neg h]
 ·subst h;rfl
 ·rw [if_neg (by omega),if_neg (by omega),Int.sign_eq_one_of_pos h]
theorem qJ (h1: -18446744073709551615≤x)(h2:x≤18446744073709551615):ln x≤1:=jK (by rw [cQ,Nat.pow_one];omega)
theorem BT (x y:Int): -9223372036854775808≤bU x y∧bU x y≤9223372036854775807:=by have:=JB x y;omega
theorem LC {a b c:Int}(h:a.natAbs≤max b.natAbs c.natAbs)(hb:ln b≤N)(hc:ln c≤N):ln a≤N:=by
 rcases Nat.le_total b.natAbs c.natAbs with o | o
 ·exact a7 (fJ (by omega)) hc
 ·exact a7 (fJ (by omega)) hb
theorem Bez.ofZero (h:y=0):Bez x y x.sign 0:=by
 subst h
 refine⟨fun _=>⟨rfl,rfl⟩,?_,fun h=>absurd G h,fun h=>absurd G h⟩
 rw [Int.mul_zero,Int.add_zero,Int.gcd_zero_right]
 rcases Int.lt_trichotomy x 0 with h | h | h
 ·rw [Int.sign_eq_neg_one_of_neg h];omega
 ·subst h;rfl
 ·rw [Int.sign_eq_one_of_pos h];omega
theorem OM {nb:Nat}(hb:b≤w.heap.size)(hx:Zi w sa Aa na ca x)(la:na≤17179869184)(hy:Zi w sb Ab nb cb y)(lb:nb≤17179869184):aR aJ 106 #[O sa Aa na ca,O sb Ab nb cb] w (fun e w'=>∃u v,Bez x y u v∧Gv w (TE (ZR b (Int.gcd x y:Int)) (ZR b u) (ZR b v)) e w'):=by
 refine Calls.mono (R:=fun e w'=>∃u v,Bez x y u v∧Gv w (TE (ZR w.heap.size (Int.gcd x y:Int)) (ZR w.heap.size u) (ZR w.heap.size v)) e w') ?_ (fun e _ h=>(by obtain⟨u,v,h1,h2⟩:=h;exact⟨u,v,h1,Gv.imp (TE.imp (ZR.imp hb) (ZR.imp hb) (ZR.imp hb)) _ _ h2⟩))
 have Lx:ln x≤17179869184:=a7 hx.ln la
 have Ly:ln y≤17179869184:=a7 hy.ln lb
 refine bQ Tryz.func106 G (n:=94) G (bq G) (args:= [O sa Aa na ca,O sb Ab nb cb]) (bH [(0,O sa Aa na ca),(1,O sb Ab nb cb)] ⟨rfl,rfl,Ht⟩ (sr (bx (a4 sa Aa na ca) aB G G G fun g1 _ pb _ _ qd=>(mN (a4 sb Ab nb cb) qd pb.lt G G G fun g6 _ on _ _ e8 mj=>(dG [F0,S0] mj on.lt (fun _=>by kernel_rfl) G fun ka _ ox lw _ kp mt=>(dG [F0,S0] mt ox.lt (fun _=>by kernel_rfl) G fun jv _ oo ip _ je nh=>(dG [F0,S0] nh oo.lt (fun _=>by kernel_rfl) G fun jd _ oe kw _ ie ig=>(aE (aH (aH ?_))))))))))
 by_cases h0:y=0
 ·refine aL (lo aG (on.ext (kp.t (je.t ie))) (a4 sb Ab nb cb) G G G (cl (vs:= [O sb Ab nb cb]) ig (f8 (hy.ext ig) (aZ lb G)) G (by kernel_rfl) fun _ Ge Gk nx fd=>?_))
  obtain rfl:=Gk
  refine aN G G G true (pZ h0) (aE (bJ G (aH ?_)))
  have Hj:ln ((Int.natAbs x:Int))≤17179869184:=(by rw [k8];exact Lx)
  refine tY cF 6 [5] [1,4] [Is (O sa Aa na ca),ZR w.heap.size ((Int.natAbs x:Int)),Is (O sa Aa na ca),Is (AI (bU x 0)),ZR w.heap.size (bU x 0),Is (.agg #[F0,S0])] [[],[0],[],[2],[3],[]] [[],[0],[],[0,1,2],[0,1,2,3],[],[0,1,2,3,4],[0,1,2,3,4,6],[0,1,2,3,4,5,6,7]] G G ⟨fun _ _ h=>ZR.old h,fun _ _ h=>ZR.old h,Ht⟩
   (aD G G (aA G G ?_) (aD G G (xT (fun _ _ h=>h) G ?_) (aD G G (aA G G ?_) (aD G G (aA G G ?_) (aD G G (xT (fun _ _ h=>h) G ?_) (gH G G (gM G ?_) dF)))))) ?_
  ·exact fun _ Gc=>a8 (lo aG (pb.ext (e8.t (kp.t (je.t (ie.t (nx.t Gc)))))) (a4 sa Aa na ca) G G G (aC G aB G))
  ·intro _ Gg
   have ar:=fd.trans Gg
   refine dk G G (a8 ?_)
   have Hk:ln ((Int.natAbs x:Int))≤17179869184:=(by rw [k8];exact Lx)
   refine cl (vs:= [O sa Aa na ca]) ar (oX (aI _) (hx.ext ar) (aZ la G)) G (by kernel_rfl) fun _ _ Ga Gl bu=>?_
   obtain⟨_,_,_,_,rfl,Ce⟩:=Ga
   exact aC G Gl ⟨⟨_,_,_,_,rfl,Ce.mono ar.size⟩,Ce.new⟩
  ·exact fun _ Fx=>a8 (lo aG (pb.ext (e8.t (kp.t (je.t (ie.t (nx.t Fx)))))) (a4 sa Aa na ca) G G G (aC G aB G))
  ·intro _ Gj
   have ar:=fd.trans Gj
   refine dk G G (a8 (cl (vs:= [O sa Aa na ca]) ar (f8 (hx.ext ar) (aZ la G)) G (by kernel_rfl) fun _ _ Gd Gb bu=>?_))
   obtain rfl:=Gd
   exact aC G Gb rfl
  ·intro _ Fz
   have ar:=fd.trans Fz
   refine dk G G (a8 (cl (vs:= [AI (bU x 0)]) ar (lI (aI _) (BT _ _).1 (BT _ _).2) G (by kernel_rfl) fun _ _ Fy Gi bu=>?_))
   obtain⟨_,_,_,_,rfl,Fn⟩:=Fy
   exact aC G Gi ⟨⟨_,_,_,_,rfl,Fn.mono ar.size⟩,Fn.new⟩
  ·exact fun _ _=>a8 (⟨.agg #[F0,S0],rfl,rfl,fun _=>by kernel_rfl,rfl⟩)
  ·intro _ pk
   have ar:=fd.trans pk
   refine dk G G (aT G G fun _ _ Gh _ Gf=>?_)
   obtain⟨vv,wg,ww,vj,rfl,wu⟩:=Gh
   have wu:=wu.ext Gf
   refine dk G G (dk G G (aT G G fun _ _ Ci _ Fd=>?_))
   obtain⟨oy,oz,px,nf,rfl,nd⟩:=Ci
   have nd:=nd.ext Fd
   refine dk G G (a8 ?_)
   intro my
   have vg:=my 1 (by decide) 4 (by decide) (by decide) _ _ G G _ _ G rfl
   clear my
   have jt:=(ox.ext (je.t (ie.t (nx.t pk))))
   refine so aG jt (a4 vv wg ww vj) ar lw G G G G fun _ wm ll bu=>?_
   have jy:=((oo.ext (ie.t (nx.t pk))).vN ll)
   refine so aG jy (a4 oy oz px nf) bu ip G G G G fun _ xd kq gy=>?_
   have jz:=(((oe.ext (nx.t pk)).vN ll).vN kq)
   refine so aG jz [F0,S0] gy kw G G G G fun _ xc lm gk=>(aS (dA (aM (bG (dZ (bF [O vv wg ww vj,O oy oz px nf,.agg #[F0,S0]] G ⟨⟨_,rfl,bY aG ((wm.vN kq).vN lm) (a4 vv wg ww vj) G (bq G) rfl⟩,⟨_,rfl,bY aG (xd.vN lm) (a4 oy oz px nf) G (bq G) rfl⟩,⟨_,rfl,bY aG xc [F0,S0] G (bq G) rfl⟩,Ht⟩ ?_))))))
   exact⟨_,_,Bez.ofZero h0,_,rfl,⟨_,_,_,rfl,⟨_,_,_,_,rfl,((((wu.updT jt ll).updT jy kq).updT jz lm)).cast (by subst h0;simp)⟩,⟨_,_,_,_,rfl,((((nd.updT jt ll).updT jy kq).updT jz lm)).cast (J6 x)⟩,⟨_,_,_,_,rfl,(((((Zr.zero (w:=Ge) (base:=w.heap.size)).ext pk).updT jt ll).updT jy kq).updT jz lm)⟩,vg,fun _ _ h=>DG h,fun _ _ h=>DG h⟩,gk⟩
 ·refine aL (lo aG (on.ext (kp.t (je.t ie))) (a4 sb Ab nb cb) G G G (cl (vs:= [O sb Ab nb cb]) ig (f8 (hy.ext ig) (aZ lb G)) G (by kernel_rfl) fun _ Bw Af ic fd=>?_))
  obtain rfl:=Af
  refine aN G G G false (qA h0) (aE (aY G (bA (aM (aH ?_)))))
  have Hi:ln ((Int.natAbs x:Int))≤17179869184:=(by rw [k8];exact Lx)
  have Gq:ln ((Int.natAbs y:Int))≤17179869184:=(by rw [k8];exact Ly)
  refine dP cF 6 [] [Is (O sa Aa na ca),ZR w.heap.size ((Int.natAbs x:Int)),Is (O sb Ab nb cb),ZR w.heap.size ((Int.natAbs y:Int)),fun v' w'=>∃s0 A0 n0 c0 s1 A1 n1 c1,v'= a5 s0 A0 n0 c0 s1 A1 n1 c1∧Zr w' w.heap.size s0 A0 n0 c0 ((Int.natAbs x:Int))∧Zr w' w.heap.size s1 A1 n1 c1 ((Int.natAbs y:Int)),PR Bw.heap.size 123 [F0,S0,F0,S0]] [[],[0],[],[2],[1,3],[]] [[],[0],[],[0,1,2],[0,1,2,3],[],[0,1,2,3,4,5]] rfl
   (aD G G (aA G G ?_) (aD G G (aA G G ?_) (aD G G (aA G G ?_) (aD G G (aA G G ?_) (aD G G (aA G G ?_) (aD G G (aA G G ?_) dF)))))) ?_
  ·exact fun _ Dc=>a8 (lo aG (pb.ext (e8.t (kp.t (je.t (ie.t (ic.t Dc)))))) (a4 sa Aa na ca) G G G (aC G aB G))
  ·intro _ Dm
   have ar:=fd.trans Dm
   refine dk G G (a8 ?_)
   have Gn:ln ((Int.natAbs x:Int))≤17179869184:=(by rw [k8];exact Lx)
   refine cl (vs:= [O sa Aa na ca]) ar (oX ar.size (hx.ext ar) (aZ la G)) G (by kernel_rfl) fun _ _ Ck yw bu=>?_
   obtain⟨_,_,_,_,rfl,Aj⟩:=Ck
   exact aC G yw ⟨_,_,_,_,rfl,Aj⟩
  ·exact fun _ Bn=>a8 (lo aG (on.ext (kp.t (je.t (ie.t (ic.t Bn))))) (a4 sb Ab nb cb) G G G (aC G aB G))
  ·intro _ yj
   have ar:=fd.trans yj
   refine dk G G (a8 ?_)
   have Hc:ln ((Int.natAbs y:Int))≤17179869184:=(by rw [k8];exact Ly)
   refine cl (vs:= [O sb Ab nb cb]) ar (oX ar.size (hy.ext ar) (aZ lb G)) G (by kernel_rfl) fun _ _ xx Ff bu=>?_
   obtain⟨_,_,_,_,rfl,Cb⟩:=xx
   exact aC G Ff ⟨_,_,_,_,rfl,Cb⟩
  ·intro _ _
   refine aT G G fun _ _ yf _ Eb=>?_
   obtain⟨Es,ye,yg,Aw,rfl,nm⟩:=yf
   have nm:=nm.ext Eb
   refine aT G G fun _ _ yk _ xh=>?_
   obtain⟨Bf,zw,Dh,Ae,rfl,nu⟩:=yk
   have nu:=nu.ext xh
   refine a8 (pu (v:= a5 Es ye yg Aw Bf zw Dh Ae) G ?_)
   exact aC G aB ⟨_,_,_,_,_,_,_,_,rfl,nm,nu⟩
  ·intro _ Ag
   refine a8 (dM G (z:= .agg #[F0,S0,F0,S0]) (vs:= [F0,S0,F0,S0]) (fun _=>by kernel_rfl) G fun _ _ nb=>?_)
   exact aC G nb.ext ⟨_,rfl,by rw [←nb.at_];exact Ag.size,nb.bk⟩
  ·intro _ jh
   have ar:=fd.trans jh
   refine dk G G (aT G G fun _ _ Fq _ Dw=>?_)
   obtain⟨_,_,_,_,rfl,sd⟩:=Fq
   have sd:=sd.ext Dw
   refine dk G G (aT G G fun _ _ Cp _ Cq=>?_)
   obtain⟨_,_,_,_,rfl,qu⟩:=Cp
   have qu:=qu.ext Cq
   refine aT G G fun _ _ Fv _ si=>?_
   obtain⟨tb,rm,ri,ue,ug,tp,td,sn,rfl,mz,ml⟩:=Fv
   have mz:=mz.ext si
   have ml:=ml.ext si
   refine aT G G fun _ _ Et _ Du=>?_
   obtain⟨U,rfl,ir,iz⟩:=Et
   have iz:=iz.ext Du
   have He:jd<U:=cJ (oe.ext ic).lt ir
   have ir:w.heap.size≤U:=a7 fd.size ir
   refine a8 (so uE iz [.bool tb,By rm ri ue,.bool ug,By tp td sn] ar ir G G G G fun _ og iy bu=>(aS (dA (aM (sr (cl (vs:= [AI 1]) bu (lI bu.size (by decide) (by decide)) G (by kernel_rfl) fun _ _ Dg gx gy=>?_))))))
   obtain⟨qc,od,oc,po,rfl,Dr⟩:=Dg
   refine cl (vs:= [I0]) gy (lI gy.size (by decide) (by decide)) G (by kernel_rfl) fun _ _ Ei fr gk=>?_
   obtain⟨ot,ng,ob,oa,rfl,Do⟩:=Ei
   refine pu (v:= a5 qc od oc po ot ng ob oa) G (dG [F0,S0,F0,S0] gk (og.ext (gx.t fr)).lt (fun _=>by kernel_rfl) G fun aq _ ja oq _ fh cg=>(so uE ja [.bool qc,By od oc po,.bool ot,By ng ob oa] cg oq G G G G fun yv vo fo bw=>(aE (aH (bB ?_)))))
   refine d6 (T:=a0×Int×Int×Int×Int×ZC×ZC×ZC×ZC)
    (fun⟨wr,r0,r1,m0,m1,o,k1,k2,k3⟩=> [(2,a9 g1 0),(3,a9 g6 0),(4,a9 ka 0),(5,a9 jv 0),(6,a9 jd 0),(7,a9 U 0),(8,a9 aq 0)])
    (fun⟨wr,r0,r1,m0,m1,o,k1,k2,k3⟩=>wr)
    (fun⟨wr,r0,r1,m0,m1,o,k1,k2,k3⟩=>(Ext w wr)∧(ExtI x y r0 r1 m0 m1)∧(Bk wr g1 41 (a4 sa Aa na ca))∧(Bk wr g6 41 (a4 sb Ab nb cb))∧(Bk wr ka 41 [F0,S0])∧(Bk wr jv 41 [F0,S0])∧(Bk wr jd 41 [F0,S0])∧(Bk wr U 123 [.bool o.s,By o.A o.n o.c,.bool k1.s,By k1.A k1.n k1.c])∧(Bk wr aq 123 [.bool k2.s,By k2.A k2.n k2.c,.bool k3.s,By k3.A k3.n k3.c])∧(Zr wr w.heap.size o.s o.A o.n o.c r0)∧(Zr wr w.heap.size k1.s k1.A k1.n k1.c r1)∧(Zr wr w.heap.size k2.s k2.A k2.n k2.c m0)∧(Zr wr w.heap.size k3.s k3.A k3.n k3.c m1))
    (fun⟨wr,r0,r1,m0,m1,o,k1,k2,k3⟩=>r1.natAbs)
    (⟨yv,_,_,_,_,⟨tb,rm,ri,ue⟩,⟨ug,tp,td,sn⟩,⟨qc,od,oc,po⟩,⟨ot,ng,ob,oa⟩⟩:a0×Int×Int×Int×Int×ZC×ZC×ZC×ZC) ⟨bw,ExtI.init h0,((((pb.ext (e8.t (kp.t (je.t (ie.t (ic.t jh)))))).vN iy).ext (gx.t (fr.t fh))).vN fo),((((on.ext (kp.t (je.t (ie.t (ic.t jh))))).vN iy).ext (gx.t (fr.t fh))).vN fo),((((ox.ext (je.t (ie.t (ic.t jh)))).vN iy).ext (gx.t (fr.t fh))).vN fo),((((oo.ext (ie.t (ic.t jh))).vN iy).ext (gx.t (fr.t fh))).vN fo),((((oe.ext (ic.t jh)).vN iy).ext (gx.t (fr.t fh))).vN fo),((og.ext (gx.t (fr.t fh))).vN fo),vo,(((mz.updT iz iy).ext (gx.t (fr.t fh))).updT ja fo),(((ml.updT iz iy).ext (gx.t (fr.t fh))).updT ja fo),((Dr.ext (fr.t fh)).updT ja fo),((Do.ext fh).updT ja fo)⟩ G ⟨rfl,rfl,rfl,rfl,rfl,rfl,rfl,Ht⟩ ?_
   rintro⟨wr,r0,r1,m0,m1,o,k1,k2,k3⟩ ⟨qd,hI,b_2,b_3,b_4,b_5,b_6,b_7,b_8,fg,lu,mg,wh⟩
   refine d4 [(2,a9 g1 0),(3,a9 g6 0),(4,a9 ka 0),(5,a9 jv 0),(6,a9 jd 0),(7,a9 U 0),(8,a9 aq 0)] wr G ⟨rfl,rfl,rfl,rfl,rfl,rfl,rfl,Ht⟩ ?_
   have im:ln r0≤17179869184:=LC hI.b0 Lx Ly
   have vf:ln r1≤17179869184:=a7 (fJ hI.b1) Ly
   have mh:ln m0≤17179869184:=a7 (fJ hI.mb0) Ly
   have wy:ln m1≤17179869184:=a7 (fJ hI.mb1) Ly
   refine aH (aH ?_)
   by_cases hr:r1=0
   ·have Ek:ExtI x y r0 0 m0 m1:=hr▸hI
    refine aL (pf U 2 G (lo aG b_7 (a4 k1.s k1.A k1.n k1.c) G G G (cl (vs:= [O k1.s k1.A k1.n k1.c]) qd (f8 lu.zi (lu.le (aZ vf G))) G (by kernel_rfl) fun _ ss xm J mj=>?_)))
    obtain rfl:=xm
    refine aN G G G false (pY hr) (aE (aY G (cM (cK (cT (cL (aM (aH (bH [(2,a9 g1 0),(3,a9 g6 0),(4,a9 ka 0),(5,a9 jv 0),(6,a9 jd 0),(7,a9 U 0),(8,a9 aq 0),(32,a9 U 2),(33,O k1.s k1.A k1.n k1.c),(34,AI (bU r1 0)),(35,Hs)] ⟨rfl,rfl,rfl,rfl,rfl,rfl,rfl,rfl,rfl,rfl,rfl,Ht⟩ ?_)))))))))
    obtain⟨rf,hv,I⟩:∃v,v=ss.drew∧Ext ss v:=⟨_,rfl,(Ext.refl _).drew⟩
    have mt:=mj.trans I
    have bc:=(b_4.ext (J.t I))
    obtain⟨zp,vh,fe,aa,_⟩:=jG (P:=aJ) (us:= (a4 o.s o.A o.n o.c)) (off:=0) aG G bc (bq G) G (a4 o.s o.A o.n o.c) rfl
    have nh:=aa.ext mt lw
    have ba:=((b_5.ext (J.t I)).vN aa)
    obtain⟨Dz,vd,jq,H,_⟩:=jG (P:=aJ) (us:= (a4 k2.s k2.A k2.n k2.c)) (off:=0) aG G ba (bq G) G (a4 k2.s k2.A k2.n k2.c) rfl
    have ig:=H.ext nh ip
    refine lK cF (w:=rf) [a9 U 0,O o.s o.A o.n o.c,a9 aq 0,O k2.s k2.A k2.n k2.c,undef,undef] [rf,zp,Dz] [4,5] [[],[0],[],[2],[1],[3]] [[],[0],[],[2],[0,1],[0,1,2,3,4]] [(0,0),(1,0),(2,0),(2,1),(3,0),(3,1),(4,0),(5,1)] G hv ?_ ?_
    ·refine aW _ G G G G G (eH G) (aW _ G G G G G (cN G (bY aG (b_7.ext (J.t I)) (a4 o.s o.A o.n o.c) G (bq G) G)) (aW _ G G G G G (eH G) (aW _ G G G G G (eH G) (aW _ G G G G G (cN G (bY aG (b_8.ext (J.t I)) (a4 k2.s k2.A k2.n k2.c) G (bq G) G)) (aW _ G G G G G (cN G (bY aG ((b_8.ext (J.t I)).vN aa) (a4 k2.s k2.A k2.n k2.c) G (bq G) G)) (gU _ G G G G G (gG G G vh) (gU _ G G G G G (gG G G vd) ?_)))))))
     exact lJ
    clear hv
    refine kA [(2,a9 g1 0),(3,a9 g6 0),(4,a9 ka 0),(5,a9 jv 0),(6,a9 jd 0),(7,a9 U 0),(8,a9 aq 0),(32,a9 U 2),(33,O k1.s k1.A k1.n k1.c),(34,AI (bU r1 0)),(35,Hs),(60,a9 U 0),(61,O o.s o.A o.n o.c),(62,a9 aq 0),(63,O k2.s k2.A k2.n k2.c)] ⟨rfl,rfl,rfl,rfl,rfl,rfl,rfl,rfl,rfl,rfl,rfl,rfl,rfl,rfl,rfl,Ht⟩ (aM (aH (aH ?_)))
    by_cases wz:x<0
    ·have HD:=Ek.done h0 (z:= -m0) (by rw [if_pos wz])
     refine aL (lo aG (((b_2.ext (J.t I)).vN aa).vN H) (a4 sa Aa na ca) G G G (cl (vs:= [O sa Aa na ca]) ig (f8 (hx.ext ig) (aZ la G)) G (by kernel_rfl) fun _ _ yc bh fd=>?_))
     obtain rfl:=yc
     refine aN G G G true (J7 wz) (aE (bJ G (aL (lo aG (jq.ext bh) (a4 k2.s k2.A k2.n k2.c) G G G ?_))))
     have yz:ln (-m0)≤17179869184:=(by rw [gL];exact mh)
     refine cl (vs:= [O k2.s k2.A k2.n k2.c]) fd (oW fd.size ((((mg.ext (J.t I)).updT bc aa).updT ba H).ext bh).zi (mg.le (aZ mh G))) G (by kernel_rfl) fun _ _ Eh bv ar=>?_
     obtain⟨iw,jb,il,ik,rfl,tv⟩:=Eh
     have ft:=(jq.ext (bh.t bv))
     refine so aG ft (a4 iw jb il ik) ar ip G G G G fun _ nt bo bu=>(aE (sr (lo aG (((((b_3.ext (J.t I)).vN aa).vN H).ext (bh.t bv)).vN bo) (a4 sb Ab nb cb) G G G (lo aG (((fe.vN H).ext (bh.t bv)).vN bo) (a4 o.s o.A o.n o.c) G G G ?_))))
     have qw:ln (y.tdiv r0)≤17179869184:=a7 (gK _ _) Ly
     refine cl (vs:= [O sb Ab nb cb,O o.s o.A o.n o.c]) bu (qL bu.size (hy.ext bu) (aZ lb G) (((((fg.ext (J.t I)).updT bc aa).updT ba H).ext (bh.t bv)).updT ft bo).zi (fg.le (aZ im G)) HD.2.1 HD.2.2.2.1) G (by kernel_rfl) fun _ _ Ah ce gy=>?_
     obtain⟨_,_,rfl,⟨fb,ew,du,dm,rfl,rt⟩,rfl⟩:=Ah
     refine mv 1 G (pu (v:= O fb ew du dm) G (pu (v:= AI 0) G (dG [F0,S0] gy ((((((b_8.ext (J.t I)).vN aa).vN H).ext (bh.t bv)).vN bo).ext ce).lt (fun _=>by kernel_rfl) G fun qi _ fz vw _ bz gk=>(so aG fz (a4 fb ew du dm) gk vw G G G G fun _ wk cf cg=>(mv 1 G (aE (aH ?_)))))))
     have xb:=(((((((fg.ext (J.t I)).updT bc aa).updT ba H).ext (bh.t bv)).updT ft bo).ext (ce.t bz)).updT fz cf).old
     refine aL (lo aG ((nt.ext (ce.t bz)).vN cf) (a4 iw jb il ik) G G G (lo aG wk (a4 fb ew du dm) G G G ?_))
     have pq:ln ((-m0)%(y.tdiv r0))≤17179869184:=a7 (xK HD.2.2.1) qw
     refine cl (vs:= [O iw jb il ik,O fb ew du dm]) cg (DN (aI _) (((tv.updT ft bo).ext (ce.t bz)).updT fz cf).zi (tv.le (aZ yz G)) ((rt.ext bz).updT fz cf).zi (rt.le (aZ qw G)) HD.2.2.1) G (by kernel_rfl) fun _ _ yo fk bw=>?_
     obtain⟨_,_,rfl,⟨ac,ag,aj,ae,rfl,ii⟩,r295_1⟩:=yo
     have nw_z296:=ii.new
     replace ii:=ii.mono cg.size
     obtain rfl:=r295_1
     refine mv 1 G (pu (v:= O ac ag aj ae) G (pu (v:= AI 0) G ?_))
     have gc:=(((nt.ext (ce.t bz)).vN cf).ext fk)
     refine so aG gc (a4 ac ag aj ae) bw ip G G G G fun oi kk dl ee=>(aE (aH ?_))
     have apGX:=pA xb nw_z296
     have pw:=(((((((((fg.ext (J.t I)).updT bc aa).updT ba H).ext (bh.t bv)).updT ft bo).ext (ce.t bz)).updT fz cf).ext fk).updT gc dl).old
     have ph:=(ii.updT gc dl).old
     have mx:ln (x*((-m0)%(y.tdiv r0)))≤34359738368:=a7 (eX Lx pq) (by decide)
     have ov:ln (r0-(x*((-m0)%(y.tdiv r0))))≤34359738369:=a7 (i7 im mx) (by decide)
     have Gu:ln ((r0-(x*((-m0)%(y.tdiv r0)))).tdiv y)≤34359738369:=a7 (gK _ _) ov
     refine dP cF 10 [8,9] [Is (O o.s o.A o.n o.c),Is (O sa Aa na ca),Is (O ac ag aj ae),ZR w.heap.size (x*((-m0)%(y.tdiv r0))),ZR w.heap.size (r0-(x*((-m0)%(y.tdiv r0)))),Is (O sb Ab nb cb),T2 (ZR oi.heap.size ((r0-(x*((-m0)%(y.tdiv r0)))).tdiv y)) (Is (AI 0)),T2 (ZR oi.heap.size ((r0-(x*((-m0)%(y.tdiv r0)))).tdiv y)) (Is (AI 0)),ZR oi.heap.size ((r0-(x*((-m0)%(y.tdiv r0)))).tdiv y),Is (AI 0)] [[],[],[],[1,2],[0,3],[],[4,5],[6],[7],[7]] [[],[],[],[1,2],[0,1,2,3],[],[0,1,2,3,4,5],[0,1,2,3,4,5,6],[0,1,2,3,4,5,6,7],[0,1,2,3,4,5,6,7],[0,1,2,3,4,5,6,7,8]] rfl
      (aD G G (aA G G ?_) (aD G G (aA G G ?_) (aD G G (aA G G ?_) (aD G G (aA G G ?_) (aD G G (aA G G ?_) (aD G G (aA G G ?_) (aD G G (aA G G ?_) (aD G G (aA G G ?_) (gH G G (gM G ?_) (gH G G (gM G ?_) dF)))))))))) ?_
     ·exact fun _ Bq=>a8 (lo aG ((((((((fe.vN H).ext (bh.t bv)).vN bo).ext (ce.t bz)).vN cf).ext fk).vN dl).ext Bq) (a4 o.s o.A o.n o.c) G G G (aC G aB G))
     ·exact fun _ Eu=>a8 (lo aG ((((((((((b_2.ext (J.t I)).vN aa).vN H).ext (bh.t bv)).vN bo).ext (ce.t bz)).vN cf).ext fk).vN dl).ext Eu) (a4 sa Aa na ca) G G G (aC G aB G))
     ·exact fun _ An=>a8 (lo aG (kk.ext An) (a4 ac ag aj ae) G G G (aC G aB G))
     ·intro _ uj
      have cz:=ee.trans uj
      refine dk G G (dk G G (a8 ?_))
      have Gp:ln (x*((-m0)%(y.tdiv r0)))≤34359738368:=a7 (eX Lx pq) (by decide)
      refine cl (vs:= [O sa Aa na ca,O ac ag aj ae]) cz (iU cz.size (hx.ext cz) (aZ la G) ((ii.updT gc dl).ext uj).zi (ii.le (aZ pq G))) G (by kernel_rfl) fun _ _ Bt ym jg=>?_
      obtain⟨_,_,_,_,rfl,Au⟩:=Bt
      exact aC G ym ⟨_,_,_,_,rfl,Au⟩
     ·intro _ tg
      have cz:=ee.trans tg
      refine dk G G (aT G G fun _ _ Az _ Cu=>?_)
      obtain⟨Dv,Bd,Fb,Fl,rfl,mf⟩:=Az
      have mf:=mf.ext Cu
      refine a8 ?_
      have Gz:ln (r0-(x*((-m0)%(y.tdiv r0))))≤34359738369:=a7 (i7 im mx) (by decide)
      refine cl (vs:= [O o.s o.A o.n o.c,O Dv Bd Fb Fl]) cz (nO cz.size ((((((((((fg.ext (J.t I)).updT bc aa).updT ba H).ext (bh.t bv)).updT ft bo).ext (ce.t bz)).updT fz cf).ext fk).updT gc dl).ext tg).zi (fg.le (aZ im G)) mf.zi (mf.le (aZ mx G))) G (by kernel_rfl) fun _ _ ya yp jg=>?_
      obtain⟨_,_,_,_,rfl,De⟩:=ya
      exact aC G yp ⟨_,_,_,_,rfl,De⟩
     ·exact fun _ Bp=>a8 (lo aG ((((((((((b_3.ext (J.t I)).vN aa).vN H).ext (bh.t bv)).vN bo).ext (ce.t bz)).vN cf).ext fk).vN dl).ext Bp) (a4 sb Ab nb cb) G G G (aC G aB G))
     ·intro _ uf
      have cz:=ee.trans uf
      refine aT G G fun _ _ Dd _ Cr=>?_
      obtain⟨Cl,zv,Ed,zd,rfl,mb⟩:=Dd
      have mb:=mb.ext Cr
      refine dk G G (a8 ?_)
      have Hh:ln ((r0-(x*((-m0)%(y.tdiv r0)))).tdiv y)≤34359738369:=a7 (gK _ _) ov
      refine cl (vs:= [O Cl zv Ed zd,O sb Ab nb cb]) cz (qL uf.size mb.zi (mb.le (aZ ov G)) (hy.ext cz) (aZ lb G) h0 HD.2.2.2.2.1) G (by kernel_rfl) fun _ _ Fp Ev jg=>?_
      obtain⟨_,_,rfl,⟨_,_,_,_,rfl,yn⟩,rfl⟩:=Fp
      exact aC G Ev ⟨_,_,rfl,⟨_,_,_,_,rfl,yn⟩,rfl⟩
     ·intro _ _
      refine aT G G fun _ _ zu _ xg=>?_
      obtain⟨_,_,rfl,⟨_,_,_,_,rfl,pt⟩,rfl⟩:=zu
      have pt:=pt.ext xg
      refine a8 (mv 1 G ?_)
      exact aC G aB ⟨_,_,rfl,⟨_,_,_,_,rfl,pt⟩,rfl⟩
     ·intro _ _
      refine aT G G fun _ _ Ct _ zx=>?_
      obtain⟨_,_,rfl,⟨Ew,zt,Ft,za,rfl,oh⟩,rfl⟩:=Ct
      have oh:=oh.ext zx
      refine a8 ?_
      exact⟨O Ew zt Ft za,rfl,rfl,fun _=>by kernel_rfl,⟨_,_,_,_,rfl,oh⟩⟩
     ·intro _ _
      refine aT G G fun _ _ Em _ Bc=>?_
      obtain⟨_,_,rfl,⟨_,_,_,_,rfl,qm⟩,rfl⟩:=Em
      have qm:=qm.ext Bc
      refine a8 ?_
      exact⟨AI 0,rfl,rfl,fun _=>by kernel_rfl,rfl⟩
     ·intro _ gw
      have cz:=ee.trans gw
      refine dk G G (dk G G (dk G G (aT G G fun _ _ Dp _ Cv=>?_)))
      obtain⟨ua,su,qy,uu,rfl,rz⟩:=Dp
      have rz:=rz.ext Cv
      refine aT G G fun _ _ yq _ Fj=>?_
      obtain⟨tx,qv,rq,ro,rfl,qj⟩:=yq
      have qj:=qj.ext Fj
      refine dk G G (aT G G fun _ _ Fh _ Ez=>?_)
      obtain⟨_,_,rfl,⟨qp,tw,qn,tj,rfl,ky⟩,rfl⟩:=Fh
      have ky:=ky.ext Ez
      have nw_z441:=ky.new
      replace ky:=ky.mono ee.size
      refine aT G G fun _ _ Ba _ Co=>?_
      obtain⟨_,_,rfl,⟨ut,ru,ur,qk,rfl,ks⟩,rfl⟩:=Ba
      have ks:=ks.ext Co
      have nw_z448:=ks.new
      replace ks:=ks.mono ee.size
      refine aT G G fun _ _ yu _ Db=>?_
      obtain⟨eh,ez,dy,dn,rfl,jn⟩:=yu
      have jn:=jn.ext Db
      have nw_z454:=jn.new
      replace jn:=jn.mono ee.size
      refine dk G G (a8 ?_)
      have ju:=((((((((((b_6.ext (J.t I)).vN aa).vN H).ext (bh.t bv)).vN bo).ext (ce.t bz)).vN cf).ext fk).vN dl).ext gw)
      refine so aG ju (a4 eh ez dy dn) cz kw G G G G fun sc kb ia jg=>(aS (dA (aM (aH (bH [(2,a9 g1 0),(3,a9 g6 0),(4,a9 ka 0),(5,a9 jv 0),(6,a9 jd 0),(7,a9 U 0),(8,a9 aq 0),(32,a9 U 2),(33,O k1.s k1.A k1.n k1.c),(34,AI (bU r1 0)),(35,Hs),(60,a9 U 0),(61,O o.s o.A o.n o.c),(62,a9 aq 0),(63,O k2.s k2.A k2.n k2.c),(64,O sa Aa na ca),(65,AI (bU x 0)),(66,BY),(67,O k2.s k2.A k2.n k2.c),(68,O iw jb il ik),(70,O sb Ab nb cb),(71,O o.s o.A o.n o.c),(72,.tuple #[O fb ew du dm,I0]),(69,.tuple #[O fb ew du dm,I0]),(73,O fb ew du dm),(74,AI 0),(13,a9 qi 0),(14,AI 0),(76,O iw jb il ik),(77,O fb ew du dm),(78,.tuple #[O ac ag aj ae,I0]),(75,.tuple #[O ac ag aj ae,I0]),(79,O ac ag aj ae),(80,AI 0),(82,O o.s o.A o.n o.c),(83,O sa Aa na ca),(84,O ac ag aj ae),(85,O ua su qy uu),(86,O tx qv rq ro),(87,O sb Ab nb cb),(88,.tuple #[O qp tw qn tj,I0]),(81,.tuple #[O ut ru ur qk,I0]),(89,O eh ez dy dn),(90,AI 0)] ⟨rfl,rfl,rfl,rfl,rfl,rfl,rfl,rfl,rfl,rfl,rfl,rfl,rfl,rfl,rfl,rfl,rfl,rfl,rfl,rfl,rfl,rfl,rfl,rfl,rfl,rfl,rfl,rfl,rfl,rfl,rfl,rfl,rfl,rfl,rfl,rfl,rfl,rfl,rfl,rfl,rfl,rfl,rfl,rfl,Ht⟩ ?_)))))
      obtain⟨tk,hv,cx⟩:∃v,v=sc.drew∧Ext sc v:=⟨_,rfl,(Ext.refl _).drew⟩
      have om:=jg.trans cx
      have ke:=((((((((((fe.vN H).ext (bh.t bv)).vN bo).ext (ce.t bz)).vN cf).ext fk).vN dl).ext gw).vN ia).ext cx)
      obtain⟨Cf,ux,ve,gn,_⟩:=jG (P:=aJ) (us:= (a4 o.s o.A o.n o.c)) (off:=0) aG G ke (bq G) G (a4 o.s o.A o.n o.c) rfl
      have nw:=gn.ext om lw
      have jx:=((((kk.ext gw).vN ia).ext cx).vN gn)
      obtain⟨xy,xa,va,ij,_⟩:=jG (P:=aJ) (us:= (a4 ac ag aj ae)) (off:=0) aG G jx (bq G) G (a4 ac ag aj ae) rfl
      have Dj:=ij.ext nw ip
      have ki:=(((kb.ext cx).vN gn).vN ij)
      obtain⟨xo,uy,vi,jm,_⟩:=jG (P:=aJ) (us:= (a4 eh ez dy dn)) (off:=0) aG G ki (bq G) G (a4 eh ez dy dn) rfl
      have Be:=jm.ext Dj kw
      refine lK cF (w:=tk) [O o.s o.A o.n o.c,O ac ag aj ae,O eh ez dy dn,undef,undef,undef] [tk,Cf,xy,xo] [3,4,5] [[],[],[],[0],[1],[2]] [[],[],[],[0],[0,1,3],[0,1,2,3,4]] [(0,0),(1,0),(1,1),(2,0),(2,1),(2,2),(3,0),(4,1),(5,2)] G hv ?_ ?_
      ·refine aW _ G G G G G (cN G (bY aG ((((((((((fe.vN H).ext (bh.t bv)).vN bo).ext (ce.t bz)).vN cf).ext fk).vN dl).ext gw).vN ia).ext cx) (a4 o.s o.A o.n o.c) G (bq G) G)) (aW _ G G G G G (cN G (bY aG (((kk.ext gw).vN ia).ext cx) (a4 ac ag aj ae) G (bq G) G)) (aW _ G G G G G (cN G (bY aG ((((kk.ext gw).vN ia).ext cx).vN gn) (a4 ac ag aj ae) G (bq G) G)) (aW _ G G G G G (cN G (bY aG (kb.ext cx) (a4 eh ez dy dn) G (bq G) G)) (aW _ G G G G G (cN G (bY aG ((kb.ext cx).vN gn) (a4 eh ez dy dn) G (bq G) G)) (aW _ G G G G G (cN G (bY aG (((kb.ext cx).vN gn).vN ij) (a4 eh ez dy dn) G (bq G) G)) (gU _ G G G G G (gG G G ux) (gU _ G G G G G (gG G G xa) (gU _ G G G G G (gG G G uy) ?_))))))))
       exact lJ
      clear hv
      refine kA [(2,a9 g1 0),(3,a9 g6 0),(4,a9 ka 0),(5,a9 jv 0),(6,a9 jd 0),(7,a9 U 0),(8,a9 aq 0),(32,a9 U 2),(33,O k1.s k1.A k1.n k1.c),(34,AI (bU r1 0)),(35,Hs),(60,a9 U 0),(61,O o.s o.A o.n o.c),(62,a9 aq 0),(63,O k2.s k2.A k2.n k2.c),(64,O sa Aa na ca),(65,AI (bU x 0)),(66,BY),(67,O k2.s k2.A k2.n k2.c),(68,O iw jb il ik),(70,O sb Ab nb cb),(71,O o.s o.A o.n o.c),(72,.tuple #[O fb ew du dm,I0]),(69,.tuple #[O fb ew du dm,I0]),(73,O fb ew du dm),(74,AI 0),(13,a9 qi 0),(14,AI 0),(76,O iw jb il ik),(77,O fb ew du dm),(78,.tuple #[O ac ag aj ae,I0]),(75,.tuple #[O ac ag aj ae,I0]),(79,O ac ag aj ae),(80,AI 0),(82,O o.s o.A o.n o.c),(83,O sa Aa na ca),(84,O ac ag aj ae),(85,O ua su qy uu),(86,O tx qv rq ro),(87,O sb Ab nb cb),(88,.tuple #[O qp tw qn tj,I0]),(81,.tuple #[O ut ru ur qk,I0]),(89,O eh ez dy dn),(90,AI 0),(91,O o.s o.A o.n o.c),(92,O ac ag aj ae),(93,O eh ez dy dn)] ⟨rfl,rfl,rfl,rfl,rfl,rfl,rfl,rfl,rfl,rfl,rfl,rfl,rfl,rfl,rfl,rfl,rfl,rfl,rfl,rfl,rfl,rfl,rfl,rfl,rfl,rfl,rfl,rfl,rfl,rfl,rfl,rfl,rfl,rfl,rfl,rfl,rfl,rfl,rfl,rfl,rfl,rfl,rfl,rfl,rfl,rfl,rfl,Ht⟩ (aM (bG (bF [O o.s o.A o.n o.c,O ac ag aj ae,O eh ez dy dn] G ⟨⟨_,rfl,bY aG ((ve.vN ij).vN jm) (a4 o.s o.A o.n o.c) G (bq G) rfl⟩,⟨_,rfl,bY aG (va.vN jm) (a4 ac ag aj ae) G (bq G) rfl⟩,⟨_,rfl,bY aG vi (a4 eh ez dy dn) G (bq G) rfl⟩,Ht⟩ ?_)))
      exact⟨_,_,HD.2.2.2.2.2,_,rfl,⟨_,_,_,rfl,⟨_,_,_,_,rfl,((((((((((((((((fg.ext (J.t I)).updT bc aa).updT ba H).ext (bh.t bv)).updT ft bo).ext (ce.t bz)).updT fz cf).ext fk).updT gc dl).ext gw).updT ju ia).ext cx).updT ke gn).updT jx ij).updT ki jm)).cast HD.1⟩,⟨_,_,_,_,rfl,(((((((ii.updT gc dl).ext gw).updT ju ia).ext cx).updT ke gn).updT jx ij).updT ki jm)⟩,⟨_,_,_,_,rfl,(((((jn.updT ju ia).ext cx).updT ke gn).updT jx ij).updT ki jm)⟩,apGX,pA pw nw_z454,pA ph nw_z454⟩,Be⟩
    ·have HD:=Ek.done h0 (z:=m0) (by rw [if_neg wz])
     refine aL (lo aG (((b_2.ext (J.t I)).vN aa).vN H) (a4 sa Aa na ca) G G G (cl (vs:= [O sa Aa na ca]) ig (f8 (hx.ext ig) (aZ la G)) G (by kernel_rfl) fun _ _ Ea bg fd=>?_))
     obtain rfl:=Ea
     refine aN G G G false (J8 (by omega)) (aE (aY G (bA (aM (sr (lo aG ((((b_3.ext (J.t I)).vN aa).vN H).ext bg) (a4 sb Ab nb cb) G G G (lo aG ((fe.vN H).ext bg) (a4 o.s o.A o.n o.c) G G G ?_)))))))
     have uk:ln (y.tdiv r0)≤17179869184:=a7 (gK _ _) Ly
     refine cl (vs:= [O sb Ab nb cb,O o.s o.A o.n o.c]) fd (qL fd.size (hy.ext fd) (aZ lb G) ((((fg.ext (J.t I)).updT bc aa).updT ba H).ext bg).zi (fg.le (aZ im G)) HD.2.1 HD.2.2.2.1) G (by kernel_rfl) fun _ _ Ad cn ar=>?_
     obtain⟨_,_,rfl,⟨em,eg,ep,ey,rfl,uh⟩,rfl⟩:=Ad
     refine mv 1 G (pu (v:= O em eg ep ey) G (pu (v:= AI 0) G (dG [F0,S0] ar ((((b_8.ext (J.t I)).vN aa).vN H).ext (bg.t cn)).lt (fun _=>by kernel_rfl) G fun qr _ ge vm _ cj bu=>(so aG ge (a4 em eg ep ey) bu vm G G G G fun _ wn cd gy=>(mv 1 G (aE (aH ?_)))))))
     have xb:=(((((fg.ext (J.t I)).updT bc aa).updT ba H).ext (bg.t (cn.t cj))).updT ge cd).old
     refine aL (lo aG ((jq.ext (bg.t (cn.t cj))).vN cd) (a4 k2.s k2.A k2.n k2.c) G G G (lo aG wn (a4 em eg ep ey) G G G ?_))
     have mq:ln (m0%(y.tdiv r0))≤17179869184:=a7 (xK HD.2.2.1) uk
     refine cl (vs:= [O k2.s k2.A k2.n k2.c,O em eg ep ey]) gy (DN (aI _) (((((mg.ext (J.t I)).updT bc aa).updT ba H).ext (bg.t (cn.t cj))).updT ge cd).zi (mg.le (aZ mh G)) ((uh.ext cj).updT ge cd).zi (uh.le (aZ uk G)) HD.2.2.1) G (by kernel_rfl) fun _ _ xn fj gk=>?_
     obtain⟨_,_,rfl,⟨ah,ak,ai,ab,rfl,ix⟩,r509_1⟩:=xn
     have nw_z510:=ix.new
     replace ix:=ix.mono gy.size
     obtain rfl:=r509_1
     refine mv 1 G (pu (v:= O ah ak ai ab) G (pu (v:= AI 0) G ?_))
     have fy:=(((jq.ext (bg.t (cn.t cj))).vN cd).ext fj)
     refine so aG fy (a4 ah ak ai ab) gk ip G G G G fun mw kg dc cg=>(aE (aH ?_))
     have apGX:=pA xb nw_z510
     have pw:=(((((((fg.ext (J.t I)).updT bc aa).updT ba H).ext (bg.t (cn.t cj))).updT ge cd).ext fj).updT fy dc).old
     have ph:=(ix.updT fy dc).old
     have ow:ln (x*(m0%(y.tdiv r0)))≤34359738368:=a7 (eX Lx mq) (by decide)
     have pg:ln (r0-(x*(m0%(y.tdiv r0))))≤34359738369:=a7 (i7 im ow) (by decide)
     have Gw:ln ((r0-(x*(m0%(y.tdiv r0)))).tdiv y)≤34359738369:=a7 (gK _ _) pg
     refine dP cF 10 [8,9] [Is (O o.s o.A o.n o.c),Is (O sa Aa na ca),Is (O ah ak ai ab),ZR w.heap.size (x*(m0%(y.tdiv r0))),ZR w.heap.size (r0-(x*(m0%(y.tdiv r0)))),Is (O sb Ab nb cb),T2 (ZR mw.heap.size ((r0-(x*(m0%(y.tdiv r0)))).tdiv y)) (Is (AI 0)),T2 (ZR mw.heap.size ((r0-(x*(m0%(y.tdiv r0)))).tdiv y)) (Is (AI 0)),ZR mw.heap.size ((r0-(x*(m0%(y.tdiv r0)))).tdiv y),Is (AI 0)] [[],[],[],[1,2],[0,3],[],[4,5],[6],[7],[7]] [[],[],[],[1,2],[0,1,2,3],[],[0,1,2,3,4,5],[0,1,2,3,4,5,6],[0,1,2,3,4,5,6,7],[0,1,2,3,4,5,6,7],[0,1,2,3,4,5,6,7,8]] rfl
      (aD G G (aA G G ?_) (aD G G (aA G G ?_) (aD G G (aA G G ?_) (aD G G (aA G G ?_) (aD G G (aA G G ?_) (aD G G (aA G G ?_) (aD G G (aA G G ?_) (aD G G (aA G G ?_) (gH G G (gM G ?_) (gH G G (gM G ?_) dF)))))))))) ?_
     ·exact fun _ Fi=>a8 (lo aG ((((((fe.vN H).ext (bg.t (cn.t cj))).vN cd).ext fj).vN dc).ext Fi) (a4 o.s o.A o.n o.c) G G G (aC G aB G))
     ·exact fun _ Ep=>a8 (lo aG ((((((((b_2.ext (J.t I)).vN aa).vN H).ext (bg.t (cn.t cj))).vN cd).ext fj).vN dc).ext Ep) (a4 sa Aa na ca) G G G (aC G aB G))
     ·exact fun _ Bi=>a8 (lo aG (kg.ext Bi) (a4 ah ak ai ab) G G G (aC G aB G))
     ·intro _ tz
      have bw:=cg.trans tz
      refine dk G G (dk G G (a8 ?_))
      have Hb:ln (x*(m0%(y.tdiv r0)))≤34359738368:=a7 (eX Lx mq) (by decide)
      refine cl (vs:= [O sa Aa na ca,O ah ak ai ab]) bw (iU bw.size (hx.ext bw) (aZ la G) ((ix.updT fy dc).ext tz).zi (ix.le (aZ mq G))) G (by kernel_rfl) fun _ _ Ch Fk ee=>?_
      obtain⟨_,_,_,_,rfl,Ej⟩:=Ch
      exact aC G Fk ⟨_,_,_,_,rfl,Ej⟩
     ·intro _ se
      have bw:=cg.trans se
      refine dk G G (aT G G fun _ _ Er _ Ec=>?_)
      obtain⟨Fm,Da,Bu,xu,rfl,mc⟩:=Er
      have mc:=mc.ext Ec
      refine a8 ?_
      have Gr:ln (r0-(x*(m0%(y.tdiv r0))))≤34359738369:=a7 (i7 im ow) (by decide)
      refine cl (vs:= [O o.s o.A o.n o.c,O Fm Da Bu xu]) bw (nO bw.size ((((((((fg.ext (J.t I)).updT bc aa).updT ba H).ext (bg.t (cn.t cj))).updT ge cd).ext fj).updT fy dc).ext se).zi (fg.le (aZ im G)) mc.zi (mc.le (aZ ow G))) G (by kernel_rfl) fun _ _ xp Dn ee=>?_
      obtain⟨_,_,_,_,rfl,yh⟩:=xp
      exact aC G Dn ⟨_,_,_,_,rfl,yh⟩
     ·exact fun _ xw=>a8 (lo aG ((((((((b_3.ext (J.t I)).vN aa).vN H).ext (bg.t (cn.t cj))).vN cd).ext fj).vN dc).ext xw) (a4 sb Ab nb cb) G G G (aC G aB G))
     ·intro _ tr
      have bw:=cg.trans tr
      refine aT G G fun _ _ Ef _ yd=>?_
      obtain⟨xz,Ex,Cx,As,rfl,ma⟩:=Ef
      have ma:=ma.ext yd
      refine dk G G (a8 ?_)
      have Gx:ln ((r0-(x*(m0%(y.tdiv r0)))).tdiv y)≤34359738369:=a7 (gK _ _) pg
      refine cl (vs:= [O xz Ex Cx As,O sb Ab nb cb]) bw (qL tr.size ma.zi (ma.le (aZ pg G)) (hy.ext bw) (aZ lb G) h0 HD.2.2.2.2.1) G (by kernel_rfl) fun _ _ Cz yx ee=>?_
      obtain⟨_,_,rfl,⟨_,_,_,_,rfl,Cj⟩,rfl⟩:=Cz
      exact aC G yx ⟨_,_,rfl,⟨_,_,_,_,rfl,Cj⟩,rfl⟩
     ·intro _ _
      refine aT G G fun _ _ Ey _ Bg=>?_
      obtain⟨_,_,rfl,⟨_,_,_,_,rfl,py⟩,rfl⟩:=Ey
      have py:=py.ext Bg
      refine a8 (mv 1 G ?_)
      exact aC G aB ⟨_,_,rfl,⟨_,_,_,_,rfl,py⟩,rfl⟩
     ·intro _ _
      refine aT G G fun _ _ Cs _ Ee=>?_
      obtain⟨_,_,rfl,⟨Bm,zo,xv,Cg,rfl,mr⟩,rfl⟩:=Cs
      have mr:=mr.ext Ee
      refine a8 ?_
      exact⟨O Bm zo xv Cg,rfl,rfl,fun _=>by kernel_rfl,⟨_,_,_,_,rfl,mr⟩⟩
     ·intro _ _
      refine aT G G fun _ _ Cc _ Bx=>?_
      obtain⟨_,_,rfl,⟨_,_,_,_,rfl,tn⟩,rfl⟩:=Cc
      have tn:=tn.ext Bx
      refine a8 ?_
      exact⟨AI 0,rfl,rfl,fun _=>by kernel_rfl,rfl⟩
     ·intro _ gt
      have bw:=cg.trans gt
      refine dk G G (dk G G (dk G G (aT G G fun _ _ zj _ zg=>?_)))
      obtain⟨um,qx,tf,qz,rfl,re⟩:=zj
      have re:=re.ext zg
      refine aT G G fun _ _ Bo _ Eo=>?_
      obtain⟨sf,qh,te,ui,rfl,sj⟩:=Bo
      have sj:=sj.ext Eo
      refine dk G G (aT G G fun _ _ xl _ Ac=>?_)
      obtain⟨_,_,rfl,⟨rj,ti,uc,qo,rfl,lh⟩,rfl⟩:=xl
      have lh:=lh.ext Ac
      have nw_z655:=lh.new
      replace lh:=lh.mono cg.size
      refine aT G G fun _ _ Dx _ yt=>?_
      obtain⟨_,_,rfl,⟨qq,ul,rp,ub,rfl,li⟩,rfl⟩:=Dx
      have li:=li.ext yt
      have nw_z662:=li.new
      replace li:=li.mono cg.size
      refine aT G G fun _ _ Cd _ Dy=>?_
      obtain⟨fa,df,dw,dq,rfl,jo⟩:=Cd
      have jo:=jo.ext Dy
      have nw_z668:=jo.new
      replace jo:=jo.mono cg.size
      refine dk G G (a8 ?_)
      have jp:=((((((((b_6.ext (J.t I)).vN aa).vN H).ext (bg.t (cn.t cj))).vN cd).ext fj).vN dc).ext gt)
      refine so aG jp (a4 fa df dw dq) bw kw G G G G fun tc kj ib ee=>(aS (dA (aM (aH (bH [(2,a9 g1 0),(3,a9 g6 0),(4,a9 ka 0),(5,a9 jv 0),(6,a9 jd 0),(7,a9 U 0),(8,a9 aq 0),(32,a9 U 2),(33,O k1.s k1.A k1.n k1.c),(34,AI (bU r1 0)),(35,Hs),(60,a9 U 0),(61,O o.s o.A o.n o.c),(62,a9 aq 0),(63,O k2.s k2.A k2.n k2.c),(64,O sa Aa na ca),(65,AI (bU x 0)),(66,Hs),(70,O sb Ab nb cb),(71,O o.s o.A o.n o.c),(72,.tuple #[O em eg ep ey,I0]),(69,.tuple #[O em eg ep ey,I0]),(73,O em eg ep ey),(74,AI 0),(13,a9 qr 0),(14,AI 0),(76,O k2.s k2.A k2.n k2.c),(77,O em eg ep ey),(78,.tuple #[O ah ak ai ab,I0]),(75,.tuple #[O ah ak ai ab,I0]),(79,O ah ak ai ab),(80,AI 0),(82,O o.s o.A o.n o.c),(83,O sa Aa na ca),(84,O ah ak ai ab),(85,O um qx tf qz),(86,O sf qh te ui),(87,O sb Ab nb cb),(88,.tuple #[O rj ti uc qo,I0]),(81,.tuple #[O qq ul rp ub,I0]),(89,O fa df dw dq),(90,AI 0)] ⟨rfl,rfl,rfl,rfl,rfl,rfl,rfl,rfl,rfl,rfl,rfl,rfl,rfl,rfl,rfl,rfl,rfl,rfl,rfl,rfl,rfl,rfl,rfl,rfl,rfl,rfl,rfl,rfl,rfl,rfl,rfl,rfl,rfl,rfl,rfl,rfl,rfl,rfl,rfl,rfl,rfl,rfl,Ht⟩ ?_)))))
      obtain⟨ta,hv,cu⟩:∃v,v=tc.drew∧Ext tc v:=⟨_,rfl,(Ext.refl _).drew⟩
      have cz:=ee.trans cu
      have jr:=((((((((fe.vN H).ext (bg.t (cn.t cj))).vN cd).ext fj).vN dc).ext gt).vN ib).ext cu)
      obtain⟨yi,vq,wq,gj,_⟩:=jG (P:=aJ) (us:= (a4 o.s o.A o.n o.c)) (off:=0) aG G jr (bq G) G (a4 o.s o.A o.n o.c) rfl
      have jg:=gj.ext cz lw
      have kd:=((((kg.ext gt).vN ib).ext cu).vN gj)
      obtain⟨xr,we,vu,iv,_⟩:=jG (P:=aJ) (us:= (a4 ah ak ai ab)) (off:=0) aG G kd (bq G) G (a4 ah ak ai ab) rfl
      have om:=iv.ext jg ip
      have jw:=(((kj.ext cu).vN gj).vN iv)
      obtain⟨Fs,vp,vr,jk,_⟩:=jG (P:=aJ) (us:= (a4 fa df dw dq)) (off:=0) aG G jw (bq G) G (a4 fa df dw dq) rfl
      have nw:=jk.ext om kw
      refine lK cF (w:=ta) [O o.s o.A o.n o.c,O ah ak ai ab,O fa df dw dq,undef,undef,undef] [ta,yi,xr,Fs] [3,4,5] [[],[],[],[0],[1],[2]] [[],[],[],[0],[0,1,3],[0,1,2,3,4]] [(0,0),(1,0),(1,1),(2,0),(2,1),(2,2),(3,0),(4,1),(5,2)] G hv ?_ ?_
      ·refine aW _ G G G G G (cN G (bY aG ((((((((fe.vN H).ext (bg.t (cn.t cj))).vN cd).ext fj).vN dc).ext gt).vN ib).ext cu) (a4 o.s o.A o.n o.c) G (bq G) G)) (aW _ G G G G G (cN G (bY aG (((kg.ext gt).vN ib).ext cu) (a4 ah ak ai ab) G (bq G) G)) (aW _ G G G G G (cN G (bY aG ((((kg.ext gt).vN ib).ext cu).vN gj) (a4 ah ak ai ab) G (bq G) G)) (aW _ G G G G G (cN G (bY aG (kj.ext cu) (a4 fa df dw dq) G (bq G) G)) (aW _ G G G G G (cN G (bY aG ((kj.ext cu).vN gj) (a4 fa df dw dq) G (bq G) G)) (aW _ G G G G G (cN G (bY aG (((kj.ext cu).vN gj).vN iv) (a4 fa df dw dq) G (bq G) G)) (gU _ G G G G G (gG G G vq) (gU _ G G G G G (gG G G we) (gU _ G G G G G (gG G G vp) ?_))))))))
       exact lJ
      clear hv
      refine kA [(2,a9 g1 0),(3,a9 g6 0),(4,a9 ka 0),(5,a9 jv 0),(6,a9 jd 0),(7,a9 U 0),(8,a9 aq 0),(32,a9 U 2),(33,O k1.s k1.A k1.n k1.c),(34,AI (bU r1 0)),(35,Hs),(60,a9 U 0),(61,O o.s o.A o.n o.c),(62,a9 aq 0),(63,O k2.s k2.A k2.n k2.c),(64,O sa Aa na ca),(65,AI (bU x 0)),(66,Hs),(70,O sb Ab nb cb),(71,O o.s o.A o.n o.c),(72,.tuple #[O em eg ep ey,I0]),(69,.tuple #[O em eg ep ey,I0]),(73,O em eg ep ey),(74,AI 0),(13,a9 qr 0),(14,AI 0),(76,O k2.s k2.A k2.n k2.c),(77,O em eg ep ey),(78,.tuple #[O ah ak ai ab,I0]),(75,.tuple #[O ah ak ai ab,I0]),(79,O ah ak ai ab),(80,AI 0),(82,O o.s o.A o.n o.c),(83,O sa Aa na ca),(84,O ah ak ai ab),(85,O um qx tf qz),(86,O sf qh te ui),(87,O sb Ab nb cb),(88,.tuple #[O rj ti uc qo,I0]),(81,.tuple #[O qq ul rp ub,I0]),(89,O fa df dw dq),(90,AI 0),(91,O o.s o.A o.n o.c),(92,O ah ak ai ab),(93,O fa df dw dq)] ⟨rfl,rfl,rfl,rfl,rfl,rfl,rfl,rfl,rfl,rfl,rfl,rfl,rfl,rfl,rfl,rfl,rfl,rfl,rfl,rfl,rfl,rfl,rfl,rfl,rfl,rfl,rfl,rfl,rfl,rfl,rfl,rfl,rfl,rfl,rfl,rfl,rfl,rfl,rfl,rfl,rfl,rfl,rfl,rfl,rfl,Ht⟩ (aM (bG (bF [O o.s o.A o.n o.c,O ah ak ai ab,O fa df dw dq] G ⟨⟨_,rfl,bY aG ((wq.vN iv).vN jk) (a4 o.s o.A o.n o.c) G (bq G) rfl⟩,⟨_,rfl,bY aG (vu.vN jk) (a4 ah ak ai ab) G (bq G) rfl⟩,⟨_,rfl,bY aG vr (a4 fa df dw dq) G (bq G) rfl⟩,Ht⟩ ?_)))
      exact⟨_,_,HD.2.2.2.2.2,_,rfl,⟨_,_,_,rfl,⟨_,_,_,_,rfl,((((((((((((((fg.ext (J.t I)).updT bc aa).updT ba H).ext (bg.t (cn.t cj))).updT ge cd).ext fj).updT fy dc).ext gt).updT jp ib).ext cu).updT jr gj).updT kd iv).updT jw jk)).cast HD.1⟩,⟨_,_,_,_,rfl,(((((((ix.updT fy dc).ext gt).updT jp ib).ext cu).updT jr gj).updT kd iv).updT jw jk)⟩,⟨_,_,_,_,rfl,(((((jo.updT jp ib).ext cu).updT jr gj).updT kd iv).updT jw jk)⟩,apGX,pA pw nw_z668,pA ph nw_z668⟩,nw⟩
   ·refine aL (pf U 2 G (lo aG b_7 (a4 k1.s k1.A k1.n k1.c) G G G (cl (vs:= [O k1.s k1.A k1.n k1.c]) qd (f8 lu.zi (lu.le (aZ vf G))) G (by kernel_rfl) fun _ _ Fg ao mj=>?_)))
    obtain rfl:=Fg
    refine aN G G G true (pX hr) (aE (bJ G (bA (aM (bB (sr (pf U 0 G (lo aG (b_7.ext ao) (a4 o.s o.A o.n o.c) G G G (pf U 2 G (lo aG (b_7.ext ao) (a4 k1.s k1.A k1.n k1.c) G G G ?_))))))))))
    have pj:ln ((r0).tdiv r1)≤17179869184:=a7 (gK _ _) im
    have Ha:ln ((r0).tmod r1)≤17179869184:=a7 (D7 _ _) im
    refine cl (vs:= [O o.s o.A o.n o.c,O k1.s k1.A k1.n k1.c]) mj (DM mj.size (fg.ext ao).zi (fg.le (aZ im G)) (lu.ext ao).zi (lu.le (aZ vf G)) hr) G (by kernel_rfl) fun _ _ Ao bj mt=>?_
    obtain⟨_,_,_,rfl,⟨kx,kv,ko,kz,rfl,uv⟩,⟨jf,jj,jl,ji,rfl,Ax⟩,rfl⟩:=Ao
    refine mv 1 G (pu (v:= O kx kv ko kz) G (pu (v:= O jf jj jl ji) G (pu (v:= AI 0) G (dG [F0,S0] mt (b_8.ext (ao.t bj)).lt (fun _=>by kernel_rfl) G fun _ _ pp vb _ bi nh=>(dG [F0,S0] nh pp.lt (fun _=>by kernel_rfl) G fun Eg _ vn vz _ av ig=>?_)))))
    have gg:=(pp.ext av)
    refine so aG gg (a4 kx kv ko kz) ig vb G G G G fun _ vk aw fd=>?_
    have fv:=(vn.vN aw)
    refine so aG fv (a4 jf jj jl ji) fd vz G G G G fun Df ni az ar=>(mv 1 G (aE (aH ?_)))
    have ou:ln ((r0.tdiv r1)*m1)≤34359738368:=a7 (eX pj wy) (by decide)
    have Gm:ln (m0-((r0.tdiv r1)*m1))≤34359738369:=a7 (i7 mh ou) (by decide)
    refine dP cF 8 [] [Is (a9 aq 0),Is (O k2.s k2.A k2.n k2.c),Is (O kx kv ko kz),Is (a9 aq 2),Is (O k3.s k3.A k3.n k3.c),ZR w.heap.size ((r0.tdiv r1)*m1),ZR w.heap.size (m0-((r0.tdiv r1)*m1)),PR Df.heap.size 41 [F0,S0]] [[],[0],[],[],[3],[2,4],[1,5],[]] [[],[0],[],[],[3],[2,3,4],[0,1,2,3,4,5],[],[0,1,2,3,4,5,6,7]] rfl
     (aD G G (aA G G ?_) (aD G G (aA G G ?_) (aD G G (aA G G ?_) (aD G G (aA G G ?_) (aD G G (aA G G ?_) (aD G G (aA G G ?_) (aD G G (aA G G ?_) (aD G G (aA G G ?_) dF)))))))) ?_
    ·exact fun _ _=>a8 (pf aq 0 G (aC G aB G))
    ·exact fun _ Fe=>dk G G (a8 (lo aG ((((b_8.ext (ao.t (bj.t (bi.t av)))).vN aw).vN az).ext Fe) (a4 k2.s k2.A k2.n k2.c) G G G (aC G aB G)))
    ·exact fun _ Dq=>a8 (lo aG ((vk.vN az).ext Dq) (a4 kx kv ko kz) G G G (aC G aB G))
    ·exact fun _ _=>a8 (pf aq 2 G (aC G aB G))
    ·exact fun _ Ds=>dk G G (a8 (lo aG ((((b_8.ext (ao.t (bj.t (bi.t av)))).vN aw).vN az).ext Ds) (a4 k3.s k3.A k3.n k3.c) G G G (aC G aB G)))
    ·intro _ mn
     have bu:=ar.trans mn
     refine dk G G (dk G G (a8 ?_))
     have Gy:ln ((r0.tdiv r1)*m1)≤34359738368:=a7 (eX pj wy) (by decide)
     refine cl (vs:= [O kx kv ko kz,O k3.s k3.A k3.n k3.c]) bu (iU bu.size ((((uv.ext (bi.t av)).updT gg aw).updT fv az).ext mn).zi (uv.le (aZ pj G)) ((((wh.ext (ao.t (bj.t (bi.t av)))).updT gg aw).updT fv az).ext mn).zi (wh.le (aZ wy G))) G (by kernel_rfl) fun _ _ Bv zz gy=>?_
     obtain⟨_,_,_,_,rfl,Cw⟩:=Bv
     exact aC G zz ⟨_,_,_,_,rfl,Cw⟩
    ·intro _ ry
     have bu:=ar.trans ry
     refine dk G G (aT G G fun _ _ zy _ yb=>?_)
     obtain⟨Dk,Fo,xf,Ca,rfl,me⟩:=zy
     have me:=me.ext yb
     refine a8 ?_
     have Hd:ln (m0-((r0.tdiv r1)*m1))≤34359738369:=a7 (i7 mh ou) (by decide)
     refine cl (vs:= [O k2.s k2.A k2.n k2.c,O Dk Fo xf Ca]) bu (nO bu.size ((((mg.ext (ao.t (bj.t (bi.t av)))).updT gg aw).updT fv az).ext ry).zi (mg.le (aZ mh G)) me.zi (me.le (aZ ou G))) G (by kernel_rfl) fun _ _ Fa yl gy=>?_
     obtain⟨_,_,_,_,rfl,Cn⟩:=Fa
     exact aC G yl ⟨_,_,_,_,rfl,Cn⟩
    ·intro _ Ai
     refine a8 (dM G (z:= .agg #[F0,S0]) (vs:= [F0,S0]) (fun _=>by kernel_rfl) G fun _ _ nb=>?_)
     exact aC G nb.ext ⟨_,rfl,by rw [←nb.at_];exact Ai.size,nb.bk⟩
    ·intro _ co
     have bu:=ar.trans co
     refine dk G G (dk G G (dk G G (dk G G (dk G G (aT G G fun _ _ Bh _ Di=>?_)))))
     obtain⟨_,_,_,_,rfl,ud⟩:=Bh
     have ud:=ud.ext Di
     refine aT G G fun _ _ Bb _ Cy=>?_
     obtain⟨lf,ku,kt,lj,rfl,nj⟩:=Bb
     have nj:=nj.ext Cy
     refine aT G G fun _ _ Fu _ xt=>?_
     obtain⟨uq,rfl,kc,fx⟩:=Fu
     have fx:=fx.ext xt
     have Gt:Eg<uq:=cJ ni.lt kc
     have kc:w.heap.size≤uq:=a7 ar.size kc
     refine a8 (so aG fx (a4 lf ku kt lj) bu kc G G G G fun _ uw cm gy=>(aS (dA (aM (sr (pf U 2 G (lo aG (((((b_7.ext (ao.t (bj.t (bi.t av)))).vN aw).vN az).ext co).vN cm) (a4 k1.s k1.A k1.n k1.c) G G G (lo aG ((ni.ext co).vN cm) (a4 jf jj jl ji) G G G (pu (v:= a5 k1.s k1.A k1.n k1.c jf jj jl ji) G ?_)))))))))
     have io:=(((((b_7.ext (ao.t (bj.t (bi.t av)))).vN aw).vN az).ext co).vN cm)
     refine so uE io [.bool k1.s,By k1.A k1.n k1.c,.bool jf,By jj jl ji] gy ir G G G G fun _ vt dd gk=>(aE (aL (pf aq 2 G (lo aG ((((((b_8.ext (ao.t (bj.t (bi.t av)))).vN aw).vN az).ext co).vN cm).vN dd) (a4 k3.s k3.A k3.n k3.c) G G G (lo aG (uw.vN dd) (a4 lf ku kt lj) G G G (pu (v:= a5 k3.s k3.A k3.n k3.c lf ku kt lj) G ?_))))))
     have iq:=((((((b_8.ext (ao.t (bj.t (bi.t av)))).vN aw).vN az).ext co).vN cm).vN dd)
     refine so uE iq [.bool k3.s,By k3.A k3.n k3.c,.bool lf,By ku kt lj] gk oq G G G G fun Bj uz fq cg=>(aS (cC (cB (⟨Bj,_,_,_,_,⟨k1.s,k1.A,k1.n,k1.c⟩,⟨jf,jj,jl,ji⟩,⟨k3.s,k3.A,k3.n,k3.c⟩,⟨lf,ku,kt,lj⟩⟩:a0×Int×Int×Int×Int×ZC×ZC×ZC×ZC) ⟨cg,hI.step hr,(((((((b_2.ext (ao.t (bj.t (bi.t av)))).vN aw).vN az).ext co).vN cm).vN dd).vN fq),(((((((b_3.ext (ao.t (bj.t (bi.t av)))).vN aw).vN az).ext co).vN cm).vN dd).vN fq),(((((((b_4.ext (ao.t (bj.t (bi.t av)))).vN aw).vN az).ext co).vN cm).vN dd).vN fq),(((((((b_5.ext (ao.t (bj.t (bi.t av)))).vN aw).vN az).ext co).vN cm).vN dd).vN fq),(((((((b_6.ext (ao.t (bj.t (bi.t av)))).vN aw).vN az).ext co).vN cm).vN dd).vN fq),(vt.vN fq),uz,(((((((lu.ext (ao.t (bj.t (bi.t av)))).updT gg aw).updT fv az).ext co).updT fx cm).updT io dd).updT iq fq),(((((((Ax.ext (bi.t av)).updT gg aw).updT fv az).ext co).updT fx cm).updT io dd).updT iq fq),(((((((wh.ext (ao.t (bj.t (bi.t av)))).updT gg aw).updT fv az).ext co).updT fx cm).updT io dd).updT iq fq),(((nj.updT fx cm).updT io dd).updT iq fq)⟩ (m8 hr) G ⟨rfl,rfl,rfl,rfl,rfl,rfl,rfl,Ht⟩)))
theorem ON {nb:Nat}(hb:b≤w.heap.size)(hx:Zi w sa Aa na ca x)(la:na≤17179869184)(hy:Zi w sb Ab nb cb y)(lb:nb≤17179869184):aR aJ 106 #[O sa Aa na ca,O sb Ab nb cb] w (fun e w'=>∃u v,Bez x y u v∧Gv w (T3 (ZR b (Int.gcd x y:Int)) (ZR b u) (ZR b v)) e w'):=(OM hb hx la hy lb).mono fun e _ h=>(by obtain⟨u,v,o,H⟩:=h;exact⟨u,v,o,Gv.imp TE.t3 _ _ H⟩)
end
end Go.Proofs.YtnpbbknemflpnaaGreat
