/- Parts LongB, DivC, Int, Sxz, Sxl, Sxw, IntB, IntC, IntD, IntE, Pop, Small, Zg, Sxb, Ab, Upto, Stays, Zs, UptoZ, App, Zh, Bz, Li, One, Sxk, Ms, joined. -/
import Derived.Test.YtnpbbknemflpnaaGreatV1
import Derived.IntWalk
import Derived.KernelRfl
import Derived.Test.YtnpbbknemflpnaaGreatRows
import Derived.WalkKit
import Derived.ProofKit
import Derived.OpenShut
import Derived.JoinedCond
import Derived.ChangeSame
import Derived.ChangeSlices
import Derived.ChangeStays
import Derived.Deep.Slices
import Derived.DataShut
import Derived.ArgAppend
import Derived.WalkSmall

namespace Go.Proofs.YtnpbbknemflpnaaGreat
open Go.RowKit
theorem guess_quiet {u2 u1 u0 v1 v0 D:Nat}(h2:u2≤v1) (h1:u1≤18446744073709551615) (h0:u0≤18446744073709551615) (hv1:v1≤18446744073709551615) (hv0:v0≤18446744073709551615) (hpos:0<v1)
  (k1:D≤18446744073709551615) (k2:D*(v1*WB+v0)≤(u2*WB+u1)*WB+u0) (k3:D=18446744073709551615∨(u2*WB+u1)*WB+u0<(D+1)*(v1*WB+v0)) (w:World) (n:Nat):
  Calls Tryz.prog 112 #[.int .u64 (u2:Int),.int .u64 (u1:Int),.int .u64 (u0:Int),.int .u64 (v1:Int),.int .u64 (v0:Int)] (w.drewN n) (fun e w''=>e= .returned (.int .u64 (D:Int))∧∃m,w''=w.drewN m):=by
 refine Calls.quiet_of ((divnat_guess h2 h1 h0 hv1 hv0 hpos (w.drewN n)).mono ?_)
 rintro e w' ⟨d,rfl,a,b,c,m,rfl⟩
 rw [guess_only a b.out c.out k1 k2 k3]
 exact⟨rfl,m,rfl⟩
theorem lt_of_drop {l l1:List Nat}{K:Nat}(hl:K≤l.length) (hl1:K≤l1.length) (hw:Wf l1) (hd:l1.drop K=l.drop K) (h:nv l<WB^K):nv l1<WB^K:=by
 have e1:=nv_split l K hl
 have e2:=nv_split l1 K hl1
 have h3:=nv_take_lt hw K
 rw [hd] at e2
 rcases Nat.eq_zero_or_pos (nv (l.drop K)) with h0 | h0
 ·rw [h0,Nat.mul_zero] at e2;omega
 ·have:=Nat.le_mul_of_pos_right (WB^K) h0
  omega
set_option maxRecDepth 10000 in
set_option maxHeartbeats 8000000 in
theorem divnat_longA {w:World}{A B:Option Addr}{N cap n cap':Nat}{xs ys:List Nat}(hx:Rd w A N cap xs) (hN:N≤274877906944) (hy:Rd w B n cap' ys) (hn:2≤n) (hnN:n≤N) (htop:ys.getD (n-1) 0≠0):
  Calls Tryz.prog 96 #[.slice A N cap,.slice B n cap'] w (RetQRA w (nv xs/nv ys) (nv xs%nv ys)):=by
 obtain⟨b,y,rfl,hyk,hyb,hcy⟩:=hy.get (i:=n-1) (by omega)
 have hlx:=Lib.hid hx.len
 have hly:=Lib.hid hy.len
 have hyp:(0:Int)<(n:Int):=by omega
 go_enter Tryz.func96,Tryz.ntmps96
 go_wp2_with fail
 refine (bits_LeadingZeros64 y hyb _).mono ?_
 rintro e w' ⟨s,hs,hs64',rfl,rfl⟩
 have hstart:=long_start hx.wf hy.wf hlx.out hly.out (by omega) hnN hyk.out (by rw [←hyk.out];exact htop) hyb hs.out
 obtain⟨hs64,hVfit,hUfit,hVpos,hVlow,hUV⟩:=hstart
 have HVfit:=Lib.hid hVfit
 have HUfit:=Lib.hid hUfit
 have HVpos:=Lib.hid hVpos
 have HVlow:=Lib.hid hVlow
 have HUV:=Lib.hid hUV
 clear hVfit hUfit hVpos hVlow hUV htop
 go_wp2_with fail
 refine (divnat_shifted hy (by omega) hs64 (by omega) (Nat.le_refl _) HVfit.out).mono ?_
 rintro e w1 ⟨gv,vs,rfl,hgv,hbv,hwv,hlv,hvv,hx1⟩
 go_wp2_with fail
 refine (divnat_shifted (n:=N+1) (hx.ext hx1) (by omega) hs64 (by omega) (by omega) HUfit.out).mono ?_
 rintro e w2 ⟨gu,us,rfl,hgu,hbu,hwu,hlu,hvu,hx2⟩
 obtain⟨M,hM1,hM2⟩:∃M,M+n≤N+1∧N+1≤M+n:=⟨N+1-n,by omega,by omega⟩
 have hmk:=run_make1 (P:=Tryz.prog) Tryz.underlying39 info64 rfl (by decide) ((N:Int)-(n:Int)+1) (by omega) (by omega)
 have et:((N:Int)-(n:Int)+1).toNat=M:=by omega
 rw [et] at hmk
 clear et
 go_wp2_with fail
 clear hmk
 have hbv2:=hbv.ext hx2
 have hguv:gv<gu:=Nat.lt_of_lt_of_le hbv.lt hgu
 obtain⟨gq,hgq⟩:∃gq,w2.heap.size=gq:=⟨_,rfl⟩
 rw [hgq]
 have hguq:gu<gq:=by rw [←hgq];exact hbu.lt
 obtain⟨wa,hwa⟩:∃wa,w2.alloc (.cells (zc (.int .u64 0) M) 45)=wa:=⟨_,rfl⟩
 rw [hwa]
 have hbq:Bk wa gq 45 ((List.replicate M 0).map W64):=by
  rw [←hwa,←hgq,←replicate_W64];exact Bk.new' _ _ _
 have hea:Ext w2 wa:=by rw [←hwa];exact (Ext.refl w2).alloc _
 have hgw:w.heap.size≤gv:=hgv
 have hgw2:w.heap.size≤gu:=by omega
 have hgw3:w.heap.size≤gq:=by omega
 have hbva:=hbv2.ext hea
 have hbua:=hbu.ext hea
 have hexa:Ext w wa:=(hx1.trans hx2).trans hea
 clear hgq hwa hbv hbu hbv2 hea hcy
 have hL0:Hid (Lg (nv ys*2^s) (nv xs*2^s) M us (List.replicate M 0)):=by
  refine⟨?_,?_⟩
  ·rw [List.drop_of_length_le (by rw [List.length_replicate];exact Nat.le_refl _),hvu.out];simp [nv]
  ·rw [hvu.out,show M=N+1-n from by omega];exact HUV.out
 have hv1:Hid (0<vs.getD (n-1) 0):=by
  refine Nat.pos_of_ne_zero (fun h0=>?_)
  have e1:=nv_take_zero vs (n-1) (by rw [hlv.out];omega) h0
  rw [Nat.sub_add_cancel (by omega),List.take_of_length_le (by rw [hlv.out];exact Nat.le_refl _),hvv.out] at e1
  have e2:=nv_take_lt hwv (n-1)
  have:=HVlow.out
  omega
 go_loopw [11] (fun u wr=>∃(k:Nat) (l ql:List Nat),k≤M∧u= .int .i64 ((k:Int)-1)∧Hid (l.length=N+1)∧Wf l∧Hid (ql.length=M)∧Wf ql∧Bk wr gv 45 (vs.map W64)∧Bk wr gu 45 (l.map W64)∧Bk wr gq 45 (ql.map W64)∧
  Hid (Lg (nv ys*2^s) (nv xs*2^s) k l ql)∧Ext w wr) (fun u wr=>(intOf u+1).toNat)
 case atStart=>exact⟨M,us,_,Nat.le_refl _,val_int (by omega),hlu,hwu,List.length_replicate,Wf_zeros _,hbva,hbua,hbq,hL0,hexa⟩
 case round=>
  obtain⟨k,l,ql,hk,rfl,hll,hwl,hlq,hwq,hbv,hbu,hbq',hL,hr⟩:=hrel
  clear hbva hbua hbq hexa hL0 hlu hvu
  by_cases hk0:0<k
  ·obtain⟨j,rfl⟩:∃j,k=j+1:=⟨k-1,by omega⟩
   have ek:((j+1:Nat):Int)-1=(j:Int):=by omega
   rw [ek]
   obtain⟨u2,hu2k,hu2b,hcu2⟩:=hbu.word hwl (i:=j+n) (by rw [hll.out];omega)
   obtain⟨u1,hu1k,hu1b,hcu1⟩:=hbu.word hwl (i:=j+n-1) (by rw [hll.out];omega)
   obtain⟨u0,hu0k,hu0b,hcu0⟩:=hbu.word hwl (i:=j+n-2) (by rw [hll.out];omega)
   obtain⟨v1,hv1k,hv1b,hcv1⟩:=hbv.word hwv (i:=n-1) (by rw [hlv.out];omega)
   obtain⟨v0,hv0k,hv0b,hcv0⟩:=hbv.word hwv (i:=n-2) (by rw [hlv.out];omega)
   have hgs:=fun d=>long_guess (d:=d) hL.out hn (by rw [hll.out];omega) hwl hlv.out hwv hvv.out hv1.out
   rw [hu2k.out,hu1k.out,hu0k.out,hv1k.out,hv0k.out] at hgs
   have hu2v:u2≤v1:=(hgs 0).2.1
   have hv1p:0<v1:=by rw [←hv1k.out];exact hv1.out
   have HGS:=Lib.hid hgs
   clear hgs
   have hfin:∀(q:Nat) (l2:List Nat) (wr2:World),q=nv l/(WB^j*(nv ys*2^s))→nv l2=nv l%(WB^j*(nv ys*2^s))→q≤18446744073709551615→l2.length=N+1→Wf l2→Bk wr2 gv 45 (vs.map W64)→Bk wr2 gu 45 (l2.map W64)→Bk wr2 gq 45 ((ql.set j q).map W64)→Ext w wr2→
     ∃(k:Nat) (l ql:List Nat),k≤M∧Value.int .i64 ((j:Int)-1)= .int .i64 ((k:Int)-1)∧Hid (l.length=N+1)∧Wf l∧Hid (ql.length=M)∧Wf ql∧Bk wr2 gv 45 (vs.map W64)∧Bk wr2 gu 45 (l.map W64)∧Bk wr2 gq 45 (ql.map W64)∧
      Hid (Lg (nv ys*2^s) (nv xs*2^s) k l ql)∧Ext w wr2:=by
    intro q l2 wr2 h1 h2 h3 h4 h5 h6 h7 h8 h9
    exact⟨j,l2,ql.set j q,by omega,rfl,h4,h5,(show _=_ by rw [List.length_set];exact hlq.out),Wf_set hwq j (by rw [WB_def];omega),h6,h7,h8,hL.out.step (by rw [hlq.out];omega) HVpos.out h1 h2,h9⟩
   have FIN:=Lib.hid hfin
   clear hfin
   go_upto_region 9 with (fail)
   obtain⟨d,hdb,hd1,hd2⟩:=guess_is ((u2*WB+u1)*WB+u0) (v1*WB+v0) (by rw [WB_def];omega)
   have hdd:=Lib.hid ((HGS.out d).2.2 hdb hd1 hd2)
   have HLT:=Lib.hid (HGS.out d).1
   have HD1:=Lib.hid hd1
   have HD2:=Lib.hid hd2
   clear hd1 hd2 HGS
   have w1e:IntKind.i64.wrap ((j:Int)+(n:Int))=(j:Int)+(n:Int):=IntWalk.i64_in _ (by omega)
   have w2e:IntKind.i64.wrap ((j:Int)+(n:Int)-1)=(j:Int)+(n:Int)-1:=IntWalk.i64_in _ (by omega)
   have w3e:IntKind.i64.wrap ((j:Int)+(n:Int)-2)=(j:Int)+(n:Int)-2:=IntWalk.i64_in _ (by omega)
   have w4e:IntKind.i64.wrap ((n:Int)-1)=(n:Int)-1:=IntWalk.i64_in _ (by omega)
   have w5e:IntKind.i64.wrap ((n:Int)-2)=(n:Int)-2:=IntWalk.i64_in _ (by omega)
   have t1:((j:Int)+(n:Int)).toNat=j+n:=by omega
   have t2:((j:Int)+(n:Int)-1).toNat=j+n-1:=by omega
   have t3:((j:Int)+(n:Int)-2).toNat=j+n-2:=by omega
   have t4:((n:Int)-1).toNat=n-1:=by omega
   have t5:((n:Int)-2).toNat=n-2:=by omega
   have b1:0≤(j:Int)+(n:Int):=by omega
   have b2:0≤(j:Int)+(n:Int)-1:=by omega
   have b3:0≤(j:Int)+(n:Int)-2:=by omega
   have b4:0≤(n:Int)-1:=by omega
   have b5:0≤(n:Int)-2:=by omega
   have c1:(j:Int)+(n:Int)<(N:Int)+1:=by omega
   have c2:(j:Int)+(n:Int)-1<(N:Int)+1:=by omega
   have c3:(j:Int)+(n:Int)-2<(N:Int)+1:=by omega
   have c4:(n:Int)-1<(n:Int):=by omega
   have c5:(n:Int)-2<(n:Int):=by omega
   go_quiet (exact guess_quiet hu2v hu1b hu0b hv1b hv0b hv1p hdb HD1.out HD2.out _ _)
   clear w1e w2e w3e w4e w5e t1 t2 t3 t4 t5 b1 b2 b3 b4 b5 c1 c2 c3 c4 c5
   obtain⟨wd,hwd⟩:∃wd,wr.drewN nq=wd:=⟨_,rfl⟩
   rw [hwd]
   have hbu1:Bk wd gu 45 (l.map W64):=by rw [←hwd];exact hbu.drewN nq
   have hbv1:Bk wd gv 45 (vs.map W64):=by rw [←hwd];exact hbv.drewN nq
   have hbq1:Bk wd gq 45 (ql.map W64):=by rw [←hwd];exact hbq'.drewN nq
   have hr1:Ext w wd:=by rw [←hwd];exact hr.drewN nq
   clear hwd hcu2 hcu1 hcu0 hcv1 hcv0
   have hvrd:=hbv1.rd hwv (o:=0) (n:=n) (cap:=n) (Nat.le_refl _) (by rw [hlv.out];omega) (by rw [len_maxLen];omega)
   rw [List.drop_zero,List.take_of_length_le (by rw [hlv.out];exact Nat.le_refl _)] at hvrd
   go_wp2_with fail
   rw [show j+n+1-j=n+1 from by omega]
   refine (divnat_take (o:=j) (m:=n) hbu1 hwl hvrd (fun a ha=>by cases ha;show gv≠gu;omega) (by rw [hll.out];omega) (by omega) (by omega) hdb).mono ?_
   rintro e w4 ⟨bb,rfl,l1,c,hb4,hw4,hll4,hdr4,hc4,hP4,hu4⟩
   have hll4':Hid (l1.length=N+1):=(show _=_ by rw [hll4.out,hll.out])
   have hL1:Hid (nv l1<WB^(j+n+1)):=lt_of_drop (by rw [hll.out];omega) (by rw [hll4'.out];omega) hw4 hdr4.out HLT.out
   have hcase:=long_case (D:=WB^j*(nv ys*2^s)) (Nat.mul_pos (Nat.pow_pos WB_pos) HVpos.out) hdd.out.1 hdd.out.2 HLT.out hL1.out (by
    have h:=hP4.out.2
    rw [hvv.out,Nat.mul_left_comm] at h
    exact h) hc4
   have hbc:=hP4.out.1
   have hbv4:=hbv1.upd hu4 (by omega)
   have hbq4:=hbq1.upd hu4 (by omega)
   have hr4:=hu4.ext hr1 hgw2
   have hbb:bb=false∧c=0∨bb=true∧c=1:=by
    rcases bb with _ | _
    ·left;refine⟨rfl,?_⟩;simp at hbc;omega
    ·right;exact⟨rfl,hbc.1 rfl⟩
   clear hP4 hbc hc4 hbv hbu hbq' hbu1 hbv1 hbq1 hr hr1 hvrd
   rcases hbb with⟨rfl,hc⟩ | ⟨rfl,hc⟩
   ·have h0:=Lib.hid (hcase.1 hc)
    clear hcase hc
    obtain⟨z,hz,_,hcz⟩:=hbq4.word hwq (i:=j) (by rw [hlq.out];omega)
    have hfz:=hbq4.frozen j
    have hjM:(j:Int)<(M:Int):=by omega
    go_wp2_with fail
    go_roundw
    case rel=>exact FIN.out d l1 _ h0.out.1 h0.out.2 hdb hll4'.out hw4 (hbv4.far (by show gv≠gq;omega) _) (hb4.far (by show gu≠gq;omega) _) (by rw [←map_W64_set];exact hbq4.set _ _) (hr4.setCell hgw3 _)
    case measure=>simp [intOf]
   ·have h0:=Lib.hid (hcase.2 hc)
    clear hcase hc
    obtain⟨q,rfl⟩:∃q,d=q+1:=⟨_,h0.out.1⟩
    have hq:Hid (q=nv l/(WB^j*(nv ys*2^s))):=(show _=_ from Nat.succ.inj h0.out.1)
    have hvrd:=hbv4.rd hwv (o:=0) (n:=n) (cap:=n) (Nat.le_refl _) (by rw [hlv.out];omega) (by rw [len_maxLen];omega)
    rw [List.drop_zero,List.take_of_length_le (by rw [hlv.out];exact Nat.le_refl _)] at hvrd
    go_wp2_with fail
    rw [show j+n+1-j=n+1 from by omega]
    refine (divnat_give (o:=j) (m:=n) hb4 hw4 hvrd (fun a ha=>by cases ha;show gv≠gu;omega) (by rw [hll4'.out];omega) (by omega) (by omega)).mono ?_
    rintro e w5 ⟨rfl,l2,c2,hb5,hw5,hll5,hdr5,hc5,hP5,hu5⟩
    have hll5':Hid (l2.length=N+1):=(show _=_ by rw [hll5.out,hll4'.out])
    have hL2:Hid (nv l2<WB^(j+n+1)):=lt_of_drop (by rw [hll4'.out];omega) (by rw [hll5'.out];omega) hw5 hdr5.out hL1.out
    have hfin2:Hid (nv l2=nv l%(WB^j*(nv ys*2^s))):=h0.out.2 (nv l2) c2 hc5 hL2.out (by have h:=hP5.out;rw [hvv.out] at h;exact h)
    have hbv5:=hbv4.upd hu5 (by omega)
    have hbq5:=hbq4.upd hu5 (by omega)
    have hr5:=hu5.ext hr4 hgw2
    clear hP5 hc5 hbv4 hbq4 hr4 hb4 hvrd h0
    obtain⟨z,hz,_,hcz⟩:=hbq5.word hwq (i:=j) (by rw [hlq.out];omega)
    have hfz:=hbq5.frozen j
    have hjM:(j:Int)<(M:Int):=by omega
    go_wp2_with fail
    go_roundw
    case rel=>exact FIN.out q l2 _ hq.out hfin2.out (by omega) hll5'.out hw5 (hbv5.far (by show gv≠gq;omega) _) (hb5.far (by show gu≠gq;omega) _) (by rw [←map_W64_set];exact hbq5.set _ _) (hr5.setCell hgw3 _)
    case measure=>simp [intOf]
  ·obtain rfl:k=0:=by omega
   have ek:((0:Nat):Int)-1= -1:=rfl
   rw [ek]
   have hLv:Hid (nv l<nv ys*2^s):=by
    have:=hL.out.lt
    rw [Nat.pow_zero,Nat.mul_one] at this
    exact this
   have hQ:=long_end (X:=nv xs) (Y:=nv ys) (s:=s) (Q:=nv ql) (L:=nv l) (Nat.pos_of_mul_pos_right HVpos.out) (by have:=hL.out.eq;simpa using this) hLv.out
   have hln:Hid (nv (l.take n)=nv l):=by
    show _=_
    have e1:=nv_split l n (by rw [hll.out];omega)
    rcases Nat.eq_zero_or_pos (nv (l.drop n)) with h0 | h0
    ·rw [h0,Nat.mul_zero,Nat.add_zero] at e1;exact e1.symm
    ·have:=Nat.le_mul_of_pos_right (WB^n) h0
     have h2:=hLv.out
     have h3:=HVfit.out
     omega
   have HQ:=Lib.hid hQ
   clear hQ
   have hurd:=hbu.rd hwl (o:=0) (n:=n) (cap:=N+1) (by omega) (by rw [hll.out];omega) (by rw [len_maxLen];omega)
   rw [List.drop_zero] at hurd
   go_wp2_with fail
   refine (nat_Shr hurd (by omega) (by omega)).mono ?_
   rintro e w6 ⟨A6,n6,c6,rfl,hn6,hr6,ho6,hx6⟩
   rw [hln.out,HQ.out.2] at hn6 hr6 ho6
   have hqrd:=(hbq'.ext hx6).rd hwq (o:=0) (n:=M) (cap:=M) (Nat.le_refl _) (by rw [hlq.out];omega) (by rw [len_maxLen];omega)
   rw [List.drop_zero,List.take_of_length_le (by rw [hlq.out];exact Nat.le_refl _)] at hqrd
   go_wp2_with fail
   refine (nat_Least hqrd (by omega)).mono ?_
   rintro e w7 ⟨A7,n7,c7,rfl,hn7,hr7,ho7,hx7⟩
   rw [HQ.out.1] at hn7 hr7 ho7
   go_wp2_with fail
   go_ret2
   exact⟨A7,n7,c7,A6,n6,c6,rfl,hn7,hr7,ho7.mono (hr.trans hx6).size,hn6,hr6.ext hx7,(ho6.mono hr.size).ext hx7,(hr.trans hx6).trans hx7,fun p p' hp hp'=>by have h1:=ho7.block p hp;have h2:=ho6.block p' hp';omega⟩
def RetQRE (w:World) (q r:Nat) (er:Int) (e:Ending) (w':World):Prop:=
 ∃A n cap B m cap',e= .returned (.tuple #[.slice A n cap,.slice B m cap',.int .i64 er])∧Hid (n=(wd q).length)∧Rd w' A n cap (wd q)∧Own w' w.heap.size 45 1 A n cap ((wd q).map W64)∧
  Hid (m=(wd r).length)∧Rd w' B m cap' (wd r)∧Own w' w.heap.size 45 1 B m cap' ((wd r).map W64)∧Ext w w'
def RetQREA (w:World) (q r:Nat) (er:Int) (e:Ending) (w':World):Prop:=
 ∃A n cap B m cap',e= .returned (.tuple #[.slice A n cap,.slice B m cap',.int .i64 er])∧Hid (n=(wd q).length)∧Rd w' A n cap (wd q)∧Own w' w.heap.size 45 1 A n cap ((wd q).map W64)∧
  Hid (m=(wd r).length)∧Rd w' B m cap' (wd r)∧Own w' w.heap.size 45 1 B m cap' ((wd r).map W64)∧Ext w w'∧∀p p',A=some p→B=some p'→p.block≠p'.block
theorem RetQREA.old {w:World}{q r:Nat}{er:Int}{e:Ending}{w':World}(h:RetQREA w q r er e w'):RetQRE w q r er e w':=by
 obtain⟨A,n,cap,B,m,cap',h1,h2,h3,h4,h5,h6,h7,h8,_⟩:=h
 exact⟨A,n,cap,B,m,cap',h1,h2,h3,h4,h5,h6,h7,h8⟩
theorem wd_top {m:Nat}(h:m≠0):(wd m).getD ((wd m).length-1) 0≠0:=by
 intro h0
 have hl:0<(wd m).length:=Nat.pos_of_ne_zero (fun e=>h (len_wd_zero.1 e))
 have e1:=nv_take_zero (wd m) ((wd m).length-1) (by omega) h0
 rw [Nat.sub_add_cancel (by omega),List.take_of_length_le (Nat.le_refl _),nv_wd] at e1
 have h2:=nv_take_lt (Wf_wd m) ((wd m).length-1)
 have h3:=pow_len_le h
 omega
theorem wd_len_one {m v:Nat}(h:1=(wd m).length) (hv:(wd m).getD 0 0=v):m=v:=by
 have e1:=nv_take_snoc (wd m) 0 (by omega)
 rw [List.take_of_length_le (by omega),nv_wd,hv] at e1
 simpa [nv] using e1
theorem divnat_DivModA {w:World}{A B:Option Addr}{n cap n' cap':Nat}{xs ys:List Nat}(hx:Rd w A n cap xs) (hl:n≤274877906944) (hy:Rd w B n' cap' ys) (hl':n'≤274877906944) (h0:nv ys≠0):
  Calls Tryz.prog 77 #[.slice A n cap,.slice B n' cap'] w (RetQREA w (nv xs/nv ys) (nv xs%nv ys) 0):=by
 go_enter Tryz.func77,Tryz.ntmps77
 go_wp2_with fail
 refine (nat_Least hy (by omega)).mono ?_
 rintro e w1 ⟨A1,n1,c1,rfl,hn1,hr1,ho1,hx1⟩
 have hn1p:0<n1:=by
  rw [hn1.out];exact Nat.pos_of_ne_zero (fun e=>h0 (len_wd_zero.1 e))
 have hn1b:n1≤n':=by
  have:=len_wd_nv hy.wf
  rw [hn1.out,←hy.len];exact this
 have b0:((n1:Int)==0)=false:=by simp;omega
 by_cases h1:n1=1
 ·subst h1
  obtain⟨a,v,rfl,hvk,hvb,hcv⟩:=hr1.get (i:=0) (by omega)
  have hv:Hid (nv ys=v):=wd_len_one hn1.out hvk.out
  have hcv0:w1.cell? a=some (.int .u64 (v:Int)):=by simpa [Addr.add] using hcv
  go_wp2_with fail
  refine (divnat_Word (hx.ext hx1) (by omega) (v:=v) (by rw [←hv.out];exact h0) hvb).mono ?_
  rintro e w2 ⟨A2,n2,c2,r,rfl,hr,hrb,hn2,hr2,ho2,hx2⟩
  go_wp2_with fail
  have hone:=Rd.one w2 hrb
  refine (nat_Least hone (by omega)).mono ?_
  rintro e w3 ⟨A3,n3,c3,rfl,hn3,hr3,ho3,hx3⟩
  rw [nv_one,hr.out,←hv.out] at hn3 hr3 ho3
  rw [←hv.out] at hn2 hr2 ho2
  have hal:Ext w2 w3:=((Ext.refl w2).alloc _).trans hx3
  go_wp2_with fail
  go_ret3
  exact⟨A2,n2,c2,A3,n3,c3,rfl,hn2,hr2.ext hal,(ho2.mono hx1.size).ext hal,hn3,hr3,ho3.mono (Nat.le_trans (hx1.trans hx2).size (by simp)),(hx1.trans hx2).trans hal,fun p p' hp hp'=>by have h1:=ho2.block p hp;have h2:=ho3.block p' hp';simp only [World.alloc,Array.size_push] at h2;omega⟩
 ·have b1:((n1:Int)==1)=false:=by simp;omega
  go_wp2_with fail
  refine (nat_Least (hx.ext hx1) (by omega)).mono ?_
  rintro e w2 ⟨A2,n2,c2,rfl,hn2,hr2,ho2,hx2⟩
  have hn2b:n2≤n:=by
   have:=len_wd_nv hx.wf
   rw [hn2.out,←hx.len];exact this
  go_wp2_with fail
  refine (nat_Cmp hr2 (by omega) (hr1.ext hx2) (by omega)).mono ?_
  rintro e w3 ⟨c,hc,hcl,hch,rfl,hx3⟩
  rw [nv_wd,nv_wd] at hc
  by_cases hlt:nv xs<nv ys
  ·have hneg:c<0:=by rw [hc.out];exact cmp3_neg.2 hlt
   go_wp2_with fail
   go_ret3
   rw [Nat.div_eq_of_lt hlt,Nat.mod_eq_of_lt hlt]
   exact⟨none,0,0,A2,n2,c2,rfl,rfl,Rd.nil _,Own.nil _ _ _ _,hn2,hr2.ext hx3,(ho2.mono hx1.size).ext hx3,(hx1.trans hx2).trans hx3,fun p p' hp=>by cases hp⟩
  ·have hneg:¬c<0:=by rw [hc.out,cmp3_neg];exact hlt
   have HL:=Lib.hid hlt
   have hn12:n1≤n2:=by rw [hn1.out,hn2.out];exact len_wd_mono (by omega)
   clear hlt
   go_wp2_with fail
   refine (divnat_longA (hr2.ext hx3) (by omega) ((hr1.ext hx2).ext hx3) (by omega) hn12 (by rw [hn1.out];exact wd_top h0)).mono ?_
   rintro e w4 ⟨A4,n4,c4,A5,n5,c5,rfl,hn4,hr4,ho4,hn5,hr5,ho5,hx4,hap⟩
   rw [nv_wd,nv_wd] at hn4 hr4 ho4 hn5 hr5 ho5
   go_wp2_with fail
   go_ret3
   have hs:=((hx1.trans hx2).trans hx3)
   exact⟨A4,n4,c4,A5,n5,c5,rfl,hn4,hr4,ho4.mono hs.size,hn5,hr5,ho5.mono hs.size,hs.trans hx4,hap⟩
theorem divnat_DivMod {w:World}{A B:Option Addr}{n cap n' cap':Nat}{xs ys:List Nat}(hx:Rd w A n cap xs) (hl:n≤274877906944) (hy:Rd w B n' cap' ys) (hl':n'≤274877906944) (h0:nv ys≠0):
  Calls Tryz.prog 77 #[.slice A n cap,.slice B n' cap'] w (RetQRE w (nv xs/nv ys) (nv xs%nv ys) 0):=(divnat_DivModA hx hl hy hl' h0).mono fun _ _ h=>h.old
theorem divnat_Exact {w:World}{A B:Option Addr}{n cap n' cap':Nat}{xs ys:List Nat}(hx:Rd w A n cap xs) (hl:n≤274877906944) (hy:Rd w B n' cap' ys) (hl':n'≤274877906944) (h0:nv ys≠0) (h1:nv xs%nv ys=0):
  Calls Tryz.prog 59 #[.slice A n cap,.slice B n' cap'] w (RetWE w (nv xs/nv ys) 0):=by
 go_enter Tryz.func59,Tryz.ntmps59
 have H1:=Lib.hid h1
 clear h1
 go_wp2_with fail
 refine (divnat_DivMod hx hl hy hl' h0).mono ?_
 rintro e w1 ⟨A4,n4,c4,A5,n5,c5,rfl,hn4,hr4,ho4,hn5,hr5,ho5,hx4⟩
 obtain rfl:n5=0:=by rw [hn5.out,H1.out];rfl
 go_wp2_with fail
 go_ret2
 exact⟨A4,n4,c4,rfl,hn4,hr4,ho4,hx4⟩
def sg (s:Bool) (m:Nat):Int:=if s then-(m:Int) else m
theorem sg_false (m:Nat):sg false m=m:=rfl
theorem sg_true (m:Nat):sg true m= -(m:Int):=rfl
theorem sg_abs (s:Bool) (m:Nat):(sg s m).natAbs=m:=by cases s <;> simp [sg]
theorem sg_self (z:Int):sg (decide (z<0)) z.natAbs=z:=by
 by_cases h:z<0
 ·rw [decide_eq_true h,sg_true];omega
 ·rw [decide_eq_false h,sg_false];omega
theorem sg_zero (s:Bool):sg s 0=0:=by cases s <;> rfl
theorem sg_eq_zero {s:Bool}{m:Nat}:sg s m=0↔m=0:=by cases s <;> simp [sg]
theorem sg_not (s:Bool) (m:Nat):sg (!s) m= -sg s m:=by cases s <;> simp [sg]
theorem sg_lt (s:Bool) (m:Nat):decide (sg s m<0)=(s&&decide (0<m)):=by
 cases s
 ·simp [sg]
 ·by_cases h:0<m
  ·simp [sg,h]
  ·have:m=0:=by omega
   subst this
   simp [sg]
theorem sg_add (s:Bool) (m k:Nat):sg s (m+k)=sg s m+sg s k:=by cases s <;> simp [sg] <;> omega
theorem sg_sub {s:Bool}{m k:Nat}(h:k≤m):sg s (m-k)=sg s m+sg (!s) k:=by cases s <;> simp [sg] <;> omega
theorem sg_mul (s t:Bool) (m k:Nat):sg (s != t) (m*k)=sg s m*sg t k:=by
 cases s <;> cases t <;> simp [sg,Int.mul_neg,Int.neg_mul]
theorem sg_tdiv (s t:Bool) (m k:Nat):sg (s != t) (m/k)=(sg s m).tdiv (sg t k):=by
 cases s <;> cases t <;> simp [sg,Int.tdiv_neg,Int.neg_tdiv]
theorem sg_tmod (s t:Bool) (m k:Nat):sg s (m%k)=(sg s m).tmod (sg t k):=by
 cases s <;> cases t <;> simp [sg,Int.tmod_neg,Int.neg_tmod] <;> rfl
def ln (z:Int):Nat:=(wd z.natAbs).length
theorem ln_mono {x y:Int}(h:x.natAbs≤y.natAbs):ln x≤ln y:=len_wd_mono h
theorem ln_neg (x:Int):ln (-x)=ln x:=by unfold ln;rw [Int.natAbs_neg]
theorem ln_add {x y:Int}{a b:Nat}(hx:ln x≤a) (hy:ln y≤b):ln (x+y)≤max a b+1:=by
 have h1:=len_wd_mono (Int.natAbs_add_le x y)
 have h2:=len_wd_add x.natAbs y.natAbs
 unfold ln at*
 omega
theorem ln_sub {x y:Int}{a b:Nat}(hx:ln x≤a) (hy:ln y≤b):ln (x-y)≤max a b+1:=by
 rw [Int.sub_eq_add_neg]
 exact ln_add hx (by rw [ln_neg];exact hy)
theorem ln_mul {x y:Int}{a b:Nat}(hx:ln x≤a) (hy:ln y≤b):ln (x*y)≤a+b:=by
 have h2:=len_wd_mul x.natAbs y.natAbs
 unfold ln at*
 rw [Int.natAbs_mul]
 omega
theorem ln_zero:ln 0=0:=rfl
theorem ln_one:ln 1=1:=by decide+kernel
def Zi (w:World) (s:Bool) (A:Option Addr) (n cap:Nat) (z:Int):Prop:=∃xs,Rd w A n cap xs∧sg s (nv xs)=z
theorem Zi.ext {w w':World}{s:Bool}{A:Option Addr}{n cap:Nat}{z:Int}(h:Zi w s A n cap z) (e:Ext w w'):Zi w' s A n cap z:=by
 obtain⟨xs,h1,h2⟩:=h
 exact⟨xs,h1.ext e,h2⟩
theorem Zi.ln {w:World}{s:Bool}{A:Option Addr}{n cap:Nat}{z:Int}(h:Zi w s A n cap z):Go.Proofs.YtnpbbknemflpnaaGreat.ln z≤n:=by
 obtain⟨xs,h1,rfl⟩:=h
 have:=len_wd_nv h1.wf
 rw [h1.len] at this
 unfold Go.Proofs.YtnpbbknemflpnaaGreat.ln
 rw [sg_abs]
 exact this
theorem Zi.not {w:World}{s:Bool}{A:Option Addr}{n cap:Nat}{z:Int}(h:Zi w s A n cap z):Zi w (!s) A n cap (-z):=by
 obtain⟨xs,h1,rfl⟩:=h
 exact⟨xs,h1,sg_not _ _⟩
structure Zr (w:World) (base:Nat) (s:Bool) (A:Option Addr) (n cap:Nat) (z:Int):Prop where
 sgn:s=decide (z<0)
 len:n=ln z
 own:Own w base 45 1 A n cap ((wd z.natAbs).map W64)
theorem Zr.rd {w:World}{base:Nat}{s:Bool}{A:Option Addr}{n cap:Nat}{z:Int}(h:Zr w base s A n cap z):Rd w A n cap (wd z.natAbs):=h.own.rd (Wf_wd _)
theorem Zr.ext {w w':World}{base:Nat}{s:Bool}{A:Option Addr}{n cap:Nat}{z:Int}(h:Zr w base s A n cap z) (e:Ext w w'):Zr w' base s A n cap z:=⟨h.sgn,h.len,h.own.ext e⟩
theorem Zr.mono {w:World}{base base':Nat}{s:Bool}{A:Option Addr}{n cap:Nat}{z:Int}(h:Zr w base s A n cap z) (e:base'≤base):Zr w base' s A n cap z:=⟨h.sgn,h.len,h.own.mono e⟩
theorem Zr.zi {w:World}{base:Nat}{s:Bool}{A:Option Addr}{n cap:Nat}{z:Int}(h:Zr w base s A n cap z):Zi w s A n cap z:=⟨_,h.rd,by rw [nv_wd,h.sgn,sg_self]⟩
theorem Zr.upd {w w':World}{base g:Nat}{s:Bool}{A:Option Addr}{n cap:Nat}{z:Int}(h:Zr w base s A n cap z) (hg:g<base) (e:Upd g w w'):Zr w' base s A n cap z:=
 ⟨h.sgn,h.len,h.own.upd e (fun a ha=>by have:=(h.own.block a ha).1;omega)⟩
theorem Zr.cast {w:World}{base:Nat}{s:Bool}{A:Option Addr}{n cap:Nat}{z z':Int}(h:Zr w base s A n cap z) (e:z=z'):Zr w base s A n cap z':=e▸h
theorem Zr.le {w:World}{base:Nat}{s:Bool}{A:Option Addr}{n cap:Nat}{z:Int}(h:Zr w base s A n cap z){b:Nat}(hb:ln z≤b):n≤b:=by rw [h.len];exact hb
theorem Zr.ln_le {w:World}{base:Nat}{s:Bool}{A:Option Addr}{n cap:Nat}{z:Int}(h:Zr w base s A n cap z){b:Nat}(hb:n≤b):ln z≤b:=by rw [←h.len];exact hb
theorem Zr.zero {w:World}{base:Nat}:Zr w base false none 0 0 0:=⟨by decide,rfl,Own.nil _ _ _ _⟩
def RetZ (w:World) (z:Int) (e:Ending) (w':World):Prop:=
 ∃s A n cap,e= .returned (.agg #[.bool s,.slice A n cap])∧Zr w' w.heap.size s A n cap z∧Ext w w'
def RetZE (w:World) (z:Int) (er:Int) (e:Ending) (w':World):Prop:=
 ∃s A n cap,e= .returned (.tuple #[.agg #[.bool s,.slice A n cap],.int .i64 er])∧Zr w' w.heap.size s A n cap z∧Ext w w'
def RetZZE (w:World) (q r:Int) (er:Int) (e:Ending) (w':World):Prop:=
 ∃s A n cap s' B m cap',e= .returned (.tuple #[.agg #[.bool s,.slice A n cap],.agg #[.bool s',.slice B m cap'],.int .i64 er])∧Zr w' w.heap.size s A n cap q∧Zr w' w.heap.size s' B m cap' r∧Ext w w'
theorem Zr_of {w:World}{base:Nat}{s s':Bool}{A:Option Addr}{n cap m:Nat}{z:Int}(h:s'=decide (sg s m<0)) (hn:n=(wd m).length) (ho:Own w base 45 1 A n cap ((wd m).map W64)) (hz:sg s m=z):Zr w base s' A n cap z:=by
 have e:z.natAbs=m:=by rw [←hz,sg_abs]
 rw [hz] at h
 exact⟨h,by unfold ln;rw [e];exact hn,by rw [e];exact ho⟩
theorem Bk.two {w:World}{g:Nat}{t:TypeId}{a b:Value}(h:Bk w g t [a,b]):w.cell? ⟨g,0,none⟩=some a∧w.cell? ⟨g,1,none⟩=some b∧w.frozen? ⟨g,0,none⟩=false∧w.frozen? ⟨g,1,none⟩=false:=
 ⟨h.cell (i:=0) (by simp),h.cell (i:=1) (by simp),h.frozen 0,h.frozen 1⟩
theorem Bk.two_set {w:World}{g:Nat}{t:TypeId}{a b:Value}(h:Bk w g t [a,b]) (u v:Value):Bk ((w.setCell ⟨g,0,none⟩ u).setCell ⟨g,1,none⟩ v) g t [u,v]:=(h.set 0 u).set 1 v
theorem Upd.two {w:World}{g:Nat}(u v:Value):Upd g w ((w.setCell ⟨g,0,none⟩ u).setCell ⟨g,1,none⟩ v):=((Upd.refl g w).setCell 0 u).setCell 1 v
theorem Bk.sec {w:World}{t t':TypeId}{l:Array Value}{a b:Value}:Bk ((w.alloc (.cells l t')).alloc (.cells #[a,b] t)) (w.heap.size+1) t [a,b]:=by
 have:=Bk.new (w.alloc (.cells l t')) t [a,b]
 simpa using this
theorem Bk.thi {w:World}{t t' t'':TypeId}{l l':Array Value}{a b:Value}:Bk (((w.alloc (.cells l t')).alloc (.cells l' t'')).alloc (.cells #[a,b] t)) (w.heap.size+2) t [a,b]:=by
 have:=Bk.new ((w.alloc (.cells l t')).alloc (.cells l' t'')) t [a,b]
 simpa using this
theorem Bk.fou {w:World}{t t' t'' t''':TypeId}{l l' l'':Array Value}{a b:Value}:Bk ((((w.alloc (.cells l t')).alloc (.cells l' t'')).alloc (.cells l'' t''')).alloc (.cells #[a,b] t)) (w.heap.size+3) t [a,b]:=by
 have:=Bk.new (((w.alloc (.cells l t')).alloc (.cells l' t'')).alloc (.cells l'' t''')) t [a,b]
 simpa using this
theorem boxes2 (w:World) (t t':TypeId) (a b c d:Value):∃g g2 wa,w.heap.size+1=g2∧w.heap.size=g∧(w.alloc (.cells #[a,b] t)).alloc (.cells #[c,d] t')=wa∧Bk wa g t [a,b]∧Bk wa g2 t' [c,d]∧Ext w wa∧g<g2∧g2<wa.heap.size∧g≠g2∧g2≠g:=
 ⟨_,_,_,rfl,rfl,rfl,(Bk.new w t [a,b]).alloc _,Bk.sec,((Ext.refl w).alloc _).alloc _,by omega,by simp,by omega,by omega⟩
theorem boxes3 (w:World) (t t' t'':TypeId) (a b c d e f:Value):∃g g2 g3 wa,w.heap.size+1+1=g3∧w.heap.size+1=g2∧w.heap.size=g∧((w.alloc (.cells #[a,b] t)).alloc (.cells #[c,d] t')).alloc (.cells #[e,f] t'')=wa∧Bk wa g t [a,b]∧Bk wa g2 t' [c,d]∧Bk wa g3 t'' [e,f]∧Ext w wa∧g<g2∧g2<g3∧g3<wa.heap.size∧g≠g2∧g2≠g∧g≠g3∧g3≠g∧g2≠g3∧g3≠g2:=
 ⟨_,_,_,_,rfl,rfl,rfl,rfl,((Bk.new w t [a,b]).alloc _).alloc _,Bk.sec.alloc _,Bk.thi,(((Ext.refl w).alloc _).alloc _).alloc _,by omega,by omega,by simp,by omega,by omega,by omega,by omega,by omega,by omega⟩
theorem boxes4 (w:World) (t t' t'' t''':TypeId) (a b c d e f i j:Value):∃g g2 g3 g4 wa,w.heap.size+1+1+1=g4∧w.heap.size+1+1=g3∧w.heap.size+1=g2∧w.heap.size=g∧(((w.alloc (.cells #[a,b] t)).alloc (.cells #[c,d] t')).alloc (.cells #[e,f] t'')).alloc (.cells #[i,j] t''')=wa∧Bk wa g t [a,b]∧Bk wa g2 t' [c,d]∧Bk wa g3 t'' [e,f]∧Bk wa g4 t''' [i,j]∧Ext w wa∧g<g2∧g2<g3∧g3<g4∧g4<wa.heap.size∧g≠g2∧g2≠g∧g≠g3∧g3≠g∧g2≠g3∧g3≠g2∧g≠g4∧g4≠g∧g2≠g4∧g4≠g2∧g3≠g4∧g4≠g3:=
 ⟨_,_,_,_,_,rfl,rfl,rfl,rfl,rfl,(((Bk.new w t [a,b]).alloc _).alloc _).alloc _,(Bk.sec.alloc _).alloc _,Bk.thi.alloc _,Bk.fou,((((Ext.refl w).alloc _).alloc _).alloc _).alloc _,by omega,by omega,by omega,by simp,by omega,by omega,by omega,by omega,by omega,by omega,by omega,by omega,by omega,by omega,by omega,by omega⟩
theorem fin_int {w w2:World}{g base:Nat}{T:TypeId}{x y:Value}{s:Bool}{A:Option Addr}{n cap:Nat}{z:Int}(_hb:Bk w2 g T [x,y]) (hz:Zr w2 base s A n cap z) (hg:g<base) (hw:w.heap.size≤g) (he:Ext w w2):
  RetZ w z (.returned (.agg #[.bool s,.slice A n cap])) ((w2.setCell ⟨g,0,none⟩ (.bool s)).setCell ⟨g,1,none⟩ (.slice A n cap)):=
 ⟨s,A,n,cap,rfl,(hz.upd hg (Upd.two _ _)).mono (by omega),(Upd.two _ _).ext he hw⟩
theorem res_int {w:World}{g:Nat}{t:TypeId}{a b:Value}{fn:Func}{s:Tmp}(hf:fn.results= #[.cell s 41]){tmps:Array Value}(hs:tmps.getD s undef= .pointer (some ⟨g,0,none⟩)) (h:Bk w g t [a,b]):(results fn tmps).run Tryz.prog w= .ok (.agg #[a,b]) w:=by
 obtain⟨h1,h2,_,_⟩:=h.two
 have hs2:tmps[s]?.getD undef= .pointer (some ⟨g,0,none⟩):=by simpa using hs
 simp [results,hf,hs2,loadVar,loadCells,loadCellsFrom,go_sem,h1,h2]
def scmp (x y:Int):Int:=if x<y then-1 else if x=y then 0 else 1
theorem scmp_bd (x y:Int): -1≤scmp x y∧scmp x y≤1:=by unfold scmp;split <;> (try split) <;> omega
theorem scmp_neg {x y:Int}:scmp x y<0↔x<y:=by unfold scmp;split <;> (try split) <;> omega
theorem scmp_zero {x y:Int}:scmp x y=0↔x=y:=by unfold scmp;split <;> (try split) <;> omega
def SgnP (v:Int) (w:World) (e:Ending) (w':World):Prop:=∃c:Int,Hid (c=v)∧ -1≤c∧c≤1∧e= .returned (.int .i64 c)∧Ext w w'
theorem zint_of {w:World}{s:Bool}{A:Option Addr}{n cap m:Nat}(hn:n=(wd m).length):
  Calls Tryz.prog 41 #[.bool s,.slice A n cap] w fun e w'=>∃s',e= .returned (.agg #[.bool s',.slice A n cap])∧Hid (s'=decide (sg s m<0))∧Ext w w':=by
 have hm:decide (0<m)=decide (0<n):=by
  by_cases h:m=0
  ·rw [h] at hn⊢;rw [hn];rfl
  ·have:n≠0:=fun e=>h (len_wd_zero.1 (by rw [←hn,e]))
   rw [decide_eq_true (show 0<m by omega),decide_eq_true (show 0<n by omega)]
 have HM:Hid (decide (sg s m<0)=(s&&decide (0<n))):=(show _=_ by rw [sg_lt,hm])
 clear hm hn
 go_enter Tryz.func41,Tryz.ntmps41
 cases s
 ·go_wp2_with fail
  refine bodyPost_ret (v:= .agg #[.bool false,.slice A n cap]) (by simp [results,Tryz.results41,go_sem]) rfl ?_
  exact⟨_,rfl,(show _=_ by rw [HM.out];rfl),(Ext.refl w).alloc _⟩
 ·by_cases h:n=0
  ·subst h
   go_wp2_with fail
   refine bodyPost_ret (v:= .agg #[.bool false,.slice A 0 cap]) (by simp [results,Tryz.results41,go_sem]) rfl ?_
   exact⟨_,rfl,(show _=_ by rw [HM.out];rfl),(Ext.refl w).alloc _⟩
  ·have h0:0<n:=by omega
   have hd:decide (0<n)=true:=decide_eq_true h0
   have hi:0<(n:Int):=by omega
   go_wp2_with fail
   refine bodyPost_ret (v:= .agg #[.bool true,.slice A n cap]) (by simp [results,Tryz.results41,go_sem]) rfl ?_
   exact⟨_,rfl,(show _=_ by rw [HM.out,hd];rfl),(Ext.refl w).alloc _⟩
theorem zint_Neg {w:World}{s:Bool}{A:Option Addr}{n cap:Nat}{x:Int}(hx:Zi w s A n cap x) (hl:n≤68719476736):
  Calls Tryz.prog 45 #[.agg #[.bool s,.slice A n cap]] w (RetZ w (-x)):=by
 obtain⟨xs,hr,rfl⟩:=hx
 go_enter Tryz.func45,Tryz.ntmps45
 go_upto_region 1 with (fail)
 obtain⟨g,g2,wa,hg2,hg,hwa,hb1,hb2,hea,l12,l2,n12,n21⟩:=boxes2 w 41 41 (.bool s) (.slice A n cap) (.bool false) (.slice none 0 0)
 rw [hg2,hg,hwa]
 have hgw:w.heap.size≤g:=Nat.le_of_eq hg
 clear hwa hg hg2
 obtain⟨f1,f2,f3,f4⟩:=hb1.two
 obtain⟨k1,k2,k3,k4⟩:=hb2.two
 go_region_held3 (fun w'=>w'.cell? ⟨g,0,none⟩=some (.bool s)∧w'.cell? ⟨g,1,none⟩=some (.slice A n cap)) (go_keep)
  (first
  | (go_at_call 47;refine (nat_Least (hr.ext (by repeat (first | exact Ext.refl _ | assumption | apply Ext.drewN | apply Ext.drew | apply Ext.alloc))) (by omega)).mono ?_;rintro e w1 ⟨A1,n1,c1,rfl,hn1,hr1,ho1,hx1⟩;have he1:Ext wa w1:=Ext.trans (by repeat (first | exact Ext.refl _ | assumption | apply Ext.drewN | apply Ext.drew | apply Ext.alloc)) hx1;have hc1:=hb1.ext he1;have hc2:=hb2.ext he1;obtain⟨f1',f2',f3',f4'⟩:=hc1.two;obtain⟨k1',k2',k3',k4'⟩:=hc2.two)
  | (go_at_call 41;refine (zint_of hn1.out).mono ?_;rintro e w2 ⟨s',rfl,hs',hx2⟩;have hd1:=hc1.ext hx2;have hd2:=hc2.ext hx2;obtain⟨f1'',f2'',f3'',f4''⟩:=hd1.two;obtain⟨k1'',k2'',k3'',k4''⟩:=hd2.two))
 go_wp2_with fail
 refine bodyPost_ret (res_int rfl rfl (hd2.two_set _ _)) rfl ?_
 exact fin_int hd2 ((Zr_of hs'.out hn1.out ho1 (sg_not _ _)).ext hx2) (by first | omega | (simp;omega)) (by omega) (hea.trans (he1.trans hx2))
theorem zint_Least {w:World}{s:Bool}{A:Option Addr}{n cap:Nat}{x:Int}(hx:Zi w s A n cap x) (hl:n≤68719476736):
  Calls Tryz.prog 46 #[.agg #[.bool s,.slice A n cap]] w (RetZ w (x)):=by
 obtain⟨xs,hr,rfl⟩:=hx
 go_enter Tryz.func46,Tryz.ntmps46
 go_upto_region 1 with (fail)
 obtain⟨g,g2,wa,hg2,hg,hwa,hb1,hb2,hea,l12,l2,n12,n21⟩:=boxes2 w 41 41 (.bool s) (.slice A n cap) (.bool false) (.slice none 0 0)
 rw [hg2,hg,hwa]
 have hgw:w.heap.size≤g:=Nat.le_of_eq hg
 clear hwa hg hg2
 obtain⟨f1,f2,f3,f4⟩:=hb1.two
 obtain⟨k1,k2,k3,k4⟩:=hb2.two
 go_region_held3 (fun w'=>w'.cell? ⟨g,0,none⟩=some (.bool s)∧w'.cell? ⟨g,1,none⟩=some (.slice A n cap)) (go_keep)
  (first
  | (go_at_call 47;refine (nat_Least (hr.ext (by repeat (first | exact Ext.refl _ | assumption | apply Ext.drewN | apply Ext.drew | apply Ext.alloc))) (by omega)).mono ?_;rintro e w1 ⟨A1,n1,c1,rfl,hn1,hr1,ho1,hx1⟩;have he1:Ext wa w1:=Ext.trans (by repeat (first | exact Ext.refl _ | assumption | apply Ext.drewN | apply Ext.drew | apply Ext.alloc)) hx1;have hc1:=hb1.ext he1;have hc2:=hb2.ext he1;obtain⟨f1',f2',f3',f4'⟩:=hc1.two;obtain⟨k1',k2',k3',k4'⟩:=hc2.two)
  | (go_at_call 41;refine (zint_of hn1.out).mono ?_;rintro e w2 ⟨s',rfl,hs',hx2⟩;have hd1:=hc1.ext hx2;have hd2:=hc2.ext hx2;obtain⟨f1'',f2'',f3'',f4''⟩:=hd1.two;obtain⟨k1'',k2'',k3'',k4''⟩:=hd2.two))
 go_wp2_with fail
 refine bodyPost_ret (res_int rfl rfl (hd2.two_set _ _)) rfl ?_
 exact fin_int hd2 ((Zr_of hs'.out hn1.out ho1 rfl).ext hx2) (by first | omega | (simp;omega)) (by omega) (hea.trans (he1.trans hx2))
theorem zint_Abs {w:World}{s:Bool}{A:Option Addr}{n cap:Nat}{x:Int}(hx:Zi w s A n cap x) (hl:n≤68719476736):
  Calls Tryz.prog 22 #[.agg #[.bool s,.slice A n cap]] w (RetZ w (x.natAbs:Int)):=by
 obtain⟨xs,hr,rfl⟩:=hx
 go_enter Tryz.func22,Tryz.ntmps22
 go_upto_region 1 with (fail)
 obtain⟨g,g2,wa,hg2,hg,hwa,hb1,hb2,hea,l12,l2,n12,n21⟩:=boxes2 w 41 41 (.bool s) (.slice A n cap) (.bool false) (.slice none 0 0)
 rw [hg2,hg,hwa]
 have hgw:w.heap.size≤g:=Nat.le_of_eq hg
 clear hwa hg hg2
 obtain⟨f1,f2,f3,f4⟩:=hb1.two
 go_wp2_with fail
 refine (nat_Least (hr.ext hea) (by omega)).mono ?_
 rintro e w1 ⟨A1,n1,c1,rfl,hn1,hr1,ho1,hx1⟩
 have hc2:=hb2.ext hx1
 go_wp2_with fail
 refine (zint_of hn1.out).mono ?_
 rintro e w2 ⟨s',rfl,hs',hx2⟩
 have hd2:=hc2.ext hx2
 obtain⟨k1,k2,k3,k4⟩:=hd2.two
 go_wp2_with fail
 refine bodyPost_ret (res_int rfl rfl (hd2.two_set _ _)) rfl ?_
 exact fin_int hd2 ((Zr_of hs'.out hn1.out ho1 (by rw [sg_abs,sg_false])).ext hx2) (by omega) (by omega) (hea.trans (hx1.trans hx2))
theorem zint_Mul {w:World}{s t:Bool}{A B:Option Addr}{n cap m cap':Nat}{x y:Int}(hx:Zi w s A n cap x) (hl:n≤68719476736) (hy:Zi w t B m cap' y) (hl':m≤68719476736):
  Calls Tryz.prog 20 #[.agg #[.bool s,.slice A n cap],.agg #[.bool t,.slice B m cap']] w (RetZ w (x*y)):=by
 obtain⟨xs,hr,rfl⟩:=hx
 obtain⟨ys,hq,rfl⟩:=hy
 go_enter Tryz.func20,Tryz.ntmps20
 go_upto_region 1 with (fail)
 obtain⟨g,g2,g3,wa,hg3,hg2,hg,hwa,hb1,hb2,hb3,hea,l12,l23,l3,n12,n21,n13,n31,n23,n32⟩:=boxes3 w 41 41 41 (.bool s) (.slice A n cap) (.bool t) (.slice B m cap') (.bool false) (.slice none 0 0)
 rw [hg3,hg2,hg,hwa]
 have hgw:w.heap.size≤g:=Nat.le_of_eq hg
 clear hwa hg hg2 hg3
 obtain⟨f1,f2,f3,f4⟩:=hb1.two
 obtain⟨h1,h2,h3,h4⟩:=hb2.two
 obtain⟨k1,k2,k3,k4⟩:=hb3.two
 go_region_held3 (fun w'=>w'.cell? ⟨g,0,none⟩=some (.bool s)∧w'.cell? ⟨g,1,none⟩=some (.slice A n cap)∧w'.cell? ⟨g2,0,none⟩=some (.bool t)∧w'.cell? ⟨g2,1,none⟩=some (.slice B m cap')) (go_keep)
  (first
  | (go_at_call 42;refine (mulnat_Mul (hr.ext (by repeat (first | exact Ext.refl _ | assumption | apply Ext.drewN | apply Ext.drew | apply Ext.alloc))) (hq.ext (by repeat (first | exact Ext.refl _ | assumption | apply Ext.drewN | apply Ext.drew | apply Ext.alloc))) (by omega)).mono ?_;rintro e w1 ⟨A1,n1,c1,rfl,hn1,hr1,ho1,hx1⟩;have he1:Ext wa w1:=Ext.trans (by repeat (first | exact Ext.refl _ | assumption | apply Ext.drewN | apply Ext.drew | apply Ext.alloc)) hx1;have hc1:=hb1.ext he1;have hc2:=hb2.ext he1;have hc3:=hb3.ext he1;obtain⟨f1',f2',f3',f4'⟩:=hc1.two;obtain⟨h1',h2',h3',h4'⟩:=hc2.two;obtain⟨k1',k2',k3',k4'⟩:=hc3.two)
  | (go_at_call 41;refine (zint_of hn1.out).mono ?_;rintro e w2 ⟨s',rfl,hs',hx2⟩;have hd1:=hc1.ext hx2;have hd2:=hc2.ext hx2;have hd3:=hc3.ext hx2;obtain⟨f1'',f2'',f3'',f4''⟩:=hd1.two;obtain⟨h1'',h2'',h3'',h4''⟩:=hd2.two;obtain⟨k1'',k2'',k3'',k4''⟩:=hd3.two))
 go_wp2_with fail
 refine bodyPost_ret (res_int rfl rfl (hd3.two_set _ _)) rfl ?_
 exact fin_int hd3 ((Zr_of hs'.out hn1.out ho1 (sg_mul _ _ _ _)).ext hx2) (by first | omega | (simp;omega)) (by omega) (hea.trans (he1.trans hx2))
theorem zint_Sign {w:World}{s:Bool}{A:Option Addr}{n cap:Nat}{x:Int}(hx:Zi w s A n cap x) (hl:n≤68719476736):
  Calls Tryz.prog 34 #[.agg #[.bool s,.slice A n cap]] w (SgnP (scmp x 0) w):=by
 obtain⟨xs,hr,rfl⟩:=hx
 go_enter Tryz.func34,Tryz.ntmps34
 go_upto_region 1 with (fail)
 have hb1:=Bk.new w 41 [.bool s,.slice A n cap]
 obtain⟨wa,hwa⟩:∃wa,w.alloc (.cells #[.bool s,.slice A n cap] 41)=wa:=⟨_,rfl⟩
 rw [hwa]
 obtain⟨g,hg⟩:∃g,w.heap.size=g:=⟨_,rfl⟩
 rw [hg] at hb1⊢
 have hb1':Bk wa g 41 [.bool s,.slice A n cap]:=by rw [←hwa];exact hb1
 have hea:Ext w wa:=by rw [←hwa];exact (Ext.refl w).alloc _
 clear hwa hg hb1
 obtain⟨f1,f2,f3,f4⟩:=hb1'.two
 go_wp2_with fail
 refine (nat_BitLen (hr.ext hea) (by omega)).mono ?_
 rintro e w1 ⟨b,hb,rfl,hx1'⟩
 have hx1:=hea.trans hx1'
 obtain⟨f1',f2',f3',f4'⟩:=(hb1'.ext hx1').two
 by_cases h0:b=0
 ·subst h0
  have hz:nv xs=0:=blen_eq_zero.1 hb.out.symm
  have HZ:=Lib.hid hz
  clear hz
  go_wp2_with fail
  go_ret
  exact⟨0,(show _=_ by rw [HZ.out,sg_zero];rfl),by omega,by omega,rfl,hx1⟩
 ·have bb:((b:Int)==0)=false:=by simp;omega
  have hz:0<nv xs:=Nat.pos_of_ne_zero (fun e=>h0 (by rw [hb.out,e];rfl))
  have HZ:=Lib.hid hz
  clear hz h0
  cases s
  ·go_wp2_with fail
   go_ret
   refine⟨1,?_,by omega,by omega,rfl,hx1⟩
   show _=_
   rw [sg_false,scmp,if_neg (by omega),if_neg (by have:=HZ.out;omega)]
  ·go_wp2_with fail
   go_ret
   refine⟨-1,?_,by omega,by omega,rfl,hx1⟩
   show _=_
   rw [sg_true,scmp,if_pos (by have:=HZ.out;omega)]
theorem Own.updT {w w':World}{base:Nat}{t T:TypeId}{s:Nat}{A:Option Addr}{n cap:Nat}{vs us:List Value}{g:Nat}(h:Own w base t s A n cap vs) (hb:Bk w g T us) (hT:t≠T) (e:Upd g w w'):Own w' base t s A n cap vs:=by
 refine h.upd e (fun a ha hg=>?_)
 rcases h with⟨h,_⟩ | ⟨k,cs,hA,_,hk,_⟩
 ·rw [h] at ha;cases ha
 ·rw [hA] at ha
  cases ha
  simp only at hg
  subst hg
  unfold Bk at hk hb
  rw [hk] at hb
  injection hb with hb
  injection hb with h1 h2
  exact hT h2
theorem Zr.updT {w w':World}{base:Nat}{s:Bool}{A:Option Addr}{n cap:Nat}{z:Int}{g:Nat}{T:TypeId}{us:List Value}(h:Zr w base s A n cap z) (hb:Bk w g T us) (e:Upd g w w') (hT:45≠T:=by decide):Zr w' base s A n cap z:=
 ⟨h.sgn,h.len,h.own.updT hb hT e⟩
theorem Bk.updN {w w':World}{g g':Nat}{T:TypeId}{vs:List Value}(h:Bk w g T vs) (e:Upd g' w w') (hne:g≠g'):Bk w' g T vs:=h.upd e hne
theorem ln_abs (x:Int):ln (x.natAbs:Int)=ln x:=by unfold ln;rw [Int.natAbs_natCast]
theorem scmp_eq_t {x y:Int}(h:x=y):cmpB .eql (scmp x y) 0=some true:=by
 have e:scmp x y=0:=scmp_zero.2 h
 rw [e];rfl
theorem scmp_eq_f {x y:Int}(h:x≠y):cmpB .eql (scmp x y) 0=some false:=by
 have e:¬scmp x y=0:=fun e=>h (scmp_zero.1 e)
 simp only [cmpB,Option.some.injEq,beq_eq_false_iff_ne,ne_eq];exact e
theorem scmp_ne_t {x y:Int}(h:x≠y):cmpB .neq (scmp x y) 0=some true:=by
 have e:¬scmp x y=0:=fun e=>h (scmp_zero.1 e)
 simp only [cmpB,Option.some.injEq,bne_iff_ne,ne_eq];exact e
theorem scmp_ne_f {x y:Int}(h:x=y):cmpB .neq (scmp x y) 0=some false:=by
 have e:scmp x y=0:=scmp_zero.2 h
 rw [e];rfl
theorem scmp_lt_t {x y:Int}(h:x<y):cmpB .lss (scmp x y) 0=some true:=by
 have e:=scmp_neg.2 h
 simp only [cmpB,Option.some.injEq,decide_eq_true_eq];exact e
theorem scmp_lt_f {x y:Int}(h:y≤x):cmpB .lss (scmp x y) 0=some false:=by
 have e:¬scmp x y<0:=fun e=>by have:=scmp_neg.1 e;omega
 simp only [cmpB,Option.some.injEq,decide_eq_false_iff_not];exact e
structure AggT (P:Program) (T:TypeId) (k:Nat):Prop where
 agg:∀w,(isAgg T).run P w= .ok true w
 size:∀w,(sizeOf T).run P w= .ok k w
theorem run_load1 {P:Program}{w:World}{p:Addr}{v:Value}(h:w.cell? p=some v):(load p).run P w= .ok v w:=by
 simp only [load,Sem.run,h]
theorem run_store1 {P:Program}{w:World}{p:Addr}{u v:Value}(h:w.cell? p=some u) (hf:w.frozen? p=false) (h1:v.oneCell'=true):(store p v).run P w= .ok () (w.setCell p v):=by
 rw [run_store P w p v .plain h1,h,hf];rfl
theorem run_loadCells {P:Program}{w:World}{p:Addr}:∀(vs:List Value) (i:Nat) (acc:Array Value),(∀j,j<vs.length→w.cell? (p.add (i+j))=some (vs.getD j undef))→
  (loadCellsFrom p i vs.length acc).run P w= .ok (acc++vs.toArray) w
 | [],i,acc,_=>by simp [loadCellsFrom]
 | v::vs,i,acc,h=>by
  have h0:=h 0 (by simp)
  simp only [Nat.add_zero,List.getD_cons_zero] at h0
  have ih:=run_loadCells (P:=P) (p:=p) vs (i+1) (acc.push v) (fun j hj=>by
   have:=h (j+1) (by simpa using hj)
   rw [show i+1+j=i+(j+1) by omega]
   simpa using this)
  show ((load (p.add i)>>=fun v=>loadCellsFrom p (i+1) vs.length (acc.push v):Sem (Array Value))).run P w=_
  have e:(load (p.add i)).run P w= .ok v w:=run_load1 h0
  rw [Sem.run_bind,e]
  simp only [Result.andThen_ok,ih]
  simp
theorem load_agg {P:Program}{w:World}{T T':TypeId}{k off g:Nat}{vs:List Value}(hT:AggT P T k) (hb:Bk w g T' vs) (us:List Value) (hu:us.length=k) (hle:off+k≤vs.length) (he:(vs.drop off).take k=us):
  (loadVar T ⟨g,off,none⟩).run P w= .ok (.agg us.toArray) w:=by
 subst hu
 have h1:=run_loadCells (P:=P) (w:=w) (p:=⟨g,off,none⟩) us 0 #[] (fun j hj=>by
  rw [Nat.zero_add,add_lit0,hb.cell (by omega)]
  congr 1
  rw [←he]
  simp only [List.getD_eq_getElem?_getD,List.getElem?_take,List.getElem?_drop]
  rw [if_pos hj])
 unfold loadVar loadCells
 rw [Sem.run_bind,hT.agg w]
 simp only [Result.andThen_ok,if_true,Sem.run_bind,hT.size w,h1]
 simp
theorem load_cell {P:Program}{w:World}{T T':TypeId}{g i:Nat}{vs:List Value}{v:Value}(hT:∀w,(isAgg T).run P w= .ok false w) (hb:Bk w g T' vs) (hv:vs[i]?=some v):(loadVar T ⟨g,i,none⟩).run P w= .ok v w:=by
 have hi:i<vs.length:=(List.getElem?_eq_some_iff.1 hv).1
 have hc:=hb.cell hi
 rw [List.getD_eq_getElem?_getD,hv] at hc
 unfold loadVar
 rw [Sem.run_bind,hT w]
 simp only [Result.andThen_ok,Bool.false_eq_true,if_false]
 exact run_load1 hc
def overl (vs:List Value) (off:Nat) (us:List Value):List Value:=vs.take off++us++vs.drop (off+us.length)
theorem store_cells {P:Program}{g:Nat}{T:TypeId}:∀(us:List Value) (i off:Nat) (w:World) (vs:List Value),Bk w g T vs→off+i+us.length≤vs.length→(∀u∈us,u.oneCell'=true)→
  ∃w',(storeCells ⟨g,off,none⟩ us i).run P w= .ok () w'∧Bk w' g T (overl vs (off+i) us)∧Upd g w w'∧w'.heap.size=w.heap.size
 | [],i,off,w,vs,hb,_,_=>⟨w,rfl,by simpa [overl] using hb,Upd.refl g w,rfl⟩
 | u::us,i,off,w,vs,hb,hle,h1=>by
  have hi:off+i<vs.length:=by simp at hle;omega
  have hc:=hb.cell hi
  have hf:=hb.frozen (off+i)
  have hb1:=hb.set (off+i) u
  obtain⟨w',hr,hb2,hu,hs⟩:=store_cells (P:=P) us (i+1) off (w.setCell ⟨g,off+i,none⟩ u) (vs.set (off+i) u) hb1 (by simp at hle⊢;omega) (fun x hx=>h1 x (by simp [hx]))
  refine⟨w',?_,?_,((Upd.refl g w).setCell (off+i) u).trans hu,by rw [hs];simp [World.setCell]⟩
  ·show ((store ((⟨g,off,none⟩:Addr).add i) u>>=fun _=>storeCells ⟨g,off,none⟩ us (i+1):Sem Unit)).run P w=_
   rw [add_lit0,Sem.run_bind,run_store1 hc hf (h1 u (by simp))]
   exact hr
  ·have e:overl (vs.set (off+i) u) (off+(i+1)) us=overl vs (off+i) (u::us):=by
    unfold overl
    have e1:(vs.set (off+i) u).take (off+(i+1))=vs.take (off+i)++ [u]:=by
     rw [show off+(i+1)=off+i+1 by omega,take_snoc _ _ (by simpa using hi) undef,List.take_set_of_le (Nat.le_refl _)]
     congr 2
     rw [List.getD_eq_getElem?_getD,List.getElem?_set_self hi];rfl
    rw [e1,List.drop_set_of_lt (by omega)]
    simp only [List.length_cons,List.append_assoc,List.cons_append,List.nil_append]
    rw [show off+(i+1)+us.length=off+i+(us.length+1) by omega]
   rw [←e];exact hb2
theorem run_stored {P:Program}{w:World}{T T':TypeId}{k g off:Nat}{vs us:List Value}(hT:AggT P T k) (hk:us.length=k)
  (hb:Bk w g T' vs) (hle:off+k≤vs.length) (h1:us.all (·.oneCell')=true) (us':List Value) (he:overl vs off us=us'):
  ∃w',(storeVar T ⟨g,off,none⟩ (.agg us.toArray)).run P w= .ok () w'∧Bk w' g T' us'∧Upd g w w'∧w'.heap.size=w.heap.size:=by
 subst hk
 obtain⟨w',hr,hb2,hu,hs⟩:=store_cells (P:=P) us 0 off w vs hb (by omega) (by simpa [List.all_eq_true] using h1)
 rw [Nat.add_zero,he] at hb2
 refine⟨w',?_,hb2,hu,hs⟩
 unfold storeVar
 rw [Sem.run_bind]
 show ((sizeOf T).run P w).andThen _=_
 rw [hT.size w]
 have e:(Value.agg us.toArray).cells=us.toArray:=rfl
 simp only [Result.andThen_ok,e,List.size_toArray,ne_eq,not_true,if_false]
 exact hr
theorem wl_stored {P:Program}{Q:Exit→Act→World→Prop}{n:Nat}{l:Fr}{w:World}{ops:Array Oper}{rest:List Oper}{ty:TypeId}{pos:String}{af:Array Edge}{gd:Option (Nat×Bool)}
  (hw:guardB ops l gd=some true){x y:Operand}{T T':TypeId}{k g off:Nat}{vs us:List Value}(hx:evo l x=some (.pointer (some ⟨g,off,none⟩))) (hy:evo l y=some (.agg us.toArray)) (hT:AggT P T k) (hk:us.length=k)
  (hb:Bk w g T' vs) (hle:off+k≤vs.length) (h1:us.all (·.oneCell')=true) (us':List Value) (he:overl vs off us=us')
  (h:∀w',Bk w' g T' us'→Upd g w w'→w'.heap.size=w.heap.size→wl P ops Q n rest l w'):wl P ops Q n (⟨none,.store T x y,ty,pos,af,gd⟩::rest) l w:=by
 obtain⟨w',hr,hb2,hu,hs⟩:=run_stored (P:=P) hT hk hb hle h1 us' he
 exact wl_store hw (p:=⟨g,off,none⟩) hx hy (w':=w') hr (h w' hb2 hu hs)
theorem wl_stored1 {P:Program}{Q:Exit→Act→World→Prop}{n:Nat}{l:Fr}{w:World}{ops:Array Oper}{rest:List Oper}{ty:TypeId}{pos:String}{af:Array Edge}{gd:Option (Nat×Bool)}
  (hw:guardB ops l gd=some true){x y:Operand}{T T':TypeId}{g off:Nat}{vs:List Value}{v:Value}(hx:evo l x=some (.pointer (some ⟨g,off,none⟩))) (hy:evo l y=some v) (hT:∀w,(sizeOf T).run P w= .ok 1 w) (hv:v.cells= #[v])
  (hb:Bk w g T' vs) (hle:off<vs.length) (h1:v.oneCell'=true) (us':List Value) (he:vs.set off v=us')
  (h:∀w',Bk w' g T' us'→Upd g w w'→w'.heap.size=w.heap.size→wl P ops Q n rest l w'):wl P ops Q n (⟨none,.store T x y,ty,pos,af,gd⟩::rest) l w:=by
 have hb2:=hb.set off v
 rw [he] at hb2
 refine wl_store hw (p:=⟨g,off,none⟩) hx hy (w':=w.setCell ⟨g,off,none⟩ v) ?_ (h _ hb2 ((Upd.refl g w).setCell off v) (by simp [World.setCell]))
 unfold storeVar
 rw [Sem.run_bind]
 show ((sizeOf T).run P w).andThen _=_
 rw [hT w]
 simp only [Result.andThen_ok,hv,List.size_toArray,List.length_cons,List.length_nil,ne_eq,not_true,Nat.zero_add,if_false]
 show ((store ((⟨g,off,none⟩:Addr).add 0) v>>=fun _=>storeCells ⟨g,off,none⟩ [] (0+1):Sem Unit)).run P w=_
 rw [add_lit0,Nat.add_zero,Sem.run_bind,run_store1 (hb.cell hle) (hb.frozen off) h1]
 rfl
section
variable {P:Program}{Q:Exit→Act→World→Prop}{n:Nat}{l:Fr}{w:World}{ops:Array Oper}{rest:List Oper}{d:Nat}{ty:TypeId}{pos:String}{af:Array Edge}{gd:Option (Nat×Bool)}
theorem run_index {t e:TypeId}{s m c:Nat}{a:Addr}{k:IntKind}{i:Int}(hT:P.underlying t=some (.slice e)) (hs:∀w,(sizeOf e).run P w= .ok s w) (h0:0≤i) (h1:i<m):
  (Instr.indexAt t (.slice (some a) m c) (.int k i)).run P w= .ok (.pointer (some (a.add (i.toNat*s)))) w:=by
 have hu:(underlying t).run P w= .ok (.slice e) w:=run_underlying hT w
 unfold Instr.indexAt
 simp only [asIntOf,Sem.run_bind,Sem.run_pure,Result.andThen_ok,hu]
 rw [if_pos ⟨h0,h1⟩]
 simp only [Sem.run_bind,hs w,Result.andThen_ok,Sem.run_pure]
def optIs (v:Option Value) (k:Nat) (dflt:Nat):Prop:=(v=none∧k=dflt)∨v=some (.int .i64 (k:Int))
theorem run_bound {i cap:Nat}{k:BoundsCode}(h:i≤cap):(Instr.sliceBound (.int .i64 (i:Int)) cap k).run P w= .ok i w:=by
 unfold Instr.sliceBound
 simp only [asIntOf,Sem.run_bind,Sem.run_pure,Result.andThen_ok]
 rw [if_pos ⟨by omega,by omega⟩]
 rfl
theorem run_slice {t e:TypeId}{s m c lo hi:Nat}{A:Option Addr}{low high:Option Value}(hT:P.underlying t=some (.slice e)) (hs:∀w,(sizeOf e).run P w= .ok s w) (h1:optIs low lo 0) (h2:optIs high hi m) (h3:lo≤hi) (h4:hi≤c):
  (Instr.sliceAt t (.slice A m c) low high none).run P w= .ok (.slice (if c=lo then A else A.map (·.add (lo*s))) (hi-lo) (c-lo)) w:=by
 have hu:(underlying t).run P w= .ok (.slice e) w:=run_underlying hT w
 have hb:(Instr.sliceBounds true m c low high none).run P w= .ok (lo,hi,c) w:=by
  unfold Instr.sliceBounds
  rcases h1 with⟨rfl,rfl⟩ | rfl <;> rcases h2 with⟨rfl,rfl⟩ | rfl
  ·simp only [Sem.run_bind,Sem.run_pure,Result.andThen_ok]
  ·simp only [Sem.run_bind,Sem.run_pure,Result.andThen_ok,run_bound h4,if_true]
  ·simp only [Sem.run_bind,Sem.run_pure,Result.andThen_ok,Option.isSome,run_bound h3]
  ·simp only [Sem.run_bind,Sem.run_pure,Result.andThen_ok,Option.isSome,run_bound h4,run_bound h3,if_true]
 unfold Instr.sliceAt
 simp only [Sem.run_bind,hu,Result.andThen_ok]
 unfold Instr.slice
 simp only [Sem.run_bind,hu,Result.andThen_ok,hb,hs w,Sem.run_pure]
theorem wl_slice (hw:guardB ops l gd=some true){x:Operand}{lo' hi':Option Operand}{t e:TypeId}{s m c lo hi:Nat}{A:Option Addr}(hx:evo l x=some (.slice A m c)) (hT:P.underlying t=some (.slice e)) (hs:∀w,(sizeOf e).run P w= .ok s w)
  (h1:match lo' with | none=>lo=0 | some y=>evo l y=some (.int .i64 (lo:Int))) (h2:match hi' with | none=>hi=m | some y=>evo l y=some (.int .i64 (hi:Int))) (h3:lo≤hi) (h4:hi≤c)
  {v:Value}(hv:Value.slice (if c=lo then A else A.map (·.add (lo*s))) (hi-lo) (c-lo)=v) (hn:d<n) (h:wl P ops Q n rest ((d,v)::l) w):wl P ops Q n (⟨some d,.slice t x lo' hi' none,ty,pos,af,gd⟩::rest) l w:=
 wl_val hw hn (fun a' ha=>by
  have e:(Instr.sliceAt t (a'.eval x) (lo'.map a'.eval) (hi'.map a'.eval) (Option.map a'.eval none)).run P w= .ok v w:=by
   rw [ha.ev hx,←hv]
   refine run_slice hT hs ?_ ?_ h3 h4
   ·cases lo' with
    | none=>exact Or.inl ⟨rfl,h1⟩
    | some y=>exact Or.inr (by show some (a'.eval y)=_;rw [ha.ev h1])
   ·cases hi' with
    | none=>exact Or.inl ⟨rfl,h2⟩
    | some y=>exact Or.inr (by show some (a'.eval y)=_;rw [ha.ev h2])
  show ((Instr.sliceAt t (a'.eval x) (lo'.map a'.eval) (hi'.map a'.eval) (Option.map a'.eval none)>>=fun r=>pure (Next.value r):Sem Next)).run P w=_
  rw [Sem.run_bind,e];rfl) h
theorem load_at {T:TypeId}{k:Nat}{p:Addr}(hT:AggT P T k) (us:List Value) (hu:us.length=k) (hc:∀j,j<us.length→w.cell? (p.add j)=some (us.getD j undef)):(loadVar T p).run P w= .ok (.agg us.toArray) w:=by
 subst hu
 have h1:=run_loadCells (P:=P) (w:=w) (p:=p) us 0 #[] (fun j hj=>by rw [Nat.zero_add];exact hc j hj)
 unfold loadVar loadCells
 rw [Sem.run_bind,hT.agg w]
 simp only [Result.andThen_ok,if_true,Sem.run_bind,hT.size w,h1]
 simp
theorem load_cell1 {T:TypeId}{p:Addr}{v:Value}(hT:∀w,(isAgg T).run P w= .ok false w) (hc:w.cell? p=some v):(loadVar T p).run P w= .ok v w:=by
 unfold loadVar
 rw [Sem.run_bind,hT w]
 simp only [Result.andThen_ok,Bool.false_eq_true,if_false]
 exact run_load1 hc
end
theorem ge_t {a b:Int}(h:b≤a):cmpB .geq a b=some true:=by simp only [cmpB,Option.some.injEq,decide_eq_true_eq];omega
theorem lt_t {a b:Int}(h:a<b):cmpB .lss a b=some true:=by simp only [cmpB,Option.some.injEq,decide_eq_true_eq];omega
theorem lt_f {a b:Int}(h:b≤a):cmpB .lss a b=some false:=by simp only [cmpB,Option.some.injEq,decide_eq_false_iff_not];omega
theorem gt_t {a b:Int}(h:b<a):cmpB .gtr a b=some true:=by simp only [cmpB,Option.some.injEq,decide_eq_true_eq];omega
theorem gt_f {a b:Int}(h:a≤b):cmpB .gtr a b=some false:=by simp only [cmpB,Option.some.injEq,decide_eq_false_iff_not];omega
theorem eq_t {a b:Int}(h:a=b):cmpB .eql a b=some true:=by subst h;simp [cmpB]
theorem eq_f {a b:Int}(h:a≠b):cmpB .eql a b=some false:=by simp only [cmpB,Option.some.injEq,beq_eq_false_iff_ne,ne_eq];exact h
theorem ne_t {a b:Int}(h:a≠b):cmpB .neq a b=some true:=by simp only [cmpB,Option.some.injEq,bne_iff_ne,ne_eq];exact h
theorem ne_f {a b:Int}(h:a=b):cmpB .neq a b=some false:=by subst h;simp [cmpB]
theorem ar_i64 {a b c:Int}(h:a+b=c) (h1: -9223372036854775808≤c) (h2:c≤9223372036854775807):arB .add .i64 a b=some c:=by
 simp only [arB,Option.some.injEq];rw [h];exact IntWalk.i64_in _ ⟨h1,h2⟩
theorem ar_i64s {a b c:Int}(h:a-b=c) (h1: -9223372036854775808≤c) (h2:c≤9223372036854775807):arB .sub .i64 a b=some c:=by
 simp only [arB,Option.some.injEq];rw [h];exact IntWalk.i64_in _ ⟨h1,h2⟩
theorem ar_i64m {a b c:Int}(h:a*b=c) (h1: -9223372036854775808≤c) (h2:c≤9223372036854775807):arB .mul .i64 a b=some c:=by
 simp only [arB,Option.some.injEq];rw [h];exact IntWalk.i64_in _ ⟨h1,h2⟩
theorem Rd.at {w:World}{A:Option Addr}{n c:Nat}{xs:List Nat}(h:Rd w A n c xs){i:Nat}(hi:i<n):
  ∃p,A.map (·.add (i*1))=some p∧w.cell? p=some (.int .u64 ((xs.getD i 0:Nat):Int))∧xs.getD i 0≤18446744073709551615:=by
 obtain⟨a,x,rfl,hk,hb,hc⟩:=h.get hi
 refine⟨a.add i,by rw [Nat.mul_one];rfl,?_,by rw [hk.out];exact hb⟩
 rw [hk.out];exact hc
theorem arr_at (g i:Nat):(some (⟨g,0,none⟩:Addr)).map (·.add (i*1))=some ⟨g,i,none⟩:=by
 rw [Nat.mul_one]
 show some ((⟨g,0,none⟩:Addr).add i)=_
 rw [add_lit0,Nat.zero_add]
section
variable {P:Program}{Q:Exit→Act→World→Prop}{n:Nat}{l:Fr}{w:World}{ops:Array Oper}{rest:List Oper}{d:Nat}{op:Op}{ty:TypeId}{pos:String}{af:Array Edge}{gd:Option (Nat×Bool)}
theorem run_idx {t e:TypeId}{s m c:Nat}{A:Option Addr}{k:IntKind}{i:Int}{j:Nat}{p:Addr}(hT:P.underlying t=some (.slice e)) (hs:∀w,(sizeOf e).run P w= .ok s w) (hi:i=(j:Int)) (hj:j<m) (hp:A.map (·.add (j*s))=some p):
  (Instr.indexAt t (.slice A m c) (.int k i)).run P w= .ok (.pointer (some p)) w:=by
 subst hi
 cases A with
 | none=>cases hp
 | some a=>
  have h:=run_index (P:=P) (w:=w) (t:=t) (e:=e) (s:=s) (m:=m) (c:=c) (a:=a) (k:=k) (i:=(j:Int)) hT hs (by omega) (by omega)
  rw [h]
  rw [Int.toNat_natCast]
  injection hp with hp
  rw [←hp]
theorem wl_idx (hw:guardB ops l gd=some true){x y:Operand}{t e:TypeId}{s m c:Nat}{A:Option Addr}{k:IntKind}{i:Int}(hx:evo l x=some (.slice A m c)) (hy:evo l y=some (.int k i)) (hT:P.underlying t=some (.slice e)) (hs:∀w,(sizeOf e).run P w= .ok s w)
  (j:Nat) (hi:i=(j:Int)) (hj:j<m) (p:Addr) (hp:A.map (·.add (j*s))=some p) (hn:d<n) (h:wl P ops Q n rest ((d,.pointer (some p))::l) w):wl P ops Q n (⟨some d,.indexAddr t x y,ty,pos,af,gd⟩::rest) l w:=
 wl_val hw hn (fun a' ha=>by
  have e:(Instr.indexAt t (a'.eval x) (a'.eval y)).run P w= .ok (.pointer (some p)) w:=by rw [ha.ev hx,ha.ev hy];exact run_idx hT hs hi hj hp
  show ((Instr.indexAt t (a'.eval x) (a'.eval y)>>=fun r=>pure (Next.value r):Sem Next)).run P w=_
  rw [Sem.run_bind,e];rfl) h
theorem rd_idx {x y:Operand}{t e:TypeId}{s m c:Nat}{A:Option Addr}{k:IntKind}{i:Int}{dst:Option Tmp}(hx:evo l x=some (.slice A m c)) (hy:evo l y=some (.int k i)) (hT:P.underlying t=some (.slice e)) (hs:∀w,(sizeOf e).run P w= .ok s w)
  (j:Nat) (hi:i=(j:Int)) (hj:j<m) (p:Addr) (hp:A.map (·.add (j*s))=some p):RunD P n l ⟨dst,.indexAddr t x y,ty,pos,af,gd⟩ w (.value (.pointer (some p))) w:=fun a' ha=>by
 have e:(Instr.indexAt t (a'.eval x) (a'.eval y)).run P w= .ok (.pointer (some p)) w:=by rw [ha.ev hx,ha.ev hy];exact run_idx hT hs hi hj hp
 show ((Instr.indexAt t (a'.eval x) (a'.eval y)>>=fun r=>pure (Next.value r):Sem Next)).run P w=_
 rw [Sem.run_bind,e];rfl
theorem rd_cmp {o:BinOp}{t t':TypeId}{x y:Operand}{k:IntKind}{a b:Int}{dst:Option Tmp}(hx:evo l x=some (.int k a)) (hy:evo l y=some (.int k b)) (c:Bool) (hc:cmpB o a b=some c):RunD P n l ⟨dst,.binOp o t x y t',ty,pos,af,gd⟩ w (.value (.bool c)) w:=fun a' ha=>by
 have e:((do eqGuard o t x y (a'.eval x) (a'.eval y);binOp o t (a'.eval x) (a'.eval y)):Sem Value).run P w= .ok (.bool c) w:=by
  rw [ha.ev hx,ha.ev hy];exact run_cmp hc
 show ((((do eqGuard o t x y (a'.eval x) (a'.eval y);binOp o t (a'.eval x) (a'.eval y)):Sem Value)>>=fun r=>pure (Next.value r)):Sem Next).run P w=_
 rw [Sem.run_bind,e];rfl
theorem run_store1v {w:World}{T T':TypeId}{g off:Nat}{vs:List Value}{v:Value}(hT:∀w,(sizeOf T).run P w= .ok 1 w) (hv:v.cells= #[v]) (hb:Bk w g T' vs) (hle:off<vs.length) (h1:v.oneCell'=true) (us':List Value) (he:vs.set off v=us'):
  ∃w',(storeVar T ⟨g,off,none⟩ v).run P w= .ok () w'∧Bk w' g T' us'∧Upd g w w'∧w'.heap.size=w.heap.size:=by
 have hb2:=hb.set off v
 rw [he] at hb2
 refine⟨w.setCell ⟨g,off,none⟩ v,?_,hb2,(Upd.refl g w).setCell off v,by simp [World.setCell]⟩
 unfold storeVar
 rw [Sem.run_bind]
 show ((sizeOf T).run P w).andThen _=_
 rw [hT w]
 simp only [Result.andThen_ok,hv,List.size_toArray,List.length_cons,List.length_nil,ne_eq,not_true,Nat.zero_add,if_false]
 show ((store ((⟨g,off,none⟩:Addr).add 0) v>>=fun _=>storeCells ⟨g,off,none⟩ [] (0+1):Sem Unit)).run P w=_
 rw [add_lit0,Nat.add_zero,Sem.run_bind,run_store1 (hb.cell hle) (hb.frozen off) h1]
 rfl
theorem wl_make {t e:TypeId}{z:Value}{bytes:Nat}{x y:Operand}(hw:guardB ops l gd=some true){i:Int}{k:Nat}(hx:evo l x=some (.int .i64 i)) (hy:evo l y=some (.int .i64 i)) (hi:i=(k:Int)) (ht:P.underlying t=some (.slice e))
  (hinfo:(P.info? e).map (fun i=>(i.zero,i.size,i.bytes))=some (some z,1,bytes)) (hz:z.cells= #[z]) (hby:bytes≤64) (hk:k≤1099511627776) (hn:d<n)
  (h:∀g w',w.heap.size=g→Bk w' g e (List.replicate k z)→Ext w w'→wl P ops Q n rest ((d,.slice (some ⟨g,0,none⟩) k k)::l) w'):wl P ops Q n (⟨some d,.makeSlice t x y,ty,pos,af,gd⟩::rest) l w:=by
 subst hi
 have hm:=run_make1 (P:=P) ht hinfo hz hby (k:Int) (by omega) (by omega) w
 rw [Int.toNat_natCast] at hm
 refine wl_val hw hn (fun a' ha=>?_) (h _ (w.alloc (.cells (zc z k) e)) rfl (Bk.new' _ _ _) ((Ext.refl w).alloc _))
 have e':(Instr.makeSlice t (a'.eval x) (a'.eval y)).run P w= .ok (.slice (some ⟨w.heap.size,0,none⟩) k k) (w.alloc (.cells (zc z k) e)):=by rw [ha.ev hx,ha.ev hy];exact hm
 show ((Instr.makeSlice t (a'.eval x) (a'.eval y)>>=fun r=>pure (Next.value r):Sem Next)).run P w=_
 rw [Sem.run_bind,e'];rfl
end
theorem load_num {P:Program}{w:World}{T T':TypeId}{g i:Nat}{l:List Nat}(hT:∀w,(isAgg T).run P w= .ok false w) (hb:Bk w g T' (l.map fun x:Nat=>Value.int .i64 (x:Int))) (hi:i<l.length):(loadVar T ⟨g,i,none⟩).run P w= .ok (.int .i64 ((l.getD i 0:Nat):Int)) w:=by
 refine load_cell hT hb ?_
 simp [List.getD_eq_getElem?_getD,List.getElem?_eq_getElem hi]
theorem len_set {l:List Nat}{N i x:Nat}(h:l.length=N):(l.set i x).length=N:=by rw [List.length_set];exact h
theorem len_map {f:Nat→Value}{l:List Nat}{i:Nat}(h:i<l.length):i<(l.map f).length:=by rw [List.length_map];exact h
theorem cb_lt_t {A B:Int}{a b:Nat}(ha:A=(a:Int)) (hb:B=(b:Int)) (h:a<b):cmpB .lss A B=some true:=by subst ha hb;exact lt_t (by omega)
theorem cb_lt_f {A B:Int}{a b:Nat}(ha:A=(a:Int)) (hb:B=(b:Int)) (h:b≤a):cmpB .lss A B=some false:=by subst ha hb;exact lt_f (by omega)
theorem cb_gt_t {A B:Int}{a b:Nat}(ha:A=(a:Int)) (hb:B=(b:Int)) (h:b<a):cmpB .gtr A B=some true:=by subst ha hb;exact gt_t (by omega)
theorem cb_gt_f {A B:Int}{a b:Nat}(ha:A=(a:Int)) (hb:B=(b:Int)) (h:a≤b):cmpB .gtr A B=some false:=by subst ha hb;exact gt_f (by omega)
theorem cb_ge_t {A B:Int}{a b:Nat}(ha:A=(a:Int)) (hb:B=(b:Int)) (h:b≤a):cmpB .geq A B=some true:=by subst ha hb;exact ge_t (by omega)
theorem cb_eq_t {A B:Int}{a b:Nat}(ha:A=(a:Int)) (hb:B=(b:Int)) (h:a=b):cmpB .eql A B=some true:=by subst ha hb;exact eq_t (by omega)
theorem cb_eq_f {A B:Int}{a b:Nat}(ha:A=(a:Int)) (hb:B=(b:Int)) (h:a≠b):cmpB .eql A B=some false:=by subst ha hb;exact eq_f (by omega)
theorem cb_ne_t {A B:Int}{a b:Nat}(ha:A=(a:Int)) (hb:B=(b:Int)) (h:a≠b):cmpB .neq A B=some true:=by subst ha hb;exact ne_t (by omega)
theorem cb_ne_f {A B:Int}{a b:Nat}(ha:A=(a:Int)) (hb:B=(b:Int)) (h:a=b):cmpB .neq A B=some false:=by subst ha hb;exact ne_f (by omega)
theorem ai_add {A B:Int}{a b:Nat}(ha:A=(a:Int)) (hb:B=(b:Int)) (h:a+b≤9223372036854775807):arB .add .i64 A B=some ((a+b:Nat):Int):=by
 subst ha hb;exact ar_i64 (by omega) (by omega) (by omega)
theorem ai_sub {A B:Int}{a b:Nat}(ha:A=(a:Int)) (hb:B=(b:Int)) (h:b≤a) (h2:a≤9223372036854775807):arB .sub .i64 A B=some ((a-b:Nat):Int):=by
 subst ha hb;exact ar_i64s (by omega) (by omega) (by omega)
theorem ai_mul {A B:Int}{a b:Nat}(ha:A=(a:Int)) (hb:B=(b:Int)) (h:a*b≤9223372036854775807):arB .mul .i64 A B=some ((a*b:Nat):Int):=by
 subst ha hb;exact ar_i64m (by rw [←Int.natCast_mul]) (by omega) (by omega)
theorem sz_u64 (w:World):(sizeOf 45).run Tryz.prog w= .ok 1 w:=by kernel_rfl
theorem ag_u64 (w:World):(isAgg 45).run Tryz.prog w= .ok false w:=by kernel_rfl
theorem un_u64:Tryz.prog.underlying 39=some (.slice 45):=Tryz.underlying39
theorem res_ie {w:World}{g:Nat}{t:TypeId}{a b:Value}{fn:Func}{s u:Tmp}(hf:fn.results= #[.cell s 41,.tmp u]){tmps:Array Value}(hs:tmps.getD s undef= .pointer (some ⟨g,0,none⟩)){v:Value}(hu:tmps.getD u undef=v) (h:Bk w g t [a,b]):
  (results fn tmps).run Tryz.prog w= .ok (.tuple #[.agg #[a,b],v]) w:=by
 obtain⟨h1,h2,_,_⟩:=h.two
 have hs2:tmps[s]?.getD undef= .pointer (some ⟨g,0,none⟩):=by simpa using hs
 have hu2:tmps[u]?.getD undef=v:=by simpa using hu
 simp [results,hf,hs2,hu2,loadVar,loadCells,loadCellsFrom,go_sem,h1,h2]
theorem res_iie {w:World}{g g':Nat}{t t':TypeId}{a b c d:Value}{fn:Func}{s s' u:Tmp}(hf:fn.results= #[.cell s 41,.cell s' 41,.tmp u]){tmps:Array Value}(hs:tmps.getD s undef= .pointer (some ⟨g,0,none⟩)) (hs':tmps.getD s' undef= .pointer (some ⟨g',0,none⟩)){v:Value}(hu:tmps.getD u undef=v) (h:Bk w g t [a,b]) (h':Bk w g' t' [c,d]):
  (results fn tmps).run Tryz.prog w= .ok (.tuple #[.agg #[a,b],.agg #[c,d],v]) w:=by
 obtain⟨h1,h2,_,_⟩:=h.two
 obtain⟨h3,h4,_,_⟩:=h'.two
 have hs2:tmps[s]?.getD undef= .pointer (some ⟨g,0,none⟩):=by simpa using hs
 have hs3:tmps[s']?.getD undef= .pointer (some ⟨g',0,none⟩):=by simpa using hs'
 have hu2:tmps[u]?.getD undef=v:=by simpa using hu
 simp [results,hf,hs2,hs3,hu2,loadVar,loadCells,loadCellsFrom,go_sem,h1,h2,h3,h4]
theorem Bk.two_far {w:World}{g g':Nat}{t:TypeId}{l:List Value}(h:Bk w g t l) (hne:g≠g') (u v:Value):Bk ((w.setCell ⟨g',0,none⟩ u).setCell ⟨g',1,none⟩ v) g t l:=(h.far (p:=⟨g',0,none⟩) hne u).far (p:=⟨g',1,none⟩) hne v
set_option maxHeartbeats 1000000 in
theorem zint_Add {w:World}{s t:Bool}{A B:Option Addr}{n cap m cap':Nat}{x y:Int}(hx:Zi w s A n cap x) (hl:n≤274877906944) (hy:Zi w t B m cap' y) (hl':m≤274877906944):
  Calls Tryz.prog 82 #[.agg #[.bool s,.slice A n cap],.agg #[.bool t,.slice B m cap']] w (RetZ w (x+y)):=by
 obtain⟨xs,hr,rfl⟩:=hx
 obtain⟨ys,hq,rfl⟩:=hy
 go_enter Tryz.func82,Tryz.ntmps82
 go_upto_region 1 with (fail)
 obtain⟨g,g2,g3,wa,hg3,hg2,hg,hwa,hb1,hb2,hb3,hea,l12,l23,l3,n12,n21,n13,n31,n23,n32⟩:=boxes3 w 41 41 41 (.bool s) (.slice A n cap) (.bool t) (.slice B m cap') (.bool false) (.slice none 0 0)
 rw [hg3,hg2,hg,hwa]
 have hgw:w.heap.size≤g:=Nat.le_of_eq hg
 clear hwa hg hg2 hg3
 obtain⟨f1,f2,f3,f4⟩:=hb1.two
 obtain⟨h1,h2,h3,h4⟩:=hb2.two
 obtain⟨k1,k2,k3,k4⟩:=hb3.two
 by_cases hst:s=t
 ·have bs:(s==t)=true:=by rw [hst];cases t <;> rfl
  go_upto_region 2 with (fail)
  go_region_held3 (fun w'=>w'.cell? ⟨g,0,none⟩=some (.bool s)∧w'.cell? ⟨g,1,none⟩=some (.slice A n cap)∧w'.cell? ⟨g2,0,none⟩=some (.bool t)∧w'.cell? ⟨g2,1,none⟩=some (.slice B m cap')) (go_keep)
   (first
   | (go_at_call 101;refine (nat_Add (hr.ext (by repeat (first | exact Ext.refl _ | assumption | apply Ext.drewN | apply Ext.drew | apply Ext.alloc))) (by omega) (hq.ext (by repeat (first | exact Ext.refl _ | assumption | apply Ext.drewN | apply Ext.drew | apply Ext.alloc))) (by omega)).mono ?_;rintro e w1 ⟨A1,n1,c1,rfl,hn1,hr1,ho1,hx1⟩;have he1:Ext wa w1:=Ext.trans (by repeat (first | exact Ext.refl _ | assumption | apply Ext.drewN | apply Ext.drew | apply Ext.alloc)) hx1;have hb1:=hb1.ext he1;have hb2:=hb2.ext he1;have hb3:=hb3.ext he1;obtain⟨f1,f2,f3,f4⟩:=hb1.two;obtain⟨h1,h2,h3,h4⟩:=hb2.two;obtain⟨k1,k2,k3,k4⟩:=hb3.two)
   | (go_at_call 41;refine (zint_of hn1.out).mono ?_;rintro e w2 ⟨s',rfl,hs',hx2⟩;have hd1:=hb1.ext hx2;have hd2:=hb2.ext hx2;have hd3:=hb3.ext hx2;obtain⟨f1,f2,f3,f4⟩:=hd1.two;obtain⟨h1,h2,h3,h4⟩:=hd2.two;obtain⟨k1,k2,k3,k4⟩:=hd3.two))
  go_wp2_with fail
  refine bodyPost_ret (res_int rfl rfl (hd3.two_set _ _)) rfl ?_
  exact fin_int hd3 ((Zr_of hs'.out hn1.out ho1 (by rw [sg_add,hst])).ext hx2) (by first | omega | (simp;omega)) (by omega) (hea.trans (he1.trans hx2))
 ·have bs:(s==t)=false:=by cases s <;> cases t <;> simp_all
  have ht:Hid (t= !s):=by show _=_;cases s <;> cases t <;> simp_all
  clear hst
  go_wp2_with fail
  refine (nat_Cmp (hr.ext hea) (by omega) (hq.ext hea) (by omega)).mono ?_
  rintro e w1 ⟨c,hc,hcl,hch,rfl,hx1⟩
  have hb1:=hb1.ext hx1
  have hb2:=hb2.ext hx1
  have hb3:=hb3.ext hx1
  have he1:=hea.trans hx1
  have hsz:=hx1.size
  clear f1 f2 f3 f4 h1 h2 h3 h4 k1 k2 k3 k4
  obtain⟨f1,f2,f3,f4⟩:=hb1.two
  obtain⟨h1,h2,h3,h4⟩:=hb2.two
  by_cases hlt:c<0
  ·have hle:nv xs≤nv ys:=by rw [hc.out] at hlt;exact Nat.le_of_lt (cmp3_neg.1 hlt)
   have HLE:=Lib.hid hle
   clear hle
   go_upto_region 5 with (fail)
   obtain⟨wb,hwb⟩:∃wb,(((w1.setCell ⟨g,0,none⟩ (.bool t)).setCell ⟨g,1,none⟩ (.slice B m cap')).setCell ⟨g2,0,none⟩ (.bool s)).setCell ⟨g2,1,none⟩ (.slice A n cap)=wb:=⟨_,rfl⟩
   rw [hwb]
   have hd1:Bk wb g 41 [.bool t,.slice B m cap']:=by rw [←hwb];exact (hb1.two_set _ _).two_far n12 _ _
   have hd2:Bk wb g2 41 [.bool s,.slice A n cap]:=by rw [←hwb];exact (hb2.two_far n21 _ _).two_set _ _
   have hd3:Bk wb g3 41 [.bool false,.slice none 0 0]:=by rw [←hwb];exact (hb3.two_far n31 _ _).two_far n32 _ _
   have heb:Ext w wb:=by
    rw [←hwb]
    exact (Upd.two _ _).ext ((Upd.two _ _).ext he1 hgw) (by omega)
   have hszb:wb.heap.size=w1.heap.size:=by rw [←hwb];simp [World.setCell]
   clear hwb f1 f2 f3 f4 h1 h2 h3 h4
   obtain⟨f1,f2,f3,f4⟩:=hd1.two
   obtain⟨h1,h2,h3,h4⟩:=hd2.two
   go_wp2_with fail
   refine (nat_Sub (hq.ext heb) (by omega) (hr.ext heb) (by omega) HLE.out).mono ?_
   rintro e w2 ⟨A2,n2,c2,rfl,hn2,hr2,ho2,hx2⟩
   obtain⟨f1,f2,f3,f4⟩:=(hd1.ext hx2).two
   have hd3:=hd3.ext hx2
   go_wp2_with fail
   refine (zint_of hn2.out).mono ?_
   rintro e w3 ⟨s',rfl,hs',hx3⟩
   have hd3:=hd3.ext hx3
   obtain⟨k1,k2,k3,k4⟩:=hd3.two
   go_wp2_with fail
   refine bodyPost_ret (res_int rfl rfl (hd3.two_set _ _)) rfl ?_
   exact fin_int hd3 ((Zr_of hs'.out hn2.out ho2 (by rw [sg_sub HLE.out,ht.out,Bool.not_not,Int.add_comm])).ext hx3) (by omega) (by omega) (heb.trans (hx2.trans hx3))
  ·have hle:nv ys≤nv xs:=by rw [hc.out] at hlt;exact Nat.le_of_not_lt (fun h=>hlt (cmp3_neg.2 h))
   have HLE:=Lib.hid hle
   clear hle
   go_wp2_with fail
   refine (nat_Sub (hr.ext he1) (by omega) (hq.ext he1) (by omega) HLE.out).mono ?_
   rintro e w2 ⟨A2,n2,c2,rfl,hn2,hr2,ho2,hx2⟩
   obtain⟨f1,f2,f3,f4⟩:=(hb1.ext hx2).two
   have hd3:=hb3.ext hx2
   go_wp2_with fail
   refine (zint_of hn2.out).mono ?_
   rintro e w3 ⟨s',rfl,hs',hx3⟩
   have hd3:=hd3.ext hx3
   obtain⟨k1,k2,k3,k4⟩:=hd3.two
   go_wp2_with fail
   refine bodyPost_ret (res_int rfl rfl (hd3.two_set _ _)) rfl ?_
   exact fin_int hd3 ((Zr_of hs'.out hn2.out ho2 (by rw [sg_sub HLE.out,ht.out])).ext hx3) (by omega) (by omega) (he1.trans (hx2.trans hx3))
theorem zint_Sub {w:World}{s t:Bool}{A B:Option Addr}{n cap m cap':Nat}{x y:Int}(hx:Zi w s A n cap x) (hl:n≤274877906944) (hy:Zi w t B m cap' y) (hl':m≤274877906944):
  Calls Tryz.prog 61 #[.agg #[.bool s,.slice A n cap],.agg #[.bool t,.slice B m cap']] w (RetZ w (x-y)):=by
 go_enter Tryz.func61,Tryz.ntmps61
 go_upto_region 1 with (fail)
 obtain⟨g,g2,g3,wa,hg3,hg2,hg,hwa,hb1,hb2,hb3,hea,l12,l23,l3,n12,n21,n13,n31,n23,n32⟩:=boxes3 w 41 41 41 (.bool s) (.slice A n cap) (.bool t) (.slice B m cap') (.bool false) (.slice none 0 0)
 rw [hg3,hg2,hg,hwa]
 have hgw:w.heap.size≤g:=Nat.le_of_eq hg
 clear hwa hg hg2 hg3
 obtain⟨f1,f2,f3,f4⟩:=hb1.two
 obtain⟨h1,h2,h3,h4⟩:=hb2.two
 obtain⟨k1,k2,k3,k4⟩:=hb3.two
 go_wp2_with fail
 refine (zint_Add (hx.ext hea) hl (hy.not.ext hea) hl').mono ?_
 rintro e w1 ⟨s1,A1,n1,c1,rfl,z1,hx1⟩
 have hd3:=hb3.ext hx1
 clear f1 f2 f3 f4 h1 h2 h3 h4 k1 k2 k3 k4
 obtain⟨k1,k2,k3,k4⟩:=hd3.two
 go_wp2_with fail
 refine bodyPost_ret (res_int rfl rfl (hd3.two_set _ _)) rfl ?_
 exact fin_int hd3 (z1.cast Int.sub_eq_add_neg.symm) (by omega) (by omega) (hea.trans hx1)
theorem zint_MulAdd {w:World}{s t u:Bool}{A B C:Option Addr}{n cap m cap' k cap'':Nat}{x y z:Int}(hx:Zi w s A n cap x) (hl:n≤68719476736) (hy:Zi w t B m cap' y) (hl':m≤68719476736) (hz:Zi w u C k cap'' z) (hl'':k≤68719476736):
  Calls Tryz.prog 103 #[.agg #[.bool s,.slice A n cap],.agg #[.bool t,.slice B m cap'],.agg #[.bool u,.slice C k cap'']] w (RetZ w (x*y+z)):=by
 have lx:=Nat.le_trans hx.ln hl
 have ly:=Nat.le_trans hy.ln hl'
 go_enter Tryz.func103,Tryz.ntmps103
 go_upto_region 1 with (fail)
 obtain⟨g,g2,g3,g4,wa,hg4,hg3,hg2,hg,hwa,hb1,hb2,hb3,hb4,hea,l12,l23,l34,l4,n12,n21,n13,n31,n23,n32,n14,n41,n24,n42,n34,n43⟩:=boxes4 w 41 41 41 41 (.bool s) (.slice A n cap) (.bool t) (.slice B m cap') (.bool u) (.slice C k cap'') (.bool false) (.slice none 0 0)
 rw [hg4,hg3,hg2,hg,hwa]
 have hgw:w.heap.size≤g:=Nat.le_of_eq hg
 clear hwa hg hg2 hg3 hg4
 obtain⟨f1,f2,f3,f4⟩:=hb1.two
 obtain⟨h1,h2,h3,h4⟩:=hb2.two
 obtain⟨i1,i2,i3,i4⟩:=hb3.two
 obtain⟨k1,k2,k3,k4⟩:=hb4.two
 go_region_held3 (fun w'=>w'.cell? ⟨g,0,none⟩=some (.bool s)∧w'.cell? ⟨g,1,none⟩=some (.slice A n cap)∧w'.cell? ⟨g2,0,none⟩=some (.bool t)∧w'.cell? ⟨g2,1,none⟩=some (.slice B m cap')∧w'.cell? ⟨g3,0,none⟩=some (.bool u)∧w'.cell? ⟨g3,1,none⟩=some (.slice C k cap'')) (go_keep)
  (first
  | (go_at_call 20;refine (zint_Mul (hx.ext (by repeat (first | exact Ext.refl _ | assumption | apply Ext.drewN | apply Ext.drew | apply Ext.alloc))) hl (hy.ext (by repeat (first | exact Ext.refl _ | assumption | apply Ext.drewN | apply Ext.drew | apply Ext.alloc))) hl').mono ?_;rintro e w1 ⟨s1,A1,n1,c1,rfl,z1,hx1⟩;have q1:n1≤274877906944:=(Nat.le_trans (z1.le (ln_mul lx ly)) (by omega));have he1:Ext wa w1:=Ext.trans (by repeat (first | exact Ext.refl _ | assumption | apply Ext.drewN | apply Ext.drew | apply Ext.alloc)) hx1;have hb1:=hb1.ext he1;have hb2:=hb2.ext he1;have hb3:=hb3.ext he1;have hb4:=hb4.ext he1;obtain⟨f1,f2,f3,f4⟩:=hb1.two;obtain⟨h1,h2,h3,h4⟩:=hb2.two;obtain⟨i1,i2,i3,i4⟩:=hb3.two;obtain⟨k1,k2,k3,k4⟩:=hb4.two)
  | (go_at_call 82;refine (zint_Add z1.zi q1 (hz.ext (hea.trans he1)) (by omega)).mono ?_;rintro e w2 ⟨s2,A2,n2,c2,rfl,z2,hx2⟩;have hb1:=hb1.ext hx2;have hb2:=hb2.ext hx2;have hb3:=hb3.ext hx2;have hb4:=hb4.ext hx2;obtain⟨f1,f2,f3,f4⟩:=hb1.two;obtain⟨h1,h2,h3,h4⟩:=hb2.two;obtain⟨i1,i2,i3,i4⟩:=hb3.two;obtain⟨k1,k2,k3,k4⟩:=hb4.two))
 go_wp2_with fail
 have hsz:=he1.size
 refine bodyPost_ret (res_int rfl rfl (hb4.two_set _ _)) rfl ?_
 exact fin_int hb4 z2 (by omega) (by omega) (hea.trans (he1.trans hx2))
theorem zint_Exact {w:World}{s t:Bool}{A B:Option Addr}{n cap m cap':Nat}{x y:Int}(hx:Zi w s A n cap x) (hl:n≤68719476736) (hy:Zi w t B m cap' y) (hl':m≤68719476736) (h0:y≠0) (h1:y∣x):
  Calls Tryz.prog 40 #[.agg #[.bool s,.slice A n cap],.agg #[.bool t,.slice B m cap']] w (RetZE w (x.tdiv y) 0):=by
 obtain⟨xs,hr,rfl⟩:=hx
 obtain⟨ys,hq,rfl⟩:=hy
 have hz:nv ys≠0:=fun e=>h0 (sg_eq_zero.2 e)
 have hd:nv xs%nv ys=0:=by
  have:=Int.natAbs_dvd_natAbs.2 h1
  rw [sg_abs,sg_abs] at this
  exact Nat.mod_eq_zero_of_dvd this
 have HZ:=Lib.hid hz
 have HD:=Lib.hid hd
 clear hz h0 hd h1
 go_enter Tryz.func40,Tryz.ntmps40
 go_upto_region 1 with (fail)
 obtain⟨g,g2,g3,wa,hg3,hg2,hg,hwa,hb1,hb2,hb3,hea,l12,l23,l3,n12,n21,n13,n31,n23,n32⟩:=boxes3 w 41 41 41 (.bool s) (.slice A n cap) (.bool t) (.slice B m cap') (.bool false) (.slice none 0 0)
 rw [hg3,hg2,hg,hwa]
 have hgw:w.heap.size≤g:=Nat.le_of_eq hg
 clear hwa hg hg2 hg3
 obtain⟨f1,f2,f3,f4⟩:=hb1.two
 obtain⟨h1,h2,h3,h4⟩:=hb2.two
 obtain⟨k1,k2,k3,k4⟩:=hb3.two
 go_wp2_with fail
 refine (divnat_Exact (hr.ext hea) (by omega) (hq.ext hea) (by omega) HZ.out HD.out).mono ?_
 rintro e w1 ⟨A1,n1,c1,rfl,hn1,hr1,ho1,hx1⟩
 have hb1:=hb1.ext hx1
 have hb2:=hb2.ext hx1
 have hb3:=hb3.ext hx1
 have he1:=hea.trans hx1
 have hsz:=hx1.size
 clear f1 f2 f3 f4 h1 h2 h3 h4 k1 k2 k3 k4
 obtain⟨f1,f2,f3,f4⟩:=hb1.two
 obtain⟨h1,h2,h3,h4⟩:=hb2.two
 obtain⟨k1,k2,k3,k4⟩:=hb3.two
 go_wp2_with fail
 refine (zint_of hn1.out).mono ?_
 rintro e w2 ⟨s',rfl,hs',hx2⟩
 have hd3:=hb3.ext hx2
 clear f1 f2 f3 f4 h1 h2 h3 h4 k1 k2 k3 k4
 obtain⟨k1,k2,k3,k4⟩:=hd3.two
 go_wp2_with fail
 refine bodyPost_ret (res_ie rfl rfl rfl (hd3.two_set _ _)) rfl ?_
 obtain⟨s4,A4,n4,c4,he,hz,hx⟩:=fin_int (w:=w) hd3 ((Zr_of hs'.out hn1.out ho1 (sg_tdiv _ _ _ _)).ext hx2) (by omega) (by omega) (he1.trans hx2)
 cases he
 exact⟨_,_,_,_,rfl,hz,hx⟩
theorem zint_Of {w:World}{v:Nat}(hv:v≤9223372036854775807):
  Calls Tryz.prog 38 #[.int .i64 (v:Int)] w (RetZ w ((v:Int))):=by
 have hn:¬(v:Int)<0:=by omega
 go_enter Tryz.func38,Tryz.ntmps38
 go_upto_region 3 with (fail)
 obtain⟨g,hg⟩:∃g,w.heap.size=g:=⟨_,rfl⟩
 obtain⟨wa,hwa⟩:∃wa,w.alloc (.cells #[.bool false,.slice none 0 0] 41)=wa:=⟨_,rfl⟩
 rw [hg,hwa]
 have hb:Bk wa g 41 [.bool false,.slice none 0 0]:=by rw [←hwa,←hg];exact Bk.new w 41 [.bool false,.slice none 0 0]
 have hea:Ext w wa:=by rw [←hwa];exact (Ext.refl w).alloc _
 have hga:w.heap.size≤g:=Nat.le_of_eq hg
 have hgl:g<wa.heap.size:=hb.lt
 clear hwa hg
 obtain⟨k1,k2,k3,k4⟩:=hb.two
 have h1:Rd (wa.alloc (.cells #[.int .u64 (v:Int)] 45)) (some ⟨wa.heap.size,0,none⟩) 1 1 [v]:=Rd.one wa (by omega)
 go_wp2_with fail
 refine (nat_Least (h1.ext (by repeat (first | exact Ext.refl _ | assumption | apply Ext.drewN | apply Ext.drew | apply Ext.alloc))) (by omega)).mono ?_
 rintro e w1 ⟨A1,n1,c1,rfl,hn1,hr1,ho1,hx1⟩
 rw [nv_one] at hn1 ho1
 have hx1':Ext wa w1:=Ext.trans (by repeat (first | exact Ext.refl _ | assumption | apply Ext.drewN | apply Ext.drew | apply Ext.alloc)) hx1
 have hd:=hb.ext hx1'
 have hsz:=hx1'.size
 go_wp2_with fail
 refine (zint_of hn1.out).mono ?_
 rintro e w2 ⟨s',rfl,hs',hx2⟩
 have hd:=hd.ext hx2
 clear k1 k2 k3 k4
 obtain⟨k1,k2,k3,k4⟩:=hd.two
 go_wp2_with fail
 refine bodyPost_ret (res_int rfl rfl (hd.two_set _ _)) rfl ?_
 exact fin_int hd ((Zr_of hs'.out hn1.out ho1 (sg_false _)).ext hx2) (by simp;omega) (by omega) (hea.trans (hx1'.trans hx2))
def RetZZEA (w:World) (q r:Int) (er:Int) (e:Ending) (w':World):Prop:=
 ∃s A n cap s' B m cap',e= .returned (.tuple #[.agg #[.bool s,.slice A n cap],.agg #[.bool s',.slice B m cap'],.int .i64 er])∧Zr w' w.heap.size s A n cap q∧Zr w' w.heap.size s' B m cap' r∧Ext w w'∧∀p q,A=some p→B=some q→p.block≠q.block
theorem RetZZEA.old {w:World}{q r er:Int}{e:Ending}{w':World}(h:RetZZEA w q r er e w'):RetZZE w q r er e w':=by
 obtain⟨s,A,n,c,s',B,m,c',h1,h2,h3,h4,_⟩:=h
 exact⟨s,A,n,c,s',B,m,c',h1,h2,h3,h4⟩
set_option maxHeartbeats 4000000 in
theorem zint_TruncA {w : World} {s t : Bool} {A B : Option Addr} {n cap m cap' : Nat} {x y : Int} (hx : Zi w s A n cap x) (hl : n ≤ 68719476736) (hy : Zi w t B m cap' y) (hl' : m ≤ 68719476736) (h0 : y ≠ 0) :
    Calls Tryz.prog 117 #[.agg #[.bool s, .slice A n cap], .agg #[.bool t, .slice B m cap']] w (RetZZEA w (x.tdiv y) (x.tmod y) 0) := by
  obtain ⟨xs, hr, rfl⟩ := hx
  obtain ⟨ys, hq, rfl⟩ := hy
  have hz : nv ys ≠ 0 := fun e => h0 (sg_eq_zero.2 e)
  have HZ := Lib.hid hz
  clear hz h0
  go_enter Tryz.func117, Tryz.ntmps117
  go_upto_region 1 with (fail)
  obtain ⟨g, g2, g3, g4, wa, hg4, hg3, hg2, hg, hwa, hb1, hb2, hb3, hb4, hea, l12, l23, l34, l4, n12, n21, n13, n31, n23, n32, n14, n41, n24, n42, n34, n43⟩ := boxes4 w 41 41 41 41 (.bool s) (.slice A n cap) (.bool t) (.slice B m cap') (.bool false) (.slice none 0 0) (.bool false) (.slice none 0 0)
  rw [hg4, hg3, hg2, hg, hwa]
  have hgw : w.heap.size ≤ g := Nat.le_of_eq hg
  clear hwa hg hg2 hg3 hg4
  obtain ⟨f1, f2, f3, f4⟩ := hb1.two
  obtain ⟨h1, h2, h3, h4⟩ := hb2.two
  go_wp2_with fail
  refine (divnat_DivModA (hr.ext hea) (by omega) (hq.ext hea) (by omega) HZ.out).mono ?_
  rintro e w1 ⟨Aq, nq, cq, Ar, nr, cr, rfl, hnq, hrq, hoq, hnr, hrr, hor, hx1, hap⟩
  replace hap := Lib.hid hap
  clear f1 f2 f3 f4 h1 h2 h3 h4
  have hb1 := hb1.ext hx1
  have hb2 := hb2.ext hx1
  have hb3 := hb3.ext hx1
  have hb4 := hb4.ext hx1
  have hsz := hx1.size
  have e1 := hea.trans hx1
  go_upto_region 4 with (fail)
  obtain ⟨f1, f2, f3, f4⟩ := hb1.two
  obtain ⟨h1, h2, h3, h4⟩ := hb2.two
  obtain ⟨i1, i2, i3, i4⟩ := hb3.two
  obtain ⟨k1, k2, k3, k4⟩ := hb4.two
  go_region_held3 (fun w' => w'.cell? ⟨g, 0, none⟩ = some (.bool s) ∧ w'.cell? ⟨g, 1, none⟩ = some (.slice A n cap) ∧ w'.cell? ⟨g2, 0, none⟩ = some (.bool t) ∧ w'.cell? ⟨g2, 1, none⟩ = some (.slice B m cap')) (go_keep)
    (first
    | (go_at_call 41; (with_reducible refine (zint_of hnq.out).mono ?_); rintro e w5 ⟨s5, rfl, hs5, hx5⟩; have he5 : Ext w1 w5 := Ext.trans (by repeat (first | exact Ext.refl _ | assumption | apply Ext.drewN | apply Ext.drew | apply Ext.alloc)) hx5; clear f1 f2 f3 f4 h1 h2 h3 h4 i1 i2 i3 i4 k1 k2 k3 k4; obtain ⟨f1, f2, f3, f4⟩ := (hb1.ext he5).two; obtain ⟨h1, h2, h3, h4⟩ := (hb2.ext he5).two; obtain ⟨i1, i2, i3, i4⟩ := (hb3.ext he5).two; obtain ⟨k1, k2, k3, k4⟩ := (hb4.ext he5).two)
    | (go_at_call 41; (with_reducible refine (zint_of hnr.out).mono ?_); rintro e w6 ⟨s6, rfl, hs6, hx6⟩; have he6 : Ext w1 w6 := Ext.trans (by repeat (first | exact Ext.refl _ | assumption | apply Ext.drewN | apply Ext.drew | apply Ext.alloc)) hx6; clear f1 f2 f3 f4 h1 h2 h3 h4 i1 i2 i3 i4 k1 k2 k3 k4; obtain ⟨f1, f2, f3, f4⟩ := (hb1.ext he6).two; obtain ⟨h1, h2, h3, h4⟩ := (hb2.ext he6).two; obtain ⟨i1, i2, i3, i4⟩ := (hb3.ext he6).two; obtain ⟨k1, k2, k3, k4⟩ := (hb4.ext he6).two))
  all_goals
    clear f1 f2 f3 f4 h1 h2 h3 h4 i1 i2 i3 i4 k1 k2 k3 k4
    first
    | (obtain ⟨wb, hwb⟩ : ∃ wb, (((w6.setCell ⟨g3, 0, none⟩ (.bool s5)).setCell ⟨g3, 1, none⟩ (.slice Aq nq cq)).setCell ⟨g4, 0, none⟩ (.bool s6)).setCell ⟨g4, 1, none⟩ (.slice Ar nr cr) = wb := ⟨_, rfl⟩
       rw [hwb]
       have hL := he6)
    | (obtain ⟨wb, hwb⟩ : ∃ wb, (((w5.setCell ⟨g3, 0, none⟩ (.bool s5)).setCell ⟨g3, 1, none⟩ (.slice Aq nq cq)).setCell ⟨g4, 0, none⟩ (.bool s6)).setCell ⟨g4, 1, none⟩ (.slice Ar nr cr) = wb := ⟨_, rfl⟩
       rw [hwb]
       have hL := he5)
    have q3 : Bk wb g3 41 [.bool s5, .slice Aq nq cq] := by rw [← hwb]; exact ((hb3.ext hL).two_set _ _).two_far n34 _ _
    have q4 : Bk wb g4 41 [.bool s6, .slice Ar nr cr] := by rw [← hwb]; exact ((hb4.ext hL).two_far n43 _ _).two_set _ _
    have r5 : Zr wb w.heap.size s5 Aq nq cq ((sg s (nv xs)).tdiv (sg t (nv ys))) := by
      rw [← hwb]
      exact (((((Zr_of hs5.out hnq.out hoq (sg_tdiv _ _ _ _)).ext hL).upd (by omega) (Upd.two _ _)).upd (by omega) (Upd.two _ _)).mono (by omega))
    have r6 : Zr wb w.heap.size s6 Ar nr cr ((sg s (nv xs)).tmod (sg t (nv ys))) := by
      rw [← hwb]
      exact (((((Zr_of hs6.out hnr.out hor (sg_tmod _ _ _ _)).ext hL).upd (by omega) (Upd.two _ _)).upd (by omega) (Upd.two _ _)).mono (by omega))
    have eb : Ext w wb := by rw [← hwb]; exact (Upd.two _ _).ext ((Upd.two _ _).ext (e1.trans hL) (by omega)) (by omega)
    clear hwb
    go_wp2_with fail
    refine bodyPost_ret (res_iie rfl rfl rfl rfl q3 q4) rfl ?_
    exact ⟨s5, Aq, nq, cq, s6, Ar, nr, cr, rfl, r5, r6, eb, hap.out⟩
theorem zint_Trunc {w:World}{s t:Bool}{A B:Option Addr}{n cap m cap':Nat}{x y:Int}(hx:Zi w s A n cap x) (hl:n≤68719476736) (hy:Zi w t B m cap' y) (hl':m≤68719476736) (h0:y≠0):
  Calls Tryz.prog 117 #[.agg #[.bool s,.slice A n cap],.agg #[.bool t,.slice B m cap']] w (RetZZE w (x.tdiv y) (x.tmod y) 0):=(zint_TruncA hx hl hy hl' h0).mono fun _ _ h=>h.old
structure Flo (q r x y:Int):Prop where
 eq:q*y+r=x
 pos:0<y→0≤r∧r<y
 neg:y<0→y<r∧r≤0
theorem tmod_abs {x y:Int}(h:y≠0):(x.tmod y).natAbs<y.natAbs:=by
 rw [Int.natAbs_tmod]
 exact Nat.mod_lt _ (by omega)
theorem flo_same {x y:Int}(h0:y≠0) (h:x.tmod y=0∨(decide (x.tmod y<0)=decide (y<0))):Flo (x.tdiv y) (x.tmod y) x y:=by
 have h1:=tmod_abs (x:=x) h0
 refine⟨by rw [Int.mul_comm];exact Int.mul_tdiv_add_tmod x y,fun hp=>?_,fun hn=>?_⟩
 ·rcases h with h | h
  ·omega
  ·have hd:¬y<0:=by omega
   rw [decide_eq_false hd] at h
   have:=of_decide_eq_false h
   omega
 ·rcases h with h | h
  ·omega
  ·rw [decide_eq_true hn] at h
   have:=of_decide_eq_true h
   omega
theorem flo_other {x y:Int}(h0:y≠0) (h:x.tmod y≠0) (h2:decide (x.tmod y<0)≠decide (y<0)):Flo (x.tdiv y-1) (x.tmod y+y) x y:=by
 have h1:=tmod_abs (x:=x) h0
 refine⟨?_,fun hp=>?_,fun hn=>?_⟩
 ·have:=Int.mul_tdiv_add_tmod x y
  rw [Int.sub_mul,Int.one_mul,Int.mul_comm]
  omega
 ·have hd:¬y<0:=by omega
  rw [decide_eq_false hd] at h2
  have:x.tmod y<0:=by
   refine Int.lt_of_not_ge (fun hge=>h2 (decide_eq_false (by omega)))
  omega
 ·rw [decide_eq_true hn] at h2
  have:¬x.tmod y<0:=fun hlt=>h2 (decide_eq_true hlt)
  omega
theorem Zi.sgn {w:World}{s:Bool}{A:Option Addr}{n cap:Nat}{z:Int}(h:Zi w s A n cap z) (h0:z≠0):s=decide (z<0):=by
 obtain⟨xs,_,rfl⟩:=h
 have hm:nv xs≠0:=fun e=>h0 (sg_eq_zero.2 e)
 rw [sg_lt,decide_eq_true (show 0<nv xs by omega),Bool.and_true]
theorem boxN2 (w:World) (t t':TypeId) (l l':List Value):∃g g2 wa,w.heap.size+1=g2∧w.heap.size=g∧(w.alloc (.cells l.toArray t)).alloc (.cells l'.toArray t')=wa∧Bk wa g t l∧Bk wa g2 t' l'∧Ext w wa∧g<g2∧g2<wa.heap.size∧g≠g2∧g2≠g:=by
 refine⟨_,_,_,rfl,rfl,rfl,(Bk.new w t l).alloc _,?_,((Ext.refl w).alloc _).alloc _,by omega,by simp,by omega,by omega⟩
 have:=Bk.new (w.alloc (.cells l.toArray t)) t' l'
 simpa using this
theorem Zr.upd_hi {w0 w w':World}{base base' g:Nat}{s:Bool}{A:Option Addr}{n cap:Nat}{z z':Int}(h0:Zr w0 base' s A n cap z') (hw:w0.heap.size≤g) (h:Zr w base s A n cap z) (e:Upd g w w'):Zr w' base s A n cap z:=
 ⟨h.sgn,h.len,h.own.upd e (fun a ha=>by have:=(h0.own.block a ha).2;omega)⟩
def FloP (w:World) (x y:Int) (e:Ending) (w':World):Prop:=∃q r,Hid (Flo q r x y)∧RetZZE w q r 0 e w'
set_option maxHeartbeats 8000000 in
theorem zint_Floor {w : World} {s t : Bool} {A B : Option Addr} {n cap m cap' : Nat} {x y : Int} (hx : Zi w s A n cap x) (hl : n ≤ 68719476736) (hy : Zi w t B m cap' y) (hl' : m ≤ 68719476736) (h0 : y ≠ 0) :
    Calls Tryz.prog 104 #[.agg #[.bool s, .slice A n cap], .agg #[.bool t, .slice B m cap']] w (FloP w x y) := by
  have HT := Lib.hid (hy.sgn h0)
  have H0 := Lib.hid h0
  have LX := Lib.hid (Nat.le_trans hx.ln hl)
  have LY := Lib.hid (Nat.le_trans hy.ln hl')
  clear h0
  go_enter Tryz.func104, Tryz.ntmps104
  go_upto_region 1 with (fail)
  obtain ⟨g, g2, g3, g4, wa, hg4, hg3, hg2, hg, hwa, hb1, hb2, hb3, hb4, hea, l12, l23, l34, l4, n12, n21, n13, n31, n23, n32, n14, n41, n24, n42, n34, n43⟩ := boxes4 w 41 41 41 41 (.bool s) (.slice A n cap) (.bool t) (.slice B m cap') (.bool false) (.slice none 0 0) (.bool false) (.slice none 0 0)
  rw [hg4, hg3, hg2, hg, hwa]
  have hgw : w.heap.size ≤ g := Nat.le_of_eq hg
  clear hwa hg hg2 hg3 hg4
  obtain ⟨f1, f2, f3, f4⟩ := hb1.two
  obtain ⟨h1, h2, h3, h4⟩ := hb2.two
  go_wp2_with fail
  refine (zint_Trunc (hx.ext hea) hl (hy.ext hea) hl' H0.out).mono ?_
  rintro e w1 ⟨sq, Aq, nq, cq, sr, Ar, nr, cr, rfl, zq, zr, hx1⟩
  clear f1 f2 f3 f4 h1 h2 h3 h4
  have bq : nq ≤ 68719476736 := zq.le (Nat.le_trans (ln_mono (by rw [Int.natAbs_tdiv]; exact Nat.div_le_self _ _)) LX.out)
  have br : nr ≤ 68719476736 := zr.le (Nat.le_trans (ln_mono (Nat.le_of_lt (tmod_abs H0.out))) LY.out)
  go_upto_region 2 with (fail)
  obtain ⟨g7, g8, v1, hg8, hg7, hv1, hb7, hb8, he, l78, l8, n78, n87⟩ := boxN2 w1 41 41 [.bool sq, .slice Aq nq cq] [.bool sr, .slice Ar nr cr]
  rw [hg8, hg7, hv1]
  have hs7 : w1.heap.size ≤ g7 := Nat.le_of_eq hg7
  have zr1 := zr
  have zq := zq.ext he
  have zr := zr.ext he
  have x1 := hx1.trans he
  have hb2 := hb2.ext x1
  have hb3 := hb3.ext x1
  have hb4 := hb4.ext x1
  have e1 := hea.trans x1
  have sz1 := hx1.size
  clear hg8 hg7 hv1 he hb1 hx1
  obtain ⟨f1, f2, f3, f4⟩ := hb7.two
  obtain ⟨h1, h2, h3, h4⟩ := hb8.two
  obtain ⟨i1, i2, i3, i4⟩ := hb2.two
  have hn37 : g3 ≠ g7 := by omega
  have hn38 : g3 ≠ g8 := by omega
  have hn47 : g4 ≠ g7 := by omega
  have hn48 : g4 ≠ g8 := by omega
  have hn27 : g2 ≠ g7 := by omega
  have hn28 : g2 ≠ g8 := by omega
  have hn73 := hn37.symm
  have hn83 := hn38.symm
  have hn74 := hn47.symm
  have hn84 := hn48.symm
  by_cases hr0 : x.tmod y = 0
  · obtain rfl : nr = 0 := by rw [zr.len, hr0]; rfl
    have HF : Hid (Flo (x.tdiv y) (x.tmod y) x y) := flo_same H0.out (Or.inl hr0)
    clear hr0
    go_upto_region 5 with (fail)
    clear f1 f2 f3 f4 h1 h2 h3 h4 i1 i2 i3 i4
    obtain ⟨f1, f2, f3, f4⟩ := hb7.two
    obtain ⟨h1, h2, h3, h4⟩ := hb8.two
    obtain ⟨i1, i2, i3, i4⟩ := hb3.two
    obtain ⟨k1, k2, k3, k4⟩ := hb4.two
    go_region_held3 (fun w' => w'.cell? ⟨g7, 0, none⟩ = some (.bool sq) ∧ w'.cell? ⟨g7, 1, none⟩ = some (.slice Aq nq cq) ∧ w'.cell? ⟨g8, 0, none⟩ = some (.bool sr) ∧ w'.cell? ⟨g8, 1, none⟩ = some (.slice Ar 0 cr)) (go_keep) (fail)
    all_goals
      go_wp2_with fail
      first
      | (refine bodyPost_ret (res_iie rfl rfl rfl rfl (((hb3.drew).two_set _ _).two_far n34 _ _) (((hb4.drew).two_far n43 _ _).two_set _ _)) rfl ?_
         exact ⟨x.tdiv y, x.tmod y, HF, _, _, _, _, _, _, _, _, rfl, (((zq.ext (Ext.refl _).drew).upd (by omega) (Upd.two _ _)).upd (by omega) (Upd.two _ _)).mono (by omega), (((zr.ext (Ext.refl _).drew).upd (by omega) (Upd.two _ _)).upd (by omega) (Upd.two _ _)).mono (by omega), (Upd.two _ _).ext ((Upd.two _ _).ext e1.drew (by omega)) (by omega)⟩)
      | (refine bodyPost_ret (res_iie rfl rfl rfl rfl (((hb3.drew).two_far n34 _ _).two_set _ _) (((hb4.drew).two_set _ _).two_far n43 _ _)) rfl ?_
         exact ⟨x.tdiv y, x.tmod y, HF, _, _, _, _, _, _, _, _, rfl, (((zq.ext (Ext.refl _).drew).upd (by omega) (Upd.two _ _)).upd (by omega) (Upd.two _ _)).mono (by omega), (((zr.ext (Ext.refl _).drew).upd (by omega) (Upd.two _ _)).upd (by omega) (Upd.two _ _)).mono (by omega), (Upd.two _ _).ext ((Upd.two _ _).ext e1.drew (by omega)) (by omega)⟩)
  · have hnn : 0 < nr := by
      have : nr ≠ 0 := fun e => hr0 (by have h := zr.len; rw [e] at h; have := len_wd_zero.1 h.symm; omega)
      omega
    have hn : 0 < (nr : Int) := by omega
    by_cases hss : sr = t
    · have bs : (sr == t) = true := by rw [hss]; cases t <;> rfl
      have HF : Hid (Flo (x.tdiv y) (x.tmod y) x y) := flo_same H0.out (Or.inr (by rw [← zr.sgn, ← HT.out, hss]))
      clear hr0 hss
      go_upto_region 5 with (fail)
      clear f1 f2 f3 f4 h1 h2 h3 h4 i1 i2 i3 i4
      obtain ⟨f1, f2, f3, f4⟩ := hb7.two
      obtain ⟨h1, h2, h3, h4⟩ := hb8.two
      obtain ⟨i1, i2, i3, i4⟩ := hb3.two
      obtain ⟨k1, k2, k3, k4⟩ := hb4.two
      go_region_held3 (fun w' => w'.cell? ⟨g7, 0, none⟩ = some (.bool sq) ∧ w'.cell? ⟨g7, 1, none⟩ = some (.slice Aq nq cq) ∧ w'.cell? ⟨g8, 0, none⟩ = some (.bool sr) ∧ w'.cell? ⟨g8, 1, none⟩ = some (.slice Ar nr cr)) (go_keep) (fail)
      all_goals
        go_wp2_with fail
        first
        | (refine bodyPost_ret (res_iie rfl rfl rfl rfl (((hb3.drew).two_set _ _).two_far n34 _ _) (((hb4.drew).two_far n43 _ _).two_set _ _)) rfl ?_
           exact ⟨x.tdiv y, x.tmod y, HF, _, _, _, _, _, _, _, _, rfl, (((zq.ext (Ext.refl _).drew).upd (by omega) (Upd.two _ _)).upd (by omega) (Upd.two _ _)).mono (by omega), (((zr.ext (Ext.refl _).drew).upd (by omega) (Upd.two _ _)).upd (by omega) (Upd.two _ _)).mono (by omega), (Upd.two _ _).ext ((Upd.two _ _).ext e1.drew (by omega)) (by omega)⟩)
        | (refine bodyPost_ret (res_iie rfl rfl rfl rfl (((hb3.drew).two_far n34 _ _).two_set _ _) (((hb4.drew).two_set _ _).two_far n43 _ _)) rfl ?_
           exact ⟨x.tdiv y, x.tmod y, HF, _, _, _, _, _, _, _, _, rfl, (((zq.ext (Ext.refl _).drew).upd (by omega) (Upd.two _ _)).upd (by omega) (Upd.two _ _)).mono (by omega), (((zr.ext (Ext.refl _).drew).upd (by omega) (Upd.two _ _)).upd (by omega) (Upd.two _ _)).mono (by omega), (Upd.two _ _).ext ((Upd.two _ _).ext e1.drew (by omega)) (by omega)⟩)
    · have bs : (sr == t) = false := by cases sr <;> cases t <;> simp_all
      have HF : Hid (Flo (x.tdiv y - 1) (x.tmod y + y) x y) := flo_other H0.out hr0 (by rw [← zr.sgn, ← HT.out]; exact hss)
      clear hr0 hss
      go_upto_region 3 with (fail)
      go_region_with (first
        | (go_at_call 38; refine (zint_Of (v := 1) (by omega)).mono ?_; rintro e w5 ⟨s5, A5, n5, c5, rfl, z5, hx5⟩; have b5 : n5 ≤ 1 := z5.le (by decide +kernel); have he5 : Ext v1 w5 := Ext.trans (by repeat (first | exact Ext.refl _ | assumption | apply Ext.drewN | apply Ext.drew | apply Ext.alloc)) hx5; clear f1 f2 f3 f4 h1 h2 h3 h4 i1 i2 i3 i4; obtain ⟨f1, f2, f3, f4⟩ := (hb7.ext he5).two)
        | (go_at_call 61; refine (zint_Sub (zq.zi.ext (by repeat (first | exact Ext.refl _ | assumption | apply Ext.drewN | apply Ext.drew | apply Ext.alloc))) (by omega) z5.zi (by omega)).mono ?_; rintro e w6 ⟨s6, A6, n6, c6, rfl, z6, hx6⟩; have he6 : Ext v1 w6 := he5.trans hx6; clear f1 f2 f3 f4; obtain ⟨f1, f2, f3, f4⟩ := (hb7.ext he6).two))
      all_goals
        clear f1 f2 f3 f4
        obtain ⟨wb, hwb⟩ : ∃ wb, (w6.setCell ⟨g7, 0, none⟩ (.bool s6)).setCell ⟨g7, 1, none⟩ (.slice A6 n6 c6) = wb := ⟨_, rfl⟩
        rw [hwb]
        have sz5 := he5.size
        have q7 : Bk wb g7 41 [.bool s6, .slice A6 n6 c6] := by rw [← hwb]; exact (hb7.ext he6).two_set _ _
        have q8 : Bk wb g8 41 [.bool sr, .slice Ar nr cr] := by rw [← hwb]; exact (hb8.ext he6).two_far n87 _ _
        have q2 : Bk wb g2 41 [.bool t, .slice B m cap'] := by rw [← hwb]; exact (hb2.ext he6).two_far hn27 _ _
        have q3 : Bk wb g3 41 [.bool false, .slice none 0 0] := by rw [← hwb]; exact (hb3.ext he6).two_far hn37 _ _
        have q4 : Bk wb g4 41 [.bool false, .slice none 0 0] := by rw [← hwb]; exact (hb4.ext he6).two_far hn47 _ _
        have y6 : Zr wb w5.heap.size s6 A6 n6 c6 (x.tdiv y - 1) := by rw [← hwb]; exact z6.upd (by omega) (Upd.two _ _)
        have yr : Zr wb wa.heap.size sr Ar nr cr (x.tmod y) := by rw [← hwb]; exact Zr.upd_hi zr1 hs7 (zr.ext he6) (Upd.two _ _)
        have eb : Ext w wb := by rw [← hwb]; exact (Upd.two _ _).ext (e1.trans he6) (by omega)
        have szb : w6.heap.size ≤ wb.heap.size := by rw [← hwb]; simp [World.setCell]
        have sz6 := hx6.size
        clear hwb
        obtain ⟨h1, h2, h3, h4⟩ := q8.two
        obtain ⟨i1, i2, i3, i4⟩ := q2.two
        go_wp2_with fail
        refine (zint_Add yr.zi (by omega) (hy.ext eb) (by omega)).mono ?_
        rintro e w7 ⟨s9, A9, n9, c9, rfl, z9, hx7⟩
        clear h1 h2 h3 h4 i1 i2 i3 i4
        obtain ⟨h1, h2, h3, h4⟩ := (q8.ext hx7).two
        go_upto_region 5 with (fail)
        clear h1 h2 h3 h4
        obtain ⟨wc, hwc⟩ : ∃ wc, (w7.setCell ⟨g8, 0, none⟩ (.bool s9)).setCell ⟨g8, 1, none⟩ (.slice A9 n9 c9) = wc := ⟨_, rfl⟩
        rw [hwc]
        have u7 : Bk wc g7 41 [.bool s6, .slice A6 n6 c6] := by rw [← hwc]; exact (q7.ext hx7).two_far n78 _ _
        have u8 : Bk wc g8 41 [.bool s9, .slice A9 n9 c9] := by rw [← hwc]; exact (q8.ext hx7).two_set _ _
        have u3 : Bk wc g3 41 [.bool false, .slice none 0 0] := by rw [← hwc]; exact (q3.ext hx7).two_far hn38 _ _
        have u4 : Bk wc g4 41 [.bool false, .slice none 0 0] := by rw [← hwc]; exact (q4.ext hx7).two_far hn48 _ _
        have t6 : Zr wc w5.heap.size s6 A6 n6 c6 (x.tdiv y - 1) := by rw [← hwc]; exact (y6.ext hx7).upd (by omega) (Upd.two _ _)
        have t9 : Zr wc wb.heap.size s9 A9 n9 c9 (x.tmod y + y) := by rw [← hwc]; exact z9.upd (by omega) (Upd.two _ _)
        have ec : Ext w wc := by rw [← hwc]; exact (Upd.two _ _).ext (eb.trans hx7) (by omega)
        clear hwc q7 q8 q2 q3 q4
        obtain ⟨f1, f2, f3, f4⟩ := u7.two
        obtain ⟨h1, h2, h3, h4⟩ := u8.two
        obtain ⟨i1, i2, i3, i4⟩ := u3.two
        obtain ⟨k1, k2, k3, k4⟩ := u4.two
        go_region_held3 (fun w' => w'.cell? ⟨g7, 0, none⟩ = some (.bool s6) ∧ w'.cell? ⟨g7, 1, none⟩ = some (.slice A6 n6 c6) ∧ w'.cell? ⟨g8, 0, none⟩ = some (.bool s9) ∧ w'.cell? ⟨g8, 1, none⟩ = some (.slice A9 n9 c9)) (go_keep) (fail)
        all_goals
          go_wp2_with fail
          first
          | (refine bodyPost_ret (res_iie rfl rfl rfl rfl (((u3.drew).two_set _ _).two_far n34 _ _) (((u4.drew).two_far n43 _ _).two_set _ _)) rfl ?_
             exact ⟨x.tdiv y - 1, x.tmod y + y, HF, _, _, _, _, _, _, _, _, rfl, (((t6.ext (Ext.refl _).drew).upd (by omega) (Upd.two _ _)).upd (by omega) (Upd.two _ _)).mono (by omega), (((t9.ext (Ext.refl _).drew).upd (by omega) (Upd.two _ _)).upd (by omega) (Upd.two _ _)).mono (by omega), (Upd.two _ _).ext ((Upd.two _ _).ext ec.drew (by omega)) (by omega)⟩)
          | (refine bodyPost_ret (res_iie rfl rfl rfl rfl (((u3.drew).two_far n34 _ _).two_set _ _) (((u4.drew).two_set _ _).two_far n43 _ _)) rfl ?_
             exact ⟨x.tdiv y - 1, x.tmod y + y, HF, _, _, _, _, _, _, _, _, rfl, (((t6.ext (Ext.refl _).drew).upd (by omega) (Upd.two _ _)).upd (by omega) (Upd.two _ _)).mono (by omega), (((t9.ext (Ext.refl _).drew).upd (by omega) (Upd.two _ _)).upd (by omega) (Upd.two _ _)).mono (by omega), (Upd.two _ _).ext ((Upd.two _ _).ext ec.drew (by omega)) (by omega)⟩)
end Go.Proofs.YtnpbbknemflpnaaGreat

namespace Go.Proofs.YtnpbbknemflpnaaGreat.Pop
def mk (m:Nat):Nat→Nat
 | 0=>0
 | k+1=>m+256*mk m k
theorem and_byte (a A m M:Nat) (ha:a<256) (hm:m<256):(a+256*A)&&& (m+256*M)=(a&&& m)+256*(A&&& M):=by
 have h1:((a+256*A)&&& (m+256*M))%2^8=a&&& m:=by
  rw [Nat.and_mod_two_pow]
  congr 1 <;> omega
 have h2:((a+256*A)&&& (m+256*M))/2^8=A&&& M:=by
  rw [Nat.and_div_two_pow]
  congr 1 <;> omega
 have h3:=Nat.mod_add_div ((a+256*A)&&& (m+256*M)) (2^8)
 rw [h1,h2] at h3
 exact h3.symm
def f1 (k x:Nat):Nat:=(x/2&&& mk 85 k)+(x&&& mk 85 k)
def f2 (k x:Nat):Nat:=(x/4&&& mk 51 k)+(x&&& mk 51 k)
def f3 (k x:Nat):Nat:=(x/16+x)&&& mk 15 k
def d1 (b:Nat):Nat:=(b/2&&& 85)+(b&&& 85)
def d2 (b:Nat):Nat:=(b/4&&& 51)+(b&&& 51)
def d3 (b:Nat):Nat:=(b/16+b)&&& 15
def pc (b:Nat):Nat:=d3 (d2 (d1 b))
theorem t1:∀b:Fin 256,∀p:Fin 2,((b.val/2+128*p.val)&&& 85)=(b.val/2&&& 85):=by decide+kernel
theorem t2:∀b:Fin 256,∀p:Fin 4,((b.val/4+64*p.val)&&& 51)=(b.val/4&&& 51):=by decide+kernel
theorem t3:∀b:Fin 256,∀p:Fin 5,((d2 (d1 b.val)/16+d2 (d1 b.val)+16*p.val)&&& 15)=pc b.val:=by decide+kernel
theorem t4:∀b:Fin 256,d1 b.val<256∧d2 (d1 b.val)<69∧d2 (d1 b.val)%16≤4∧pc b.val≤8∧(pc b.val=0→b.val=0)∧(128≤b.val→pc b.val≤1→b.val=128):=by decide+kernel
theorem f1_step {k b B:Nat}(hb:b<256):f1 (k+1) (b+256*B)=d1 b+256*f1 k B:=by
 unfold f1 d1
 rw [show mk 85 (k+1)=85+256*mk 85 k from rfl]
 have e:(b+256*B)/2=(b/2+128*(B%2))+256*(B/2):=by omega
 rw [e,and_byte _ _ _ _ (by omega) (by omega),and_byte _ _ _ _ hb (by omega),t1 ⟨b,hb⟩ ⟨B%2,by omega⟩]
 show (b/2&&& 85)+_+_=_
 omega
theorem f2_step {k b B:Nat}(hb:b<256):f2 (k+1) (b+256*B)=d2 b+256*f2 k B:=by
 unfold f2 d2
 rw [show mk 51 (k+1)=51+256*mk 51 k from rfl]
 have e:(b+256*B)/4=(b/4+64*(B%4))+256*(B/4):=by omega
 rw [e,and_byte _ _ _ _ (by omega) (by omega),and_byte _ _ _ _ hb (by omega),t2 ⟨b,hb⟩ ⟨B%4,by omega⟩]
 show (b/4&&& 51)+_+_=_
 omega
theorem steps {k b B:Nat}(hb:b<256) (hB:f2 k (f1 k B)%16≤4):
  f3 (k+1) (f2 (k+1) (f1 (k+1) (b+256*B)))=pc b+256*f3 k (f2 k (f1 k B))∧f2 (k+1) (f1 (k+1) (b+256*B))%16≤4:=by
 obtain⟨h1,h2,h3,_⟩:=t4 ⟨b,hb⟩
 rw [f1_step hb,f2_step h1]
 refine⟨?_,by omega⟩
 generalize f2 k (f1 k B)=C at*
 unfold f3
 rw [show mk 15 (k+1)=15+256*mk 15 k from rfl]
 have e:(d2 (d1 b)+256*C)/16+(d2 (d1 b)+256*C)=(d2 (d1 b)/16+d2 (d1 b)+16*(C%16))+256*(C/16+C):=by omega
 have h2':d2 (d1 b)<69:=h2
 rw [e,and_byte _ _ _ _ (by omega) (by omega),t3 ⟨b,hb⟩ ⟨C%16,by omega⟩]
theorem eight {b0 b1 b2 b3 b4 b5 b6 b7:Nat}(h0:b0<256) (h1:b1<256) (h2:b2<256) (h3:b3<256) (h4:b4<256) (h5:b5<256) (h6:b6<256) (h7:b7<256):
  f3 8 (f2 8 (f1 8 (b0+256*(b1+256*(b2+256*(b3+256*(b4+256*(b5+256*(b6+256*(b7+256*0))))))))))
   =pc b0+256*(pc b1+256*(pc b2+256*(pc b3+256*(pc b4+256*(pc b5+256*(pc b6+256*pc b7)))))):=by
 have s7:=steps (k:=0) (B:=0) h7 (by decide)
 have s6:=steps h6 s7.2
 have s5:=steps h5 s6.2
 have s4:=steps h4 s5.2
 have s3:=steps h3 s4.2
 have s2:=steps h2 s3.2
 have s1:=steps h1 s2.2
 have s0:=steps h0 s1.2
 rw [s0.1,s1.1,s2.1,s3.1,s4.1,s5.1,s6.1,s7.1]
 simp [f3,mk]
theorem folds {p0 p1 p2 p3 p4 p5 p6 p7:Nat}(h0:p0≤8) (h1:p1≤8) (h2:p2≤8) (h3:p3≤8) (h4:p4≤8) (h5:p5≤8) (h6:p6≤8) (h7:p7≤8){x3 x4 x5 x6:Nat}
  (e3:x3=p0+256*(p1+256*(p2+256*(p3+256*(p4+256*(p5+256*(p6+256*p7))))))) (e4:x4=x3+x3/256) (e5:x5=x4+x4/65536) (e6:x6=x5+x5/4294967296):
  x6%128=p0+p1+p2+p3+p4+p5+p6+p7∧x6<18446744073709551616:=by
 have g4:x4=(p0+p1)+256*((p1+p2)+256*((p2+p3)+256*((p3+p4)+256*((p4+p5)+256*((p5+p6)+256*((p6+p7)+256*p7)))))):=by omega
 clear e3 e4
 have g5:x5=(p0+p1+p2+p3)+256*((p1+p2+p3+p4)+256*((p2+p3+p4+p5)+256*((p3+p4+p5+p6)+256*((p4+p5+p6+p7)+256*((p5+p6+p7)+256*((p6+p7)+256*p7)))))):=by omega
 clear g4 e5
 have gq:x5/4294967296=(p4+p5+p6+p7)+256*((p5+p6+p7)+256*((p6+p7)+256*p7)):=by omega
 rw [gq] at e6
 have g6:x6=(p0+p1+p2+p3+p4+p5+p6+p7)+256*(((p1+p2+p3+p4)+256*((p2+p3+p4+p5)+256*((p3+p4+p5+p6)+256*((p4+p5+p6+p7)+256*((p5+p6+p7)+256*((p6+p7)+256*p7))))))+((p5+p6+p7)+256*((p6+p7)+256*p7))):=by omega
 clear gq e6 g5
 omega
theorem one {x x1 x2 x3 x4 x5 x6:Nat}(hx:x<18446744073709551616) (hh:9223372036854775808≤x) (e1:x1=f1 8 x) (e2:x2=f2 8 x1) (e3:x3=f3 8 x2) (e4:x4=x3+x3/256) (e5:x5=x4+x4/65536) (e6:x6=x5+x5/4294967296):
  x6%128=1↔x=9223372036854775808:=by
 obtain⟨b0,q0,hb0,hq0⟩:∃b q,b<256∧x=b+256*q:=⟨x%256,x/256,by omega,by omega⟩
 obtain⟨b1,q1,hb1,hq1⟩:∃b q,b<256∧q0=b+256*q:=⟨q0%256,q0/256,by omega,by omega⟩
 obtain⟨b2,q2,hb2,hq2⟩:∃b q,b<256∧q1=b+256*q:=⟨q1%256,q1/256,by omega,by omega⟩
 obtain⟨b3,q3,hb3,hq3⟩:∃b q,b<256∧q2=b+256*q:=⟨q2%256,q2/256,by omega,by omega⟩
 obtain⟨b4,q4,hb4,hq4⟩:∃b q,b<256∧q3=b+256*q:=⟨q3%256,q3/256,by omega,by omega⟩
 obtain⟨b5,q5,hb5,hq5⟩:∃b q,b<256∧q4=b+256*q:=⟨q4%256,q4/256,by omega,by omega⟩
 obtain⟨b6,b7,hb6,hq6⟩:∃b q,b<256∧q5=b+256*q:=⟨q5%256,q5/256,by omega,by omega⟩
 have hb7:b7<256:=by omega
 have hb7':128≤b7:=by omega
 have e:=eight hb0 hb1 hb2 hb3 hb4 hb5 hb6 hb7
 have ex:x=b0+256*(b1+256*(b2+256*(b3+256*(b4+256*(b5+256*(b6+256*(b7+256*0))))))):=by omega
 rw [←ex,←e1,←e2,←e3] at e
 have p0:=(t4 ⟨b0,hb0⟩).2.2.2
 have p1:=(t4 ⟨b1,hb1⟩).2.2.2
 have p2:=(t4 ⟨b2,hb2⟩).2.2.2
 have p3:=(t4 ⟨b3,hb3⟩).2.2.2
 have p4:=(t4 ⟨b4,hb4⟩).2.2.2
 have p5:=(t4 ⟨b5,hb5⟩).2.2.2
 have p6:=(t4 ⟨b6,hb6⟩).2.2.2
 have p7:=(t4 ⟨b7,hb7⟩).2.2.2
 have hf:=(folds p0.1 p1.1 p2.1 p3.1 p4.1 p5.1 p6.1 p7.1 e e4 e5 e6).1
 simp only at p0 p1 p2 p3 p4 p5 p6 p7
 rw [hf]
 show (pc b0+pc b1+pc b2+pc b3+pc b4+pc b5+pc b6+pc b7=1)↔_
 constructor
 ·intro h
  have h7:pc b7≠0:=fun hz=>by have:=p7.2.1 hz;omega
  have hs:pc b0+pc b1+pc b2+pc b3+pc b4+pc b5+pc b6=0∧pc b7=1:=by clear p0 p1 p2 p3 p4 p5 p6 p7 e e1 e2 e3 e4 e5 e6 ex hq0 hq1 hq2 hq3 hq4 hq5 hq6 hf;omega
  obtain⟨hs,h8⟩:=hs
  have z0:=p0.2.1 (by omega)
  have z1:=p1.2.1 (by omega)
  have z2:=p2.2.1 (by omega)
  have z3:=p3.2.1 (by omega)
  have z4:=p4.2.1 (by omega)
  have z5:=p5.2.1 (by omega)
  have z6:=p6.2.1 (by omega)
  have z7:=p7.2.2 hb7' (by omega)
  omega
 ·intro h
  obtain rfl:b7=128:=by omega
  obtain rfl:b0=0:=by omega
  obtain rfl:b1=0:=by omega
  obtain rfl:b2=0:=by omega
  obtain rfl:b3=0:=by omega
  obtain rfl:b4=0:=by omega
  obtain rfl:b5=0:=by omega
  obtain rfl:b6=0:=by omega
  decide
end Go.Proofs.YtnpbbknemflpnaaGreat.Pop

namespace Go.Proofs.YtnpbbknemflpnaaGreat
open Go.RowKit
theorem zint_Of_neg {w:World}{v:Nat}(hv1:1≤v) (hv:v≤9223372036854775808):
  Calls Tryz.prog 38 #[.int .i64 (-(v:Int))] w (RetZ w (-(v:Int))):=by
 have hn: -(v:Int)<0:=by omega
 have w1e:IntKind.u64.wrap (-(v:Int))=18446744073709551616-(v:Int):=by
  simp only [IntKind.wrap,IntKind.bits,IntKind.signed]
  simp
  omega
 have w2e:IntKind.u64.wrap (-(18446744073709551616-(v:Int)))=(v:Int):=by
  simp only [IntKind.wrap,IntKind.bits,IntKind.signed]
  simp
  omega
 have W1:=Lib.hid w1e
 have W2:=Lib.hid w2e
 clear w1e w2e
 go_enter Tryz.func38,Tryz.ntmps38
 go_upto_region 2 with (fail)
 obtain⟨g,hg⟩:∃g,w.heap.size=g:=⟨_,rfl⟩
 obtain⟨wa,hwa⟩:∃wa,w.alloc (.cells #[.bool false,.slice none 0 0] 41)=wa:=⟨_,rfl⟩
 rw [hg,hwa]
 have hb:Bk wa g 41 [.bool false,.slice none 0 0]:=by rw [←hwa,←hg];exact Bk.new w 41 [.bool false,.slice none 0 0]
 have hea:Ext w wa:=by rw [←hwa];exact (Ext.refl w).alloc _
 have hga:w.heap.size≤g:=Nat.le_of_eq hg
 have hgl:g<wa.heap.size:=hb.lt
 clear hwa hg
 obtain⟨k1,k2,k3,k4⟩:=hb.two
 have h1:Rd (wa.alloc (.cells #[.int .u64 (v:Int)] 45)) (some ⟨wa.heap.size,0,none⟩) 1 1 [v]:=Rd.one wa (by omega)
 have w1e:=W1.out
 have w2e:=W2.out
 go_wp2_with fail
 clear w1e w2e
 refine (nat_Least (h1.ext (by repeat (first | exact Ext.refl _ | assumption | apply Ext.drewN | apply Ext.drew | apply Ext.alloc))) (by omega)).mono ?_
 rintro e w1 ⟨A1,n1,c1,rfl,hn1,hr1,ho1,hx1⟩
 rw [nv_one] at hn1 ho1
 have hx1':Ext wa w1:=Ext.trans (by repeat (first | exact Ext.refl _ | assumption | apply Ext.drewN | apply Ext.drew | apply Ext.alloc)) hx1
 have hd:=hb.ext hx1'
 have hsz:=hx1'.size
 go_wp2_with fail
 refine (zint_of hn1.out).mono ?_
 rintro e w2 ⟨s',rfl,hs',hx2⟩
 have hd:=hd.ext hx2
 clear k1 k2 k3 k4
 obtain⟨k1,k2,k3,k4⟩:=hd.two
 go_wp2_with fail
 refine bodyPost_ret (res_int rfl rfl (hd.two_set _ _)) rfl ?_
 exact fin_int hd ((Zr_of hs'.out hn1.out ho1 (sg_true _)).ext hx2) (by simp;omega) (by omega) (hea.trans (hx1'.trans hx2))
theorem zint_OfI {w:World}{v:Int}(h1: -9223372036854775808≤v) (h2:v≤9223372036854775807):Calls Tryz.prog 38 #[.int .i64 v] w (RetZ w v):=by
 by_cases h:0≤v
 ·obtain⟨m,rfl⟩:=Int.eq_ofNat_of_zero_le h
  exact zint_Of (by omega)
 ·obtain⟨m,hm⟩:∃m:Nat,v= -(m:Int):=⟨v.natAbs,by omega⟩
  subst hm
  exact zint_Of_neg (by omega) (by omega)
theorem aggInt:AggT Tryz.prog 41 2:=⟨fun _=>by kernel_rfl,fun _=>by kernel_rfl⟩
theorem aggTwo:AggT Tryz.prog 123 4:=⟨fun _=>by kernel_rfl,fun _=>by kernel_rfl⟩
theorem cellBool:∀w,(isAgg 4).run Tryz.prog w= .ok false w:=fun _=>by kernel_rfl
theorem cellWords:∀w,(isAgg 39).run Tryz.prog w= .ok false w:=fun _=>by kernel_rfl
theorem mix:Tryz.prog.follows .mixedOrders=true:=by kernel_rfl
def Is (u v:Value) (_:World):Prop:=v=u
def ZR (b:Nat) (z:Int) (v:Value) (w:World):Prop:=∃s A n c,v= .agg #[.bool s,.slice A n c]∧Zr w b s A n c z
def WR (b:Nat) (m:Nat) (v:Value) (w:World):Prop:=∃A n c,v= .slice A n c∧n=(wd m).length∧Own w b 45 1 A n c ((wd m).map W64)
def Wi (w:World) (A:Option Addr) (n c:Nat) (m:Nat):Prop:=∃xs,Rd w A n c xs∧nv xs=m
theorem Zi.wi {w:World}{s:Bool}{A:Option Addr}{n c:Nat}{z:Int}(h:Zi w s A n c z):Wi w A n c z.natAbs:=by
 obtain⟨xs,h1,h2⟩:=h
 exact⟨xs,h1,by rw [←h2,sg_abs]⟩
def PR (b:Nat) (T:TypeId) (vs:List Value) (v:Value) (w:World):Prop:=∃g,v= .pointer (some ⟨g,0,none⟩)∧b≤g∧Bk w g T vs
theorem PR.old {b:Nat}{T:TypeId}{vs:List Value}{v:Value}{w:World}(h:PR b T vs v w):OldIn w v:=by
 obtain⟨g,rfl,_,h2⟩:=h
 intro k hk
 rw [inV_ptr hk];exact h2.lt
theorem Zr_nat {w:World}{b m n c:Nat}{A:Option Addr}(hn:n=(wd m).length) (ho:Own w b 45 1 A n c ((wd m).map W64)):Zr w b false A n c (m:Int):=
 Zr_of (m:=m) (s:=false) (by rw [sg_false];symm;exact decide_eq_false (by omega)) hn ho (sg_false m)
def T2 (R S:Value→World→Prop) (v:Value) (w:World):Prop:=∃a b,v= .tuple #[a,b]∧R a w∧S b w
def T3 (R S T:Value→World→Prop) (v:Value) (w:World):Prop:=∃a b c,v= .tuple #[a,b,c]∧R a w∧S b w∧T c w
def Gv (w:World) (R:Value→World→Prop) (e:Ending) (w':World):Prop:=∃v,e= .returned v∧R v w'∧Ext w w'
section
variable {w w':World}{b:Nat}{z x y:Int}{v u:Value}{R S T:Value→World→Prop}
theorem gz (hb:b≤w.heap.size) (e:Ending) (w':World) (h:RetZ w z e w'):Gv w (ZR b z) e w':=by
 obtain⟨s,A,n,c,rfl,h1,h2⟩:=h
 exact⟨_,rfl,⟨s,A,n,c,rfl,h1.mono hb⟩,h2⟩
theorem gze {er:Int}(hb:b≤w.heap.size) (e:Ending) (w':World) (h:RetZE w z er e w'):Gv w (T2 (ZR b z) (Is (.int .i64 er))) e w':=by
 obtain⟨s,A,n,c,rfl,h1,h2⟩:=h
 exact⟨_,rfl,⟨_,_,rfl,⟨s,A,n,c,rfl,h1.mono hb⟩,rfl⟩,h2⟩
theorem gzze {er:Int}(hb:b≤w.heap.size) (e:Ending) (w':World) (h:RetZZE w x y er e w'):Gv w (T3 (ZR b x) (ZR b y) (Is (.int .i64 er))) e w':=by
 obtain⟨s,A,n,c,s',B,m,c',rfl,h1,h1',h2⟩:=h
 exact⟨_,rfl,⟨_,_,_,rfl,⟨s,A,n,c,rfl,h1.mono hb⟩,⟨s',B,m,c',rfl,h1'.mono hb⟩,rfl⟩,h2⟩
theorem gwe {m:Nat}{er:Int}(hb:b≤w.heap.size) (e:Ending) (w':World) (h:RetWE w m er e w'):Gv w (T2 (WR b m) (Is (.int .i64 er))) e w':=by
 obtain⟨A,n,c,rfl,h1,h2,h3,h4⟩:=h
 exact⟨_,rfl,⟨_,_,rfl,⟨A,n,c,rfl,h1.out,h3.mono hb⟩,rfl⟩,h4⟩
theorem Gv.imp (hi:∀v w,R v w→S v w) (e:Ending) (w':World) (h:Gv w R e w'):Gv w S e w':=by
 obtain⟨v,rfl,h1,h2⟩:=h
 exact⟨v,rfl,hi _ _ h1,h2⟩
theorem ZR.imp {b':Nat}(hb:b≤b') (v:Value) (w:World) (h:ZR b' z v w):ZR b z v w:=by
 obtain⟨s,A,n,c,rfl,h⟩:=h
 exact⟨s,A,n,c,rfl,h.mono hb⟩
theorem T2.imp {R' S':Value→World→Prop}(h1:∀v w,R v w→R' v w) (h2:∀v w,S v w→S' v w) (v:Value) (w:World) (h:T2 R S v w):T2 R' S' v w:=by
 obtain⟨a,c,rfl,h3,h4⟩:=h
 exact⟨a,c,rfl,h1 _ _ h3,h2 _ _ h4⟩
theorem T3.imp {R' S' T':Value→World→Prop}(h1:∀v w,R v w→R' v w) (h2:∀v w,S v w→S' v w) (h0:∀v w,T v w→T' v w) (v:Value) (w:World) (h:T3 R S T v w):T3 R' S' T' v w:=by
 obtain⟨a,c,d,rfl,h3,h4,h5⟩:=h
 exact⟨a,c,d,rfl,h1 _ _ h3,h2 _ _ h4,h0 _ _ h5⟩
theorem Is.imp {u:Value}(v:Value) (w:World) (h:Is u v w):Is u v w:=h
theorem gsgn (e:Ending) (w':World) (h:SgnP z w e w'):Gv w (Is (.int .i64 z)) e w':=by
 obtain⟨c,h1,_,_,rfl,h2⟩:=h
 exact⟨_,rfl,(show Value.int .i64 c=_ by rw [h1.out]),h2⟩
end
section
variable {w:World}{b:Nat}(hb:b≤w.heap.size){s t u:Bool}{A B C:Option Addr}{n cap m cap' k cap'':Nat}{x y z:Int}
include hb
theorem g_zint_Add (hx:Zi w s A n cap x) (hl:n≤274877906944) (hy:Zi w t B m cap' y) (hl':m≤274877906944):
  Calls Tryz.prog 82 #[.agg #[.bool s,.slice A n cap],.agg #[.bool t,.slice B m cap']] w (Gv w (ZR b (x+y))):=(zint_Add hx hl hy hl').mono (gz hb)
theorem g_zint_Sub (hx:Zi w s A n cap x) (hl:n≤274877906944) (hy:Zi w t B m cap' y) (hl':m≤274877906944):
  Calls Tryz.prog 61 #[.agg #[.bool s,.slice A n cap],.agg #[.bool t,.slice B m cap']] w (Gv w (ZR b (x-y))):=(zint_Sub hx hl hy hl').mono (gz hb)
theorem g_zint_Mul (hx:Zi w s A n cap x) (hl:n≤68719476736) (hy:Zi w t B m cap' y) (hl':m≤68719476736):
  Calls Tryz.prog 20 #[.agg #[.bool s,.slice A n cap],.agg #[.bool t,.slice B m cap']] w (Gv w (ZR b (x*y))):=(zint_Mul hx hl hy hl').mono (gz hb)
theorem g_zint_MulAdd (hx:Zi w s A n cap x) (hl:n≤68719476736) (hy:Zi w t B m cap' y) (hl':m≤68719476736) (hz:Zi w u C k cap'' z) (hl'':k≤68719476736):
  Calls Tryz.prog 103 #[.agg #[.bool s,.slice A n cap],.agg #[.bool t,.slice B m cap'],.agg #[.bool u,.slice C k cap'']] w (Gv w (ZR b (x*y+z))):=(zint_MulAdd hx hl hy hl' hz hl'').mono (gz hb)
theorem g_zint_Neg (hx:Zi w s A n cap x) (hl:n≤68719476736):Calls Tryz.prog 45 #[.agg #[.bool s,.slice A n cap]] w (Gv w (ZR b (-x))):=(zint_Neg hx hl).mono (gz hb)
theorem g_zint_Abs (hx:Zi w s A n cap x) (hl:n≤68719476736):Calls Tryz.prog 22 #[.agg #[.bool s,.slice A n cap]] w (Gv w (ZR b (x.natAbs:Int))):=(zint_Abs hx hl).mono (gz hb)
theorem g_zint_Least (hx:Zi w s A n cap x) (hl:n≤68719476736):Calls Tryz.prog 46 #[.agg #[.bool s,.slice A n cap]] w (Gv w (ZR b x)):=(zint_Least hx hl).mono (gz hb)
theorem g_zint_Of {v:Int}(h1: -9223372036854775808≤v) (h2:v≤9223372036854775807):Calls Tryz.prog 38 #[.int .i64 v] w (Gv w (ZR b v)):=(zint_OfI h1 h2).mono (gz hb)
theorem g_zint_Trunc (hx:Zi w s A n cap x) (hl:n≤68719476736) (hy:Zi w t B m cap' y) (hl':m≤68719476736) (h0:y≠0):
  Calls Tryz.prog 117 #[.agg #[.bool s,.slice A n cap],.agg #[.bool t,.slice B m cap']] w (Gv w (T3 (ZR b (x.tdiv y)) (ZR b (x.tmod y)) (Is (.int .i64 0)))):=(zint_Trunc hx hl hy hl' h0).mono (gzze hb)
omit hb in
theorem g_zint_of {m:Nat}(hn:n=(wd m).length) (ho:Own w b 45 1 A n cap ((wd m).map W64)):Calls Tryz.prog 41 #[.bool s,.slice A n cap] w (Gv w (ZR b (sg s m))):=
 (zint_of hn).mono fun e w' h=>by
  obtain⟨s',rfl,h1,h2⟩:=h
  exact⟨_,rfl,⟨s',A,n,cap,rfl,Zr_of h1.out hn (ho.ext h2) rfl⟩,h2⟩
theorem g_divnat_Exact {i j:Nat}(hx:Wi w A n cap i) (hl:n≤274877906944) (hy:Wi w B m cap' j) (hl':m≤274877906944) (h0:j≠0) (h1:i%j=0):
  Calls Tryz.prog 59 #[.slice A n cap,.slice B m cap'] w (Gv w (T2 (WR b (i/j)) (Is (.int .i64 0)))):=by
 obtain⟨ys,hy,rfl⟩:=hy
 obtain⟨xs,hx,rfl⟩:=hx
 exact (divnat_Exact hx hl hy hl' h0 h1).mono (gwe hb)
theorem g_zint_Exact (hx:Zi w s A n cap x) (hl:n≤68719476736) (hy:Zi w t B m cap' y) (hl':m≤68719476736) (h0:y≠0) (h1:y∣x):
  Calls Tryz.prog 40 #[.agg #[.bool s,.slice A n cap],.agg #[.bool t,.slice B m cap']] w (Gv w (T2 (ZR b (x.tdiv y)) (Is (.int .i64 0)))):=(zint_Exact hx hl hy hl' h0 h1).mono (gze hb)
end
section
variable {w:World}{s t:Bool}{A B:Option Addr}{n cap m cap':Nat}{x y:Int}
theorem g_zint_Sign (hx:Zi w s A n cap x) (hl:n≤68719476736):Calls Tryz.prog 34 #[.agg #[.bool s,.slice A n cap]] w (Gv w (Is (.int .i64 (scmp x 0)))):=(zint_Sign hx hl).mono gsgn
end
theorem inV_int {s:Bool}{A:Option Addr}{n c g:Nat}(h:inV (.agg #[.bool s,.slice A n c]) g):∃p,A=some p∧p.block=g:=by
 rcases h with h | ⟨_,p,_,_,h,h2⟩
 ·cases h
 ·injection h with h
  injection h with h
  injection h with _ h
  injection h with h _
  injection h with h
  exact⟨p,h,h2⟩
theorem inV_nil {s:Bool}{n c g:Nat}(h:inV (.agg #[.bool s,.slice none n c]) g):False:=by
 obtain⟨p,h,_⟩:=inV_int h
 cases h
theorem Zr.new {w:World}{b n c:Nat}{s:Bool}{A:Option Addr}{x:Int}(h:Zr w b s A n c x):∀g,inV (.agg #[.bool s,.slice A n c]) g→b≤g:=fun g hg=>by
 obtain⟨p,h1,h2⟩:=inV_int hg
 have:=(h.own.block p h1).1
 omega
theorem Zr.old {w:World}{b n c:Nat}{s:Bool}{A:Option Addr}{x:Int}(h:Zr w b s A n c x):∀g,inV (.agg #[.bool s,.slice A n c]) g→g<w.heap.size:=fun g hg=>by
 obtain⟨p,h1,h2⟩:=inV_int hg
 have:=(h.own.block p h1).2
 omega
theorem ZR.old {b:Nat}{x:Int}{v:Value}{w:World}(h:ZR b x v w):OldIn w v:=by
 obtain⟨s,A,n,c,rfl,h⟩:=h
 exact h.old
def TE (R S T:Value→World→Prop) (v:Value) (w:World):Prop:=∃a b c,v= .tuple #[a,b,c]∧R a w∧S b w∧T c w∧(∀g,inV a g→inV b g→False)∧(∀g,inV a g→inV c g→False)∧∀g,inV b g→inV c g→False
theorem TE.imp {R S T R' S' T':Value→World→Prop}(h1:∀v w,R v w→R' v w) (h2:∀v w,S v w→S' v w) (h3:∀v w,T v w→T' v w):∀v w,TE R S T v w→TE R' S' T' v w:=by
 rintro v w ⟨a,b,c,h,r,s,t,ap⟩
 exact⟨a,b,c,h,h1 _ _ r,h2 _ _ s,h3 _ _ t,ap⟩
theorem TE.t3 {R S T:Value→World→Prop}:∀v w,TE R S T v w→T3 R S T v w:=by
 rintro v w ⟨a,b,c,h,r,s,t,_⟩
 exact⟨a,b,c,h,r,s,t⟩
theorem ap_lt {u v:Value}{N:Nat}(h:∀g,inV u g→g<N) (k:∀g,inV v g→N≤g):∀g,inV u g→inV v g→False:=fun g h1 h2=>Nat.lt_irrefl _ (Nat.lt_of_lt_of_le (h g h1) (k g h2))
section
variable {P:Program}{Q:Exit→Act→World→Prop}{n:Nat}{l:Fr}{w:World}{ops:Array Oper}{rest:List Oper}{d:Nat}{op:Op}{ty:TypeId}{pos:String}{af:Array Edge}{gd:Option (Nat×Bool)}
theorem wl_bslice (hw:guardB ops l gd=some true) (hk:known l op=true) (hn:d<n){k:Nat}{e:TypeId}(cells:List Value)
  (hr:∀w,(execOp (rho l) ⟨some d,op,ty,pos,af,gd⟩).run P w= .ok (.value (.slice (some ⟨w.heap.size,0,none⟩) k k)) (w.alloc (.cells cells.toArray e)))
  (h:∀g w',NewBk w w' g e cells→wl P ops Q n rest ((d,.slice (some ⟨g,0,none⟩) k k)::l) w'):wl P ops Q n (⟨some d,op,ty,pos,af,gd⟩::rest) l w:=
 wl_val hw hn (fun a ha=>by rw [exec_known hk ha];exact hr w) (h _ _ (NewBk.mk' w e cells))
end
def O1 (b x:Nat) (v:Value) (w:World):Prop:=∃A,v= .slice A 1 1∧Own w b 45 1 A 1 1 [W64 x]
theorem O1.mk_ {w w':World}{g b x:Nat}(h:NewBk w w' g 45 [W64 x]) (hb:b≤w.heap.size):Own w' b 45 1 (some ⟨g,0,none⟩) 1 1 [W64 x]:=
 Own.mk_ (by rw [←h.at_];exact hb) h.bk (Nat.le_refl _) (by rw [len_maxLen];omega) rfl rfl
theorem own1_wd {w:World}{b x:Nat}{A:Option Addr}(h:Own w b 45 1 A 1 1 [W64 x]) (hx:x≤18446744073709551615) (h0:x≠0):Own w b 45 1 A 1 1 ((wd x).map W64):=by
 rw [wd_small (by rw [WB_def];omega) h0];exact h
theorem len1 {x:Nat}(hx:x≤18446744073709551615) (h0:x≠0):1=(wd x).length:=by rw [wd_small (by rw [WB_def];omega) h0];rfl
section
variable {P:Program}{Q:Exit→Act→World→Prop}{n:Nat}{l:Fr}{w:World}
def mvL (n:Nat) (ops:Array Oper):Nat→List Oper→Fr→Option (Fr×List Oper)
 | 0,rest,l=>some (l,rest)
 | _+1,[],_=>none
 | k+1,⟨some d,op,_,_,_,gd⟩::rest,l=>
  match Nat.blt d n with
  | true=>
   match guardB ops l gd with
   | some true=>
    match op with
    | .move x=>match evo l x with
     | some v=>mvL n ops k rest ((d,v)::l)
     | none=>none
    | .assign x=>match evo l x with
     | some v=>mvL n ops k rest ((d,v)::l)
     | none=>none
    | _=>none
   | some false=>mvL n ops k rest ((d,undef)::l)
   | none=>none
  | false=>none
 | _+1,_::_,_=>none
theorem mv {ops:Array Oper}:∀(k:Nat){rest rest':List Oper}{l l':Fr},mvL n ops k rest l=some (l',rest')→wl P ops Q n rest' l' w→wl P ops Q n rest l w
 | 0,rest,rest',l,l',h,hw=>by
  simp only [mvL,Option.some.injEq,Prod.mk.injEq] at h
  obtain⟨rfl,rfl⟩:=h
  exact hw
 | k+1,[],rest',l,l',h,hw=>by simp [mvL] at h
 | k+1,⟨none,op,ty,pos,af,gd⟩::rest,rest',l,l',h,hw=>by simp [mvL] at h
 | k+1,⟨some d,op,ty,pos,af,gd⟩::rest,rest',l,l',h,hw=>by
  unfold mvL at h
  split at h
  ·rename_i hd
   have hd':d<n:=Nat.le_of_ble_eq_true hd
   split at h
   ·rename_i hg
    split at h
    ·split at h
     ·rename_i hx
      exact wl_move hg hx hd' (mv k h hw)
     ·cases h
    ·split at h
     ·rename_i hx
      exact wl_assign hg hx hd' (mv k h hw)
     ·cases h
    ·cases h
   ·rename_i hg
    exact wl_off hg hd' (mv k h hw)
   ·cases h
  ·cases h
theorem sr {id:Nat}{ol:List Oper}{y:Code}(h:wl P ol.toArray (Exit.then (fun a w=>y.wp P Q a w) Q) n ol l w):cw P Q n (.seq (.region id ol.toArray false) y) l w:=cw_seq (cw_region h)
theorem ne_ {ops:Array Oper}{y:Code}(h:cw P Q n y l w):wl P ops (Exit.then (fun a w=>y.wp P Q a w) Q) n [] l w:=wl_nil (eo_then h)
theorem pu {ops:Array Oper}{rest:List Oper}{d:Nat}{op:Op}{ty:TypeId}{pos:String}{af:Array Edge}{gd:Option (Nat×Bool)}{v:Value}(hk:(guardB ops l gd==some true&&known l op&&Nat.blt d n)=true) (hr:(execOp (rho l) ⟨some d,op,ty,pos,af,gd⟩).run P w= .ok (.value v) w)
  (h:wl P ops Q n rest ((d,v)::l) w):wl P ops Q n (⟨some d,op,ty,pos,af,gd⟩::rest) l w:=by
 rw [Bool.and_eq_true,Bool.and_eq_true,beq_iff_eq] at hk
 exact wl_pure hk.1.1 hk.1.2 (Nat.le_of_ble_eq_true hk.2) hr h
section
variable {ops:Array Oper}{rest:List Oper}{d:Nat}{ty:TypeId}{pos:String}{af:Array Edge}{gd:Option (Nat×Bool)}{w0:World}
theorem bx {x:Operand}{t:TypeId}{v:Value}(vs:List Value) (h0:Ext w0 w) (hx:evo l x=some v) (hk:(guardB ops l gd==some true&&Nat.blt d n)=true) (hv:v.cells=vs.toArray)
  (h:∀g w',Bk w' g t vs→w0.heap.size≤g→Ext w w'→Ext w0 w'→wl P ops Q n rest ((d,.pointer (some ⟨g,0,none⟩))::l) w'):wl P ops Q n (⟨some d,.box t x,ty,pos,af,gd⟩::rest) l w:=by
 rw [Bool.and_eq_true,beq_iff_eq] at hk
 exact wl_box hk.1 hx hv (Nat.le_of_ble_eq_true hk.2) fun g w' nb=>h g w' nb.bk (by rw [←nb.at_];exact h0.size) nb.ext (h0.trans nb.ext)
theorem bxq {x:Operand}{t:TypeId}{v:Value}{gp:Nat}(vs:List Value) (h0:Ext w0 w) (hq:gp<w.heap.size) (hx:evo l x=some v) (hk:(guardB ops l gd==some true&&Nat.blt d n)=true) (hv:v.cells=vs.toArray)
  (h:∀g w',Bk w' g t vs→w0.heap.size≤g→gp<g→Ext w w'→Ext w0 w'→wl P ops Q n rest ((d,.pointer (some ⟨g,0,none⟩))::l) w'):wl P ops Q n (⟨some d,.box t x,ty,pos,af,gd⟩::rest) l w:=by
 rw [Bool.and_eq_true,beq_iff_eq] at hk
 exact wl_box hk.1 hx hv (Nat.le_of_ble_eq_true hk.2) fun g w' nb=>h g w' nb.bk (by rw [←nb.at_];exact h0.size) (by rw [←nb.at_];exact hq) nb.ext (h0.trans nb.ext)
theorem al {t:TypeId}(vs:List Value) (h0:Ext w0 w) (hz:∀w,(zeroValue t).run P w= .ok (.agg vs.toArray) w) (hk:(guardB ops l gd==some true&&Nat.blt d n)=true)
  (h:∀g w',Bk w' g t vs→w0.heap.size≤g→Ext w w'→Ext w0 w'→wl P ops Q n rest ((d,.pointer (some ⟨g,0,none⟩))::l) w'):wl P ops Q n (⟨some d,.alloc t,ty,pos,af,gd⟩::rest) l w:=by
 rw [Bool.and_eq_true,beq_iff_eq] at hk
 exact wl_alloc hk.1 hz rfl (Nat.le_of_ble_eq_true hk.2) fun g w' nb=>h g w' nb.bk (by rw [←nb.at_];exact h0.size) nb.ext (h0.trans nb.ext)
theorem alq {t:TypeId}{gp:Nat}(vs:List Value) (h0:Ext w0 w) (hq:gp<w.heap.size) (hz:∀w,(zeroValue t).run P w= .ok (.agg vs.toArray) w) (hk:(guardB ops l gd==some true&&Nat.blt d n)=true)
  (h:∀g w',Bk w' g t vs→w0.heap.size≤g→gp<g→Ext w w'→Ext w0 w'→wl P ops Q n rest ((d,.pointer (some ⟨g,0,none⟩))::l) w'):wl P ops Q n (⟨some d,.alloc t,ty,pos,af,gd⟩::rest) l w:=by
 rw [Bool.and_eq_true,beq_iff_eq] at hk
 exact wl_alloc hk.1 hz rfl (Nat.le_of_ble_eq_true hk.2) fun g w' nb=>h g w' nb.bk (by rw [←nb.at_];exact h0.size) (by rw [←nb.at_];exact hq) nb.ext (h0.trans nb.ext)
theorem cl {f:FuncId}{xs:Array Operand}{ts:Array TypeId}{vs:List Value}{R:Value→World→Prop}(h0:Ext w0 w) (hc:Calls P f vs.toArray w (Gv w R))
  (hk:(guardB ops l gd==some true&&known l (.call {callee:= .value (.func f),args:=xs,argTypes:=ts})&&Nat.blt d n)=true)
  (hr:(execOp (rho l) ⟨some d,.call {callee:= .value (.func f),args:=xs,argTypes:=ts},ty,pos,af,gd⟩).run P w= .ok (.enter f vs.toArray) w)
  (h:∀v w',R v w'→Ext w w'→Ext w0 w'→wl P ops Q n rest ((d,v)::l) w'):
  wl P ops Q n (⟨some d,.call {callee:= .value (.func f),args:=xs,argTypes:=ts},ty,pos,af,gd⟩::rest) l w:=by
 rw [Bool.and_eq_true,Bool.and_eq_true,beq_iff_eq] at hk
 refine wl_call hk.1.1 hk.1.2 hr (Nat.le_of_ble_eq_true hk.2) hc ?_
 rintro _ w' ⟨v,rfl,r,e⟩
 exact ret_intro (h v w' r e (h0.trans e))
theorem lo {x:Operand}{T T':TypeId}{k off g:Nat}{vs:List Value}(hT:AggT P T k) (hb:Bk w g T' vs) (us:List Value) (hx:evo l x=some (.pointer (some ⟨g,off,none⟩)))
  (hk:(guardB ops l gd==some true&&Nat.blt d n&&Nat.beq us.length k&&Nat.ble (off+k) vs.length)=true) (he:(vs.drop off).take k=us) (h:wl P ops Q n rest ((d,.agg us.toArray)::l) w):wl P ops Q n (⟨some d,.load T x,ty,pos,af,gd⟩::rest) l w:=by
 rw [Bool.and_eq_true,Bool.and_eq_true,Bool.and_eq_true,beq_iff_eq] at hk
 exact wl_load hk.1.1.1 hx (load_agg hT hb us (Nat.eq_of_beq_eq_true hk.1.2) (Nat.le_of_ble_eq_true hk.2) he) (Nat.le_of_ble_eq_true hk.1.1.2) h
theorem so {x y:Operand}{T T':TypeId}{k g off:Nat}{vs us:List Value}(hT:AggT P T k) (hb:Bk w g T' vs) (us':List Value) (h0:Ext w0 w) (hg:w0.heap.size≤g) (hx:evo l x=some (.pointer (some ⟨g,off,none⟩))) (hy:evo l y=some (.agg us.toArray))
  (hk:(guardB ops l gd==some true&&Nat.beq us.length k&&Nat.ble (off+k) vs.length&&us.all (·.oneCell'))=true) (he:overl vs off us=us')
  (h:∀w',Bk w' g T' us'→Upd g w w'→Ext w0 w'→wl P ops Q n rest l w'):wl P ops Q n (⟨none,.store T x y,ty,pos,af,gd⟩::rest) l w:=by
 rw [Bool.and_eq_true,Bool.and_eq_true,Bool.and_eq_true,beq_iff_eq] at hk
 exact wl_stored hk.1.1.1 hx hy hT (Nat.eq_of_beq_eq_true hk.1.1.2) hb (Nat.le_of_ble_eq_true hk.1.2) hk.2 us' he fun w' b u _=>h w' b u (u.ext h0 hg)
end
theorem dk {ol:List Oper}{Rs:List (Value→World→Prop)}{w0 w1:World}{k:Fr→Prop}{acc:Fr}{j:Nat}{ds:List Nat}{v:Value}{d:Nat}
  (hR:Rs[j]?=some (Is v)) (hd:dstOf ol j=some d) (h:Deps ol Rs w0 w1 k ds ((d,v)::acc)):Deps ol Rs w0 w1 k (j::ds) acc:=
 deps_cons hR hd fun v' _ hr _ _=>by
  obtain rfl:=hr
  exact h
theorem pf {ops:Array Oper}{rest:List Oper}{d:Nat}{op:Op}{ty:TypeId}{pos:String}{af:Array Edge}{gd:Option (Nat×Bool)}(g off:Nat) (hk:(guardB ops l gd==some true&&known l op&&Nat.blt d n)=true) (hr:(execOp (rho l) ⟨some d,op,ty,pos,af,gd⟩).run P w= .ok (.value (.pointer (some ⟨g,off,none⟩))) w)
  (h:wl P ops Q n rest ((d,.pointer (some ⟨g,off,none⟩))::l) w):wl P ops Q n (⟨some d,op,ty,pos,af,gd⟩::rest) l w:=pu hk hr h
theorem bq {m k:Nat}(h:Nat.ble m k=true):m≤k:=Nat.le_of_ble_eq_true h
theorem lx_ {a b c:Nat}(h:a≤b) (k:Nat.ble b c=true):a≤c:=Nat.le_trans h (Nat.le_of_ble_eq_true k)
end
abbrev S0:Value:= .slice none 0 0
abbrev F0:Value:= .bool false
abbrev I0:Value:= .int .i64 0
end Go.Proofs.YtnpbbknemflpnaaGreat

namespace Go.Proofs.YtnpbbknemflpnaaGreat
open Go.ChangeShapes Go.WideShapes Go.ChangeAt Go.RowKit
theorem own_knob:ownKnob Tryz.prog.godebug=none:=by kernel_rfl
theorem cells_word:Tryz.prog.cellsOf 45=1:=by kernel_rfl
theorem bulk_one {H:Type}(d:DataW H):1≤Rows.uptoBulk d:=by
 cases d with
 | lit l=>cases l <;> simp [Rows.uptoBulk]
 | nil=>simp [Rows.uptoBulk]
 | ptr d=>simp [Rows.uptoBulk]
 | slice elems spare=>simp [Rows.uptoBulk]
 | agg parts=>simp [Rows.uptoBulk]
 | iface t d=>simp [Rows.uptoBulk]
 | map entries=>simp [Rows.uptoBulk]
 | held h=>simp [Rows.uptoBulk]
theorem bulk_len {H:Type}(l:List (DataW H)):l.length≤Rows.uptoBulkAll l:=by
 induction l with
 | nil=>simp [Rows.uptoBulkAll]
 | cons x r ih=>have:=bulk_one x;simp only [Rows.uptoBulkAll,List.length_cons];omega
theorem bulk_slice {H:Type}(elems spare:List (DataW H)):elems.length+spare.length≤Rows.uptoBulk (.slice elems spare):=by
 have h1:=bulk_len elems
 have h2:=bulk_len spare
 simp only [Rows.uptoBulk]
 omega
theorem bulk_bound {H:Type}{l:List (DataW H)}(hk:Rows.uptoSmall H l=true):Rows.uptoBulkAll l≤1048576:=of_decide_eq_true hk
theorem wf_nat {n:Int}(h:(Lit.int .u64 n).wf=true):0≤n∧n≤18446744073709551615:=by
 simpa [Lit.wf,IntKind.min,IntKind.max,IntKind.signed,IntKind.bits] using h
theorem post_of_below {H:Type}{enc:TypeId×Value→H}{P:Program}{f:Func}{s:ChangeSpec}{apart fresh handsOn again:Bool}{W W':World}{args:Array Value}{v:Value}{ds gs:List (DataW H)}{before pa pv:List MemPlace}
  (hW:DataW.Whole enc P f.params.toList s.vars apart W args.toList ds gs before)
  (hres:∀(b:Nat) (sp:Nat→Bool) (hd:Bool),DataW.TrodAll enc P W' b sp hd f.resultTypes.toList (v.resultList f.resultTypes.size) (s.fn H (ds++gs)).results [])
  (hargs:∀sp:Nat→Bool,(∀p∈before,sp p.block=true)→DataW.TrodAll enc P W' 0 sp true f.params.toList args.toList (s.fn H (ds++gs)).args pa)
  (hvars:∀sp:Nat→Bool,(∀p∈before,sp p.block=true)→DataW.TrodVars enc P W' sp s.vars (s.fn H (ds++gs)).vars pv)
  (hps:before=pa++pv) (hb:Below W.heap.size W W')
  (hok:∀(j:Nat) (t:TypeId) (r:Value),f.resultTypes[j]?=some t→(v.resultList f.resultTypes.size)[j]?=some r→Value.okWide P W' .any 0 t r):
  s.post enc P f apart fresh handsOn again W args v W':=by
 have hlt:∀p∈before,p.block<W.heap.size:=fun p hp=>hW.lt p hp
 have hold:∀p∈before,(fun b=>decide (b<W.heap.size)) p.block=true:=fun p hp=>by simpa using hlt p hp
 refine⟨ds,gs,before,[],pa,pv,hW,hres _ _ _,hargs _ hold,hvars _ hold,World.keptBut_mono (fun p hp=>⟨hp,?_⟩) (hb.frame (· ∈before)),fun _=>?_⟩
 ·rw [hps,List.mem_append] at hp
  exact Or.inr hp
 ·obtain⟨_,_,_,_,_,hz,hn⟩:=hW
  refine⟨hok,_,_,([]++pa)++pv,⟨[]++pa,pv,trodAll_append (hargs _ (fun _ _=>rfl)) (hres _ _ _),hvars _ (fun _ _=>rfl),rfl,?_,?_⟩,?_⟩
  ·intro b off hp
   have hin:MemPlace.cell b off∈before:=by rw [hps];simpa using hp
   rw [hb.frozen (hlt _ hin)]
   exact hz b off hin
  ·intro ha
   have:=hn ha
   rw [hps] at this
   simpa using this
  ·intro p hp _
   rw [hps]
   simpa using hp
theorem laid_out:laidOutB Tryz.prog=true:=by kernel_rfl
theorem maps_rowed:mapsRowed Tryz.prog=true:=by kernel_rfl
def sizedB (P:Program):Bool:=(List.range P.types.size).all fun t=>match P.underlying t with
 | some (.slice e)=>decide (0<P.cellsOf e)
 | _=>true
theorem sized_b:sizedB Tryz.prog=true:=by kernel_rfl
theorem sized {t e:TypeId}(ht:t<Tryz.prog.types.size) (hu:Tryz.prog.underlying t=some (.slice e)):0<Tryz.prog.cellsOf e:=by
 have:=List.all_eq_true.1 sized_b t (List.mem_range.2 ht)
 simpa [hu] using this
theorem stays {H:Type}{enc:TypeId×Value→H}{W W':World}{t:TypeId}{v:Value}{d:DataW H}{p:List MemPlace}(ht:t<Tryz.prog.types.size) (h:DataW.Trod enc Tryz.prog W 0 (fun _=>true) true t v d p)
  (he:Ext W W') (hp:∀q∈p,q.block<W.heap.size){sp:Nat→Bool}(hsp:∀q∈p,sp q.block=true):DataW.Trod enc Tryz.prog W' 0 sp true t v d p:=by
 obtain⟨n,hn⟩:=h
 exact⟨n,DataW.trod_stays (kids_rows laid_out maps_rowed) sized (fun h=>by cases h) ht hn (fun q hq=>he.below.same (hp q hq)) hsp⟩
theorem stays_all {H:Type}{enc:TypeId×Value→H}{W W':World}(he:Ext W W'){sp:Nat→Bool}:∀{ts:List TypeId}{vs:List Value}{ds:List (DataW H)}{p:List MemPlace},(∀t∈ts,t<Tryz.prog.types.size)→
  DataW.TrodAll enc Tryz.prog W 0 (fun _=>true) true ts vs ds p→(∀q∈p,q.block<W.heap.size)→(∀q∈p,sp q.block=true)→DataW.TrodAll enc Tryz.prog W' 0 sp true ts vs ds p:=by
 intro ts
 induction ts with
 | nil=>
  intro vs ds p _ h _ _
  obtain⟨rfl,rfl,rfl⟩:=trodAll_nil h
  exact trodAll_mk0
 | cons t ts ih=>
  intro vs ds p ht h hp hsp
  obtain⟨v,vs',d,ds',p1,p2,rfl,rfl,rfl,h1,h2⟩:=trodAll_cons h
  exact trodAll_cons_mk (stays (ht t (by simp)) h1 he (fun q hq=>hp q (by simp [hq])) (fun q hq=>hsp q (by simp [hq]))) (ih (fun t h=>ht t (by simp [h])) h2 (fun q hq=>hp q (by simp [hq])) (fun q hq=>hsp q (by simp [hq])))
end Go.Proofs.YtnpbbknemflpnaaGreat

namespace Go.Proofs.YtnpbbknemflpnaaGreat
open Go.RowKit
structure Zl (w:World) (A:Option Addr) (n cap:Nat) (zs:List Int) (ms:List Nat):Prop where
 len:zs.length=n
 mlen:ms.length=n
 le:n≤cap
 max:cap≤maxLen
 get:∀i,i<n→∃a s B c,A=some a∧w.cell? (a.add (i*2))=some (.bool s)∧w.cell? (a.add (i*2+1))=some (.slice B (ms.getD i 0) c)∧Zi w s B (ms.getD i 0) c (zs.getD i 0)
theorem Zl.ext {w w':World}{A:Option Addr}{n cap:Nat}{zs:List Int}{ms:List Nat}(h:Zl w A n cap zs ms) (e:Ext w w'):Zl w' A n cap zs ms:=
 ⟨h.len,h.mlen,h.le,h.max,fun i hi=>by
  obtain⟨a,s,B,c,h1,h2,h3,h4⟩:=h.get i hi
  exact⟨a,s,B,c,h1,e.cell h2,e.cell h3,h4.ext e⟩⟩
theorem getD_le_sum:∀(ms:List Nat) (i:Nat),ms.getD i 0≤ms.sum
 | [],i=>by simp
 | m::r,0=>by simp
 | m::r,i+1=>by
  have:=getD_le_sum r i
  simp only [List.getD_cons_succ,List.sum_cons]
  omega
end Go.Proofs.YtnpbbknemflpnaaGreat

namespace Go.Proofs.YtnpbbknemflpnaaGreat
open Go.ChangeShapes Go.WideShapes Go.ChangeAt Go.RowKit
theorem cells_int:Tryz.prog.cellsOf 41=2:=by kernel_rfl
theorem cells_words:Tryz.prog.cellsOf 39=1:=by kernel_rfl
theorem cells_bool:Tryz.prog.cellsOf 4=1:=by kernel_rfl
theorem fields_int:∃f0 f1:Field,Tryz.prog.underlying 41=some (.struct #[f0,f1])∧f0.type=4∧f0.offset=0∧f1.type=39∧f1.offset=1:=⟨_,_,Tryz.underlying41,rfl,rfl,rfl,rfl⟩
set_option maxRecDepth 20000 in
theorem open_wcell {H:Type}{enc:TypeId×Value→H}{W:World}{v:Value}{d:DataW H}{p:List MemPlace}{fuel:Nat}
  (hf:DataW.trod enc Tryz.prog W 0 (fun _=>true) true fuel 39 [v]=some (d,p)):
  ∃A n cap xs,v= .slice A n cap∧Rd W A n cap xs∧n≤Rows.uptoBulk d∧
   ∀W',Ext W W'→∀sp:Nat→Bool,(∀q∈p,sp q.block=true)→∃fuel',DataW.trod enc Tryz.prog W' 0 sp true fuel' 39 [v]=some (d,p):=by
 rcases open_ints Tryz.underlying39 Tryz.underlying45 cells_word hf with⟨hcs,hx⟩ | ⟨a,n',cap',zs,hcs,_,hl,hm,hz,hx,hcell,hwf⟩
 ·obtain rfl:=List.singleton_inj.1 hcs
  simp only [Prod.mk.injEq] at hx
  obtain⟨rfl,rfl⟩:=hx
  exact⟨none,0,0,[],rfl,Rd.nil W,Nat.zero_le _,fun W' _ sp _=>by obtain⟨fu,h⟩:=shut_slice_nil (enc:=enc) (w:=W') (base:=0) (spare:=sp) (held:=true) Tryz.underlying39;exact⟨fu,h⟩⟩
 ·obtain rfl:=List.singleton_inj.1 hcs
  simp only [Prod.mk.injEq] at hx
  obtain⟨rfl,rfl⟩:=hx
  simp only [if_true] at hz
  have hblk:0<cap'→a.block<W.heap.size:=fun hc=>World.block_lt_of_cell? W (a.add 0) (hcell 0 (by omega)) |> fun h=>by rwa [block_of_add] at h
  have hnn:∀z∈zs,((z.toNat:Nat):Int)=z:=fun z hz'=>Int.toNat_of_nonneg (wf_nat (hwf z hz')).1
  have hlen:(zs.take n').length=n':=by rw [List.length_take];omega
  refine⟨some a,n',cap',(zs.take n').map Int.toNat,rfl,⟨⟨by simp;omega,hl,hm,fun i hi=>⟨a,rfl,?_⟩,fun b hb hc=>by cases hb;exact hblk hc⟩,?_⟩,?_,?_⟩
  ·rw [hcell i (by omega)]
   have hi2:i<zs.length:=by omega
   have hmem:zs[i]∈zs:=List.getElem_mem hi2
   have e:(((zs.take n').map Int.toNat).map W64).getD i undef= .int .u64 ((zs[i].toNat:Nat):Int):=by
    simp [List.getD_eq_getElem?_getD,List.getElem?_map,show i<n' by omega,List.getElem?_eq_getElem hi2]
   rw [e,hnn _ hmem]
   simp [List.getD_eq_getElem?_getD,List.getElem?_eq_getElem hi2]
  ·intro x hx
   obtain⟨z,hz1,rfl⟩:=List.mem_map.1 hx
   have:=wf_nat (hwf z (List.mem_of_mem_take hz1))
   rw [WB_def];omega
  ·have:=bulk_slice (H:=H) (lits .u64 (zs.take n')) (lits .u64 (zs.drop n'))
   have e:(lits (H:=H) .u64 (zs.take n')).length=n':=by simp [lits];omega
   omega
  ·intro W' he sp hsp
   have hcell':∀i,i<zs.length→W'.cell? (a.add i)=some (.int .u64 (zs.getD i 0)):=fun i hi=>he.cell (hcell i hi)
   by_cases hz0:zs.length=0
   ·have hc0:cap'=0:=by omega
    have hl0:n'=0:=by omega
    subst hc0;subst hl0
    have t0:=shut_ints (enc:=enc) (w:=W') (base:=0) (spare:=sp) (held:=true) (a:=a) (len:=0) (cap:=0) (zs:=zs) 0 Tryz.underlying39 Tryz.underlying45 cells_word (Nat.zero_le _) (Nat.le_refl _) hm (by simp [hz0]) hcell' hwf
    exact⟨2,t0⟩
   ·have hspb:sp a.block=true:=hsp (.cell a.block a.off) (MemPlace.mem_row.2 ⟨0,by omega,by simp⟩)
    have t0:=shut_ints (enc:=enc) (w:=W') (base:=0) (spare:=sp) (held:=true) (a:=a) (len:=n') (cap:=cap') (zs:=zs) 0 Tryz.underlying39 Tryz.underlying45 cells_word (Nat.zero_le _) hl hm (by simp [hspb,hz]) hcell' hwf
    exact⟨2,t0⟩
set_option maxRecDepth 20000 in
theorem open_zcells {H:Type}{enc:TypeId×Value→H}{W:World}{c0 c1:Value}{x:DataW H×List MemPlace}{fuel:Nat}
  (h:DataW.trod enc Tryz.prog W 0 (fun _=>true) true fuel 41 [c0,c1]=some x):
  ∃s A n cap z,c0= .bool s∧c1= .slice A n cap∧Zi W s A n cap z∧n+1≤Rows.uptoBulk x.1∧
   ∀W',Ext W W'→∀sp:Nat→Bool,(∀q∈x.2,sp q.block=true)→∃fuel',DataW.trod enc Tryz.prog W' 0 sp true fuel' 41 [c0,c1]=some x:=by
 obtain⟨f0,f1,hu,t0,o0,t1,o1⟩:=fields_int
 obtain⟨y0,y1,n,rfl,hl,h0,h1⟩:=trod_struct2 hu h
 rw [t0,o0,cells_bool] at h0
 rw [t1,o1,cells_words] at h1
 have e0:(([c0,c1]:List Value).drop 0).take 1= [c0]:=rfl
 have e1:(([c0,c1]:List Value).drop 1).take 1= [c1]:=rfl
 rw [e0] at h0
 rw [e1] at h1
 obtain⟨s,hs,rfl⟩:=DataW.trod_bool Tryz.underlying4 h0
 obtain rfl:c0= .bool s:=by simpa using hs
 obtain⟨A,k,cap,xs,rfl,hx,hb,rx⟩:=open_wcell (d:=y1.1) (p:=y1.2) h1
 refine⟨s,A,k,cap,_,rfl,rfl,⟨xs,hx,rfl⟩,?_,?_⟩
 ·simp only [Rows.uptoBulk,Rows.uptoBulkAll];omega
 ·intro W' he sp hsp
  obtain⟨fu,hfu⟩:=rx W' he sp (fun q hq=>hsp q (by simp [hq]))
  refine⟨fu+1+1,trod_struct2_mk (y0:=(.lit (.bool s),[])) (y1:=y1) hu hl ?_ ?_⟩
  ·rw [t0,o0,cells_bool,e0]
   simp [DataW.trod,Tryz.underlying4]
  ·rw [t1,o1,cells_words,e1]
   exact DataW.trod_le (Nat.le_succ _) hfu
theorem sum_map_le {H:Type}(D:Nat→DataW H) (f:Nat→Nat) (n:Nat) (h:∀i,i<n→f i+1≤Rows.uptoBulk (D i)):((List.range n).map f).sum+n≤Rows.uptoBulkAll ((List.range n).map D):=by
 induction n with
 | zero=>simp [Rows.uptoBulkAll]
 | succ n ih=>
  have ih':=ih (fun i hi=>h i (by omega))
  have hn:=h n (by omega)
  rw [List.range_succ,List.map_append,List.map_append,List.sum_append,List.map_singleton,List.map_singleton]
  have e:∀(l:List (DataW H)) (x:DataW H),Rows.uptoBulkAll (l++ [x])=Rows.uptoBulkAll l+Rows.uptoBulk x:=by
   intro l x
   induction l with
   | nil=>simp [Rows.uptoBulkAll]
   | cons y r ihl=>simp only [List.cons_append,Rows.uptoBulkAll,ihl];omega
  rw [e]
  simp only [List.sum_singleton]
  omega
theorem elem_len {l:List Value}(h:l.length=2):∃a b,l= [a,b]:=by
 match l,h with
 | [a,b],_=>exact⟨a,b,rfl⟩
end Go.Proofs.YtnpbbknemflpnaaGreat

namespace Go.Proofs.YtnpbbknemflpnaaGreat
open Go.RowKit
theorem UpdO.of {w w':World}{A:Option Addr}(h:w.grownBy w' none):UpdO A w w':=⟨⟨h.os,h.tape,h.output,h.size,fun k hk _=>h.block k hk (by simp)⟩⟩
theorem Upd.updO {w w':World}{g:Nat}(h:Upd g w w'){o:Nat}{x:_}:UpdO (some ⟨g,o,x⟩) w w':=⟨h.by_⟩
theorem overl_take {cs us vs:List Value}{k:Nat}(hv:cs.take k=vs) (hk:k≤cs.length):(overl cs k us).take (k+us.length)=vs++us:=by
 unfold overl
 have e:(cs.take k++us).length=k+us.length:=by rw [List.length_append,List.length_take,Nat.min_eq_left hk]
 rw [←e,List.take_left',hv]
 rfl
def Kept (w:World) (A A':Option Addr):Prop:=∀a',A'=some a'→(∃a,A=some a∧a'.block=a.block)∨w.heap.size≤a'.block
section
variable {P:Program}
theorem run_app {t ty e:TypeId}{z:Value}{s bytes:Nat}(ht:P.underlying t=some (.slice e)) (hinfo:(P.info? e).map (fun i=>(i.zero,i.size,i.bytes))=some (some z,s,bytes)) (hzs:z.cells.size=s) (hsz:0<s) (hby:bytes≤64)
  {w:World}{base:Nat}{A:Option Addr}{n cap:Nat}{xs:List Value}(hown:Own w base e s A n cap xs) (hb:base≤w.heap.size){a:Addr}{m c:Nat}{news:List Value}(hl:news.length=m*s) (hnews:∀j u,news[j]?=some u→w.cell? (a.add j)=some u)
  (h1:news.all (·.oneCell')=true) (hm:n+m≤1099511627776):
  ∃A' cap' w',(Builtin.append_ #[t,t] ty #[.slice A n cap,.slice (some a) m c]).run P w= .ok (.slice A' (n+m) cap') w'∧Own w' base e s A' (n+m) cap' (xs++news)∧UpdO A w w'∧Kept w A A':=by
 obtain⟨i,hi,hz,hz1,hz2⟩:=info_parts hinfo
 have h1':∀u∈news,u.oneCell'=true:=by simpa [List.all_eq_true] using h1
 have h63:n+m≤maxLen:=by rw [len_maxLen];omega
 have hbytes:(n+m)*bytes≤140737488355328:=by
  have:(n+m)*bytes≤1099511627776*64:=Nat.mul_le_mul hm hby
  omega
 rcases hown with⟨rfl,rfl,rfl,rfl⟩ | ⟨g,cs,rfl,hg,hk,hn,hcm,hcl,hv⟩
 ·obtain⟨v',w',hr,h2,h3,_⟩:=run_append_own (P:=P) w w.heap.size t ty e i z s bytes ht hi hz hz1 hz2 hzs hsz (.slice none 0 0) 0 [] (World.ownsRow_nil w _ e s) a m c news hl hnews h1' h63 hbytes (Nat.le_refl _)
  obtain⟨A',cap',rfl,ho⟩:=Own.of_row h2
  exact⟨A',cap',w',hr,ho.mono hb,UpdO.of h3,fun a' ha=>Or.inr (ho.block a' ha).1⟩
 ·by_cases hroom:n+m≤cap
  ·have hfit:n*s+news.length≤cs.length:=by rw [hl,hcl,←Nat.add_mul];exact Nat.mul_le_mul_right s hroom
   obtain⟨w',hst,hb2,hu,hs⟩:=store_cells (P:=P) news 0 (n*s) w cs hk (by omega) h1'
   rw [Nat.add_zero] at hb2
   have hfc:=run_firstCells_some (P:=P) w i.size m a m c news (by rw [hz1];exact hl) hnews
   rw [hz1] at hfc
   refine⟨some ⟨g,0,none⟩,cap,w',?_,Or.inr ⟨g,_,rfl,hg,hb2,hroom,hcm,?_,?_⟩,hu.updO,fun a' ha=>Or.inl ⟨_,rfl,by cases ha;rfl⟩⟩
   ·simp [Builtin.append_,run_underlying ht,sizeOf,typeInfo,hi,Builtin.lenOf,hroom,hfc,Addr.add_lit,hz1,hst]
   ·unfold overl
    simp only [List.length_append,List.length_take,List.length_drop]
    omega
   ·rw [Nat.add_mul,←hl]
    exact overl_take hv (by omega)
  ·have hx:=hv
   obtain⟨v',w',hr,h2,h3⟩:=run_append_arg_grows (P:=P) w t ty e i z s bytes ht hi hz hz1 hz2 hzs hsz ⟨g,0,none⟩ n cap xs
    (by rw [←hv,List.length_take];have:=Nat.mul_le_mul_right s hn;omega)
    (fun j u hj=>by
     have hjl:=(List.getElem?_eq_some_iff.1 hj).1
     rw [add_lit0,Nat.zero_add,hk.cell (by rw [←hv,List.length_take] at hjl;omega)]
     rw [←hv,List.getElem?_take] at hj
     split at hj
     ·rw [List.getD_eq_getElem?_getD,hj];rfl
     ·cases hj) a m c news hl hnews (by omega) h63 hbytes
   obtain⟨A',cap',rfl,ho⟩:=Own.of_row h2
   exact⟨A',cap',w',hr,ho.mono hb,UpdO.of h3,fun a' ha=>Or.inr (ho.block a' ha).1⟩
variable {Q:Exit→Act→World→Prop}{n:Nat}{l:Fr}{w:World}{ops:Array Oper}{rest:List Oper}{d:Nat}{ty:TypeId}{pos:String}{af:Array Edge}{gd:Option (Nat×Bool)}
theorem wl_app {x y:Operand}{t e:TypeId}{z:Value}{s bytes k m c cap base:Nat}{A:Option Addr}{a:Addr}{xs:List Value}(hw:guardB ops l gd=some true) (hx:evo l x=some (.slice A k cap)) (hy:evo l y=some (.slice (some a) m c))
  (ht:P.underlying t=some (.slice e)) (hinfo:(P.info? e).map (fun i=>(i.zero,i.size,i.bytes))=some (some z,s,bytes)) (hzs:z.cells.size=s) (hsz:0<s) (hby:bytes≤64)
  (hown:Own w base e s A k cap xs) (hb:base≤w.heap.size) (news:List Value) (hl:news.length=m*s) (hnews:∀j u,news[j]?=some u→w.cell? (a.add j)=some u)
  (h1:news.all (·.oneCell')=true) (hm:k+m≤1099511627776) (hn:d<n)
  (h:∀A' cap' w',Own w' base e s A' (k+m) cap' (xs++news)→UpdO A w w'→Kept w A A'→wl P ops Q n rest ((d,.slice A' (k+m) cap')::l) w'):
  wl P ops Q n (⟨some d,.call {callee:= .builtin .append,args:= #[x,y],argTypes:= #[t,t]},ty,pos,af,gd⟩::rest) l w:=by
 obtain⟨A',cap',w',hr,h2,h3,h4⟩:=run_app (P:=P) (ty:=ty) ht hinfo hzs hsz hby hown hb hl hnews h1 hm
 refine wl_val hw hn (fun a' ha=>?_) (h A' cap' w' h2 h3 h4)
 unfold execOp
 simp only [resolve,invoke,builtin,Sem.run_bind,Sem.run_pure,Result.andThen_ok,List.map_toArray,List.map_cons,List.map_nil,ha.ev hx,ha.ev hy]
 rw [hr]
 rfl
end
theorem Own.updOT {w w':World}{b b':Nat}{t T:TypeId}{s s':Nat}{A B:Option Addr}{n cap m c:Nat}{vs us:List Value}(h:Own w b t s A n cap vs) (ho:Own w b' T s' B m c us) (hT:t≠T) (x:UpdO B w w'):Own w' b t s A n cap vs:=by
 refine h.updO x (fun p q hp hq hg=>?_)
 rcases ho with⟨h1,_⟩ | ⟨k,cs,hB,_,hk,_⟩
 ·rw [h1] at hp;cases hp
 ·rcases h with⟨h2,_⟩ | ⟨k',cs',hA,_,hk',_⟩
  ·rw [h2] at hq;cases hq
  ·rw [hB] at hp;rw [hA] at hq
   cases hp;cases hq
   simp only at hg
   subst hg
   unfold Bk at hk hk'
   rw [hk] at hk'
   injection hk' with hk'
   injection hk' with e1 e2
   exact hT e2.symm
theorem one_news3 {w:World}{g:Nat}{T:TypeId}(v:Value) (h:Bk w g T [v]):∀j u,[v][j]?=some u→w.cell? ((⟨g,0,none⟩:Addr).add j)=some u:=by
 intro j u hj
 have hjl:=(List.getElem?_eq_some_iff.1 hj).1
 rw [add_lit0,Nat.zero_add,h.cell hjl,List.getD_eq_getElem?_getD,hj];rfl
theorem ln_tdiv (x y:Int):ln (x.tdiv y)≤ln x:=ln_mono (by rw [Int.natAbs_tdiv];exact Nat.div_le_self _ _)
theorem ln_tmod (x y:Int):ln (x.tmod y)≤ln x:=ln_mono (by rw [Int.natAbs_tmod];exact Nat.mod_le _ _)
theorem ediv_pos {x y:Int}(h:0≤x.tmod y):x.tdiv y=x/y∧x.tmod y=x%y:=by
 have h1:=Int.tdiv_mul_add_tmod x y
 rcases Int.lt_trichotomy y 0 with hy | hy | hy
 ·have h2:x.tmod y< -y:=by have:=tmod_abs (x:=x) (y:=y) (by omega);omega
  have e:x.tmod y=x%y:=by
   have:x%y=(x.tmod y+y*x.tdiv y)%y:=by rw [Int.mul_comm y];congr 1;omega
   rw [this,Int.add_mul_emod_self_left,←Int.emod_neg,Int.emod_eq_of_lt h h2]
  refine⟨?_,e⟩
  have h3:=Int.mul_ediv_add_emod x y
  rw [←e] at h3
  refine Int.eq_of_mul_eq_mul_left (a:=y) (by omega) ?_
  rw [Int.mul_comm y (x.tdiv y)];omega
 ·subst hy;simp
 ·have h2:=Int.tmod_lt_of_pos x hy
  have e:x.tmod y=x%y:=by
   have:x%y=(x.tmod y+y*x.tdiv y)%y:=by rw [Int.mul_comm y];congr 1;omega
   rw [this,Int.add_mul_emod_self_left,Int.emod_eq_of_lt h h2]
  refine⟨?_,e⟩
  have h3:=Int.mul_ediv_add_emod x y
  rw [←e] at h3
  refine Int.eq_of_mul_eq_mul_left (a:=y) (by omega) ?_
  rw [Int.mul_comm y (x.tdiv y)];omega
theorem ediv_neg' {x y:Int}(h:x.tmod y<0) (hy:y<0):x.tdiv y+1=x/y∧x.tmod y-y=x%y:=by
 have h1:=Int.tdiv_mul_add_tmod x y
 have h2: -(x.tmod y)< -y:=by have:=tmod_abs (x:=x) (y:=y) (by omega);omega
 have e:x.tmod y-y=x%y:=by
  have:x%y=((x.tmod y-y)+y*(x.tdiv y+1))%y:=by rw [Int.mul_add,Int.mul_comm y];congr 1;omega
  rw [this,Int.add_mul_emod_self_left,←Int.emod_neg,Int.emod_eq_of_lt (by omega) (by omega)]
 refine⟨?_,e⟩
 have h3:=Int.mul_ediv_add_emod x y
 rw [←e] at h3
 refine Int.eq_of_mul_eq_mul_left (a:=y) (by omega) ?_
 rw [Int.mul_add,Int.mul_comm y (x.tdiv y)];omega
theorem ediv_pos' {x y:Int}(h:x.tmod y<0) (hy:0<y):x.tdiv y-1=x/y∧x.tmod y+y=x%y:=by
 have h1:=Int.tdiv_mul_add_tmod x y
 have h2: -(x.tmod y)<y:=by have:=tmod_abs (x:=x) (y:=y) (by omega);omega
 have e:x.tmod y+y=x%y:=by
  have:x%y=((x.tmod y+y)+y*(x.tdiv y-1))%y:=by rw [Int.mul_sub,Int.mul_comm y];congr 1;omega
  rw [this,Int.add_mul_emod_self_left,Int.emod_eq_of_lt (by omega) (by omega)]
 refine⟨?_,e⟩
 have h3:=Int.mul_ediv_add_emod x y
 rw [←e] at h3
 refine Int.eq_of_mul_eq_mul_left (a:=y) (by omega) ?_
 rw [Int.mul_sub,Int.mul_comm y (x.tdiv y)];omega
set_option maxHeartbeats 4000000 in
theorem g_zint_EuclidI {w:World}{sa:Bool}{Aa:Option Addr}{na ca:Nat}{x:Int}{sb:Bool}{Ab:Option Addr}{nb cb:Nat}{y:Int}(hx:Zi w sa Aa na ca x) (la:na≤68719476736) (hy:Zi w sb Ab nb cb y) (lb:nb≤68719476736) (h0:y≠0):
    Calls Tryz.prog 119 #[.agg #[.bool sa,.slice Aa na ca],.agg #[.bool sb,.slice Ab nb cb]] w (Gv w (T3 (ZR w.heap.size (x/y)) (ZR w.heap.size (x%y)) (Is (.int .i64 0)))):=by
 have Lx:ln x≤68719476736:=Nat.le_trans hx.ln la
 have Ly:ln y≤68719476736:=Nat.le_trans hy.ln lb
 refine sx_enter Tryz.func119 rfl (n:=41) rfl (bq rfl) (args:= [.agg #[.bool sa,.slice Aa na ca],.agg #[.bool sb,.slice Ab nb cb]]) (cw_keep [(0,.agg #[.bool sa,.slice Aa na ca]),(1,.agg #[.bool sb,.slice Ab nb cb])] ⟨rfl,rfl,trivial⟩ (sr (bx [.bool sa,.slice Aa na ca] (Ext.refl w) rfl rfl rfl fun g1 v2 hb4 ge5 e3 hw1=>(bxq [.bool sb,.slice Ab nb cb] hw1 hb4.lt rfl rfl rfl fun g6 v7 hb9 ge10 q11 e8 hw2=>(alq [F0,S0] hw2 hb9.lt (fun _=>by kernel_rfl) rfl fun g12 v13 hb15 ge16 q17 e14 hw3=>(alq [F0,S0] hw3 hb15.lt (fun _=>by kernel_rfl) rfl fun g18 v19 hb21 ge22 q23 e20 hw4=>(mv 1 rfl (ne_ (sr (lo aggInt (hb4.ext (e8.trans (e14.trans e20))) [.bool sa,.slice Aa na ca] rfl rfl rfl (lo aggInt (hb9.ext (e14.trans e20)) [.bool sb,.slice Ab nb cb] rfl rfl rfl ?_)))))))))))
 have L24:ln ((x).tdiv y)≤68719476736:=Nat.le_trans (ln_tdiv _ _) Lx
 have L25:ln ((x).tmod y)≤68719476736:=Nat.le_trans (ln_tmod _ _) Lx
 refine cl (vs:= [.agg #[.bool sa,.slice Aa na ca],.agg #[.bool sb,.slice Ab nb cb]]) hw4 (g_zint_Trunc hw4.size (hx.ext hw4) (lx_ la rfl) (hy.ext hw4) (lx_ lb rfl) h0) rfl (by kernel_rfl) fun xr28 v26 r28 e27 hw5=>?_
 obtain⟨_,_,_,rfl,⟨s30,A30,n30,c30,rfl,z30⟩,⟨s31,A31,n31,c31,rfl,z31⟩,rfl⟩:=r28
 refine mv 1 rfl (pu (v:= .agg #[.bool s30,.slice A30 n30 c30]) rfl (by kernel_rfl) (pu (v:= .agg #[.bool s31,.slice A31 n31 c31]) rfl (by kernel_rfl) (pu (v:= .int .i64 0) rfl (by kernel_rfl) (alq [F0,S0] hw5 (hb21.ext e27).lt (fun _=>by kernel_rfl) rfl fun g32 v33 hb35 ge36 q37 e34 hw6=>(alq [F0,S0] hw6 hb35.lt (fun _=>by kernel_rfl) rfl fun g38 v39 hb41 ge42 q43 e40 hw7=>?_)))))
 have hb45:=(hb35.ext e40)
 refine so aggInt hb45 [.bool s30,.slice A30 n30 c30] hw7 ge36 rfl rfl rfl rfl fun v44 hb46 u47 hw8=>?_
 have hb50:=(hb41.updN u47 (by omega))
 refine so aggInt hb50 [.bool s31,.slice A31 n31 c31] hw8 ge42 rfl rfl rfl rfl fun v49 hb51 u52 hw9=>(mv 1 rfl (ne_ (cw_seq (cw_seq ?_))))
 by_cases hr:x.tmod y<0
 · 
  obtain rfl:s31=true:=by rw [z31.sgn];exact decide_eq_true hr
  refine cw_region (mv 1 rfl (pu (v:= .bool false) rfl (by kernel_rfl) (mv 1 rfl (pf g38 0 rfl (by kernel_rfl) (wl_load rfl rfl (load_cell cellBool hb51 rfl) (by decide) (pu (v:= .bool false) rfl (by kernel_rfl) (pu (v:= .bool false) rfl (by kernel_rfl) (ne_ (cw_false rfl (cw_skip (eo_then (cw_seq (cw_seq ?_)))))))))))))
  by_cases hyn:y<0
  · 
   obtain rfl:sb=true:=by rw [hy.sgn h0];exact decide_eq_true hyn
   have hq:=ediv_neg' hr hyn
   refine cw_region (pf g6 0 rfl (by kernel_rfl) (wl_load rfl rfl (load_cell cellBool (((hb9.ext (e14.trans (e20.trans (e27.trans (e34.trans e40))))).updN u47 (by omega)).updN u52 (by omega)) rfl) (by decide) (ne_ (cw_true rfl (cw_seq ?_)))))
   have L55:ln ((x.tdiv y)+1)≤68719476737:=Nat.le_trans (ln_add L24 (show ln (1)≤1 by decide+kernel)) (by decide)
   have L57:ln ((x.tmod y)-y)≤68719476737:=Nat.le_trans (ln_sub L25 Ly) (by decide)
   refine cw_draw mix 6 [] [Is (.agg #[.bool s30,.slice A30 n30 c30]),ZR w.heap.size (1),ZR w.heap.size ((x.tdiv y)+1),Is (.agg #[.bool true,.slice A31 n31 c31]),Is (.agg #[.bool true,.slice Ab nb cb]),ZR w.heap.size ((x.tmod y)-y)] [[],[],[0,1],[],[],[3,4]] [[],[],[0,1],[],[],[0,1,2,3,4],[0,1,2,3,4,5],[0,1,2,3,4,5,6],[0,1,2,3,4,5,6,7]] rfl
    (obs_cons rfl rfl (hob rfl rfl ?_) (obs_cons rfl rfl (hob rfl rfl ?_) (obs_cons rfl rfl (hob rfl rfl ?_) (obs_cons rfl rfl (hob rfl rfl ?_) (obs_cons rfl rfl (hob rfl rfl ?_) (obs_cons rfl rfl (hob rfl rfl ?_) obs_nil)))))) ?_
   · 
    exact fun _ e60=>deps_nil (lo aggInt ((hb46.updN u52 (by omega)).ext e60) [.bool s30,.slice A30 n30 c30] rfl rfl rfl (pi_done rfl (Ext.refl _) rfl))
   · 
    intro v61 e62
    have hw10:=hw9.trans e62
    refine deps_nil (cl (vs:= [.int .i64 1]) hw10 (g_zint_Of hw10.size (by decide) (by decide)) rfl (by kernel_rfl) fun xr65 v63 r65 e64 hw11=>?_)
    obtain⟨s66,A66,n66,c66,rfl,z66⟩:=r65
    exact pi_done rfl e64 ⟨_,_,_,_,rfl,z66⟩
   · 
    intro v67 e68
    have hw10:=hw9.trans e68
    refine dk rfl rfl (deps_cons rfl rfl fun x74 y75 h76 e77 f78=>?_)
    obtain⟨s79,A79,n79,c79,rfl,z79⟩:=h76
    have z79:=z79.ext f78
    refine deps_nil ?_
    have L80:ln ((x.tdiv y)+1)≤68719476737:=Nat.le_trans (ln_add L24 (show ln (1)≤1 by decide+kernel)) (by decide)
    refine cl (vs:= [.agg #[.bool s30,.slice A30 n30 c30],.agg #[.bool s79,.slice A79 n79 c79]]) hw10 (g_zint_Add hw10.size ((((z30.ext (e34.trans e40)).updT hb45 u47).updT hb50 u52).ext e68).zi (z30.le (lx_ L24 rfl)) z79.zi (z79.le (Nat.le_trans (show ln (1)≤1 by decide+kernel) (by decide)))) rfl (by kernel_rfl) fun xr83 v81 r83 e82 hw11=>?_
    obtain⟨s84,A84,n84,c84,rfl,z84⟩:=r83
    exact pi_done rfl e82 ⟨_,_,_,_,rfl,z84⟩
   · 
    exact fun _ e86=>deps_nil (lo aggInt (hb51.ext e86) [.bool true,.slice A31 n31 c31] rfl rfl rfl (pi_done rfl (Ext.refl _) rfl))
   · 
    exact fun _ e88=>deps_nil (lo aggInt ((((hb9.ext (e14.trans (e20.trans (e27.trans (e34.trans e40))))).updN u47 (by omega)).updN u52 (by omega)).ext e88) [.bool true,.slice Ab nb cb] rfl rfl rfl (pi_done rfl (Ext.refl _) rfl))
   · 
    intro v89 e90
    have hw10:=hw9.trans e90
    refine dk rfl rfl (dk rfl rfl (deps_nil ?_))
    have L101:ln ((x.tmod y)-y)≤68719476737:=Nat.le_trans (ln_sub L25 Ly) (by decide)
    refine cl (vs:= [.agg #[.bool true,.slice A31 n31 c31],.agg #[.bool true,.slice Ab nb cb]]) hw10 (g_zint_Sub hw10.size ((((z31.ext (e34.trans e40)).updT hb45 u47).updT hb50 u52).ext e90).zi (z31.le (lx_ L25 rfl)) (hy.ext hw10) (lx_ lb rfl)) rfl (by kernel_rfl) fun xr104 v102 r104 e103 hw11=>?_
    obtain⟨s105,A105,n105,c105,rfl,z105⟩:=r104
    exact pi_done rfl e103 ⟨_,_,_,_,rfl,z105⟩
   · 
    intro v106 e107
    have hw10:=hw9.trans e107
    refine dk rfl rfl (deps_cons rfl rfl fun x113 y114 h115 e116 f117=>?_)
    obtain⟨s118,A118,n118,c118,rfl,z118⟩:=h115
    have z118:=z118.ext f117
    refine deps_cons rfl rfl fun x119 y120 h121 e122 f123=>?_
    obtain⟨s124,A124,n124,c124,rfl,z124⟩:=h121
    have z124:=z124.ext f123
    refine dk rfl rfl (dk rfl rfl (deps_cons rfl rfl fun x135 y136 h137 e138 f139=>?_))
    obtain⟨s140,A140,n140,c140,rfl,z140⟩:=h137
    have z140:=z140.ext f139
    refine deps_nil ?_
    have hb142:=((((hb15.ext (e20.trans (e27.trans (e34.trans e40)))).updN u47 (by omega)).updN u52 (by omega)).ext e107)
    refine so aggInt hb142 [.bool s124,.slice A124 n124 c124] hw10 ge16 rfl rfl rfl rfl fun v141 hb143 u144 hw11=>?_
    have hb147:=(((((hb21.ext (e27.trans (e34.trans e40))).updN u47 (by omega)).updN u52 (by omega)).ext e107).updN u144 (by omega))
    refine so aggInt hb147 [.bool s140,.slice A140 n140 c140] hw11 ge22 rfl rfl rfl rfl fun v146 hb148 u149 hw12=>(mv 1 rfl (wl_nil (eo_np (eo_then (cw_ret (eo_thenR (eo_ret [.agg #[.bool s124,.slice A124 n124 c124],.agg #[.bool s140,.slice A140 n140 c140],I0] rfl ⟨⟨_,rfl,load_agg aggInt (hb143.updN u149 (by omega)) [.bool s124,.slice A124 n124 c124] rfl (bq rfl) rfl⟩,⟨_,rfl,load_agg aggInt hb148 [.bool s140,.slice A140 n140 c140] rfl (bq rfl) rfl⟩,rfl,trivial⟩ ?_)))))))
    exact⟨_,rfl,⟨_,_,_,rfl,⟨_,_,_,_,rfl,(((z124.updT hb142 u144).updT hb147 u149)).cast (hq.1)⟩,⟨_,_,_,_,rfl,(((z140.updT hb142 u144).updT hb147 u149)).cast (hq.2)⟩,rfl⟩,hw12⟩
  · 
   obtain rfl:sb=false:=by rw [hy.sgn h0];exact decide_eq_false hyn
   have hq:=ediv_pos' hr (by omega)
   refine cw_region (pf g6 0 rfl (by kernel_rfl) (wl_load rfl rfl (load_cell cellBool (((hb9.ext (e14.trans (e20.trans (e27.trans (e34.trans e40))))).updN u47 (by omega)).updN u52 (by omega)) rfl) (by decide) (ne_ (cw_false rfl (cw_skip (eo_then (cw_seq ?_)))))))
   have L152:ln ((x.tdiv y)-1)≤68719476737:=Nat.le_trans (ln_sub L24 (show ln (1)≤1 by decide+kernel)) (by decide)
   have L154:ln ((x.tmod y)+y)≤68719476737:=Nat.le_trans (ln_add L25 Ly) (by decide)
   refine cw_draw mix 6 [] [Is (.agg #[.bool s30,.slice A30 n30 c30]),ZR w.heap.size (1),ZR w.heap.size ((x.tdiv y)-1),Is (.agg #[.bool true,.slice A31 n31 c31]),Is (.agg #[F0,.slice Ab nb cb]),ZR w.heap.size ((x.tmod y)+y)] [[],[],[0,1],[],[],[3,4]] [[],[],[0,1],[],[],[0,1,2,3,4],[0,1,2,3,4,5],[0,1,2,3,4,5,6],[0,1,2,3,4,5,6,7]] rfl
    (obs_cons rfl rfl (hob rfl rfl ?_) (obs_cons rfl rfl (hob rfl rfl ?_) (obs_cons rfl rfl (hob rfl rfl ?_) (obs_cons rfl rfl (hob rfl rfl ?_) (obs_cons rfl rfl (hob rfl rfl ?_) (obs_cons rfl rfl (hob rfl rfl ?_) obs_nil)))))) ?_
   · 
    exact fun _ e157=>deps_nil (lo aggInt ((hb46.updN u52 (by omega)).ext e157) [.bool s30,.slice A30 n30 c30] rfl rfl rfl (pi_done rfl (Ext.refl _) rfl))
   · 
    intro v158 e159
    have hw10:=hw9.trans e159
    refine deps_nil (cl (vs:= [.int .i64 1]) hw10 (g_zint_Of hw10.size (by decide) (by decide)) rfl (by kernel_rfl) fun xr162 v160 r162 e161 hw11=>?_)
    obtain⟨s163,A163,n163,c163,rfl,z163⟩:=r162
    exact pi_done rfl e161 ⟨_,_,_,_,rfl,z163⟩
   · 
    intro v164 e165
    have hw10:=hw9.trans e165
    refine dk rfl rfl (deps_cons rfl rfl fun x171 y172 h173 e174 f175=>?_)
    obtain⟨s176,A176,n176,c176,rfl,z176⟩:=h173
    have z176:=z176.ext f175
    refine deps_nil ?_
    have L177:ln ((x.tdiv y)-1)≤68719476737:=Nat.le_trans (ln_sub L24 (show ln (1)≤1 by decide+kernel)) (by decide)
    refine cl (vs:= [.agg #[.bool s30,.slice A30 n30 c30],.agg #[.bool s176,.slice A176 n176 c176]]) hw10 (g_zint_Sub hw10.size ((((z30.ext (e34.trans e40)).updT hb45 u47).updT hb50 u52).ext e165).zi (z30.le (lx_ L24 rfl)) z176.zi (z176.le (Nat.le_trans (show ln (1)≤1 by decide+kernel) (by decide)))) rfl (by kernel_rfl) fun xr180 v178 r180 e179 hw11=>?_
    obtain⟨s181,A181,n181,c181,rfl,z181⟩:=r180
    exact pi_done rfl e179 ⟨_,_,_,_,rfl,z181⟩
   · 
    exact fun _ e183=>deps_nil (lo aggInt (hb51.ext e183) [.bool true,.slice A31 n31 c31] rfl rfl rfl (pi_done rfl (Ext.refl _) rfl))
   · 
    exact fun _ e185=>deps_nil (lo aggInt ((((hb9.ext (e14.trans (e20.trans (e27.trans (e34.trans e40))))).updN u47 (by omega)).updN u52 (by omega)).ext e185) [F0,.slice Ab nb cb] rfl rfl rfl (pi_done rfl (Ext.refl _) rfl))
   · 
    intro v186 e187
    have hw10:=hw9.trans e187
    refine dk rfl rfl (dk rfl rfl (deps_nil ?_))
    have L198:ln ((x.tmod y)+y)≤68719476737:=Nat.le_trans (ln_add L25 Ly) (by decide)
    refine cl (vs:= [.agg #[.bool true,.slice A31 n31 c31],.agg #[F0,.slice Ab nb cb]]) hw10 (g_zint_Add hw10.size ((((z31.ext (e34.trans e40)).updT hb45 u47).updT hb50 u52).ext e187).zi (z31.le (lx_ L25 rfl)) (hy.ext hw10) (lx_ lb rfl)) rfl (by kernel_rfl) fun xr201 v199 r201 e200 hw11=>?_
    obtain⟨s202,A202,n202,c202,rfl,z202⟩:=r201
    exact pi_done rfl e200 ⟨_,_,_,_,rfl,z202⟩
   · 
    intro v203 e204
    have hw10:=hw9.trans e204
    refine dk rfl rfl (deps_cons rfl rfl fun x210 y211 h212 e213 f214=>?_)
    obtain⟨s215,A215,n215,c215,rfl,z215⟩:=h212
    have z215:=z215.ext f214
    refine deps_cons rfl rfl fun x216 y217 h218 e219 f220=>?_
    obtain⟨s221,A221,n221,c221,rfl,z221⟩:=h218
    have z221:=z221.ext f220
    refine dk rfl rfl (dk rfl rfl (deps_cons rfl rfl fun x232 y233 h234 e235 f236=>?_))
    obtain⟨s237,A237,n237,c237,rfl,z237⟩:=h234
    have z237:=z237.ext f236
    refine deps_nil ?_
    have hb239:=((((hb15.ext (e20.trans (e27.trans (e34.trans e40)))).updN u47 (by omega)).updN u52 (by omega)).ext e204)
    refine so aggInt hb239 [.bool s221,.slice A221 n221 c221] hw10 ge16 rfl rfl rfl rfl fun v238 hb240 u241 hw11=>?_
    have hb244:=(((((hb21.ext (e27.trans (e34.trans e40))).updN u47 (by omega)).updN u52 (by omega)).ext e204).updN u241 (by omega))
    refine so aggInt hb244 [.bool s237,.slice A237 n237 c237] hw11 ge22 rfl rfl rfl rfl fun v243 hb245 u246 hw12=>(mv 1 rfl (wl_nil (eo_np (eo_then (cw_ret (eo_ret [.agg #[.bool s221,.slice A221 n221 c221],.agg #[.bool s237,.slice A237 n237 c237],I0] rfl ⟨⟨_,rfl,load_agg aggInt (hb240.updN u246 (by omega)) [.bool s221,.slice A221 n221 c221] rfl (bq rfl) rfl⟩,⟨_,rfl,load_agg aggInt hb245 [.bool s237,.slice A237 n237 c237] rfl (bq rfl) rfl⟩,rfl,trivial⟩ ?_))))))
    exact⟨_,rfl,⟨_,_,_,rfl,⟨_,_,_,_,rfl,(((z221.updT hb239 u241).updT hb244 u246)).cast (hq.1)⟩,⟨_,_,_,_,rfl,(((z237.updT hb239 u241).updT hb244 u246)).cast (hq.2)⟩,rfl⟩,hw12⟩
 · 
  obtain rfl:s31=false:=by rw [z31.sgn];exact decide_eq_false hr
  refine cw_region (mv 1 rfl (pu (v:= .bool false) rfl (by kernel_rfl) (mv 1 rfl (pf g38 0 rfl (by kernel_rfl) (wl_load rfl rfl (load_cell cellBool hb51 rfl) (by decide) (pu (v:= .bool true) rfl (by kernel_rfl) (pu (v:= .bool true) rfl (by kernel_rfl) (ne_ (cw_true rfl (cw_seq (cw_keep [(0,.agg #[.bool sa,.slice Aa na ca]),(1,.agg #[.bool sb,.slice Ab nb cb]),(2,.pointer (some ⟨g1,0,none⟩)),(3,.pointer (some ⟨g6,0,none⟩)),(4,.pointer (some ⟨g12,0,none⟩)),(5,.pointer (some ⟨g18,0,none⟩)),(11,.agg #[.bool sa,.slice Aa na ca]),(12,.agg #[.bool sb,.slice Ab nb cb]),(13,.tuple #[.agg #[.bool s30,.slice A30 n30 c30],.agg #[F0,.slice A31 n31 c31],I0]),(10,.tuple #[.agg #[.bool s30,.slice A30 n30 c30],.agg #[F0,.slice A31 n31 c31],I0]),(14,.agg #[.bool s30,.slice A30 n30 c30]),(15,.agg #[F0,.slice A31 n31 c31]),(16,.int .i64 0),(7,.pointer (some ⟨g32,0,none⟩)),(8,.pointer (some ⟨g38,0,none⟩)),(9,.int .i64 0),(17,.int .i64 0),(18,.bool false),(19,.bool false),(20,.pointer (some ⟨g38,0,none⟩)),(21,.bool false),(22,.bool true),(23,.bool true)] ⟨rfl,rfl,rfl,rfl,rfl,rfl,rfl,rfl,rfl,rfl,rfl,rfl,rfl,rfl,rfl,rfl,rfl,rfl,rfl,rfl,rfl,rfl,rfl,trivial⟩ ?_)))))))))))
  obtain⟨v248,hv,e249⟩:∃v,v=v49.drew∧Ext v49 v:=⟨_,rfl,(Ext.refl _).drew⟩
  have hw10:=hw9.trans e249
  have hb251:=((((hb15.ext (e20.trans (e27.trans (e34.trans e40)))).updN u47 (by omega)).updN u52 (by omega)).ext e249)
  obtain⟨v250,hr255,hb252,u253,hs254⟩:=run_stored (P:=Tryz.prog) (us:= [.bool s30,.slice A30 n30 c30]) (off:=0) aggInt rfl hb251 (bq rfl) rfl [.bool s30,.slice A30 n30 c30] rfl
  have hw11:=u253.ext hw10 ge16
  have hb257:=(((((hb21.ext (e27.trans (e34.trans e40))).updN u47 (by omega)).updN u52 (by omega)).ext e249).updN u253 (by omega))
  obtain⟨v256,hr261,hb258,u259,hs260⟩:=run_stored (P:=Tryz.prog) (us:= [F0,.slice A31 n31 c31]) (off:=0) aggInt rfl hb257 (bq rfl) rfl [F0,.slice A31 n31 c31] rfl
  have hw12:=u259.ext hw11 ge22
  refine cw_det mix (w:=v248) [.agg #[.bool s30,.slice A30 n30 c30],.agg #[F0,.slice A31 n31 c31],I0,undef,undef,I0] [v248,v250,v256] [3,4] [[],[],[],[0],[1],[2]] [[],[],[],[0],[0,1,3],[0,1,2,3,4]] [(0,0),(1,0),(1,1),(2,0),(2,1),(2,2),(3,0),(4,1),(5,2)] rfl hv ?_ ?_
  · 
   refine dobs_val _ rfl rfl rfl rfl rfl (rd_load rfl (load_agg aggInt ((hb46.updN u52 (by omega)).ext e249) [.bool s30,.slice A30 n30 c30] rfl (bq rfl) rfl)) (dobs_val _ rfl rfl rfl rfl rfl (rd_load rfl (load_agg aggInt (hb51.ext e249) [F0,.slice A31 n31 c31] rfl (bq rfl) rfl)) (dobs_val _ rfl rfl rfl rfl rfl (rd_load rfl (load_agg aggInt ((hb51.ext e249).updN u253 (by omega)) [F0,.slice A31 n31 c31] rfl (bq rfl) rfl)) (dobs_val _ rfl rfl rfl rfl rfl (rd_move rfl) (dobs_val _ rfl rfl rfl rfl rfl (rd_move rfl) (dobs_val _ rfl rfl rfl rfl rfl (rd_move rfl) (dobs_sto _ rfl rfl rfl rfl rfl (rd_store rfl rfl hr255) (dobs_sto _ rfl rfl rfl rfl rfl (rd_store rfl rfl hr261) (dobs_val _ rfl rfl rfl rfl rfl (rd_assign rfl) ?_))))))))
   exact dobs_nil
  clear hv
  refine eo_keep [(0,.agg #[.bool sa,.slice Aa na ca]),(1,.agg #[.bool sb,.slice Ab nb cb]),(2,.pointer (some ⟨g1,0,none⟩)),(3,.pointer (some ⟨g6,0,none⟩)),(4,.pointer (some ⟨g12,0,none⟩)),(5,.pointer (some ⟨g18,0,none⟩)),(11,.agg #[.bool sa,.slice Aa na ca]),(12,.agg #[.bool sb,.slice Ab nb cb]),(13,.tuple #[.agg #[.bool s30,.slice A30 n30 c30],.agg #[F0,.slice A31 n31 c31],I0]),(10,.tuple #[.agg #[.bool s30,.slice A30 n30 c30],.agg #[F0,.slice A31 n31 c31],I0]),(14,.agg #[.bool s30,.slice A30 n30 c30]),(15,.agg #[F0,.slice A31 n31 c31]),(16,.int .i64 0),(7,.pointer (some ⟨g32,0,none⟩)),(8,.pointer (some ⟨g38,0,none⟩)),(9,.int .i64 0),(17,.int .i64 0),(18,.bool false),(19,.bool false),(20,.pointer (some ⟨g38,0,none⟩)),(21,.bool false),(22,.bool true),(23,.bool true),(24,.agg #[.bool s30,.slice A30 n30 c30]),(25,.agg #[F0,.slice A31 n31 c31]),(26,.int .i64 0),(6,.int .i64 0)] ⟨rfl,rfl,rfl,rfl,rfl,rfl,rfl,rfl,rfl,rfl,rfl,rfl,rfl,rfl,rfl,rfl,rfl,rfl,rfl,rfl,rfl,rfl,rfl,rfl,rfl,rfl,rfl,trivial⟩ (eo_then (cw_ret (eo_thenR (eo_ret [.agg #[.bool s30,.slice A30 n30 c30],.agg #[F0,.slice A31 n31 c31],I0] rfl ⟨⟨_,rfl,load_agg aggInt (hb252.updN u259 (by omega)) [.bool s30,.slice A30 n30 c30] rfl (bq rfl) rfl⟩,⟨_,rfl,load_agg aggInt hb258 [F0,.slice A31 n31 c31] rfl (bq rfl) rfl⟩,rfl,trivial⟩ ?_))))
  exact⟨_,rfl,⟨_,_,_,rfl,⟨_,_,_,_,rfl,(((((((z30.ext (e34.trans e40)).updT hb45 u47).updT hb50 u52).ext e249).updT hb251 u253).updT hb257 u259)).cast ((ediv_pos (by omega)).1)⟩,⟨_,_,_,_,rfl,(((((((z31.ext (e34.trans e40)).updT hb45 u47).updT hb50 u52).ext e249).updT hb251 u253).updT hb257 u259)).cast ((ediv_pos (by omega)).2)⟩,rfl⟩,hw12⟩
theorem g_zint_Euclid {w:World}{sa:Bool}{Aa:Option Addr}{na ca:Nat}{x:Int}{sb:Bool}{Ab:Option Addr}{nb cb:Nat}{y:Int}{b:Nat}(hb:b≤w.heap.size) (hx:Zi w sa Aa na ca x) (la:na≤68719476736) (hy:Zi w sb Ab nb cb y) (lb:nb≤68719476736) (h0:y≠0):
  Calls Tryz.prog 119 #[.agg #[.bool sa,.slice Aa na ca],.agg #[.bool sb,.slice Ab nb cb]] w (Gv w (T3 (ZR b (x/y)) (ZR b (x%y)) (Is (.int .i64 0)))):=(g_zint_EuclidI hx la hy lb h0).mono (Gv.imp (T3.imp (ZR.imp hb) (ZR.imp hb) Is.imp))
theorem Zi.sg_ {w:World}{s:Bool}{A:Option Addr}{n c:Nat}{z:Int}(h:Zi w s A n c z):sg s z.natAbs=z:=by
 obtain⟨xs,h1,rfl⟩:=h
 rw [sg_abs]
theorem ln_ediv (x y:Int):ln (x/y)≤ln x+1:=by
 by_cases h:x.tmod y<0
 ·rcases Int.lt_trichotomy y 0 with hy | hy | hy
  ·rw [←(ediv_neg' h hy).1]
   exact Nat.le_trans (ln_add (ln_tdiv x y) (Nat.le_refl _)) (by
    have h1:x≠0:=fun e=>by subst e;simp at h
    have h2:ln 1=1:=ln_one
    have h3:0<ln x:=by
     refine Nat.pos_of_ne_zero fun e=>h1 ?_
     have:=len_wd_zero.1 (show (wd x.natAbs).length=0 from e)
     omega
    omega)
  ·subst hy;simp [ln_zero]
  ·rw [←(ediv_pos' h hy).1]
   exact Nat.le_trans (ln_sub (ln_tdiv x y) (Nat.le_refl _)) (by
    have h1:x≠0:=fun e=>by subst e;simp at h
    have h2:ln 1=1:=ln_one
    have h3:0<ln x:=by
     refine Nat.pos_of_ne_zero fun e=>h1 ?_
     have:=len_wd_zero.1 (show (wd x.natAbs).length=0 from e)
     omega
    omega)
 ·rw [←(ediv_pos (by omega)).1]
  exact Nat.le_trans (ln_tdiv x y) (Nat.le_succ _)
theorem ln_emod {x y:Int}(h:y≠0):ln (x%y)≤ln y:=by
 refine ln_mono ?_
 have h1:=Int.emod_nonneg x h
 have h2:=Int.emod_lt x h
 omega
set_option maxHeartbeats 4000000 in
theorem g_zint_ModI {w:World}{sa:Bool}{Aa:Option Addr}{na ca:Nat}{x:Int}{sb:Bool}{Ab:Option Addr}{nb cb:Nat}{y:Int}(hx:Zi w sa Aa na ca x) (la:na≤68719476736) (hy:Zi w sb Ab nb cb y) (lb:nb≤68719476736) (h0:y≠0):
    Calls Tryz.prog 118 #[.agg #[.bool sa,.slice Aa na ca],.agg #[.bool sb,.slice Ab nb cb]] w (Gv w (T2 (ZR w.heap.size (x%y)) (Is (.int .i64 0)))):=by
 have Lx:ln x≤68719476736:=Nat.le_trans hx.ln la
 have Ly:ln y≤68719476736:=Nat.le_trans hy.ln lb
 refine sx_enter Tryz.func118 rfl (n:=18) rfl (bq rfl) (args:= [.agg #[.bool sa,.slice Aa na ca],.agg #[.bool sb,.slice Ab nb cb]]) (cw_keep [(0,.agg #[.bool sa,.slice Aa na ca]),(1,.agg #[.bool sb,.slice Ab nb cb])] ⟨rfl,rfl,trivial⟩ (sr (bx [.bool sa,.slice Aa na ca] (Ext.refl w) rfl rfl rfl fun g1 v2 hb4 ge5 e3 hw1=>(bxq [.bool sb,.slice Ab nb cb] hw1 hb4.lt rfl rfl rfl fun g6 v7 hb9 ge10 q11 e8 hw2=>(alq [F0,S0] hw2 hb9.lt (fun _=>by kernel_rfl) rfl fun g12 v13 hb15 ge16 q17 e14 hw3=>(mv 1 rfl (ne_ (sr (lo aggInt (hb4.ext (e8.trans e14)) [.bool sa,.slice Aa na ca] rfl rfl rfl (lo aggInt (hb9.ext e14) [.bool sb,.slice Ab nb cb] rfl rfl rfl ?_))))))))))
 have L18:ln (x/y)≤68719476737:=Nat.le_trans (ln_ediv _ _) (Nat.succ_le_succ Lx)
 have L19:ln (x%y)≤68719476736:=Nat.le_trans (ln_emod h0) Ly
 refine cl (vs:= [.agg #[.bool sa,.slice Aa na ca],.agg #[.bool sb,.slice Ab nb cb]]) hw3 (g_zint_Euclid hw3.size (hx.ext hw3) (lx_ la rfl) (hy.ext hw3) (lx_ lb rfl) h0) rfl (by kernel_rfl) fun xr22 v20 r22 e21 hw4=>?_
 obtain⟨_,_,_,rfl,⟨s24,A24,n24,c24,rfl,z24⟩,⟨s25,A25,n25,c25,rfl,z25⟩,rfl⟩:=r22
 refine mv 1 rfl (pu (v:= .agg #[.bool s24,.slice A24 n24 c24]) rfl (by kernel_rfl) (pu (v:= .agg #[.bool s25,.slice A25 n25 c25]) rfl (by kernel_rfl) (pu (v:= .int .i64 0) rfl (by kernel_rfl) (alq [F0,S0] hw4 (hb15.ext e21).lt (fun _=>by kernel_rfl) rfl fun g26 v27 hb29 ge30 q31 e28 hw5=>(alq [F0,S0] hw5 hb29.lt (fun _=>by kernel_rfl) rfl fun g32 v33 hb35 ge36 q37 e34 hw6=>?_)))))
 have hb39:=(hb29.ext e34)
 refine so aggInt hb39 [.bool s24,.slice A24 n24 c24] hw6 ge30 rfl rfl rfl rfl fun v38 hb40 u41 hw7=>?_
 have hb44:=(hb35.updN u41 (by omega))
 refine so aggInt hb44 [.bool s25,.slice A25 n25 c25] hw7 ge36 rfl rfl rfl rfl fun v43 hb45 u46 hw8=>(mv 1 rfl (ne_ (sr (lo aggInt hb45 [.bool s25,.slice A25 n25 c25] rfl rfl rfl (mv 1 rfl ?_)))))
 have hb49:=(((hb15.ext (e21.trans (e28.trans e34))).updN u41 (by omega)).updN u46 (by omega))
 refine so aggInt hb49 [.bool s25,.slice A25 n25 c25] hw8 ge16 rfl rfl rfl rfl fun v48 hb50 u51 hw9=>(mv 1 rfl (ne_ (cw_ret (eo_ret [.agg #[.bool s25,.slice A25 n25 c25],I0] rfl ⟨⟨_,rfl,load_agg aggInt hb50 [.bool s25,.slice A25 n25 c25] rfl (bq rfl) rfl⟩,rfl,trivial⟩ ?_))))
 exact⟨_,rfl,⟨_,_,rfl,⟨_,_,_,_,rfl,((((z25.ext (e28.trans e34)).updT hb39 u41).updT hb44 u46).updT hb49 u51)⟩,rfl⟩,hw9⟩
theorem g_zint_Mod {w:World}{sa:Bool}{Aa:Option Addr}{na ca:Nat}{x:Int}{sb:Bool}{Ab:Option Addr}{nb cb:Nat}{y:Int}{b:Nat}(hb:b≤w.heap.size) (hx:Zi w sa Aa na ca x) (la:na≤68719476736) (hy:Zi w sb Ab nb cb y) (lb:nb≤68719476736) (h0:y≠0):
  Calls Tryz.prog 118 #[.agg #[.bool sa,.slice Aa na ca],.agg #[.bool sb,.slice Ab nb cb]] w (Gv w (T2 (ZR b (x%y)) (Is (.int .i64 0)))):=(g_zint_ModI hx la hy lb h0).mono (Gv.imp (T2.imp (ZR.imp hb) Is.imp))
set_option maxHeartbeats 4000000 in
theorem g_zint_Exact_okI {w:World}{sa:Bool}{Aa:Option Addr}{na ca:Nat}{x:Int}{sb:Bool}{Ab:Option Addr}{nb cb:Nat}{y:Int}(hx:Zi w sa Aa na ca x) (la:na≤68719476736) (hy:Zi w sb Ab nb cb y) (lb:nb≤68719476736) (h0:y≠0) (hd:x.natAbs%y.natAbs=0):
    Calls Tryz.prog 40 #[.agg #[.bool sa,.slice Aa na ca],.agg #[.bool sb,.slice Ab nb cb]] w (Gv w (T2 (ZR w.heap.size (x.tdiv y)) (Is (.int .i64 0)))):=by
 have Lx:ln x≤68719476736:=Nat.le_trans hx.ln la
 have Ly:ln y≤68719476736:=Nat.le_trans hy.ln lb
 refine sx_enter Tryz.func40 rfl (n:=27) rfl (bq rfl) (args:= [.agg #[.bool sa,.slice Aa na ca],.agg #[.bool sb,.slice Ab nb cb]]) (cw_keep [(0,.agg #[.bool sa,.slice Aa na ca]),(1,.agg #[.bool sb,.slice Ab nb cb])] ⟨rfl,rfl,trivial⟩ (sr (bx [.bool sa,.slice Aa na ca] (Ext.refl w) rfl rfl rfl fun g1 v2 hb4 ge5 e3 hw1=>(bxq [.bool sb,.slice Ab nb cb] hw1 hb4.lt rfl rfl rfl fun g6 v7 hb9 ge10 q11 e8 hw2=>(alq [F0,S0] hw2 hb9.lt (fun _=>by kernel_rfl) rfl fun g12 v13 hb15 ge16 q17 e14 hw3=>(mv 1 rfl (ne_ (sr (pf g1 1 rfl (by kernel_rfl) (wl_load rfl rfl (load_cell cellWords (hb4.ext (e8.trans e14)) rfl) (by decide) (pf g6 1 rfl (by kernel_rfl) (wl_load rfl rfl (load_cell cellWords (hb9.ext e14) rfl) (by decide) ?_))))))))))))
 have L1:(wd (x.natAbs/y.natAbs)).length≤68719476736:=Nat.le_trans (len_wd_mono (Nat.div_le_self _ _)) Lx
 refine cl (vs:= [.slice Aa na ca,.slice Ab nb cb]) hw3 (g_divnat_Exact hw3.size (hx.ext hw3).wi (lx_ la rfl) (hy.ext hw3).wi (lx_ lb rfl) (by omega) hd) rfl (by kernel_rfl) fun xr20 v18 r20 e19 hw4=>?_
 obtain⟨_,_,rfl,⟨A22,n22,c22,rfl,j22,o22⟩,rfl⟩:=r20
 refine mv 1 rfl (pu (v:= .slice A22 n22 c22) rfl (by kernel_rfl) (pu (v:= .int .i64 0) rfl (by kernel_rfl) (mv 2 rfl (ne_ (cw_seq (sr (mv 1 rfl (pu (v:= .bool false) rfl (by kernel_rfl) (ne_ (cw_false rfl (cw_skip (eo_then (cw_seq ?_)))))))))))))
 refine cw_region (pf g1 0 rfl (by kernel_rfl) (wl_load rfl rfl (load_cell cellBool (hb4.ext (e8.trans (e14.trans e19))) rfl) (by decide) (pf g6 0 rfl (by kernel_rfl) (wl_load rfl rfl (load_cell cellBool (hb9.ext (e14.trans e19)) rfl) (by decide) (pu (v:= .bool (!(sa==sb))) rfl (by kernel_rfl) (mv 1 rfl ?_))))))
 have L23:ln (sg (!(sa==sb)) (Int.natAbs x/Int.natAbs y))≤68719476736:=(show (wd (sg _ _).natAbs).length≤_ by rw [sg_abs];exact L1)
 refine cl (vs:= [.bool (!(sa==sb)),.slice A22 n22 c22]) hw4 (g_zint_of j22 o22) rfl (by kernel_rfl) fun xr26 v24 r26 e25 hw5=>?_
 obtain⟨s27,A27,n27,c27,rfl,z27⟩:=r26
 have hb29:=(hb15.ext (e19.trans e25))
 refine so aggInt hb29 [.bool s27,.slice A27 n27 c27] hw5 ge16 rfl rfl rfl rfl fun v28 hb30 u31 hw6=>(mv 1 rfl (ne_ (cw_ret (eo_ret [.agg #[.bool s27,.slice A27 n27 c27],I0] rfl ⟨⟨_,rfl,load_agg aggInt hb30 [.bool s27,.slice A27 n27 c27] rfl (bq rfl) rfl⟩,rfl,trivial⟩ ?_))))
 exact⟨_,rfl,⟨_,_,rfl,⟨_,_,_,_,rfl,((z27.updT hb29 u31)).cast (by rw [show (!(sa==sb))=(sa != sb) from rfl,sg_tdiv,hx.sg_,hy.sg_])⟩,rfl⟩,hw6⟩
theorem g_zint_Exact_ok {w:World}{sa:Bool}{Aa:Option Addr}{na ca:Nat}{x:Int}{sb:Bool}{Ab:Option Addr}{nb cb:Nat}{y:Int}{b:Nat}(hb:b≤w.heap.size) (hx:Zi w sa Aa na ca x) (la:na≤68719476736) (hy:Zi w sb Ab nb cb y) (lb:nb≤68719476736) (h0:y≠0) (hd:x.natAbs%y.natAbs=0):
  Calls Tryz.prog 40 #[.agg #[.bool sa,.slice Aa na ca],.agg #[.bool sb,.slice Ab nb cb]] w (Gv w (T2 (ZR b (x.tdiv y)) (Is (.int .i64 0)))):=(g_zint_Exact_okI hx la hy lb h0 hd).mono (Gv.imp (T2.imp (ZR.imp hb) Is.imp))
structure ZC where
 s:Bool
 A:Option Addr
 n:Nat
 c:Nat
theorem ln_gcd (x y:Int):ln (Int.gcd x y:Int)≤max (ln x) (ln y):=by
 by_cases h:x=0
 ·subst h
  rw [Int.gcd_zero_left]
  refine Nat.le_trans (ln_mono (x:=(y.natAbs:Int)) (y:=y) (by simp)) (Nat.le_max_right _ _)
 ·refine Nat.le_trans (ln_mono (y:=x) ?_) (Nat.le_max_left _ _)
  rw [Int.natAbs_natCast]
  exact Nat.le_of_dvd (by omega) (Int.gcd_dvd_natAbs_left x y)
structure ExtI (x y r0 r1 m0 m1:Int):Prop where
 nn0:0≤r0
 nn1:0≤r1
 gcd:Int.gcd r0 r1=Int.gcd x y
 d0:y∣r0-m0*x.natAbs
 d1:y∣r1-m1*x.natAbs
 bal:m1.natAbs*r0.natAbs+m0.natAbs*r1.natAbs=y.natAbs
 sgn:m0*m1≤0
 b0:r0.natAbs≤max x.natAbs y.natAbs
 b1:r1.natAbs≤y.natAbs
 mb0:m0.natAbs≤y.natAbs
 mb1:m1.natAbs≤y.natAbs
theorem ExtI.init {x y:Int}(h:y≠0):ExtI x y x.natAbs y.natAbs 1 0 where
 nn0:=by omega
 nn1:=by omega
 gcd:=by simp [Int.gcd]
 d0:=by simp
 d1:=by
  rw [Int.zero_mul,Int.sub_zero]
  exact Int.dvd_natAbs.2 (Int.dvd_refl y)
 bal:=by simp
 sgn:=by decide
 b0:=by rw [Int.natAbs_natCast];exact Nat.le_max_left _ _
 b1:=by simp
 mb0:=by show 1≤_;omega
 mb1:=by simp
theorem natAbs_opp {a b c:Int}(h:a*b≤0) (hc:0≤c):(a-c*b).natAbs=a.natAbs+c.natAbs*b.natAbs:=by
 rw [←Int.natAbs_mul]
 have h2:a*(c*b)≤0:=by
  have:a*(c*b)=c*(a*b):=by grind
  rw [this]
  exact Int.mul_nonpos_of_nonneg_of_nonpos hc h
 rcases Int.lt_trichotomy a 0 with ha | ha | ha
 ·have:0≤c*b:=by
   refine Int.le_of_not_gt fun hl=>?_
   have:=Int.mul_pos_of_neg_of_neg ha hl
   omega
  omega
 ·subst ha;simp
 ·have:c*b≤0:=by
   refine Int.le_of_not_gt fun hl=>?_
   have:=Int.mul_pos ha hl
   omega
  omega
theorem ExtI.step {x y r0 r1 m0 m1:Int}(h:ExtI x y r0 r1 m0 m1) (hr:r1≠0):ExtI x y r1 (r0.tmod r1) m1 (m0-r0.tdiv r1*m1):=by
 have e:=Int.tdiv_mul_add_tmod r0 r1
 have nn:=Int.tmod_nonneg r1 h.nn0
 have hq:0≤r0.tdiv r1:=Int.tdiv_nonneg h.nn0 h.nn1
 have hlt:r0.tmod r1<r1:=Int.tmod_lt_of_pos _ (by have:=h.nn1;omega)
 have hab:=natAbs_opp h.sgn hq
 have hbal:(m0-r0.tdiv r1*m1).natAbs*r1.natAbs+m1.natAbs*(r0.tmod r1).natAbs=y.natAbs:=by
  rw [hab,←h.bal]
  have e2:r0.natAbs=(r0.tdiv r1).natAbs*r1.natAbs+(r0.tmod r1).natAbs:=by
   rw [←Int.natAbs_mul,←Int.natAbs_add_of_nonneg (Int.mul_nonneg hq h.nn1) nn,e]
  rw [e2]
  grind
 refine⟨h.nn1,nn,?_,h.d1,?_,hbal,?_,Nat.le_trans h.b1 (Nat.le_max_right _ _),?_,h.mb1,?_⟩
 ·rw [←h.gcd]
  have:Int.gcd r0 r1=Int.gcd (r0.tmod r1+r1*r0.tdiv r1) r1:=by
   congr 1
   rw [Int.mul_comm];omega
  rw [this,Int.gcd_add_mul_left_left,Int.gcd_comm]
 ·have e3:r0.tmod r1-(m0-r0.tdiv r1*m1)*x.natAbs=(r0-m0*x.natAbs)-r0.tdiv r1*(r1-m1*x.natAbs):=by
   have:r0.tmod r1=r0-r0.tdiv r1*r1:=by omega
   rw [this];grind
  rw [e3]
  exact Int.dvd_sub h.d0 (Int.dvd_mul_of_dvd_right h.d1)
 ·have e4:m1*(m0-r0.tdiv r1*m1)=m0*m1-r0.tdiv r1*(m1*m1):=by grind
  rw [e4]
  have h1:0≤m1*m1:=by
   rcases Int.le_total 0 m1 with h | h
   ·exact Int.mul_nonneg h h
   ·exact Int.mul_nonneg_of_nonpos_of_nonpos h h
  have:=Int.mul_nonneg hq h1
  have:=h.sgn
  omega
 ·have:=h.b1
  have h2:(r0.tmod r1).natAbs≤r1.natAbs:=by omega
  omega
 ·have h1:1≤r1.natAbs:=by omega
  have h2:(m0-r0.tdiv r1*m1).natAbs≤(m0-r0.tdiv r1*m1).natAbs*r1.natAbs:=Nat.le_mul_of_pos_right _ h1
  omega
structure Bez (x y u v:Int):Prop where
 zero:y=0→u=x.sign∧v=0
 eq:x*u+y*v=Int.gcd x y
 lo:y≠0→0≤u
 hi:y≠0→u*Int.gcd x y<y.natAbs
theorem ExtI.done {x y r0 m0 m1 z:Int}(h:ExtI x y r0 0 m0 m1) (hy:y≠0) (hz:z=if x<0 then-m0 else m0):
  r0=(Int.gcd x y:Int)∧r0≠0∧y.tdiv r0≠0∧y.natAbs%r0.natAbs=0∧(r0-x*(z%y.tdiv r0)).natAbs%y.natAbs=0∧Bez x y (z%y.tdiv r0) ((r0-x*(z%y.tdiv r0)).tdiv y):=by
 have hg:=h.gcd
 rw [Int.gcd_zero_right] at hg
 have e0:r0=(Int.gcd x y:Int):=by have:=h.nn0;omega
 have hpos:0<Int.gcd x y:=Int.gcd_pos_of_ne_zero_right x hy
 have hr0:r0≠0:=by omega
 obtain⟨p,hp⟩:=Int.gcd_dvd_right x y
 obtain⟨q,hq⟩:=Int.gcd_dvd_left x y
 rw [←e0] at hp hq
 have hpd:y.tdiv r0=p:=by rw [hp];exact Int.mul_tdiv_cancel_left _ hr0
 have hp0:p≠0:=fun e=>hy (by rw [hp,e,Int.mul_zero])
 have hz1:y∣r0-x*z:=by
  have hd:=h.d0
  have hx:x*z=m0*x.natAbs:=by
   rw [hz]
   by_cases hn:x<0
   ·rw [if_pos hn]
    have:(x.natAbs:Int)= -x:=by omega
    rw [this];grind
   ·rw [if_neg hn]
    have:(x.natAbs:Int)=x:=by omega
    rw [this];grind
  rw [hx];exact hd
 have hm:=Int.mul_ediv_add_emod z p
 have hdvd:y∣r0-x*(z%p):=by
  have e1:r0-x*(z%p)=(r0-x*z)+y*(q*(z/p)):=by
   have e2:z%p=z-p*(z/p):=by omega
   have e3:x*(p*(z/p))=y*(q*(z/p)):=by
    calc x*(p*(z/p))=(r0*q)*(p*(z/p)):=by rw [←hq]
     _=(r0*p)*(q*(z/p)):=by grind
     _=y*(q*(z/p)):=by rw [←hp]
   rw [e2,Int.mul_sub,e3]
   omega
  rw [e1]
  exact Int.dvd_add hz1 (Int.dvd_mul_right _ _)
 refine⟨e0,hr0,by rw [hpd];exact hp0,?_,?_,?_⟩
 ·refine Nat.mod_eq_zero_of_dvd (Int.natAbs_dvd_natAbs.2 ⟨p,hp⟩)
 ·rw [hpd]
  exact Nat.mod_eq_zero_of_dvd (Int.natAbs_dvd_natAbs.2 hdvd)
 ·rw [hpd]
  refine⟨fun e=>absurd e hy,?_,fun _=>Int.emod_nonneg _ hp0,fun _=>?_⟩
  ·have:=Int.mul_tdiv_cancel' hdvd
   rw [←e0]
   omega
  ·rw [←e0]
   have h1:=Int.emod_lt z hp0
   have h2:(z%p)*r0<p.natAbs*r0:=Int.mul_lt_mul_of_pos_right h1 (by omega)
   have h3:(y.natAbs:Int)=p.natAbs*r0:=by
    rw [hp,Int.natAbs_mul]
    have:(r0.natAbs:Int)=r0:=by omega
    rw [Int.natCast_mul,this,Int.mul_comm]
   omega
theorem scmp_sign (x:Int):scmp x 0=x.sign:=by
 unfold scmp
 rcases Int.lt_trichotomy x 0 with h | h | h
 ·rw [if_pos h,Int.sign_eq_neg_one_of_neg h]
 ·subst h;rfl
 ·rw [if_neg (by omega),if_neg (by omega),Int.sign_eq_one_of_pos h]
theorem ln_w1 {x:Int}(h1: -18446744073709551615≤x) (h2:x≤18446744073709551615):ln x≤1:=len_wd_le (by rw [WB_def,Nat.pow_one];omega)
theorem scmp_i64 (x y:Int): -9223372036854775808≤scmp x y∧scmp x y≤9223372036854775807:=by have:=scmp_bd x y;omega
theorem ln_max {a b c:Int}{N:Nat}(h:a.natAbs≤max b.natAbs c.natAbs) (hb:ln b≤N) (hc:ln c≤N):ln a≤N:=by
 rcases Nat.le_total b.natAbs c.natAbs with h1 | h1
 ·exact Nat.le_trans (ln_mono (by omega)) hc
 ·exact Nat.le_trans (ln_mono (by omega)) hb
theorem Bez.ofZero {x y:Int}(h:y=0):Bez x y x.sign 0:=by
 subst h
 refine⟨fun _=>⟨rfl,rfl⟩,?_,fun h=>absurd rfl h,fun h=>absurd rfl h⟩
 rw [Int.mul_zero,Int.add_zero,Int.gcd_zero_right]
 rcases Int.lt_trichotomy x 0 with h | h | h
 ·rw [Int.sign_eq_neg_one_of_neg h];omega
 ·subst h;rfl
 ·rw [Int.sign_eq_one_of_pos h];omega
set_option maxHeartbeats 4000000 in
theorem g_bezout_ExtA {w:World}{sa:Bool}{Aa:Option Addr}{na ca:Nat}{x:Int}{sb:Bool}{Ab:Option Addr}{nb cb:Nat}{y:Int}{b:Nat}(hb:b≤w.heap.size) (hx:Zi w sa Aa na ca x) (la:na≤17179869184) (hy:Zi w sb Ab nb cb y) (lb:nb≤17179869184):
    Calls Tryz.prog 106 #[.agg #[.bool sa,.slice Aa na ca],.agg #[.bool sb,.slice Ab nb cb]] w (fun e w'=>∃u v,Bez x y u v∧Gv w (TE (ZR b (Int.gcd x y:Int)) (ZR b u) (ZR b v)) e w'):=by
 refine Calls.mono (R:=fun e w'=>∃u v,Bez x y u v∧Gv w (TE (ZR w.heap.size (Int.gcd x y:Int)) (ZR w.heap.size u) (ZR w.heap.size v)) e w') ?_ (fun e w2 h=>(by obtain⟨u,v,h1,h2⟩:=h;exact⟨u,v,h1,Gv.imp (TE.imp (ZR.imp hb) (ZR.imp hb) (ZR.imp hb)) _ _ h2⟩))
 have Lx:ln x≤17179869184:=Nat.le_trans hx.ln la
 have Ly:ln y≤17179869184:=Nat.le_trans hy.ln lb
 refine sx_enter Tryz.func106 rfl (n:=94) rfl (bq rfl) (args:= [.agg #[.bool sa,.slice Aa na ca],.agg #[.bool sb,.slice Ab nb cb]]) (cw_keep [(0,.agg #[.bool sa,.slice Aa na ca]),(1,.agg #[.bool sb,.slice Ab nb cb])] ⟨rfl,rfl,trivial⟩ (sr (bx [.bool sa,.slice Aa na ca] (Ext.refl w) rfl rfl rfl fun g1 v2 hb4 ge5 e3 hw1=>(bxq [.bool sb,.slice Ab nb cb] hw1 hb4.lt rfl rfl rfl fun g6 v7 hb9 ge10 q11 e8 hw2=>(alq [F0,S0] hw2 hb9.lt (fun _=>by kernel_rfl) rfl fun g12 v13 hb15 ge16 q17 e14 hw3=>(alq [F0,S0] hw3 hb15.lt (fun _=>by kernel_rfl) rfl fun g18 v19 hb21 ge22 q23 e20 hw4=>(alq [F0,S0] hw4 hb21.lt (fun _=>by kernel_rfl) rfl fun g24 v25 hb27 ge28 q29 e26 hw5=>(ne_ (cw_seq (cw_seq ?_))))))))))
 by_cases h0:y=0
 · 
  refine cw_region (lo aggInt (hb9.ext (e14.trans (e20.trans e26))) [.bool sb,.slice Ab nb cb] rfl rfl rfl (cl (vs:= [.agg #[.bool sb,.slice Ab nb cb]]) hw5 (g_zint_Sign (hy.ext hw5) (lx_ lb rfl)) rfl (by kernel_rfl) fun xr32 v30 r32 e31 hw6=>?_))
  obtain rfl:=r32
  refine wl_cmp rfl rfl rfl true (scmp_eq_t h0) (by decide) (ne_ (cw_true rfl (cw_seq ?_)))
  have L33:ln ((Int.natAbs x:Int))≤17179869184:=(by rw [ln_abs];exact Lx)
  refine cw_drawA mix 6 [5] [1,4] [Is (.agg #[.bool sa,.slice Aa na ca]),ZR w.heap.size ((Int.natAbs x:Int)),Is (.agg #[.bool sa,.slice Aa na ca]),Is (.int .i64 (scmp x 0)),ZR w.heap.size (scmp x 0),Is (.agg #[F0,S0])] [[],[0],[],[2],[3],[]] [[],[0],[],[0,1,2],[0,1,2,3],[],[0,1,2,3,4],[0,1,2,3,4,6],[0,1,2,3,4,5,6,7]] rfl rfl ⟨fun _ _ h=>ZR.old h,fun _ _ h=>ZR.old h,trivial⟩
   (obs_cons rfl rfl (hob rfl rfl ?_) (obs_cons rfl rfl (hobN (fun _ _ h=>h) rfl ?_) (obs_cons rfl rfl (hob rfl rfl ?_) (obs_cons rfl rfl (hob rfl rfl ?_) (obs_cons rfl rfl (hobN (fun _ _ h=>h) rfl ?_) (obs_float rfl rfl (fob rfl ?_) obs_nil)))))) ?_
  · 
   exact fun _ e37=>deps_nil (lo aggInt (hb4.ext (e8.trans (e14.trans (e20.trans (e26.trans (e31.trans e37)))))) [.bool sa,.slice Aa na ca] rfl rfl rfl (pi_done rfl (Ext.refl _) rfl))
  · 
   intro v38 e39
   have hw7:=hw6.trans e39
   refine dk rfl rfl (deps_nil ?_)
   have L45:ln ((Int.natAbs x:Int))≤17179869184:=(by rw [ln_abs];exact Lx)
   refine cl (vs:= [.agg #[.bool sa,.slice Aa na ca]]) hw7 (g_zint_Abs (Nat.le_refl _) (hx.ext hw7) (lx_ la rfl)) rfl (by kernel_rfl) fun xr48 v46 r48 e47 hw8=>?_
   obtain⟨s49,A49,n49,c49,rfl,z49⟩:=r48
   exact pi_done rfl e47 ⟨⟨_,_,_,_,rfl,z49.mono hw7.size⟩,z49.new⟩
  · 
   exact fun _ e51=>deps_nil (lo aggInt (hb4.ext (e8.trans (e14.trans (e20.trans (e26.trans (e31.trans e51)))))) [.bool sa,.slice Aa na ca] rfl rfl rfl (pi_done rfl (Ext.refl _) rfl))
  · 
   intro v52 e53
   have hw7:=hw6.trans e53
   refine dk rfl rfl (deps_nil (cl (vs:= [.agg #[.bool sa,.slice Aa na ca]]) hw7 (g_zint_Sign (hx.ext hw7) (lx_ la rfl)) rfl (by kernel_rfl) fun xr61 v59 r61 e60 hw8=>?_))
   obtain rfl:=r61
   exact pi_done rfl e60 rfl
  · 
   intro v62 e63
   have hw7:=hw6.trans e63
   refine dk rfl rfl (deps_nil (cl (vs:= [.int .i64 (scmp x 0)]) hw7 (g_zint_Of (Nat.le_refl _) (scmp_i64 _ _).1 (scmp_i64 _ _).2) rfl (by kernel_rfl) fun xr71 v69 r71 e70 hw8=>?_))
   obtain⟨s72,A72,n72,c72,rfl,z72⟩:=r71
   exact pi_done rfl e70 ⟨⟨_,_,_,_,rfl,z72.mono hw7.size⟩,z72.new⟩
  · 
   exact fun _ _=>deps_nil (⟨.agg #[F0,S0],rfl,rfl,fun _=>by kernel_rfl,rfl⟩)
  · 
   intro v75 e76
   have hw7:=hw6.trans e76
   refine dk rfl rfl (deps_cons rfl rfl fun x82 y83 h84 e85 f86=>?_)
   obtain⟨s87,A87,n87,c87,rfl,z87⟩:=h84
   have z87:=z87.ext f86
   refine dk rfl rfl (dk rfl rfl (deps_cons rfl rfl fun x98 y99 h100 e101 f102=>?_))
   obtain⟨s103,A103,n103,c103,rfl,z103⟩:=h100
   have z103:=z103.ext f102
   refine dk rfl rfl (deps_nil ?_)
   intro hdist
   have ap109:=hdist 1 (by decide) 4 (by decide) (by decide) _ _ rfl rfl _ _ rfl rfl
   clear hdist
   have hb111:=(hb15.ext (e20.trans (e26.trans (e31.trans e76))))
   refine so aggInt hb111 [.bool s87,.slice A87 n87 c87] hw7 ge16 rfl rfl rfl rfl fun v110 hb112 u113 hw8=>?_
   have hb116:=((hb21.ext (e26.trans (e31.trans e76))).updN u113 (by omega))
   refine so aggInt hb116 [.bool s103,.slice A103 n103 c103] hw8 ge22 rfl rfl rfl rfl fun v115 hb117 u118 hw9=>?_
   have hb121:=(((hb27.ext (e31.trans e76)).updN u113 (by omega)).updN u118 (by omega))
   refine so aggInt hb121 [F0,S0] hw9 ge28 rfl rfl rfl rfl fun v120 hb122 u123 hw10=>(wl_nil (eo_np (eo_then (cw_ret (eo_thenR (eo_ret [.agg #[.bool s87,.slice A87 n87 c87],.agg #[.bool s103,.slice A103 n103 c103],.agg #[F0,S0]] rfl ⟨⟨_,rfl,load_agg aggInt ((hb112.updN u118 (by omega)).updN u123 (by omega)) [.bool s87,.slice A87 n87 c87] rfl (bq rfl) rfl⟩,⟨_,rfl,load_agg aggInt (hb117.updN u123 (by omega)) [.bool s103,.slice A103 n103 c103] rfl (bq rfl) rfl⟩,⟨_,rfl,load_agg aggInt hb122 [F0,S0] rfl (bq rfl) rfl⟩,trivial⟩ ?_))))))
   exact⟨_,_,Bez.ofZero h0,_,rfl,⟨_,_,_,rfl,⟨_,_,_,_,rfl,((((z87.updT hb111 u113).updT hb116 u118).updT hb121 u123)).cast (by subst h0;simp)⟩,⟨_,_,_,_,rfl,((((z103.updT hb111 u113).updT hb116 u118).updT hb121 u123)).cast (scmp_sign x)⟩,⟨_,_,_,_,rfl,(((((Zr.zero (w:=v30) (base:=w.heap.size)).ext e76).updT hb111 u113).updT hb116 u118).updT hb121 u123)⟩,ap109,fun _ _ h=>inV_nil h,fun _ _ h=>inV_nil h⟩,hw10⟩
 · 
  refine cw_region (lo aggInt (hb9.ext (e14.trans (e20.trans e26))) [.bool sb,.slice Ab nb cb] rfl rfl rfl (cl (vs:= [.agg #[.bool sb,.slice Ab nb cb]]) hw5 (g_zint_Sign (hy.ext hw5) (lx_ lb rfl)) rfl (by kernel_rfl) fun xr127 v125 r127 e126 hw6=>?_))
  obtain rfl:=r127
  refine wl_cmp rfl rfl rfl false (scmp_eq_f h0) (by decide) (ne_ (cw_false rfl (cw_skip (eo_then (cw_seq ?_)))))
  have L128:ln ((Int.natAbs x:Int))≤17179869184:=(by rw [ln_abs];exact Lx)
  have L130:ln ((Int.natAbs y:Int))≤17179869184:=(by rw [ln_abs];exact Ly)
  refine cw_draw mix 6 [] [Is (.agg #[.bool sa,.slice Aa na ca]),ZR w.heap.size ((Int.natAbs x:Int)),Is (.agg #[.bool sb,.slice Ab nb cb]),ZR w.heap.size ((Int.natAbs y:Int)),fun v' w'=>∃s0 A0 n0 c0 s1 A1 n1 c1,v'= .agg #[.bool s0,.slice A0 n0 c0,.bool s1,.slice A1 n1 c1]∧Zr w' w.heap.size s0 A0 n0 c0 ((Int.natAbs x:Int))∧Zr w' w.heap.size s1 A1 n1 c1 ((Int.natAbs y:Int)),PR v125.heap.size 123 [F0,S0,F0,S0]] [[],[0],[],[2],[1,3],[]] [[],[0],[],[0,1,2],[0,1,2,3],[],[0,1,2,3,4,5]] rfl
   (obs_cons rfl rfl (hob rfl rfl ?_) (obs_cons rfl rfl (hob rfl rfl ?_) (obs_cons rfl rfl (hob rfl rfl ?_) (obs_cons rfl rfl (hob rfl rfl ?_) (obs_cons rfl rfl (hob rfl rfl ?_) (obs_cons rfl rfl (hob rfl rfl ?_) obs_nil)))))) ?_
  · 
   exact fun _ e135=>deps_nil (lo aggInt (hb4.ext (e8.trans (e14.trans (e20.trans (e26.trans (e126.trans e135)))))) [.bool sa,.slice Aa na ca] rfl rfl rfl (pi_done rfl (Ext.refl _) rfl))
  · 
   intro v136 e137
   have hw7:=hw6.trans e137
   refine dk rfl rfl (deps_nil ?_)
   have L143:ln ((Int.natAbs x:Int))≤17179869184:=(by rw [ln_abs];exact Lx)
   refine cl (vs:= [.agg #[.bool sa,.slice Aa na ca]]) hw7 (g_zint_Abs hw7.size (hx.ext hw7) (lx_ la rfl)) rfl (by kernel_rfl) fun xr146 v144 r146 e145 hw8=>?_
   obtain⟨s147,A147,n147,c147,rfl,z147⟩:=r146
   exact pi_done rfl e145 ⟨_,_,_,_,rfl,z147⟩
  · 
   exact fun _ e149=>deps_nil (lo aggInt (hb9.ext (e14.trans (e20.trans (e26.trans (e126.trans e149))))) [.bool sb,.slice Ab nb cb] rfl rfl rfl (pi_done rfl (Ext.refl _) rfl))
  · 
   intro v150 e151
   have hw7:=hw6.trans e151
   refine dk rfl rfl (deps_nil ?_)
   have L157:ln ((Int.natAbs y:Int))≤17179869184:=(by rw [ln_abs];exact Ly)
   refine cl (vs:= [.agg #[.bool sb,.slice Ab nb cb]]) hw7 (g_zint_Abs hw7.size (hy.ext hw7) (lx_ lb rfl)) rfl (by kernel_rfl) fun xr160 v158 r160 e159 hw8=>?_
   obtain⟨s161,A161,n161,c161,rfl,z161⟩:=r160
   exact pi_done rfl e159 ⟨_,_,_,_,rfl,z161⟩
  · 
   intro v162 e163
   refine deps_cons rfl rfl fun x164 y165 h166 e167 f168=>?_
   obtain⟨s169,A169,n169,c169,rfl,z169⟩:=h166
   have z169:=z169.ext f168
   refine deps_cons rfl rfl fun x170 y171 h172 e173 f174=>?_
   obtain⟨s175,A175,n175,c175,rfl,z175⟩:=h172
   have z175:=z175.ext f174
   refine deps_nil (pu (v:= .agg #[.bool s169,.slice A169 n169 c169,.bool s175,.slice A175 n175 c175]) rfl (by kernel_rfl) ?_)
   exact pi_done rfl (Ext.refl _) ⟨_,_,_,_,_,_,_,_,rfl,z169,z175⟩
  · 
   intro v176 e177
   refine deps_nil (wl_alloc rfl (z:= .agg #[F0,S0,F0,S0]) (vs:= [F0,S0,F0,S0]) (fun _=>by kernel_rfl) rfl (by decide) fun g178 v179 nb=>?_)
   exact pi_done rfl nb.ext ⟨_,rfl,by rw [←nb.at_];exact e177.size,nb.bk⟩
  · 
   intro v180 e181
   have hw7:=hw6.trans e181
   refine dk rfl rfl (deps_cons rfl rfl fun x187 y188 h189 e190 f191=>?_)
   obtain⟨s192,A192,n192,c192,rfl,z192⟩:=h189
   have z192:=z192.ext f191
   refine dk rfl rfl (deps_cons rfl rfl fun x198 y199 h200 e201 f202=>?_)
   obtain⟨s203,A203,n203,c203,rfl,z203⟩:=h200
   have z203:=z203.ext f202
   refine deps_cons rfl rfl fun x204 y205 h206 e207 f208=>?_
   obtain⟨s209,A209,n209,c209,s210,A210,n210,c210,rfl,z209,z210⟩:=h206
   have z209:=z209.ext f208
   have z210:=z210.ext f208
   refine deps_cons rfl rfl fun x211 y212 h213 e214 f215=>?_
   obtain⟨g216,rfl,ge218,hb217⟩:=h213
   have hb217:=hb217.ext f215
   have q219:g24<g216:=Nat.lt_of_lt_of_le (hb27.ext e126).lt ge218
   have ge218:w.heap.size≤g216:=Nat.le_trans hw6.size ge218
   refine deps_nil (so aggTwo hb217 [.bool s209,.slice A209 n209 c209,.bool s210,.slice A210 n210 c210] hw7 ge218 rfl rfl rfl rfl fun v220 hb222 u223 hw8=>(wl_nil (eo_np (eo_then (sr (cl (vs:= [.int .i64 1]) hw8 (g_zint_Of hw8.size (by decide) (by decide)) rfl (by kernel_rfl) fun xr227 v225 r227 e226 hw9=>?_))))))
   obtain⟨s228,A228,n228,c228,rfl,z228⟩:=r227
   refine cl (vs:= [I0]) hw9 (g_zint_Of hw9.size (by decide) (by decide)) rfl (by kernel_rfl) fun xr231 v229 r231 e230 hw10=>?_
   obtain⟨s232,A232,n232,c232,rfl,z232⟩:=r231
   refine pu (v:= .agg #[.bool s228,.slice A228 n228 c228,.bool s232,.slice A232 n232 c232]) rfl (by kernel_rfl) (alq [F0,S0,F0,S0] hw10 (hb222.ext (e226.trans e230)).lt (fun _=>by kernel_rfl) rfl fun g233 v234 hb236 ge237 q238 e235 hw11=>(so aggTwo hb236 [.bool s228,.slice A228 n228 c228,.bool s232,.slice A232 n232 c232] hw11 ge237 rfl rfl rfl rfl fun v239 hb241 u242 hw12=>(ne_ (cw_seq (cw_block ?_)))))
   refine cw_loop (T:=World×Int×Int×Int×Int×ZC×ZC×ZC×ZC)
    (fun⟨wr,r0,r1,m0,m1,k0,k1,k2,k3⟩=> [(2,.pointer (some ⟨g1,0,none⟩)),(3,.pointer (some ⟨g6,0,none⟩)),(4,.pointer (some ⟨g12,0,none⟩)),(5,.pointer (some ⟨g18,0,none⟩)),(6,.pointer (some ⟨g24,0,none⟩)),(7,.pointer (some ⟨g216,0,none⟩)),(8,.pointer (some ⟨g233,0,none⟩))])
    (fun⟨wr,r0,r1,m0,m1,k0,k1,k2,k3⟩=>wr)
    (fun⟨wr,r0,r1,m0,m1,k0,k1,k2,k3⟩=>(Ext w wr)∧(ExtI x y r0 r1 m0 m1)∧(Bk wr g1 41 [.bool sa,.slice Aa na ca])∧(Bk wr g6 41 [.bool sb,.slice Ab nb cb])∧(Bk wr g12 41 [F0,S0])∧(Bk wr g18 41 [F0,S0])∧(Bk wr g24 41 [F0,S0])∧(Bk wr g216 123 [.bool k0.s,.slice k0.A k0.n k0.c,.bool k1.s,.slice k1.A k1.n k1.c])∧(Bk wr g233 123 [.bool k2.s,.slice k2.A k2.n k2.c,.bool k3.s,.slice k3.A k3.n k3.c])∧(Zr wr w.heap.size k0.s k0.A k0.n k0.c r0)∧(Zr wr w.heap.size k1.s k1.A k1.n k1.c r1)∧(Zr wr w.heap.size k2.s k2.A k2.n k2.c m0)∧(Zr wr w.heap.size k3.s k3.A k3.n k3.c m1))
    (fun⟨wr,r0,r1,m0,m1,k0,k1,k2,k3⟩=>r1.natAbs)
    (⟨v239,_,_,_,_,⟨s209,A209,n209,c209⟩,⟨s210,A210,n210,c210⟩,⟨s228,A228,n228,c228⟩,⟨s232,A232,n232,c232⟩⟩:World×Int×Int×Int×Int×ZC×ZC×ZC×ZC) ⟨hw12,ExtI.init h0,((((hb4.ext (e8.trans (e14.trans (e20.trans (e26.trans (e126.trans e181)))))).updN u223 (by omega)).ext (e226.trans (e230.trans e235))).updN u242 (by omega)),((((hb9.ext (e14.trans (e20.trans (e26.trans (e126.trans e181))))).updN u223 (by omega)).ext (e226.trans (e230.trans e235))).updN u242 (by omega)),((((hb15.ext (e20.trans (e26.trans (e126.trans e181)))).updN u223 (by omega)).ext (e226.trans (e230.trans e235))).updN u242 (by omega)),((((hb21.ext (e26.trans (e126.trans e181))).updN u223 (by omega)).ext (e226.trans (e230.trans e235))).updN u242 (by omega)),((((hb27.ext (e126.trans e181)).updN u223 (by omega)).ext (e226.trans (e230.trans e235))).updN u242 (by omega)),((hb222.ext (e226.trans (e230.trans e235))).updN u242 (by omega)),hb241,(((z209.updT hb217 u223).ext (e226.trans (e230.trans e235))).updT hb236 u242),(((z210.updT hb217 u223).ext (e226.trans (e230.trans e235))).updT hb236 u242),((z228.ext (e230.trans e235)).updT hb236 u242),((z232.ext e235).updT hb236 u242)⟩ rfl ⟨rfl,rfl,rfl,rfl,rfl,rfl,rfl,trivial⟩ ?_
   rintro⟨wr,r0,r1,m0,m1,k0,k1,k2,k3⟩ ⟨hw1,hI,b_2,b_3,b_4,b_5,b_6,b_7,b_8,zk0,zk1,zk2,zk3⟩
   refine cw_re [(2,.pointer (some ⟨g1,0,none⟩)),(3,.pointer (some ⟨g6,0,none⟩)),(4,.pointer (some ⟨g12,0,none⟩)),(5,.pointer (some ⟨g18,0,none⟩)),(6,.pointer (some ⟨g24,0,none⟩)),(7,.pointer (some ⟨g216,0,none⟩)),(8,.pointer (some ⟨g233,0,none⟩))] wr rfl ⟨rfl,rfl,rfl,rfl,rfl,rfl,rfl,trivial⟩ ?_
   have Lr0:ln r0≤17179869184:=ln_max hI.b0 Lx Ly
   have Lr1:ln r1≤17179869184:=Nat.le_trans (ln_mono hI.b1) Ly
   have Lm0:ln m0≤17179869184:=Nat.le_trans (ln_mono hI.mb0) Ly
   have Lm1:ln m1≤17179869184:=Nat.le_trans (ln_mono hI.mb1) Ly
   refine cw_seq (cw_seq ?_)
   by_cases hr:r1=0
   · 
    have hI0:ExtI x y r0 0 m0 m1:=hr▸hI
    refine cw_region (pf g216 2 rfl (by kernel_rfl) (lo aggInt b_7 [.bool k1.s,.slice k1.A k1.n k1.c] rfl rfl rfl (cl (vs:= [.agg #[.bool k1.s,.slice k1.A k1.n k1.c]]) hw1 (g_zint_Sign zk1.zi (zk1.le (lx_ Lr1 rfl))) rfl (by kernel_rfl) fun xr246 v244 r246 e245 hw2=>?_)))
    obtain rfl:=r246
    refine wl_cmp rfl rfl rfl false (scmp_ne_f hr) (by decide) (ne_ (cw_false rfl (cw_exit (eo_thenX (eo_loopX (eo_block_here (eo_then (cw_seq (cw_keep [(2,.pointer (some ⟨g1,0,none⟩)),(3,.pointer (some ⟨g6,0,none⟩)),(4,.pointer (some ⟨g12,0,none⟩)),(5,.pointer (some ⟨g18,0,none⟩)),(6,.pointer (some ⟨g24,0,none⟩)),(7,.pointer (some ⟨g216,0,none⟩)),(8,.pointer (some ⟨g233,0,none⟩)),(32,.pointer (some ⟨g216,2,none⟩)),(33,.agg #[.bool k1.s,.slice k1.A k1.n k1.c]),(34,.int .i64 (scmp r1 0)),(35,.bool false)] ⟨rfl,rfl,rfl,rfl,rfl,rfl,rfl,rfl,rfl,rfl,rfl,trivial⟩ ?_)))))))))
    obtain⟨v247,hv,e248⟩:∃v,v=v244.drew∧Ext v244 v:=⟨_,rfl,(Ext.refl _).drew⟩
    have hw3:=hw2.trans e248
    have hb250:=(b_4.ext (e245.trans e248))
    obtain⟨v249,hr254,hb251,u252,hs253⟩:=run_stored (P:=Tryz.prog) (us:= [.bool k0.s,.slice k0.A k0.n k0.c]) (off:=0) aggInt rfl hb250 (bq rfl) rfl [.bool k0.s,.slice k0.A k0.n k0.c] rfl
    have hw4:=u252.ext hw3 ge16
    have hb256:=((b_5.ext (e245.trans e248)).updN u252 (by omega))
    obtain⟨v255,hr260,hb257,u258,hs259⟩:=run_stored (P:=Tryz.prog) (us:= [.bool k2.s,.slice k2.A k2.n k2.c]) (off:=0) aggInt rfl hb256 (bq rfl) rfl [.bool k2.s,.slice k2.A k2.n k2.c] rfl
    have hw5:=u258.ext hw4 ge22
    refine cw_det mix (w:=v247) [.pointer (some ⟨g216,0,none⟩),.agg #[.bool k0.s,.slice k0.A k0.n k0.c],.pointer (some ⟨g233,0,none⟩),.agg #[.bool k2.s,.slice k2.A k2.n k2.c],undef,undef] [v247,v249,v255] [4,5] [[],[0],[],[2],[1],[3]] [[],[0],[],[2],[0,1],[0,1,2,3,4]] [(0,0),(1,0),(2,0),(2,1),(3,0),(3,1),(4,0),(5,1)] rfl hv ?_ ?_
    · 
     refine dobs_val _ rfl rfl rfl rfl rfl (rd_pure rfl (by kernel_rfl)) (dobs_val _ rfl rfl rfl rfl rfl (rd_load rfl (load_agg aggInt (b_7.ext (e245.trans e248)) [.bool k0.s,.slice k0.A k0.n k0.c] rfl (bq rfl) rfl)) (dobs_val _ rfl rfl rfl rfl rfl (rd_pure rfl (by kernel_rfl)) (dobs_val _ rfl rfl rfl rfl rfl (rd_pure rfl (by kernel_rfl)) (dobs_val _ rfl rfl rfl rfl rfl (rd_load rfl (load_agg aggInt (b_8.ext (e245.trans e248)) [.bool k2.s,.slice k2.A k2.n k2.c] rfl (bq rfl) rfl)) (dobs_val _ rfl rfl rfl rfl rfl (rd_load rfl (load_agg aggInt ((b_8.ext (e245.trans e248)).updN u252 (by omega)) [.bool k2.s,.slice k2.A k2.n k2.c] rfl (bq rfl) rfl)) (dobs_sto _ rfl rfl rfl rfl rfl (rd_store rfl rfl hr254) (dobs_sto _ rfl rfl rfl rfl rfl (rd_store rfl rfl hr260) ?_)))))))
     exact dobs_nil
    clear hv
    refine eo_keep [(2,.pointer (some ⟨g1,0,none⟩)),(3,.pointer (some ⟨g6,0,none⟩)),(4,.pointer (some ⟨g12,0,none⟩)),(5,.pointer (some ⟨g18,0,none⟩)),(6,.pointer (some ⟨g24,0,none⟩)),(7,.pointer (some ⟨g216,0,none⟩)),(8,.pointer (some ⟨g233,0,none⟩)),(32,.pointer (some ⟨g216,2,none⟩)),(33,.agg #[.bool k1.s,.slice k1.A k1.n k1.c]),(34,.int .i64 (scmp r1 0)),(35,.bool false),(60,.pointer (some ⟨g216,0,none⟩)),(61,.agg #[.bool k0.s,.slice k0.A k0.n k0.c]),(62,.pointer (some ⟨g233,0,none⟩)),(63,.agg #[.bool k2.s,.slice k2.A k2.n k2.c])] ⟨rfl,rfl,rfl,rfl,rfl,rfl,rfl,rfl,rfl,rfl,rfl,rfl,rfl,rfl,rfl,trivial⟩ (eo_then (cw_seq (cw_seq ?_)))
    by_cases hx0:x<0
    · 
     have HD:=hI0.done h0 (z:= -m0) (by rw [if_pos hx0])
     refine cw_region (lo aggInt (((b_2.ext (e245.trans e248)).updN u252 (by omega)).updN u258 (by omega)) [.bool sa,.slice Aa na ca] rfl rfl rfl (cl (vs:= [.agg #[.bool sa,.slice Aa na ca]]) hw5 (g_zint_Sign (hx.ext hw5) (lx_ la rfl)) rfl (by kernel_rfl) fun xr263 v261 r263 e262 hw6=>?_))
     obtain rfl:=r263
     refine wl_cmp rfl rfl rfl true (scmp_lt_t hx0) (by decide) (ne_ (cw_true rfl (cw_region (lo aggInt (hb257.ext e262) [.bool k2.s,.slice k2.A k2.n k2.c] rfl rfl rfl ?_))))
     have L264:ln (-m0)≤17179869184:=(by rw [ln_neg];exact Lm0)
     refine cl (vs:= [.agg #[.bool k2.s,.slice k2.A k2.n k2.c]]) hw6 (g_zint_Neg hw6.size ((((zk2.ext (e245.trans e248)).updT hb250 u252).updT hb256 u258).ext e262).zi (zk2.le (lx_ Lm0 rfl))) rfl (by kernel_rfl) fun xr267 v265 r267 e266 hw7=>?_
     obtain⟨s268,A268,n268,c268,rfl,z268⟩:=r267
     have hb270:=(hb257.ext (e262.trans e266))
     refine so aggInt hb270 [.bool s268,.slice A268 n268 c268] hw7 ge22 rfl rfl rfl rfl fun v269 hb271 u272 hw8=>(ne_ (sr (lo aggInt (((((b_3.ext (e245.trans e248)).updN u252 (by omega)).updN u258 (by omega)).ext (e262.trans e266)).updN u272 (by omega)) [.bool sb,.slice Ab nb cb] rfl rfl rfl (lo aggInt (((hb251.updN u258 (by omega)).ext (e262.trans e266)).updN u272 (by omega)) [.bool k0.s,.slice k0.A k0.n k0.c] rfl rfl rfl ?_))))
     have L274:ln (y.tdiv r0)≤17179869184:=Nat.le_trans (ln_tdiv _ _) Ly
     refine cl (vs:= [.agg #[.bool sb,.slice Ab nb cb],.agg #[.bool k0.s,.slice k0.A k0.n k0.c]]) hw8 (g_zint_Exact_ok hw8.size (hy.ext hw8) (lx_ lb rfl) (((((zk0.ext (e245.trans e248)).updT hb250 u252).updT hb256 u258).ext (e262.trans e266)).updT hb270 u272).zi (zk0.le (lx_ Lr0 rfl)) HD.2.1 HD.2.2.2.1) rfl (by kernel_rfl) fun xr277 v275 r277 e276 hw9=>?_
     obtain⟨_,_,rfl,⟨s279,A279,n279,c279,rfl,z279⟩,rfl⟩:=r277
     refine mv 1 rfl (pu (v:= .agg #[.bool s279,.slice A279 n279 c279]) rfl (by kernel_rfl) (pu (v:= .int .i64 0) rfl (by kernel_rfl) (alq [F0,S0] hw9 ((((((b_8.ext (e245.trans e248)).updN u252 (by omega)).updN u258 (by omega)).ext (e262.trans e266)).updN u272 (by omega)).ext e276).lt (fun _=>by kernel_rfl) rfl fun g280 v281 hb283 ge284 q285 e282 hw10=>(so aggInt hb283 [.bool s279,.slice A279 n279 c279] hw10 ge284 rfl rfl rfl rfl fun v286 hb288 u289 hw11=>(mv 1 rfl (ne_ (cw_seq ?_)))))))
     have hqg:=(((((((zk0.ext (e245.trans e248)).updT hb250 u252).updT hb256 u258).ext (e262.trans e266)).updT hb270 u272).ext (e276.trans e282)).updT hb283 u289).old
     refine cw_region (lo aggInt ((hb271.ext (e276.trans e282)).updN u289 (by omega)) [.bool s268,.slice A268 n268 c268] rfl rfl rfl (lo aggInt hb288 [.bool s279,.slice A279 n279 c279] rfl rfl rfl ?_))
     have L291:ln ((-m0)%(y.tdiv r0))≤17179869184:=Nat.le_trans (ln_emod HD.2.2.1) L274
     refine cl (vs:= [.agg #[.bool s268,.slice A268 n268 c268],.agg #[.bool s279,.slice A279 n279 c279]]) hw11 (g_zint_Mod (Nat.le_refl _) (((z268.updT hb270 u272).ext (e276.trans e282)).updT hb283 u289).zi (z268.le (lx_ L264 rfl)) ((z279.ext e282).updT hb283 u289).zi (z279.le (lx_ L274 rfl)) HD.2.2.1) rfl (by kernel_rfl) fun xr294 v292 r294 e293 hw12=>?_
     obtain⟨_,_,rfl,⟨s296,A296,n296,c296,rfl,z296⟩,r295_1⟩:=r294
     have nw_z296:=z296.new
     replace z296:=z296.mono hw11.size
     obtain rfl:=r295_1
     refine mv 1 rfl (pu (v:= .agg #[.bool s296,.slice A296 n296 c296]) rfl (by kernel_rfl) (pu (v:= .int .i64 0) rfl (by kernel_rfl) ?_))
     have hb298:=(((hb271.ext (e276.trans e282)).updN u289 (by omega)).ext e293)
     refine so aggInt hb298 [.bool s296,.slice A296 n296 c296] hw12 ge22 rfl rfl rfl rfl fun v297 hb299 u300 hw13=>(ne_ (cw_seq ?_))
     have apGX:=ap_lt hqg nw_z296
     have hqg2:=(((((((((zk0.ext (e245.trans e248)).updT hb250 u252).updT hb256 u258).ext (e262.trans e266)).updT hb270 u272).ext (e276.trans e282)).updT hb283 u289).ext e293).updT hb298 u300).old
     have hqx2:=(z296.updT hb298 u300).old
     have L302:ln (x*((-m0)%(y.tdiv r0)))≤34359738368:=Nat.le_trans (ln_mul Lx L291) (by decide)
     have L304:ln (r0-(x*((-m0)%(y.tdiv r0))))≤34359738369:=Nat.le_trans (ln_sub Lr0 L302) (by decide)
     have L306:ln ((r0-(x*((-m0)%(y.tdiv r0)))).tdiv y)≤34359738369:=Nat.le_trans (ln_tdiv _ _) L304
     refine cw_draw mix 10 [8,9] [Is (.agg #[.bool k0.s,.slice k0.A k0.n k0.c]),Is (.agg #[.bool sa,.slice Aa na ca]),Is (.agg #[.bool s296,.slice A296 n296 c296]),ZR w.heap.size (x*((-m0)%(y.tdiv r0))),ZR w.heap.size (r0-(x*((-m0)%(y.tdiv r0)))),Is (.agg #[.bool sb,.slice Ab nb cb]),T2 (ZR v297.heap.size ((r0-(x*((-m0)%(y.tdiv r0)))).tdiv y)) (Is (.int .i64 0)),T2 (ZR v297.heap.size ((r0-(x*((-m0)%(y.tdiv r0)))).tdiv y)) (Is (.int .i64 0)),ZR v297.heap.size ((r0-(x*((-m0)%(y.tdiv r0)))).tdiv y),Is (.int .i64 0)] [[],[],[],[1,2],[0,3],[],[4,5],[6],[7],[7]] [[],[],[],[1,2],[0,1,2,3],[],[0,1,2,3,4,5],[0,1,2,3,4,5,6],[0,1,2,3,4,5,6,7],[0,1,2,3,4,5,6,7],[0,1,2,3,4,5,6,7,8]] rfl
      (obs_cons rfl rfl (hob rfl rfl ?_) (obs_cons rfl rfl (hob rfl rfl ?_) (obs_cons rfl rfl (hob rfl rfl ?_) (obs_cons rfl rfl (hob rfl rfl ?_) (obs_cons rfl rfl (hob rfl rfl ?_) (obs_cons rfl rfl (hob rfl rfl ?_) (obs_cons rfl rfl (hob rfl rfl ?_) (obs_cons rfl rfl (hob rfl rfl ?_) (obs_float rfl rfl (fob rfl ?_) (obs_float rfl rfl (fob rfl ?_) obs_nil)))))))))) ?_
     · 
      exact fun _ e313=>deps_nil (lo aggInt ((((((((hb251.updN u258 (by omega)).ext (e262.trans e266)).updN u272 (by omega)).ext (e276.trans e282)).updN u289 (by omega)).ext e293).updN u300 (by omega)).ext e313) [.bool k0.s,.slice k0.A k0.n k0.c] rfl rfl rfl (pi_done rfl (Ext.refl _) rfl))
     · 
      exact fun _ e315=>deps_nil (lo aggInt ((((((((((b_2.ext (e245.trans e248)).updN u252 (by omega)).updN u258 (by omega)).ext (e262.trans e266)).updN u272 (by omega)).ext (e276.trans e282)).updN u289 (by omega)).ext e293).updN u300 (by omega)).ext e315) [.bool sa,.slice Aa na ca] rfl rfl rfl (pi_done rfl (Ext.refl _) rfl))
     · 
      exact fun _ e317=>deps_nil (lo aggInt (hb299.ext e317) [.bool s296,.slice A296 n296 c296] rfl rfl rfl (pi_done rfl (Ext.refl _) rfl))
     · 
      intro v318 e319
      have hw14:=hw13.trans e319
      refine dk rfl rfl (dk rfl rfl (deps_nil ?_))
      have L330:ln (x*((-m0)%(y.tdiv r0)))≤34359738368:=Nat.le_trans (ln_mul Lx L291) (by decide)
      refine cl (vs:= [.agg #[.bool sa,.slice Aa na ca],.agg #[.bool s296,.slice A296 n296 c296]]) hw14 (g_zint_Mul hw14.size (hx.ext hw14) (lx_ la rfl) ((z296.updT hb298 u300).ext e319).zi (z296.le (lx_ L291 rfl))) rfl (by kernel_rfl) fun xr333 v331 r333 e332 hw15=>?_
      obtain⟨s334,A334,n334,c334,rfl,z334⟩:=r333
      exact pi_done rfl e332 ⟨_,_,_,_,rfl,z334⟩
     · 
      intro v335 e336
      have hw14:=hw13.trans e336
      refine dk rfl rfl (deps_cons rfl rfl fun x342 y343 h344 e345 f346=>?_)
      obtain⟨s347,A347,n347,c347,rfl,z347⟩:=h344
      have z347:=z347.ext f346
      refine deps_nil ?_
      have L348:ln (r0-(x*((-m0)%(y.tdiv r0))))≤34359738369:=Nat.le_trans (ln_sub Lr0 L302) (by decide)
      refine cl (vs:= [.agg #[.bool k0.s,.slice k0.A k0.n k0.c],.agg #[.bool s347,.slice A347 n347 c347]]) hw14 (g_zint_Sub hw14.size ((((((((((zk0.ext (e245.trans e248)).updT hb250 u252).updT hb256 u258).ext (e262.trans e266)).updT hb270 u272).ext (e276.trans e282)).updT hb283 u289).ext e293).updT hb298 u300).ext e336).zi (zk0.le (lx_ Lr0 rfl)) z347.zi (z347.le (lx_ L302 rfl))) rfl (by kernel_rfl) fun xr351 v349 r351 e350 hw15=>?_
      obtain⟨s352,A352,n352,c352,rfl,z352⟩:=r351
      exact pi_done rfl e350 ⟨_,_,_,_,rfl,z352⟩
     · 
      exact fun _ e354=>deps_nil (lo aggInt ((((((((((b_3.ext (e245.trans e248)).updN u252 (by omega)).updN u258 (by omega)).ext (e262.trans e266)).updN u272 (by omega)).ext (e276.trans e282)).updN u289 (by omega)).ext e293).updN u300 (by omega)).ext e354) [.bool sb,.slice Ab nb cb] rfl rfl rfl (pi_done rfl (Ext.refl _) rfl))
     · 
      intro v355 e356
      have hw14:=hw13.trans e356
      refine deps_cons rfl rfl fun x357 y358 h359 e360 f361=>?_
      obtain⟨s362,A362,n362,c362,rfl,z362⟩:=h359
      have z362:=z362.ext f361
      refine dk rfl rfl (deps_nil ?_)
      have L368:ln ((r0-(x*((-m0)%(y.tdiv r0)))).tdiv y)≤34359738369:=Nat.le_trans (ln_tdiv _ _) L304
      refine cl (vs:= [.agg #[.bool s362,.slice A362 n362 c362],.agg #[.bool sb,.slice Ab nb cb]]) hw14 (g_zint_Exact_ok e356.size z362.zi (z362.le (lx_ L304 rfl)) (hy.ext hw14) (lx_ lb rfl) h0 HD.2.2.2.2.1) rfl (by kernel_rfl) fun xr371 v369 r371 e370 hw15=>?_
      obtain⟨_,_,rfl,⟨s373,A373,n373,c373,rfl,z373⟩,rfl⟩:=r371
      exact pi_done rfl e370 ⟨_,_,rfl,⟨_,_,_,_,rfl,z373⟩,rfl⟩
     · 
      intro v374 e375
      refine deps_cons rfl rfl fun x376 y377 h378 e379 f380=>?_
      obtain⟨_,_,rfl,⟨s382,A382,n382,c382,rfl,z382⟩,rfl⟩:=h378
      have z382:=z382.ext f380
      refine deps_nil (mv 1 rfl ?_)
      exact pi_done rfl (Ext.refl _) ⟨_,_,rfl,⟨_,_,_,_,rfl,z382⟩,rfl⟩
     · 
      intro v383 e384
      refine deps_cons rfl rfl fun x385 y386 h387 e388 f389=>?_
      obtain⟨_,_,rfl,⟨s391,A391,n391,c391,rfl,z391⟩,rfl⟩:=h387
      have z391:=z391.ext f389
      refine deps_nil ?_
      exact⟨.agg #[.bool s391,.slice A391 n391 c391],rfl,rfl,fun _=>by kernel_rfl,⟨_,_,_,_,rfl,z391⟩⟩
     · 
      intro v392 e393
      refine deps_cons rfl rfl fun x394 y395 h396 e397 f398=>?_
      obtain⟨_,_,rfl,⟨s400,A400,n400,c400,rfl,z400⟩,rfl⟩:=h396
      have z400:=z400.ext f398
      refine deps_nil ?_
      exact⟨.int .i64 0,rfl,rfl,fun _=>by kernel_rfl,rfl⟩
     · 
      intro v401 e402
      have hw14:=hw13.trans e402
      refine dk rfl rfl (dk rfl rfl (dk rfl rfl (deps_cons rfl rfl fun x418 y419 h420 e421 f422=>?_)))
      obtain⟨s423,A423,n423,c423,rfl,z423⟩:=h420
      have z423:=z423.ext f422
      refine deps_cons rfl rfl fun x424 y425 h426 e427 f428=>?_
      obtain⟨s429,A429,n429,c429,rfl,z429⟩:=h426
      have z429:=z429.ext f428
      refine dk rfl rfl (deps_cons rfl rfl fun x435 y436 h437 e438 f439=>?_)
      obtain⟨_,_,rfl,⟨s441,A441,n441,c441,rfl,z441⟩,rfl⟩:=h437
      have z441:=z441.ext f439
      have nw_z441:=z441.new
      replace z441:=z441.mono hw13.size
      refine deps_cons rfl rfl fun x442 y443 h444 e445 f446=>?_
      obtain⟨_,_,rfl,⟨s448,A448,n448,c448,rfl,z448⟩,rfl⟩:=h444
      have z448:=z448.ext f446
      have nw_z448:=z448.new
      replace z448:=z448.mono hw13.size
      refine deps_cons rfl rfl fun x449 y450 h451 e452 f453=>?_
      obtain⟨s454,A454,n454,c454,rfl,z454⟩:=h451
      have z454:=z454.ext f453
      have nw_z454:=z454.new
      replace z454:=z454.mono hw13.size
      refine dk rfl rfl (deps_nil ?_)
      have hb461:=((((((((((b_6.ext (e245.trans e248)).updN u252 (by omega)).updN u258 (by omega)).ext (e262.trans e266)).updN u272 (by omega)).ext (e276.trans e282)).updN u289 (by omega)).ext e293).updN u300 (by omega)).ext e402)
      refine so aggInt hb461 [.bool s454,.slice A454 n454 c454] hw14 ge28 rfl rfl rfl rfl fun v460 hb462 u463 hw15=>(wl_nil (eo_np (eo_then (cw_seq (cw_keep [(2,.pointer (some ⟨g1,0,none⟩)),(3,.pointer (some ⟨g6,0,none⟩)),(4,.pointer (some ⟨g12,0,none⟩)),(5,.pointer (some ⟨g18,0,none⟩)),(6,.pointer (some ⟨g24,0,none⟩)),(7,.pointer (some ⟨g216,0,none⟩)),(8,.pointer (some ⟨g233,0,none⟩)),(32,.pointer (some ⟨g216,2,none⟩)),(33,.agg #[.bool k1.s,.slice k1.A k1.n k1.c]),(34,.int .i64 (scmp r1 0)),(35,.bool false),(60,.pointer (some ⟨g216,0,none⟩)),(61,.agg #[.bool k0.s,.slice k0.A k0.n k0.c]),(62,.pointer (some ⟨g233,0,none⟩)),(63,.agg #[.bool k2.s,.slice k2.A k2.n k2.c]),(64,.agg #[.bool sa,.slice Aa na ca]),(65,.int .i64 (scmp x 0)),(66,.bool true),(67,.agg #[.bool k2.s,.slice k2.A k2.n k2.c]),(68,.agg #[.bool s268,.slice A268 n268 c268]),(70,.agg #[.bool sb,.slice Ab nb cb]),(71,.agg #[.bool k0.s,.slice k0.A k0.n k0.c]),(72,.tuple #[.agg #[.bool s279,.slice A279 n279 c279],I0]),(69,.tuple #[.agg #[.bool s279,.slice A279 n279 c279],I0]),(73,.agg #[.bool s279,.slice A279 n279 c279]),(74,.int .i64 0),(13,.pointer (some ⟨g280,0,none⟩)),(14,.int .i64 0),(76,.agg #[.bool s268,.slice A268 n268 c268]),(77,.agg #[.bool s279,.slice A279 n279 c279]),(78,.tuple #[.agg #[.bool s296,.slice A296 n296 c296],I0]),(75,.tuple #[.agg #[.bool s296,.slice A296 n296 c296],I0]),(79,.agg #[.bool s296,.slice A296 n296 c296]),(80,.int .i64 0),(82,.agg #[.bool k0.s,.slice k0.A k0.n k0.c]),(83,.agg #[.bool sa,.slice Aa na ca]),(84,.agg #[.bool s296,.slice A296 n296 c296]),(85,.agg #[.bool s423,.slice A423 n423 c423]),(86,.agg #[.bool s429,.slice A429 n429 c429]),(87,.agg #[.bool sb,.slice Ab nb cb]),(88,.tuple #[.agg #[.bool s441,.slice A441 n441 c441],I0]),(81,.tuple #[.agg #[.bool s448,.slice A448 n448 c448],I0]),(89,.agg #[.bool s454,.slice A454 n454 c454]),(90,.int .i64 0)] ⟨rfl,rfl,rfl,rfl,rfl,rfl,rfl,rfl,rfl,rfl,rfl,rfl,rfl,rfl,rfl,rfl,rfl,rfl,rfl,rfl,rfl,rfl,rfl,rfl,rfl,rfl,rfl,rfl,rfl,rfl,rfl,rfl,rfl,rfl,rfl,rfl,rfl,rfl,rfl,rfl,rfl,rfl,rfl,rfl,trivial⟩ ?_)))))
      obtain⟨v465,hv,e466⟩:∃v,v=v460.drew∧Ext v460 v:=⟨_,rfl,(Ext.refl _).drew⟩
      have hw16:=hw15.trans e466
      have hb468:=((((((((((hb251.updN u258 (by omega)).ext (e262.trans e266)).updN u272 (by omega)).ext (e276.trans e282)).updN u289 (by omega)).ext e293).updN u300 (by omega)).ext e402).updN u463 (by omega)).ext e466)
      obtain⟨v467,hr472,hb469,u470,hs471⟩:=run_stored (P:=Tryz.prog) (us:= [.bool k0.s,.slice k0.A k0.n k0.c]) (off:=0) aggInt rfl hb468 (bq rfl) rfl [.bool k0.s,.slice k0.A k0.n k0.c] rfl
      have hw17:=u470.ext hw16 ge16
      have hb474:=((((hb299.ext e402).updN u463 (by omega)).ext e466).updN u470 (by omega))
      obtain⟨v473,hr478,hb475,u476,hs477⟩:=run_stored (P:=Tryz.prog) (us:= [.bool s296,.slice A296 n296 c296]) (off:=0) aggInt rfl hb474 (bq rfl) rfl [.bool s296,.slice A296 n296 c296] rfl
      have hw18:=u476.ext hw17 ge22
      have hb480:=(((hb462.ext e466).updN u470 (by omega)).updN u476 (by omega))
      obtain⟨v479,hr484,hb481,u482,hs483⟩:=run_stored (P:=Tryz.prog) (us:= [.bool s454,.slice A454 n454 c454]) (off:=0) aggInt rfl hb480 (bq rfl) rfl [.bool s454,.slice A454 n454 c454] rfl
      have hw19:=u482.ext hw18 ge28
      refine cw_det mix (w:=v465) [.agg #[.bool k0.s,.slice k0.A k0.n k0.c],.agg #[.bool s296,.slice A296 n296 c296],.agg #[.bool s454,.slice A454 n454 c454],undef,undef,undef] [v465,v467,v473,v479] [3,4,5] [[],[],[],[0],[1],[2]] [[],[],[],[0],[0,1,3],[0,1,2,3,4]] [(0,0),(1,0),(1,1),(2,0),(2,1),(2,2),(3,0),(4,1),(5,2)] rfl hv ?_ ?_
      · 
       refine dobs_val _ rfl rfl rfl rfl rfl (rd_load rfl (load_agg aggInt ((((((((((hb251.updN u258 (by omega)).ext (e262.trans e266)).updN u272 (by omega)).ext (e276.trans e282)).updN u289 (by omega)).ext e293).updN u300 (by omega)).ext e402).updN u463 (by omega)).ext e466) [.bool k0.s,.slice k0.A k0.n k0.c] rfl (bq rfl) rfl)) (dobs_val _ rfl rfl rfl rfl rfl (rd_load rfl (load_agg aggInt (((hb299.ext e402).updN u463 (by omega)).ext e466) [.bool s296,.slice A296 n296 c296] rfl (bq rfl) rfl)) (dobs_val _ rfl rfl rfl rfl rfl (rd_load rfl (load_agg aggInt ((((hb299.ext e402).updN u463 (by omega)).ext e466).updN u470 (by omega)) [.bool s296,.slice A296 n296 c296] rfl (bq rfl) rfl)) (dobs_val _ rfl rfl rfl rfl rfl (rd_load rfl (load_agg aggInt (hb462.ext e466) [.bool s454,.slice A454 n454 c454] rfl (bq rfl) rfl)) (dobs_val _ rfl rfl rfl rfl rfl (rd_load rfl (load_agg aggInt ((hb462.ext e466).updN u470 (by omega)) [.bool s454,.slice A454 n454 c454] rfl (bq rfl) rfl)) (dobs_val _ rfl rfl rfl rfl rfl (rd_load rfl (load_agg aggInt (((hb462.ext e466).updN u470 (by omega)).updN u476 (by omega)) [.bool s454,.slice A454 n454 c454] rfl (bq rfl) rfl)) (dobs_sto _ rfl rfl rfl rfl rfl (rd_store rfl rfl hr472) (dobs_sto _ rfl rfl rfl rfl rfl (rd_store rfl rfl hr478) (dobs_sto _ rfl rfl rfl rfl rfl (rd_store rfl rfl hr484) ?_))))))))
       exact dobs_nil
      clear hv
      refine eo_keep [(2,.pointer (some ⟨g1,0,none⟩)),(3,.pointer (some ⟨g6,0,none⟩)),(4,.pointer (some ⟨g12,0,none⟩)),(5,.pointer (some ⟨g18,0,none⟩)),(6,.pointer (some ⟨g24,0,none⟩)),(7,.pointer (some ⟨g216,0,none⟩)),(8,.pointer (some ⟨g233,0,none⟩)),(32,.pointer (some ⟨g216,2,none⟩)),(33,.agg #[.bool k1.s,.slice k1.A k1.n k1.c]),(34,.int .i64 (scmp r1 0)),(35,.bool false),(60,.pointer (some ⟨g216,0,none⟩)),(61,.agg #[.bool k0.s,.slice k0.A k0.n k0.c]),(62,.pointer (some ⟨g233,0,none⟩)),(63,.agg #[.bool k2.s,.slice k2.A k2.n k2.c]),(64,.agg #[.bool sa,.slice Aa na ca]),(65,.int .i64 (scmp x 0)),(66,.bool true),(67,.agg #[.bool k2.s,.slice k2.A k2.n k2.c]),(68,.agg #[.bool s268,.slice A268 n268 c268]),(70,.agg #[.bool sb,.slice Ab nb cb]),(71,.agg #[.bool k0.s,.slice k0.A k0.n k0.c]),(72,.tuple #[.agg #[.bool s279,.slice A279 n279 c279],I0]),(69,.tuple #[.agg #[.bool s279,.slice A279 n279 c279],I0]),(73,.agg #[.bool s279,.slice A279 n279 c279]),(74,.int .i64 0),(13,.pointer (some ⟨g280,0,none⟩)),(14,.int .i64 0),(76,.agg #[.bool s268,.slice A268 n268 c268]),(77,.agg #[.bool s279,.slice A279 n279 c279]),(78,.tuple #[.agg #[.bool s296,.slice A296 n296 c296],I0]),(75,.tuple #[.agg #[.bool s296,.slice A296 n296 c296],I0]),(79,.agg #[.bool s296,.slice A296 n296 c296]),(80,.int .i64 0),(82,.agg #[.bool k0.s,.slice k0.A k0.n k0.c]),(83,.agg #[.bool sa,.slice Aa na ca]),(84,.agg #[.bool s296,.slice A296 n296 c296]),(85,.agg #[.bool s423,.slice A423 n423 c423]),(86,.agg #[.bool s429,.slice A429 n429 c429]),(87,.agg #[.bool sb,.slice Ab nb cb]),(88,.tuple #[.agg #[.bool s441,.slice A441 n441 c441],I0]),(81,.tuple #[.agg #[.bool s448,.slice A448 n448 c448],I0]),(89,.agg #[.bool s454,.slice A454 n454 c454]),(90,.int .i64 0),(91,.agg #[.bool k0.s,.slice k0.A k0.n k0.c]),(92,.agg #[.bool s296,.slice A296 n296 c296]),(93,.agg #[.bool s454,.slice A454 n454 c454])] ⟨rfl,rfl,rfl,rfl,rfl,rfl,rfl,rfl,rfl,rfl,rfl,rfl,rfl,rfl,rfl,rfl,rfl,rfl,rfl,rfl,rfl,rfl,rfl,rfl,rfl,rfl,rfl,rfl,rfl,rfl,rfl,rfl,rfl,rfl,rfl,rfl,rfl,rfl,rfl,rfl,rfl,rfl,rfl,rfl,rfl,rfl,rfl,trivial⟩ (eo_then (cw_ret (eo_ret [.agg #[.bool k0.s,.slice k0.A k0.n k0.c],.agg #[.bool s296,.slice A296 n296 c296],.agg #[.bool s454,.slice A454 n454 c454]] rfl ⟨⟨_,rfl,load_agg aggInt ((hb469.updN u476 (by omega)).updN u482 (by omega)) [.bool k0.s,.slice k0.A k0.n k0.c] rfl (bq rfl) rfl⟩,⟨_,rfl,load_agg aggInt (hb475.updN u482 (by omega)) [.bool s296,.slice A296 n296 c296] rfl (bq rfl) rfl⟩,⟨_,rfl,load_agg aggInt hb481 [.bool s454,.slice A454 n454 c454] rfl (bq rfl) rfl⟩,trivial⟩ ?_)))
      exact⟨_,_,HD.2.2.2.2.2,_,rfl,⟨_,_,_,rfl,⟨_,_,_,_,rfl,((((((((((((((((zk0.ext (e245.trans e248)).updT hb250 u252).updT hb256 u258).ext (e262.trans e266)).updT hb270 u272).ext (e276.trans e282)).updT hb283 u289).ext e293).updT hb298 u300).ext e402).updT hb461 u463).ext e466).updT hb468 u470).updT hb474 u476).updT hb480 u482)).cast HD.1⟩,⟨_,_,_,_,rfl,(((((((z296.updT hb298 u300).ext e402).updT hb461 u463).ext e466).updT hb468 u470).updT hb474 u476).updT hb480 u482)⟩,⟨_,_,_,_,rfl,(((((z454.updT hb461 u463).ext e466).updT hb468 u470).updT hb474 u476).updT hb480 u482)⟩,apGX,ap_lt hqg2 nw_z454,ap_lt hqx2 nw_z454⟩,hw19⟩
    · 
     have HD:=hI0.done h0 (z:=m0) (by rw [if_neg hx0])
     refine cw_region (lo aggInt (((b_2.ext (e245.trans e248)).updN u252 (by omega)).updN u258 (by omega)) [.bool sa,.slice Aa na ca] rfl rfl rfl (cl (vs:= [.agg #[.bool sa,.slice Aa na ca]]) hw5 (g_zint_Sign (hx.ext hw5) (lx_ la rfl)) rfl (by kernel_rfl) fun xr487 v485 r487 e486 hw6=>?_))
     obtain rfl:=r487
     refine wl_cmp rfl rfl rfl false (scmp_lt_f (by omega)) (by decide) (ne_ (cw_false rfl (cw_skip (eo_then (sr (lo aggInt ((((b_3.ext (e245.trans e248)).updN u252 (by omega)).updN u258 (by omega)).ext e486) [.bool sb,.slice Ab nb cb] rfl rfl rfl (lo aggInt ((hb251.updN u258 (by omega)).ext e486) [.bool k0.s,.slice k0.A k0.n k0.c] rfl rfl rfl ?_)))))))
     have L488:ln (y.tdiv r0)≤17179869184:=Nat.le_trans (ln_tdiv _ _) Ly
     refine cl (vs:= [.agg #[.bool sb,.slice Ab nb cb],.agg #[.bool k0.s,.slice k0.A k0.n k0.c]]) hw6 (g_zint_Exact_ok hw6.size (hy.ext hw6) (lx_ lb rfl) ((((zk0.ext (e245.trans e248)).updT hb250 u252).updT hb256 u258).ext e486).zi (zk0.le (lx_ Lr0 rfl)) HD.2.1 HD.2.2.2.1) rfl (by kernel_rfl) fun xr491 v489 r491 e490 hw7=>?_
     obtain⟨_,_,rfl,⟨s493,A493,n493,c493,rfl,z493⟩,rfl⟩:=r491
     refine mv 1 rfl (pu (v:= .agg #[.bool s493,.slice A493 n493 c493]) rfl (by kernel_rfl) (pu (v:= .int .i64 0) rfl (by kernel_rfl) (alq [F0,S0] hw7 ((((b_8.ext (e245.trans e248)).updN u252 (by omega)).updN u258 (by omega)).ext (e486.trans e490)).lt (fun _=>by kernel_rfl) rfl fun g494 v495 hb497 ge498 q499 e496 hw8=>(so aggInt hb497 [.bool s493,.slice A493 n493 c493] hw8 ge498 rfl rfl rfl rfl fun v500 hb502 u503 hw9=>(mv 1 rfl (ne_ (cw_seq ?_)))))))
     have hqg:=(((((zk0.ext (e245.trans e248)).updT hb250 u252).updT hb256 u258).ext (e486.trans (e490.trans e496))).updT hb497 u503).old
     refine cw_region (lo aggInt ((hb257.ext (e486.trans (e490.trans e496))).updN u503 (by omega)) [.bool k2.s,.slice k2.A k2.n k2.c] rfl rfl rfl (lo aggInt hb502 [.bool s493,.slice A493 n493 c493] rfl rfl rfl ?_))
     have L505:ln (m0%(y.tdiv r0))≤17179869184:=Nat.le_trans (ln_emod HD.2.2.1) L488
     refine cl (vs:= [.agg #[.bool k2.s,.slice k2.A k2.n k2.c],.agg #[.bool s493,.slice A493 n493 c493]]) hw9 (g_zint_Mod (Nat.le_refl _) (((((zk2.ext (e245.trans e248)).updT hb250 u252).updT hb256 u258).ext (e486.trans (e490.trans e496))).updT hb497 u503).zi (zk2.le (lx_ Lm0 rfl)) ((z493.ext e496).updT hb497 u503).zi (z493.le (lx_ L488 rfl)) HD.2.2.1) rfl (by kernel_rfl) fun xr508 v506 r508 e507 hw10=>?_
     obtain⟨_,_,rfl,⟨s510,A510,n510,c510,rfl,z510⟩,r509_1⟩:=r508
     have nw_z510:=z510.new
     replace z510:=z510.mono hw9.size
     obtain rfl:=r509_1
     refine mv 1 rfl (pu (v:= .agg #[.bool s510,.slice A510 n510 c510]) rfl (by kernel_rfl) (pu (v:= .int .i64 0) rfl (by kernel_rfl) ?_))
     have hb512:=(((hb257.ext (e486.trans (e490.trans e496))).updN u503 (by omega)).ext e507)
     refine so aggInt hb512 [.bool s510,.slice A510 n510 c510] hw10 ge22 rfl rfl rfl rfl fun v511 hb513 u514 hw11=>(ne_ (cw_seq ?_))
     have apGX:=ap_lt hqg nw_z510
     have hqg2:=(((((((zk0.ext (e245.trans e248)).updT hb250 u252).updT hb256 u258).ext (e486.trans (e490.trans e496))).updT hb497 u503).ext e507).updT hb512 u514).old
     have hqx2:=(z510.updT hb512 u514).old
     have L516:ln (x*(m0%(y.tdiv r0)))≤34359738368:=Nat.le_trans (ln_mul Lx L505) (by decide)
     have L518:ln (r0-(x*(m0%(y.tdiv r0))))≤34359738369:=Nat.le_trans (ln_sub Lr0 L516) (by decide)
     have L520:ln ((r0-(x*(m0%(y.tdiv r0)))).tdiv y)≤34359738369:=Nat.le_trans (ln_tdiv _ _) L518
     refine cw_draw mix 10 [8,9] [Is (.agg #[.bool k0.s,.slice k0.A k0.n k0.c]),Is (.agg #[.bool sa,.slice Aa na ca]),Is (.agg #[.bool s510,.slice A510 n510 c510]),ZR w.heap.size (x*(m0%(y.tdiv r0))),ZR w.heap.size (r0-(x*(m0%(y.tdiv r0)))),Is (.agg #[.bool sb,.slice Ab nb cb]),T2 (ZR v511.heap.size ((r0-(x*(m0%(y.tdiv r0)))).tdiv y)) (Is (.int .i64 0)),T2 (ZR v511.heap.size ((r0-(x*(m0%(y.tdiv r0)))).tdiv y)) (Is (.int .i64 0)),ZR v511.heap.size ((r0-(x*(m0%(y.tdiv r0)))).tdiv y),Is (.int .i64 0)] [[],[],[],[1,2],[0,3],[],[4,5],[6],[7],[7]] [[],[],[],[1,2],[0,1,2,3],[],[0,1,2,3,4,5],[0,1,2,3,4,5,6],[0,1,2,3,4,5,6,7],[0,1,2,3,4,5,6,7],[0,1,2,3,4,5,6,7,8]] rfl
      (obs_cons rfl rfl (hob rfl rfl ?_) (obs_cons rfl rfl (hob rfl rfl ?_) (obs_cons rfl rfl (hob rfl rfl ?_) (obs_cons rfl rfl (hob rfl rfl ?_) (obs_cons rfl rfl (hob rfl rfl ?_) (obs_cons rfl rfl (hob rfl rfl ?_) (obs_cons rfl rfl (hob rfl rfl ?_) (obs_cons rfl rfl (hob rfl rfl ?_) (obs_float rfl rfl (fob rfl ?_) (obs_float rfl rfl (fob rfl ?_) obs_nil)))))))))) ?_
     · 
      exact fun _ e527=>deps_nil (lo aggInt ((((((hb251.updN u258 (by omega)).ext (e486.trans (e490.trans e496))).updN u503 (by omega)).ext e507).updN u514 (by omega)).ext e527) [.bool k0.s,.slice k0.A k0.n k0.c] rfl rfl rfl (pi_done rfl (Ext.refl _) rfl))
     · 
      exact fun _ e529=>deps_nil (lo aggInt ((((((((b_2.ext (e245.trans e248)).updN u252 (by omega)).updN u258 (by omega)).ext (e486.trans (e490.trans e496))).updN u503 (by omega)).ext e507).updN u514 (by omega)).ext e529) [.bool sa,.slice Aa na ca] rfl rfl rfl (pi_done rfl (Ext.refl _) rfl))
     · 
      exact fun _ e531=>deps_nil (lo aggInt (hb513.ext e531) [.bool s510,.slice A510 n510 c510] rfl rfl rfl (pi_done rfl (Ext.refl _) rfl))
     · 
      intro v532 e533
      have hw12:=hw11.trans e533
      refine dk rfl rfl (dk rfl rfl (deps_nil ?_))
      have L544:ln (x*(m0%(y.tdiv r0)))≤34359738368:=Nat.le_trans (ln_mul Lx L505) (by decide)
      refine cl (vs:= [.agg #[.bool sa,.slice Aa na ca],.agg #[.bool s510,.slice A510 n510 c510]]) hw12 (g_zint_Mul hw12.size (hx.ext hw12) (lx_ la rfl) ((z510.updT hb512 u514).ext e533).zi (z510.le (lx_ L505 rfl))) rfl (by kernel_rfl) fun xr547 v545 r547 e546 hw13=>?_
      obtain⟨s548,A548,n548,c548,rfl,z548⟩:=r547
      exact pi_done rfl e546 ⟨_,_,_,_,rfl,z548⟩
     · 
      intro v549 e550
      have hw12:=hw11.trans e550
      refine dk rfl rfl (deps_cons rfl rfl fun x556 y557 h558 e559 f560=>?_)
      obtain⟨s561,A561,n561,c561,rfl,z561⟩:=h558
      have z561:=z561.ext f560
      refine deps_nil ?_
      have L562:ln (r0-(x*(m0%(y.tdiv r0))))≤34359738369:=Nat.le_trans (ln_sub Lr0 L516) (by decide)
      refine cl (vs:= [.agg #[.bool k0.s,.slice k0.A k0.n k0.c],.agg #[.bool s561,.slice A561 n561 c561]]) hw12 (g_zint_Sub hw12.size ((((((((zk0.ext (e245.trans e248)).updT hb250 u252).updT hb256 u258).ext (e486.trans (e490.trans e496))).updT hb497 u503).ext e507).updT hb512 u514).ext e550).zi (zk0.le (lx_ Lr0 rfl)) z561.zi (z561.le (lx_ L516 rfl))) rfl (by kernel_rfl) fun xr565 v563 r565 e564 hw13=>?_
      obtain⟨s566,A566,n566,c566,rfl,z566⟩:=r565
      exact pi_done rfl e564 ⟨_,_,_,_,rfl,z566⟩
     · 
      exact fun _ e568=>deps_nil (lo aggInt ((((((((b_3.ext (e245.trans e248)).updN u252 (by omega)).updN u258 (by omega)).ext (e486.trans (e490.trans e496))).updN u503 (by omega)).ext e507).updN u514 (by omega)).ext e568) [.bool sb,.slice Ab nb cb] rfl rfl rfl (pi_done rfl (Ext.refl _) rfl))
     · 
      intro v569 e570
      have hw12:=hw11.trans e570
      refine deps_cons rfl rfl fun x571 y572 h573 e574 f575=>?_
      obtain⟨s576,A576,n576,c576,rfl,z576⟩:=h573
      have z576:=z576.ext f575
      refine dk rfl rfl (deps_nil ?_)
      have L582:ln ((r0-(x*(m0%(y.tdiv r0)))).tdiv y)≤34359738369:=Nat.le_trans (ln_tdiv _ _) L518
      refine cl (vs:= [.agg #[.bool s576,.slice A576 n576 c576],.agg #[.bool sb,.slice Ab nb cb]]) hw12 (g_zint_Exact_ok e570.size z576.zi (z576.le (lx_ L518 rfl)) (hy.ext hw12) (lx_ lb rfl) h0 HD.2.2.2.2.1) rfl (by kernel_rfl) fun xr585 v583 r585 e584 hw13=>?_
      obtain⟨_,_,rfl,⟨s587,A587,n587,c587,rfl,z587⟩,rfl⟩:=r585
      exact pi_done rfl e584 ⟨_,_,rfl,⟨_,_,_,_,rfl,z587⟩,rfl⟩
     · 
      intro v588 e589
      refine deps_cons rfl rfl fun x590 y591 h592 e593 f594=>?_
      obtain⟨_,_,rfl,⟨s596,A596,n596,c596,rfl,z596⟩,rfl⟩:=h592
      have z596:=z596.ext f594
      refine deps_nil (mv 1 rfl ?_)
      exact pi_done rfl (Ext.refl _) ⟨_,_,rfl,⟨_,_,_,_,rfl,z596⟩,rfl⟩
     · 
      intro v597 e598
      refine deps_cons rfl rfl fun x599 y600 h601 e602 f603=>?_
      obtain⟨_,_,rfl,⟨s605,A605,n605,c605,rfl,z605⟩,rfl⟩:=h601
      have z605:=z605.ext f603
      refine deps_nil ?_
      exact⟨.agg #[.bool s605,.slice A605 n605 c605],rfl,rfl,fun _=>by kernel_rfl,⟨_,_,_,_,rfl,z605⟩⟩
     · 
      intro v606 e607
      refine deps_cons rfl rfl fun x608 y609 h610 e611 f612=>?_
      obtain⟨_,_,rfl,⟨s614,A614,n614,c614,rfl,z614⟩,rfl⟩:=h610
      have z614:=z614.ext f612
      refine deps_nil ?_
      exact⟨.int .i64 0,rfl,rfl,fun _=>by kernel_rfl,rfl⟩
     · 
      intro v615 e616
      have hw12:=hw11.trans e616
      refine dk rfl rfl (dk rfl rfl (dk rfl rfl (deps_cons rfl rfl fun x632 y633 h634 e635 f636=>?_)))
      obtain⟨s637,A637,n637,c637,rfl,z637⟩:=h634
      have z637:=z637.ext f636
      refine deps_cons rfl rfl fun x638 y639 h640 e641 f642=>?_
      obtain⟨s643,A643,n643,c643,rfl,z643⟩:=h640
      have z643:=z643.ext f642
      refine dk rfl rfl (deps_cons rfl rfl fun x649 y650 h651 e652 f653=>?_)
      obtain⟨_,_,rfl,⟨s655,A655,n655,c655,rfl,z655⟩,rfl⟩:=h651
      have z655:=z655.ext f653
      have nw_z655:=z655.new
      replace z655:=z655.mono hw11.size
      refine deps_cons rfl rfl fun x656 y657 h658 e659 f660=>?_
      obtain⟨_,_,rfl,⟨s662,A662,n662,c662,rfl,z662⟩,rfl⟩:=h658
      have z662:=z662.ext f660
      have nw_z662:=z662.new
      replace z662:=z662.mono hw11.size
      refine deps_cons rfl rfl fun x663 y664 h665 e666 f667=>?_
      obtain⟨s668,A668,n668,c668,rfl,z668⟩:=h665
      have z668:=z668.ext f667
      have nw_z668:=z668.new
      replace z668:=z668.mono hw11.size
      refine dk rfl rfl (deps_nil ?_)
      have hb675:=((((((((b_6.ext (e245.trans e248)).updN u252 (by omega)).updN u258 (by omega)).ext (e486.trans (e490.trans e496))).updN u503 (by omega)).ext e507).updN u514 (by omega)).ext e616)
      refine so aggInt hb675 [.bool s668,.slice A668 n668 c668] hw12 ge28 rfl rfl rfl rfl fun v674 hb676 u677 hw13=>(wl_nil (eo_np (eo_then (cw_seq (cw_keep [(2,.pointer (some ⟨g1,0,none⟩)),(3,.pointer (some ⟨g6,0,none⟩)),(4,.pointer (some ⟨g12,0,none⟩)),(5,.pointer (some ⟨g18,0,none⟩)),(6,.pointer (some ⟨g24,0,none⟩)),(7,.pointer (some ⟨g216,0,none⟩)),(8,.pointer (some ⟨g233,0,none⟩)),(32,.pointer (some ⟨g216,2,none⟩)),(33,.agg #[.bool k1.s,.slice k1.A k1.n k1.c]),(34,.int .i64 (scmp r1 0)),(35,.bool false),(60,.pointer (some ⟨g216,0,none⟩)),(61,.agg #[.bool k0.s,.slice k0.A k0.n k0.c]),(62,.pointer (some ⟨g233,0,none⟩)),(63,.agg #[.bool k2.s,.slice k2.A k2.n k2.c]),(64,.agg #[.bool sa,.slice Aa na ca]),(65,.int .i64 (scmp x 0)),(66,.bool false),(70,.agg #[.bool sb,.slice Ab nb cb]),(71,.agg #[.bool k0.s,.slice k0.A k0.n k0.c]),(72,.tuple #[.agg #[.bool s493,.slice A493 n493 c493],I0]),(69,.tuple #[.agg #[.bool s493,.slice A493 n493 c493],I0]),(73,.agg #[.bool s493,.slice A493 n493 c493]),(74,.int .i64 0),(13,.pointer (some ⟨g494,0,none⟩)),(14,.int .i64 0),(76,.agg #[.bool k2.s,.slice k2.A k2.n k2.c]),(77,.agg #[.bool s493,.slice A493 n493 c493]),(78,.tuple #[.agg #[.bool s510,.slice A510 n510 c510],I0]),(75,.tuple #[.agg #[.bool s510,.slice A510 n510 c510],I0]),(79,.agg #[.bool s510,.slice A510 n510 c510]),(80,.int .i64 0),(82,.agg #[.bool k0.s,.slice k0.A k0.n k0.c]),(83,.agg #[.bool sa,.slice Aa na ca]),(84,.agg #[.bool s510,.slice A510 n510 c510]),(85,.agg #[.bool s637,.slice A637 n637 c637]),(86,.agg #[.bool s643,.slice A643 n643 c643]),(87,.agg #[.bool sb,.slice Ab nb cb]),(88,.tuple #[.agg #[.bool s655,.slice A655 n655 c655],I0]),(81,.tuple #[.agg #[.bool s662,.slice A662 n662 c662],I0]),(89,.agg #[.bool s668,.slice A668 n668 c668]),(90,.int .i64 0)] ⟨rfl,rfl,rfl,rfl,rfl,rfl,rfl,rfl,rfl,rfl,rfl,rfl,rfl,rfl,rfl,rfl,rfl,rfl,rfl,rfl,rfl,rfl,rfl,rfl,rfl,rfl,rfl,rfl,rfl,rfl,rfl,rfl,rfl,rfl,rfl,rfl,rfl,rfl,rfl,rfl,rfl,rfl,trivial⟩ ?_)))))
      obtain⟨v679,hv,e680⟩:∃v,v=v674.drew∧Ext v674 v:=⟨_,rfl,(Ext.refl _).drew⟩
      have hw14:=hw13.trans e680
      have hb682:=((((((((hb251.updN u258 (by omega)).ext (e486.trans (e490.trans e496))).updN u503 (by omega)).ext e507).updN u514 (by omega)).ext e616).updN u677 (by omega)).ext e680)
      obtain⟨v681,hr686,hb683,u684,hs685⟩:=run_stored (P:=Tryz.prog) (us:= [.bool k0.s,.slice k0.A k0.n k0.c]) (off:=0) aggInt rfl hb682 (bq rfl) rfl [.bool k0.s,.slice k0.A k0.n k0.c] rfl
      have hw15:=u684.ext hw14 ge16
      have hb688:=((((hb513.ext e616).updN u677 (by omega)).ext e680).updN u684 (by omega))
      obtain⟨v687,hr692,hb689,u690,hs691⟩:=run_stored (P:=Tryz.prog) (us:= [.bool s510,.slice A510 n510 c510]) (off:=0) aggInt rfl hb688 (bq rfl) rfl [.bool s510,.slice A510 n510 c510] rfl
      have hw16:=u690.ext hw15 ge22
      have hb694:=(((hb676.ext e680).updN u684 (by omega)).updN u690 (by omega))
      obtain⟨v693,hr698,hb695,u696,hs697⟩:=run_stored (P:=Tryz.prog) (us:= [.bool s668,.slice A668 n668 c668]) (off:=0) aggInt rfl hb694 (bq rfl) rfl [.bool s668,.slice A668 n668 c668] rfl
      have hw17:=u696.ext hw16 ge28
      refine cw_det mix (w:=v679) [.agg #[.bool k0.s,.slice k0.A k0.n k0.c],.agg #[.bool s510,.slice A510 n510 c510],.agg #[.bool s668,.slice A668 n668 c668],undef,undef,undef] [v679,v681,v687,v693] [3,4,5] [[],[],[],[0],[1],[2]] [[],[],[],[0],[0,1,3],[0,1,2,3,4]] [(0,0),(1,0),(1,1),(2,0),(2,1),(2,2),(3,0),(4,1),(5,2)] rfl hv ?_ ?_
      · 
       refine dobs_val _ rfl rfl rfl rfl rfl (rd_load rfl (load_agg aggInt ((((((((hb251.updN u258 (by omega)).ext (e486.trans (e490.trans e496))).updN u503 (by omega)).ext e507).updN u514 (by omega)).ext e616).updN u677 (by omega)).ext e680) [.bool k0.s,.slice k0.A k0.n k0.c] rfl (bq rfl) rfl)) (dobs_val _ rfl rfl rfl rfl rfl (rd_load rfl (load_agg aggInt (((hb513.ext e616).updN u677 (by omega)).ext e680) [.bool s510,.slice A510 n510 c510] rfl (bq rfl) rfl)) (dobs_val _ rfl rfl rfl rfl rfl (rd_load rfl (load_agg aggInt ((((hb513.ext e616).updN u677 (by omega)).ext e680).updN u684 (by omega)) [.bool s510,.slice A510 n510 c510] rfl (bq rfl) rfl)) (dobs_val _ rfl rfl rfl rfl rfl (rd_load rfl (load_agg aggInt (hb676.ext e680) [.bool s668,.slice A668 n668 c668] rfl (bq rfl) rfl)) (dobs_val _ rfl rfl rfl rfl rfl (rd_load rfl (load_agg aggInt ((hb676.ext e680).updN u684 (by omega)) [.bool s668,.slice A668 n668 c668] rfl (bq rfl) rfl)) (dobs_val _ rfl rfl rfl rfl rfl (rd_load rfl (load_agg aggInt (((hb676.ext e680).updN u684 (by omega)).updN u690 (by omega)) [.bool s668,.slice A668 n668 c668] rfl (bq rfl) rfl)) (dobs_sto _ rfl rfl rfl rfl rfl (rd_store rfl rfl hr686) (dobs_sto _ rfl rfl rfl rfl rfl (rd_store rfl rfl hr692) (dobs_sto _ rfl rfl rfl rfl rfl (rd_store rfl rfl hr698) ?_))))))))
       exact dobs_nil
      clear hv
      refine eo_keep [(2,.pointer (some ⟨g1,0,none⟩)),(3,.pointer (some ⟨g6,0,none⟩)),(4,.pointer (some ⟨g12,0,none⟩)),(5,.pointer (some ⟨g18,0,none⟩)),(6,.pointer (some ⟨g24,0,none⟩)),(7,.pointer (some ⟨g216,0,none⟩)),(8,.pointer (some ⟨g233,0,none⟩)),(32,.pointer (some ⟨g216,2,none⟩)),(33,.agg #[.bool k1.s,.slice k1.A k1.n k1.c]),(34,.int .i64 (scmp r1 0)),(35,.bool false),(60,.pointer (some ⟨g216,0,none⟩)),(61,.agg #[.bool k0.s,.slice k0.A k0.n k0.c]),(62,.pointer (some ⟨g233,0,none⟩)),(63,.agg #[.bool k2.s,.slice k2.A k2.n k2.c]),(64,.agg #[.bool sa,.slice Aa na ca]),(65,.int .i64 (scmp x 0)),(66,.bool false),(70,.agg #[.bool sb,.slice Ab nb cb]),(71,.agg #[.bool k0.s,.slice k0.A k0.n k0.c]),(72,.tuple #[.agg #[.bool s493,.slice A493 n493 c493],I0]),(69,.tuple #[.agg #[.bool s493,.slice A493 n493 c493],I0]),(73,.agg #[.bool s493,.slice A493 n493 c493]),(74,.int .i64 0),(13,.pointer (some ⟨g494,0,none⟩)),(14,.int .i64 0),(76,.agg #[.bool k2.s,.slice k2.A k2.n k2.c]),(77,.agg #[.bool s493,.slice A493 n493 c493]),(78,.tuple #[.agg #[.bool s510,.slice A510 n510 c510],I0]),(75,.tuple #[.agg #[.bool s510,.slice A510 n510 c510],I0]),(79,.agg #[.bool s510,.slice A510 n510 c510]),(80,.int .i64 0),(82,.agg #[.bool k0.s,.slice k0.A k0.n k0.c]),(83,.agg #[.bool sa,.slice Aa na ca]),(84,.agg #[.bool s510,.slice A510 n510 c510]),(85,.agg #[.bool s637,.slice A637 n637 c637]),(86,.agg #[.bool s643,.slice A643 n643 c643]),(87,.agg #[.bool sb,.slice Ab nb cb]),(88,.tuple #[.agg #[.bool s655,.slice A655 n655 c655],I0]),(81,.tuple #[.agg #[.bool s662,.slice A662 n662 c662],I0]),(89,.agg #[.bool s668,.slice A668 n668 c668]),(90,.int .i64 0),(91,.agg #[.bool k0.s,.slice k0.A k0.n k0.c]),(92,.agg #[.bool s510,.slice A510 n510 c510]),(93,.agg #[.bool s668,.slice A668 n668 c668])] ⟨rfl,rfl,rfl,rfl,rfl,rfl,rfl,rfl,rfl,rfl,rfl,rfl,rfl,rfl,rfl,rfl,rfl,rfl,rfl,rfl,rfl,rfl,rfl,rfl,rfl,rfl,rfl,rfl,rfl,rfl,rfl,rfl,rfl,rfl,rfl,rfl,rfl,rfl,rfl,rfl,rfl,rfl,rfl,rfl,rfl,trivial⟩ (eo_then (cw_ret (eo_ret [.agg #[.bool k0.s,.slice k0.A k0.n k0.c],.agg #[.bool s510,.slice A510 n510 c510],.agg #[.bool s668,.slice A668 n668 c668]] rfl ⟨⟨_,rfl,load_agg aggInt ((hb683.updN u690 (by omega)).updN u696 (by omega)) [.bool k0.s,.slice k0.A k0.n k0.c] rfl (bq rfl) rfl⟩,⟨_,rfl,load_agg aggInt (hb689.updN u696 (by omega)) [.bool s510,.slice A510 n510 c510] rfl (bq rfl) rfl⟩,⟨_,rfl,load_agg aggInt hb695 [.bool s668,.slice A668 n668 c668] rfl (bq rfl) rfl⟩,trivial⟩ ?_)))
      exact⟨_,_,HD.2.2.2.2.2,_,rfl,⟨_,_,_,rfl,⟨_,_,_,_,rfl,((((((((((((((zk0.ext (e245.trans e248)).updT hb250 u252).updT hb256 u258).ext (e486.trans (e490.trans e496))).updT hb497 u503).ext e507).updT hb512 u514).ext e616).updT hb675 u677).ext e680).updT hb682 u684).updT hb688 u690).updT hb694 u696)).cast HD.1⟩,⟨_,_,_,_,rfl,(((((((z510.updT hb512 u514).ext e616).updT hb675 u677).ext e680).updT hb682 u684).updT hb688 u690).updT hb694 u696)⟩,⟨_,_,_,_,rfl,(((((z668.updT hb675 u677).ext e680).updT hb682 u684).updT hb688 u690).updT hb694 u696)⟩,apGX,ap_lt hqg2 nw_z668,ap_lt hqx2 nw_z668⟩,hw17⟩
   · 
    refine cw_region (pf g216 2 rfl (by kernel_rfl) (lo aggInt b_7 [.bool k1.s,.slice k1.A k1.n k1.c] rfl rfl rfl (cl (vs:= [.agg #[.bool k1.s,.slice k1.A k1.n k1.c]]) hw1 (g_zint_Sign zk1.zi (zk1.le (lx_ Lr1 rfl))) rfl (by kernel_rfl) fun xr701 v699 r701 e700 hw2=>?_)))
    obtain rfl:=r701
    refine wl_cmp rfl rfl rfl true (scmp_ne_t hr) (by decide) (ne_ (cw_true rfl (cw_skip (eo_then (cw_block (sr (pf g216 0 rfl (by kernel_rfl) (lo aggInt (b_7.ext e700) [.bool k0.s,.slice k0.A k0.n k0.c] rfl rfl rfl (pf g216 2 rfl (by kernel_rfl) (lo aggInt (b_7.ext e700) [.bool k1.s,.slice k1.A k1.n k1.c] rfl rfl rfl ?_))))))))))
    have L702:ln ((r0).tdiv r1)≤17179869184:=Nat.le_trans (ln_tdiv _ _) Lr0
    have L703:ln ((r0).tmod r1)≤17179869184:=Nat.le_trans (ln_tmod _ _) Lr0
    refine cl (vs:= [.agg #[.bool k0.s,.slice k0.A k0.n k0.c],.agg #[.bool k1.s,.slice k1.A k1.n k1.c]]) hw2 (g_zint_Trunc hw2.size (zk0.ext e700).zi (zk0.le (lx_ Lr0 rfl)) (zk1.ext e700).zi (zk1.le (lx_ Lr1 rfl)) hr) rfl (by kernel_rfl) fun xr706 v704 r706 e705 hw3=>?_
    obtain⟨_,_,_,rfl,⟨s708,A708,n708,c708,rfl,z708⟩,⟨s709,A709,n709,c709,rfl,z709⟩,rfl⟩:=r706
    refine mv 1 rfl (pu (v:= .agg #[.bool s708,.slice A708 n708 c708]) rfl (by kernel_rfl) (pu (v:= .agg #[.bool s709,.slice A709 n709 c709]) rfl (by kernel_rfl) (pu (v:= .int .i64 0) rfl (by kernel_rfl) (alq [F0,S0] hw3 (b_8.ext (e700.trans e705)).lt (fun _=>by kernel_rfl) rfl fun g710 v711 hb713 ge714 q715 e712 hw4=>(alq [F0,S0] hw4 hb713.lt (fun _=>by kernel_rfl) rfl fun g716 v717 hb719 ge720 q721 e718 hw5=>?_)))))
    have hb723:=(hb713.ext e718)
    refine so aggInt hb723 [.bool s708,.slice A708 n708 c708] hw5 ge714 rfl rfl rfl rfl fun v722 hb724 u725 hw6=>?_
    have hb728:=(hb719.updN u725 (by omega))
    refine so aggInt hb728 [.bool s709,.slice A709 n709 c709] hw6 ge720 rfl rfl rfl rfl fun v727 hb729 u730 hw7=>(mv 1 rfl (ne_ (cw_seq ?_)))
    have L732:ln ((r0.tdiv r1)*m1)≤34359738368:=Nat.le_trans (ln_mul L702 Lm1) (by decide)
    have L734:ln (m0-((r0.tdiv r1)*m1))≤34359738369:=Nat.le_trans (ln_sub Lm0 L732) (by decide)
    refine cw_draw mix 8 [] [Is (.pointer (some ⟨g233,0,none⟩)),Is (.agg #[.bool k2.s,.slice k2.A k2.n k2.c]),Is (.agg #[.bool s708,.slice A708 n708 c708]),Is (.pointer (some ⟨g233,2,none⟩)),Is (.agg #[.bool k3.s,.slice k3.A k3.n k3.c]),ZR w.heap.size ((r0.tdiv r1)*m1),ZR w.heap.size (m0-((r0.tdiv r1)*m1)),PR v727.heap.size 41 [F0,S0]] [[],[0],[],[],[3],[2,4],[1,5],[]] [[],[0],[],[],[3],[2,3,4],[0,1,2,3,4,5],[],[0,1,2,3,4,5,6,7]] rfl
     (obs_cons rfl rfl (hob rfl rfl ?_) (obs_cons rfl rfl (hob rfl rfl ?_) (obs_cons rfl rfl (hob rfl rfl ?_) (obs_cons rfl rfl (hob rfl rfl ?_) (obs_cons rfl rfl (hob rfl rfl ?_) (obs_cons rfl rfl (hob rfl rfl ?_) (obs_cons rfl rfl (hob rfl rfl ?_) (obs_cons rfl rfl (hob rfl rfl ?_) obs_nil)))))))) ?_
    · 
     exact fun _ _=>deps_nil (pf g233 0 rfl (by kernel_rfl) (pi_done rfl (Ext.refl _) rfl))
    · 
     exact fun _ e739=>dk rfl rfl (deps_nil (lo aggInt ((((b_8.ext (e700.trans (e705.trans (e712.trans e718)))).updN u725 (by omega)).updN u730 (by omega)).ext e739) [.bool k2.s,.slice k2.A k2.n k2.c] rfl rfl rfl (pi_done rfl (Ext.refl _) rfl)))
    · 
     exact fun _ e746=>deps_nil (lo aggInt ((hb724.updN u730 (by omega)).ext e746) [.bool s708,.slice A708 n708 c708] rfl rfl rfl (pi_done rfl (Ext.refl _) rfl))
    · 
     exact fun _ _=>deps_nil (pf g233 2 rfl (by kernel_rfl) (pi_done rfl (Ext.refl _) rfl))
    · 
     exact fun _ e750=>dk rfl rfl (deps_nil (lo aggInt ((((b_8.ext (e700.trans (e705.trans (e712.trans e718)))).updN u725 (by omega)).updN u730 (by omega)).ext e750) [.bool k3.s,.slice k3.A k3.n k3.c] rfl rfl rfl (pi_done rfl (Ext.refl _) rfl)))
    · 
     intro v756 e757
     have hw8:=hw7.trans e757
     refine dk rfl rfl (dk rfl rfl (deps_nil ?_))
     have L768:ln ((r0.tdiv r1)*m1)≤34359738368:=Nat.le_trans (ln_mul L702 Lm1) (by decide)
     refine cl (vs:= [.agg #[.bool s708,.slice A708 n708 c708],.agg #[.bool k3.s,.slice k3.A k3.n k3.c]]) hw8 (g_zint_Mul hw8.size ((((z708.ext (e712.trans e718)).updT hb723 u725).updT hb728 u730).ext e757).zi (z708.le (lx_ L702 rfl)) ((((zk3.ext (e700.trans (e705.trans (e712.trans e718)))).updT hb723 u725).updT hb728 u730).ext e757).zi (zk3.le (lx_ Lm1 rfl))) rfl (by kernel_rfl) fun xr771 v769 r771 e770 hw9=>?_
     obtain⟨s772,A772,n772,c772,rfl,z772⟩:=r771
     exact pi_done rfl e770 ⟨_,_,_,_,rfl,z772⟩
    · 
     intro v773 e774
     have hw8:=hw7.trans e774
     refine dk rfl rfl (deps_cons rfl rfl fun x780 y781 h782 e783 f784=>?_)
     obtain⟨s785,A785,n785,c785,rfl,z785⟩:=h782
     have z785:=z785.ext f784
     refine deps_nil ?_
     have L786:ln (m0-((r0.tdiv r1)*m1))≤34359738369:=Nat.le_trans (ln_sub Lm0 L732) (by decide)
     refine cl (vs:= [.agg #[.bool k2.s,.slice k2.A k2.n k2.c],.agg #[.bool s785,.slice A785 n785 c785]]) hw8 (g_zint_Sub hw8.size ((((zk2.ext (e700.trans (e705.trans (e712.trans e718)))).updT hb723 u725).updT hb728 u730).ext e774).zi (zk2.le (lx_ Lm0 rfl)) z785.zi (z785.le (lx_ L732 rfl))) rfl (by kernel_rfl) fun xr789 v787 r789 e788 hw9=>?_
     obtain⟨s790,A790,n790,c790,rfl,z790⟩:=r789
     exact pi_done rfl e788 ⟨_,_,_,_,rfl,z790⟩
    · 
     intro v791 e792
     refine deps_nil (wl_alloc rfl (z:= .agg #[F0,S0]) (vs:= [F0,S0]) (fun _=>by kernel_rfl) rfl (by decide) fun g793 v794 nb=>?_)
     exact pi_done rfl nb.ext ⟨_,rfl,by rw [←nb.at_];exact e792.size,nb.bk⟩
    · 
     intro v795 e796
     have hw8:=hw7.trans e796
     refine dk rfl rfl (dk rfl rfl (dk rfl rfl (dk rfl rfl (dk rfl rfl (deps_cons rfl rfl fun x822 y823 h824 e825 f826=>?_)))))
     obtain⟨s827,A827,n827,c827,rfl,z827⟩:=h824
     have z827:=z827.ext f826
     refine deps_cons rfl rfl fun x828 y829 h830 e831 f832=>?_
     obtain⟨s833,A833,n833,c833,rfl,z833⟩:=h830
     have z833:=z833.ext f832
     refine deps_cons rfl rfl fun x834 y835 h836 e837 f838=>?_
     obtain⟨g839,rfl,ge841,hb840⟩:=h836
     have hb840:=hb840.ext f838
     have q842:g716<g839:=Nat.lt_of_lt_of_le hb729.lt ge841
     have ge841:w.heap.size≤g839:=Nat.le_trans hw7.size ge841
     refine deps_nil (so aggInt hb840 [.bool s833,.slice A833 n833 c833] hw8 ge841 rfl rfl rfl rfl fun v843 hb845 u846 hw9=>(wl_nil (eo_np (eo_then (sr (pf g216 2 rfl (by kernel_rfl) (lo aggInt (((((b_7.ext (e700.trans (e705.trans (e712.trans e718)))).updN u725 (by omega)).updN u730 (by omega)).ext e796).updN u846 (by omega)) [.bool k1.s,.slice k1.A k1.n k1.c] rfl rfl rfl (lo aggInt ((hb729.ext e796).updN u846 (by omega)) [.bool s709,.slice A709 n709 c709] rfl rfl rfl (pu (v:= .agg #[.bool k1.s,.slice k1.A k1.n k1.c,.bool s709,.slice A709 n709 c709]) rfl (by kernel_rfl) ?_)))))))))
     have hb849:=(((((b_7.ext (e700.trans (e705.trans (e712.trans e718)))).updN u725 (by omega)).updN u730 (by omega)).ext e796).updN u846 (by omega))
     refine so aggTwo hb849 [.bool k1.s,.slice k1.A k1.n k1.c,.bool s709,.slice A709 n709 c709] hw9 ge218 rfl rfl rfl rfl fun v848 hb850 u851 hw10=>(ne_ (cw_region (pf g233 2 rfl (by kernel_rfl) (lo aggInt ((((((b_8.ext (e700.trans (e705.trans (e712.trans e718)))).updN u725 (by omega)).updN u730 (by omega)).ext e796).updN u846 (by omega)).updN u851 (by omega)) [.bool k3.s,.slice k3.A k3.n k3.c] rfl rfl rfl (lo aggInt (hb845.updN u851 (by omega)) [.bool s833,.slice A833 n833 c833] rfl rfl rfl (pu (v:= .agg #[.bool k3.s,.slice k3.A k3.n k3.c,.bool s833,.slice A833 n833 c833]) rfl (by kernel_rfl) ?_))))))
     have hb854:=((((((b_8.ext (e700.trans (e705.trans (e712.trans e718)))).updN u725 (by omega)).updN u730 (by omega)).ext e796).updN u846 (by omega)).updN u851 (by omega))
     refine so aggTwo hb854 [.bool k3.s,.slice k3.A k3.n k3.c,.bool s833,.slice A833 n833 c833] hw10 ge237 rfl rfl rfl rfl fun v853 hb855 u856 hw11=>(wl_nil (eo_block_normal (eo_round (⟨v853,_,_,_,_,⟨k1.s,k1.A,k1.n,k1.c⟩,⟨s709,A709,n709,c709⟩,⟨k3.s,k3.A,k3.n,k3.c⟩,⟨s833,A833,n833,c833⟩⟩:World×Int×Int×Int×Int×ZC×ZC×ZC×ZC) ⟨hw11,hI.step hr,(((((((b_2.ext (e700.trans (e705.trans (e712.trans e718)))).updN u725 (by omega)).updN u730 (by omega)).ext e796).updN u846 (by omega)).updN u851 (by omega)).updN u856 (by omega)),(((((((b_3.ext (e700.trans (e705.trans (e712.trans e718)))).updN u725 (by omega)).updN u730 (by omega)).ext e796).updN u846 (by omega)).updN u851 (by omega)).updN u856 (by omega)),(((((((b_4.ext (e700.trans (e705.trans (e712.trans e718)))).updN u725 (by omega)).updN u730 (by omega)).ext e796).updN u846 (by omega)).updN u851 (by omega)).updN u856 (by omega)),(((((((b_5.ext (e700.trans (e705.trans (e712.trans e718)))).updN u725 (by omega)).updN u730 (by omega)).ext e796).updN u846 (by omega)).updN u851 (by omega)).updN u856 (by omega)),(((((((b_6.ext (e700.trans (e705.trans (e712.trans e718)))).updN u725 (by omega)).updN u730 (by omega)).ext e796).updN u846 (by omega)).updN u851 (by omega)).updN u856 (by omega)),(hb850.updN u856 (by omega)),hb855,(((((((zk1.ext (e700.trans (e705.trans (e712.trans e718)))).updT hb723 u725).updT hb728 u730).ext e796).updT hb840 u846).updT hb849 u851).updT hb854 u856),(((((((z709.ext (e712.trans e718)).updT hb723 u725).updT hb728 u730).ext e796).updT hb840 u846).updT hb849 u851).updT hb854 u856),(((((((zk3.ext (e700.trans (e705.trans (e712.trans e718)))).updT hb723 u725).updT hb728 u730).ext e796).updT hb840 u846).updT hb849 u851).updT hb854 u856),(((z833.updT hb840 u846).updT hb849 u851).updT hb854 u856)⟩ (tmod_abs hr) rfl ⟨rfl,rfl,rfl,rfl,rfl,rfl,rfl,trivial⟩)))
theorem g_bezout_Ext {w:World}{sa:Bool}{Aa:Option Addr}{na ca:Nat}{x:Int}{sb:Bool}{Ab:Option Addr}{nb cb:Nat}{y:Int}{b:Nat}(hb:b≤w.heap.size) (hx:Zi w sa Aa na ca x) (la:na≤17179869184) (hy:Zi w sb Ab nb cb y) (lb:nb≤17179869184):
  Calls Tryz.prog 106 #[.agg #[.bool sa,.slice Aa na ca],.agg #[.bool sb,.slice Ab nb cb]] w (fun e w'=>∃u v,Bez x y u v∧Gv w (T3 (ZR b (Int.gcd x y:Int)) (ZR b u) (ZR b v)) e w'):=(g_bezout_ExtA hb hx la hy lb).mono fun e w2 h=>(by obtain⟨u,v,h1,h2⟩:=h;exact⟨u,v,h1,Gv.imp TE.t3 _ _ h2⟩)
theorem elemI:Tryz.prog.underlying 22=some (.slice 41):=by kernel_rfl
theorem infoI:(Tryz.prog.info? 41).map (fun i=>(i.zero,i.size,i.bytes))=some (some (.agg #[.bool false,.slice none 0 0]),2,32):=by kernel_rfl
def ZC.zero:ZC:=⟨false,none,0,0⟩
def zcell (e:ZC):List Value:= [.bool e.s,.slice e.A e.n e.c]
def zcells:List ZC→List Value
 | []=> []
 | e::r=> .bool e.s:: .slice e.A e.n e.c::zcells r
theorem zcells_len:∀es:List ZC,(zcells es).length=es.length*2
 | []=>rfl
 | e::r=>by simp only [zcells,List.length_cons,zcells_len r];omega
theorem zcells_app:∀(es fs:List ZC),zcells (es++fs)=zcells es++zcells fs
 | [],fs=>rfl
 | e::r,fs=>by simp only [zcells,List.cons_append,zcells_app r fs]
theorem zcells_get0:∀(es:List ZC) (i:Nat),i<es.length→(zcells es)[i*2]?=some (.bool (es.getD i ZC.zero).s)
 | [],i,h=>by simp at h
 | e::r,0,h=>rfl
 | e::r,i+1,h=>by
  have:=zcells_get0 r i (by simpa using h)
  simpa [zcells,Nat.add_mul] using this
theorem zcells_get1:∀(es:List ZC) (i:Nat),i<es.length→(zcells es)[i*2+1]?=some (.slice (es.getD i ZC.zero).A (es.getD i ZC.zero).n (es.getD i ZC.zero).c)
 | [],i,h=>by simp at h
 | e::r,0,h=>rfl
 | e::r,i+1,h=>by
  have:=zcells_get1 r i (by simpa using h)
  simpa [zcells,Nat.add_mul] using this
theorem zcells_set:∀(es:List ZC) (i:Nat) (e:ZC),i<es.length→overl (zcells es) (i*2) (zcell e)=zcells (es.set i e)
 | [],i,e,h=>by simp at h
 | a::r,0,e,h=>by simp [zcells,overl,zcell]
 | a::r,i+1,e,h=>by
  have:=zcells_set r i e (by simpa using h)
  simp only [overl,zcell,List.length_cons,List.length_nil] at this⊢
  rw [show (i+1)*2=i*2+1+1 by omega,show i*2+1+1+(0+1+1)=i*2+(0+1+1)+1+1 by omega]
  simp only [zcells,List.take_succ_cons,List.drop_succ_cons,List.cons_append,List.set_cons_succ,this]
theorem Zl.at {w:World}{A:Option Addr}{n cap:Nat}{zs:List Int}{ms:List Nat}(h:Zl w A n cap zs ms){i:Nat}(hi:i<n):
  ∃p s B c,A.map (·.add (i*2))=some p∧(∀w',Ext w w'→∀(P:Program) (T:TypeId),AggT P T 2→(loadVar T p).run P w'= .ok (.agg #[.bool s,.slice B (ms.getD i 0) c]) w')∧Zi w s B (ms.getD i 0) c (zs.getD i 0):=by
 obtain⟨a,s,B,c,rfl,h1,h2,h3⟩:=h.get i hi
 refine⟨a.add (i*2),s,B,c,rfl,fun w' e P T hT=>load_at hT [.bool s,.slice B (ms.getD i 0) c] rfl (fun j hj=>?_),h3⟩
 rw [add_of_add]
 match j,hj with
 | 0,_=>exact e.cell h1
 | 1,_=>exact e.cell h2
theorem Zr.updOT {w w':World}{b b':Nat}{s:Bool}{A B:Option Addr}{n cap m c s':Nat}{z:Int}{T:TypeId}{us:List Value}(h:Zr w b s A n cap z) (ho:Own w b' T s' B m c us) (x:UpdO B w w') (hT:45≠T:=by decide):Zr w' b s A n cap z:=
 ⟨h.sgn,h.len,h.own.updOT ho hT x⟩
def Zo (w:World) (b:Nat) (s:Bool) (A:Option Addr) (n cap:Nat) (z:Int):Prop:=∃xs,Own w b 45 1 A n cap (xs.map W64)∧Wf xs∧sg s (nv xs)=z
section
variable {w w':World}{b:Nat}{s:Bool}{A:Option Addr}{n cap:Nat}{z:Int}
theorem Zo.zi (h:Zo w b s A n cap z):Zi w s A n cap z:=by obtain⟨xs,h1,h2,h3⟩:=h;exact⟨xs,h1.rd h2,h3⟩
theorem Zo.ext (h:Zo w b s A n cap z) (x:Ext w w'):Zo w' b s A n cap z:=by obtain⟨xs,h1,h2⟩:=h;exact⟨xs,h1.ext x,h2⟩
theorem Zo.mono {b':Nat}(h:Zo w b s A n cap z) (x:b'≤b):Zo w b' s A n cap z:=by obtain⟨xs,h1,h2⟩:=h;exact⟨xs,h1.mono x,h2⟩
theorem Zo.updT {g:Nat}{T:TypeId}{us:List Value}(h:Zo w b s A n cap z) (hb:Bk w g T us) (x:Upd g w w') (hT:45≠T:=by decide):Zo w' b s A n cap z:=by obtain⟨xs,h1,h2⟩:=h;exact⟨xs,h1.updT hb hT x,h2⟩
theorem Zo.updOT {b':Nat}{B:Option Addr}{m c s':Nat}{T:TypeId}{us:List Value}(h:Zo w b s A n cap z) (ho:Own w b' T s' B m c us) (x:UpdO B w w') (hT:45≠T:=by decide):Zo w' b s A n cap z:=by obtain⟨xs,h1,h2⟩:=h;exact⟨xs,h1.updOT ho hT x,h2⟩
end
def El (m:Option World) (b:Nat) (w:World) (e:ZC) (z:Int):Prop:=Zr w b e.s e.A e.n e.c z∨∃w0,m=some w0∧(Zi w0 e.s e.A e.n e.c z∨Zo w b e.s e.A e.n e.c z)
theorem El.ext {m:Option World}{b:Nat}{w w':World}{e:ZC}{z:Int}(h:El m b w e z) (x:Ext w w'):El m b w' e z:=h.imp (·.ext x) (fun⟨w0,h1,h2⟩=>⟨w0,h1,h2.imp id (·.ext x)⟩)
theorem El.updT {m:Option World}{b g:Nat}{w w':World}{e:ZC}{z:Int}{T:TypeId}{us:List Value}(h:El m b w e z) (hb:Bk w g T us) (x:Upd g w w') (hT:45≠T:=by decide):El m b w' e z:=h.imp (·.updT hb x hT) (fun⟨w0,h1,h2⟩=>⟨w0,h1,h2.imp id (·.updT hb x hT)⟩)
theorem El.mono {m:Option World}{b b':Nat}{w:World}{e:ZC}{z:Int}(h:El m b w e z) (x:b'≤b):El m b' w e z:=h.imp (·.mono x) (fun⟨w0,h1,h2⟩=>⟨w0,h1,h2.imp id (·.mono x)⟩)
theorem El.updOT {m:Option World}{b b':Nat}{w w':World}{e:ZC}{z:Int}{B:Option Addr}{n c s':Nat}{T:TypeId}{us:List Value}(h:El m b w e z) (ho:Own w b' T s' B n c us) (x:UpdO B w w') (hT:45≠T:=by decide):El m b w' e z:=h.imp (·.updOT ho x hT) (fun⟨w0,h1,h2⟩=>⟨w0,h1,h2.imp id (·.updOT ho x hT)⟩)
theorem El.zi {w0:World}{b:Nat}{w:World}{e:ZC}{z:Int}(h:El (some w0) b w e z) (x:Ext w0 w):Zi w e.s e.A e.n e.c z:=by
 rcases h with h | ⟨w1,h1,h2⟩
 ·exact h.zi
 ·cases h1;exact h2.elim (·.ext x) (·.zi)
theorem El.zr {b:Nat}{w:World}{e:ZC}{z:Int}(h:El none b w e z):Zr w b e.s e.A e.n e.c z:=by
 rcases h with h | ⟨w1,h1,h2⟩
 ·exact h
 ·cases h1
def Lz (m:Option World) (K b:Nat) (w:World) (lb:Nat) (A:Option Addr) (n cap:Nat) (zs:List Int):Prop:=
 ∃es,Own w lb 41 2 A n cap (zcells es)∧es.length=n∧zs.length=n∧∀i,i<n→(es.getD i ZC.zero).n≤K∧El m b w (es.getD i ZC.zero) (zs.getD i 0)
section
variable {m:Option World}{K b lb:Nat}{w w':World}{A:Option Addr}{n cap:Nat}{zs:List Int}
theorem Lz.own (h:Lz m K b w lb A n cap zs):∃vs,Own w lb 41 2 A n cap vs:=by obtain⟨es,h1,_⟩:=h;exact⟨_,h1⟩
theorem Lz.block (h:Lz m K b w lb A n cap zs):∀a,A=some a→lb≤a.block∧a.block<w.heap.size:=by obtain⟨vs,h⟩:=h.own;exact h.block
theorem Lz.len (h:Lz m K b w lb A n cap zs):zs.length=n:=by obtain⟨es,h1,h2,h3,h4⟩:=h;exact h3
theorem Lz.ext (h:Lz m K b w lb A n cap zs) (x:Ext w w'):Lz m K b w' lb A n cap zs:=by
 obtain⟨es,h1,h2,h3,h4⟩:=h
 exact⟨es,h1.ext x,h2,h3,fun i hi=>⟨(h4 i hi).1,(h4 i hi).2.ext x⟩⟩
theorem Lz.updT {g:Nat}{T:TypeId}{us:List Value}(h:Lz m K b w lb A n cap zs) (hb:Bk w g T us) (x:Upd g w w') (hne:∀p,A=some p→p.block≠g) (hT:45≠T:=by decide):Lz m K b w' lb A n cap zs:=by
 obtain⟨es,h1,h2,h3,h4⟩:=h
 exact⟨es,h1.upd x hne,h2,h3,fun i hi=>⟨(h4 i hi).1,(h4 i hi).2.updT hb x hT⟩⟩
theorem Lz.updO {B:Option Addr}{lb' c k:Nat}{us:List Value}(h:Lz m K b w lb A n cap zs) (ho:Own w lb' 41 2 B k c us) (x:UpdO B w w') (hne:∀p q,B=some p→A=some q→p.block≠q.block):Lz m K b w' lb A n cap zs:=by
 obtain⟨es,h1,h2,h3,h4⟩:=h
 exact⟨es,h1.updO x hne,h2,h3,fun i hi=>⟨(h4 i hi).1,(h4 i hi).2.updOT ho x⟩⟩
theorem Lz.mono {K' b' lb':Nat}(h:Lz m K b w lb A n cap zs) (hK:K≤K') (hb:b'≤b) (hl:lb'≤lb):Lz m K' b' w lb' A n cap zs:=by
 obtain⟨es,h1,h2,h3,h4⟩:=h
 exact⟨es,h1.mono hl,h2,h3,fun i hi=>⟨Nat.le_trans (h4 i hi).1 hK,(h4 i hi).2.mono hb⟩⟩
theorem Lz.at (h:Lz m K b w lb A n cap zs){i:Nat}(hi:i<n):
  ∃p s B k c,A.map (·.add (i*2))=some p∧(∀w',Ext w w'→∀(P:Program) (T:TypeId),AggT P T 2→(loadVar T p).run P w'= .ok (.agg #[.bool s,.slice B k c]) w')∧k≤K∧El m b w ⟨s,B,k,c⟩ (zs.getD i 0):=by
 obtain⟨es,h1,h2,h3,h4⟩:=h
 obtain⟨a,ha,hc⟩:=h1.rv.get (i*2) (by omega)
 obtain⟨a',ha',hc'⟩:=h1.rv.get (i*2+1) (by omega)
 rw [ha] at ha';cases ha'
 have g0:=zcells_get0 es i (by omega)
 have g1:=zcells_get1 es i (by omega)
 rw [List.getD_eq_getElem?_getD,g0] at hc
 rw [List.getD_eq_getElem?_getD,g1] at hc'
 refine⟨a.add (i*2),_,_,_,_,by rw [ha];rfl,fun w' e P T hT=>load_at hT [.bool (es.getD i ZC.zero).s,.slice (es.getD i ZC.zero).A (es.getD i ZC.zero).n (es.getD i ZC.zero).c] rfl (fun j hj=>?_),(h4 i hi).1,(h4 i hi).2⟩
 rw [add_of_add]
 match j,hj with
 | 0,_=>exact e.cell hc
 | 1,_=>exact e.cell hc'
theorem Lz.zl {w0:World}(h:Lz (some w0) K b w lb A n cap zs) (x:Ext w0 w):∃ms,Zl w A n cap zs ms∧∀i,ms.getD i 0≤K:=by
 obtain⟨es,h1,h2,h3,h4⟩:=h
 have hms:∀i,i<n→(es.map (·.n)).getD i 0=(es.getD i ZC.zero).n:=fun i hi=>by
  simp [List.getD_eq_getElem?_getD,List.getElem?_map,List.getElem?_eq_getElem (show i<es.length by omega)]
 refine⟨es.map (·.n),⟨h3,by rw [List.length_map,h2],h1.rv.le,h1.rv.max,fun i hi=>?_⟩,fun i=>?_⟩
 ·obtain⟨a,ha,hc⟩:=h1.rv.get (i*2) (by omega)
  obtain⟨a',ha',hc'⟩:=h1.rv.get (i*2+1) (by omega)
  rw [ha] at ha';cases ha'
  have g0:=zcells_get0 es i (by omega)
  have g1:=zcells_get1 es i (by omega)
  rw [List.getD_eq_getElem?_getD,g0] at hc
  rw [List.getD_eq_getElem?_getD,g1] at hc'
  rw [hms i hi]
  exact⟨a,_,_,_,ha,hc,hc',(h4 i hi).2.zi x⟩
 ·by_cases hi:i<n
  ·rw [hms i hi];exact (h4 i hi).1
  ·rw [List.getD_eq_getElem?_getD,List.getElem?_eq_none (by rw [List.length_map];omega)];exact Nat.zero_le _
theorem getD_app_l {α:Type}{l r:List α}{i:Nat}{d:α}(h:i<l.length):(l++r).getD i d=l.getD i d:=by
 rw [List.getD_eq_getElem?_getD,List.getD_eq_getElem?_getD,List.getElem?_append_left h]
theorem getD_app_m {α:Type}{l r:List α}{a d:α}:(l++a::r).getD l.length d=a:=by
 rw [List.getD_eq_getElem?_getD,List.getElem?_append_right (Nat.le_refl _),Nat.sub_self];rfl
end
theorem kept_ne {w:World}{A A':Option Addr}{g:Nat}(h:Kept w A A') (hg:g<w.heap.size) (hne:∀p,A=some p→p.block≠g):∀p,A'=some p→p.block≠g:=fun p hp=>by
 rcases h p hp with⟨a,ha,e⟩ | e
 ·rw [e];exact hne a ha
 ·omega
section
variable {Q:Exit→Act→World→Prop}{N:Nat}{l:Fr}{w:World}{ops:Array Oper}{rest:List Oper}{d:Nat}{ty:TypeId}{pos:String}{af:Array Edge}{gd:Option (Nat×Bool)}
theorem wl_appI {m:Option World}{K b lb:Nat}{A:Option Addr}{n cap:Nat}{zs:List Int}{x y:Operand}{g c:Nat}{e:ZC}{z:Int}(hw:guardB ops l gd=some true) (hx:evo l x=some (.slice A n cap)) (hy:evo l y=some (.slice (some ⟨g,0,none⟩) 1 c))
  (h:Lz m K b w lb A n cap zs) (hlb:lb≤w.heap.size) (hb:Bk w g 41 (zcell e)) (he:El m b w e z) (hK:e.n≤K) (hm:n≤1099511627775) (hd:d<N)
  (k:∀A' cap' w',Lz m K b w' lb A' (n+1) cap' (zs++ [z])→UpdO A w w'→Kept w A A'→wl Tryz.prog ops Q N rest ((d,.slice A' (n+1) cap')::l) w'):
  wl Tryz.prog ops Q N (⟨some d,.call {callee:= .builtin .append,args:= #[x,y],argTypes:= #[22,22]},ty,pos,af,gd⟩::rest) l w:=by
 obtain⟨es,h1,h2,h3,h4⟩:=h
 refine wl_app hw hx hy elemI infoI rfl (by decide) (by decide) h1 hlb (zcell e) rfl (fun j u hj=>?_) rfl (by omega) hd fun A' cap' w' ho hu hk=>k A' cap' w' ?_ hu hk
 ·have hjl:j<(zcell e).length:=(List.getElem?_eq_some_iff.1 hj).1
  rw [add_lit0,Nat.zero_add,hb.cell hjl,List.getD_eq_getElem?_getD,hj];rfl
 ·refine⟨es++ [e],by rw [zcells_app];exact ho,by simp [h2],by simp [h3],fun i hi=>?_⟩
  by_cases hin:i<n
  ·rw [getD_app_l (by omega),getD_app_l (by omega)]
   exact⟨(h4 i hin).1,(h4 i hin).2.updOT h1 hu⟩
  ·have e1:i=n:=by omega
   subst e1
   have e2:(es++ [e]).getD i ZC.zero=e:=by rw [←h2];exact getD_app_m
   have e3:(zs++ [z]).getD i 0=z:=by rw [←h3];exact getD_app_m
   rw [e2,e3]
   exact⟨hK,he.updOT h1 hu⟩
theorem wl_makeI {x y:Operand}{k:Nat}(m:Option World) (K b:Nat) (hw:guardB ops l gd=some true) (hx:evo l x=some (.int .i64 0)) (hy:evo l y=some (.int .i64 (k:Int))) (hk:k≤1099511627776) (hd:d<N)
  (h:∀g w',w.heap.size=g→Lz m K b w' g (some ⟨g,0,none⟩) 0 k []→Ext w w'→wl Tryz.prog ops Q N rest ((d,.slice (some ⟨g,0,none⟩) 0 k)::l) w'):wl Tryz.prog ops Q N (⟨some d,.makeSlice 22 x y,ty,pos,af,gd⟩::rest) l w:=by
 obtain⟨i,hi,hz0,hz1,hz2⟩:=info_parts infoI
 have hr:=run_make (P:=Tryz.prog) w 22 41 i _ elemI hi hz0 .i64 .i64 0 (k:Int) (by omega) (by omega) (by rw [hz2];omega) (by omega)
 rw [Int.toNat_natCast,show (0:Int).toNat=0 from rfl,hz1] at hr
 obtain⟨cs,hcs,hcl⟩:∃cs:List Value,madeCells (Value.agg #[.bool false,.slice none 0 0]).cells (k*2)=cs.toArray∧cs.length=k*2:=⟨(madeCells (Value.agg #[.bool false,.slice none 0 0]).cells (k*2)).toList,Array.toArray_toList.symm,by rw [Array.length_toList,size_madeCells]⟩
 rw [hcs] at hr
 refine wl_val hw hd (fun a' ha=>?_) (h _ (w.alloc (.cells cs.toArray 41)) rfl ⟨[],Or.inr ⟨w.heap.size,cs,rfl,Nat.le_refl _,Bk.new _ _ _,Nat.zero_le _,by rw [len_maxLen];omega,hcl,rfl⟩,rfl,rfl,fun i hi=>by omega⟩ ((Ext.refl w).alloc _))
 have e':(Instr.makeSlice 22 (a'.eval x) (a'.eval y)).run Tryz.prog w= .ok (.slice (some ⟨w.heap.size,0,none⟩) 0 k) (w.alloc (.cells cs.toArray 41)):=by rw [ha.ev hx,ha.ev hy];exact hr
 show ((Instr.makeSlice 22 (a'.eval x) (a'.eval y)>>=fun r=>pure (Next.value r):Sem Next)).run Tryz.prog w=_
 rw [Sem.run_bind,e'];rfl
theorem wl_setI {m:Option World}{K b lb:Nat}{A:Option Addr}{n cap i:Nat}{zs:List Int}{x y:Operand}{p:Addr}{e:ZC}{z:Int}(hw:guardB ops l gd=some true) (hx:evo l x=some (.pointer (some p))) (hy:evo l y=some (.agg #[.bool e.s,.slice e.A e.n e.c]))
  (hp:A.map (·.add (i*2))=some p) (hi:i<n) (h:Lz m K b w lb A n cap zs) (he:El m b w e z) (hK:e.n≤K)
  (k:∀w',Lz m K b w' lb A n cap (zs.set i z)→UpdO A w w'→wl Tryz.prog ops Q N rest l w'):
  wl Tryz.prog ops Q N (⟨none,.store 41 x y,ty,pos,af,gd⟩::rest) l w:=by
 obtain⟨es,h1,h2,h3,h4⟩:=h
 have h1':=h1
 rcases h1 with⟨rfl,_⟩ | ⟨g,cs,rfl,hg,hk,hn,hcm,hcl,hv⟩
 ·cases hp
 ·have hp':p=⟨g,i*2,none⟩:=by
   injection hp with hp
   rw [←hp]
   show (⟨g,0,none⟩:Addr).add (i*2)=_
   rw [add_lit0,Nat.zero_add]
  subst hp'
  have hle:=Nat.mul_le_mul_right 2 hn
  refine wl_stored hw hx (us:=zcell e) hy aggInt rfl hk (by omega) rfl _ rfl fun w' hb2 hu hs=>k w' ⟨es.set i e,Or.inr ⟨g,_,rfl,hg,hb2,hn,hcm,?_,?_⟩,by simp [h2],by simp [h3],fun j hj=>?_⟩ hu.updO
  ·unfold overl
   simp only [List.length_append,List.length_take,List.length_drop,zcell,List.length_cons,List.length_nil]
   omega
  ·rw [←zcells_set es i e (by omega),←hv]
   have hi2:i*2+2≤n*2:=by omega
   have hz:(zcell e).length=2:=rfl
   unfold overl
   rw [hz,List.take_append,List.take_append,List.take_take,List.take_take,List.length_append,List.length_take,Nat.min_eq_left (by omega:i*2≤cs.length),hz,Nat.min_eq_right (by omega),Nat.min_eq_left (by omega)]
   congr 1
   ·congr 1
    exact List.take_of_length_le (by rw [hz];omega)
   ·rw [List.drop_take]
  ·by_cases hji:j=i
   ·subst hji
    have e1:(es.set j e).getD j ZC.zero=e:=by simp [List.getD_eq_getElem?_getD,h2,hj]
    have e2:(zs.set j z).getD j 0=z:=by simp [List.getD_eq_getElem?_getD,h3,hj]
    rw [e1,e2]
    exact⟨hK,he.updOT h1' hu.updO⟩
   ·have e1:(es.set i e).getD j ZC.zero=es.getD j ZC.zero:=by simp [List.getD_eq_getElem?_getD,Ne.symm hji]
    have e2:(zs.set i z).getD j 0=zs.getD j 0:=by simp [List.getD_eq_getElem?_getD,Ne.symm hji]
    rw [e1,e2]
    exact⟨(h4 j hj).1,(h4 j hj).2.updOT h1' hu.updO⟩
end
section
variable {P:Program}
theorem run_app0 {t ty e:TypeId}{z:Value}{bytes:Nat}(ht:P.underlying t=some (.slice e)) (hinfo:(P.info? e).map (fun i=>(i.zero,i.size,i.bytes))=some (some z,1,bytes)) (hzs:z.cells.size=1) (hby:bytes≤64)
  {w:World}{base g:Nat}(hg:base≤g) (hb:base≤w.heap.size) (hk:Bk w g e []){S:Option Addr}{m c:Nat}{news:List Value}(hr:Rv w 1 S m c news) (_h1:∀u∈news,u.oneCell'=true) (hm:m≤1099511627776):
  ∃A' cap' w',(Builtin.append_ #[t,t] ty #[.slice (some ⟨g,0,none⟩) 0 0,.slice S m c]).run P w= .ok (.slice A' m cap') w'∧Own w' base e 1 A' m cap' news∧Ext w w':=by
 obtain⟨i,hi,hz,hz1,hz2⟩:=info_parts hinfo
 have own0:Own w base e 1 (some ⟨g,0,none⟩) 0 0 []:=Own.mk_ hg hk (Nat.le_refl _) (Nat.zero_le _) rfl rfl
 have hl:=hr.len
 have nil0:m=0→news= []:=fun h=>List.eq_nil_of_length_eq_zero (by rw [hl,h])
 cases S with
 | none=>
  have h0:m=0:=by
   rcases Nat.eq_zero_or_pos m with h0 | h0
   ·exact h0
   ·obtain⟨ad,h,_⟩:=hr.get 0 (by omega)
    cases h
  rw [nil0 h0,h0]
  exact⟨_,_,w,run_append_of_nil (P:=P) w base t ty e i 1 ht hi _ 0 [] own0.row c,own0,Ext.refl w⟩
 | some a=>
  by_cases h0:m=0
  ·rw [nil0 h0,h0]
   have hfc:=run_firstCells_some (P:=P) (w:=w) i.size 0 a 0 c [] (by simp) (by simp)
   exact⟨_,_,w,by simp [Builtin.append_,run_underlying ht,sizeOf,typeInfo,hi,Builtin.lenOf,hfc,storeCells],own0,Ext.refl w⟩
  ·obtain⟨v',w',hrun,h2,h3⟩:=run_append_arg_grows (P:=P) w t ty e i z 1 bytes ht hi hz hz1 hz2 hzs (by decide) ⟨g,0,none⟩ 0 0 [] rfl (fun j u hj=>by simp at hj) a m c news hl
    (fun j u hu=>by
     have hj:j<news.length:=(List.getElem?_eq_some_iff.1 hu).1
     obtain⟨a',ha',hc⟩:=hr.get j (by rw [←hl];exact hj)
     cases ha'
     rw [hc,←hu,List.getD_eq_getElem?_getD,List.getElem?_eq_getElem hj]
     rfl) (by omega) (by rw [len_maxLen];omega) (by
     have:(0+m)*bytes≤1099511627776*64:=Nat.mul_le_mul (by omega) hby
     omega)
   obtain⟨A',cap',rfl,ho⟩:=Own.of_row h2
   rw [Nat.zero_add,List.nil_append] at ho
   rw [Nat.zero_add] at hrun
   exact⟨A',cap',w',hrun,ho.mono hb,(UpdO.of (A:=none) h3).ext (Ext.refl w) (fun p hp=>by cases hp)⟩
variable {Q:Exit→Act→World→Prop}{n:Nat}{l:Fr}{w:World}{ops:Array Oper}{rest:List Oper}{d:Nat}{ty:TypeId}{pos:String}{af:Array Edge}{gd:Option (Nat×Bool)}
theorem wl_app0 {x y:Operand}{t e:TypeId}{z:Value}{bytes m c base g:Nat}{S:Option Addr}{news:List Value}(hw:guardB ops l gd=some true) (hx:evo l x=some (.slice (some ⟨g,0,none⟩) 0 0)) (hy:evo l y=some (.slice S m c))
  (ht:P.underlying t=some (.slice e)) (hinfo:(P.info? e).map (fun i=>(i.zero,i.size,i.bytes))=some (some z,1,bytes)) (hzs:z.cells.size=1) (hby:bytes≤64)
  (hg:base≤g) (hb:base≤w.heap.size) (hk:Bk w g e []) (hr:Rv w 1 S m c news) (h1:∀u∈news,u.oneCell'=true) (hm:m≤1099511627776) (hn:d<n)
  (h:∀A' cap' w',Own w' base e 1 A' m cap' news→Ext w w'→wl P ops Q n rest ((d,.slice A' m cap')::l) w'):
  wl P ops Q n (⟨some d,.call {callee:= .builtin .append,args:= #[x,y],argTypes:= #[t,t]},ty,pos,af,gd⟩::rest) l w:=by
 obtain⟨A',cap',w',hr,h2,h3⟩:=run_app0 (P:=P) (ty:=ty) ht hinfo hzs hby hg hb hk hr h1 hm
 refine wl_val hw hn (fun a' ha=>?_) (h A' cap' w' h2 h3)
 unfold execOp
 simp only [resolve,invoke,builtin,Sem.run_bind,Sem.run_pure,Result.andThen_ok,List.map_toArray,List.map_cons,List.map_nil,ha.ev hx,ha.ev hy]
 rw [hr]
 rfl
end
theorem made_zcells (k:Nat):(madeCells (Value.agg #[.bool false,.slice none 0 0]).cells (k*2)).toList=zcells (List.replicate k ZC.zero):=by
 refine List.ext_getElem ?_ fun j h1 h2=>?_
 ·rw [Array.length_toList,size_madeCells,zcells_len,List.length_replicate]
 ·have hj:j<k*2:=by simpa [size_madeCells] using h1
  have e1:(madeCells (Value.agg #[.bool false,.slice none 0 0]).cells (k*2)).toList[j]= #[Value.bool false,.slice none 0 0][j%2]!:=by
   simp [madeCells,Value.cells]
  rw [e1]
  have hjk:j/2<(List.replicate k ZC.zero).length:=by rw [List.length_replicate];omega
  have hz:(List.replicate k ZC.zero).getD (j/2) ZC.zero=ZC.zero:=by
   rw [List.getD_eq_getElem?_getD,List.getElem?_replicate];split <;> rfl
  rcases Nat.mod_two_eq_zero_or_one j with h | h
  ·have e2:=zcells_get0 (List.replicate k ZC.zero) (j/2) hjk
   rw [show j/2*2=j by omega,List.getElem?_eq_getElem h2,hz] at e2
   injection e2 with e2
   rw [e2,h];rfl
  ·have e2:=zcells_get1 (List.replicate k ZC.zero) (j/2) hjk
   rw [show j/2*2+1=j by omega,List.getElem?_eq_getElem h2,hz] at e2
   injection e2 with e2
   rw [e2,h];rfl
section
variable {Q:Exit→Act→World→Prop}{N:Nat}{l:Fr}{w:World}{ops:Array Oper}{rest:List Oper}{d:Nat}{ty:TypeId}{pos:String}{af:Array Edge}{gd:Option (Nat×Bool)}
theorem wl_makeL {x y:Operand}{k:Nat}(m:Option World) (K b:Nat) (hw:guardB ops l gd=some true) (hx:evo l x=some (.int .i64 (k:Int))) (hy:evo l y=some (.int .i64 (k:Int))) (hk:k≤1099511627776) (hd:d<N)
  (h:∀g w',w.heap.size=g→Lz m K b w' g (some ⟨g,0,none⟩) k k (List.replicate k 0)→Ext w w'→wl Tryz.prog ops Q N rest ((d,.slice (some ⟨g,0,none⟩) k k)::l) w'):wl Tryz.prog ops Q N (⟨some d,.makeSlice 22 x y,ty,pos,af,gd⟩::rest) l w:=by
 obtain⟨i,hi,hz0,hz1,hz2⟩:=info_parts infoI
 have hr:=run_make (P:=Tryz.prog) w 22 41 i _ elemI hi hz0 .i64 .i64 (k:Int) (k:Int) (by omega) (by omega) (by rw [hz2];omega) (by omega)
 rw [Int.toNat_natCast,hz1] at hr
 obtain⟨cs,hcs,hcl⟩:∃cs:List Value,madeCells (Value.agg #[.bool false,.slice none 0 0]).cells (k*2)=cs.toArray∧cs=zcells (List.replicate k ZC.zero):=⟨(madeCells (Value.agg #[.bool false,.slice none 0 0]).cells (k*2)).toList,Array.toArray_toList.symm,made_zcells k⟩
 rw [hcs] at hr
 have hlen:cs.length=k*2:=by rw [hcl,zcells_len,List.length_replicate]
 refine wl_val hw hd (fun a' ha=>?_) (h _ (w.alloc (.cells cs.toArray 41)) rfl ⟨List.replicate k ZC.zero,Or.inr ⟨w.heap.size,cs,rfl,Nat.le_refl _,Bk.new _ _ _,Nat.le_refl _,by rw [len_maxLen];omega,hlen,by rw [List.take_of_length_le (by omega)];exact hcl⟩,List.length_replicate ..,List.length_replicate ..,fun i hi=>?_⟩ ((Ext.refl w).alloc _))
 ·have e':(Instr.makeSlice 22 (a'.eval x) (a'.eval y)).run Tryz.prog w= .ok (.slice (some ⟨w.heap.size,0,none⟩) k k) (w.alloc (.cells cs.toArray 41)):=by rw [ha.ev hx,ha.ev hy];exact hr
  show ((Instr.makeSlice 22 (a'.eval x) (a'.eval y)>>=fun r=>pure (Next.value r):Sem Next)).run Tryz.prog w=_
  rw [Sem.run_bind,e'];rfl
 ·have e1:(List.replicate k ZC.zero).getD i ZC.zero=ZC.zero:=by rw [List.getD_eq_getElem?_getD,List.getElem?_replicate];split <;> rfl
  have e2:(List.replicate k (0:Int)).getD i 0=0:=by rw [List.getD_eq_getElem?_getD,List.getElem?_replicate];split <;> rfl
  rw [e1,e2]
  exact⟨Nat.zero_le _,Or.inl Zr.zero⟩
end
def upto5 (zs:List Int) (n k:Nat):List Int:=zs.take k++List.replicate (n-k) 0
theorem upto5_zero (zs:List Int) (n:Nat):List.replicate n 0=upto5 zs n 0:=by simp [upto5]
theorem upto5_full {zs:List Int}{n:Nat}(h:zs.length=n):upto5 zs n n=zs:=by simp [upto5,←h]
theorem upto5_succ {zs:List Int}{n k:Nat}(h:zs.length=n) (hk:k<n):(upto5 zs n k).set k (zs.getD k 0)=upto5 zs n (k+1):=by
 unfold upto5
 rw [List.set_append_right _ _ (by rw [List.length_take];omega),List.length_take,Nat.min_eq_left (by omega),Nat.sub_self,show n-k=(n-(k+1))+1 by omega,List.replicate_succ,List.set_cons_zero]
 rw [show zs.take (k+1)=zs.take k++ [zs.getD k 0] by rw [List.take_add_one,List.getD_eq_getElem?_getD,List.getElem?_eq_getElem (by omega)];rfl,List.append_assoc]
 rfl
def ZOR (b:Nat) (s:Bool) (n:Nat) (z:Int) (v:Value) (w:World):Prop:=∃A c,v= .agg #[.bool s,.slice A n c]∧Zo w b s A n c z
theorem ZOR.imp {b b':Nat}{s:Bool}{n:Nat}{z:Int}(h:b'≤b):∀v w,ZOR b s n z v w→ZOR b' s n z v w:=fun _ _ ⟨A,c,h1,h2⟩=>⟨A,c,h1,h2.mono h⟩
section
variable {P:Program}{Q:Exit→Act→World→Prop}{n:Nat}{l:Fr}{w:World}{ops:Array Oper}{rest:List Oper}{d:Nat}{op:Op}{ty:TypeId}{pos:String}{af:Array Edge}{gd:Option (Nat×Bool)}
theorem wl_pureE {v v':Value}(hw:guardB ops l gd=some true) (hk:known l op=true) (hn:d<n) (hr:(execOp (rho l) ⟨some d,op,ty,pos,af,gd⟩).run P w= .ok (.value v) w) (e:v=v')
  (h:wl P ops Q n rest ((d,v')::l) w):wl P ops Q n (⟨some d,op,ty,pos,af,gd⟩::rest) l w:=wl_pure hw hk hn hr (by rw [e];exact h)
end
end Go.Proofs.YtnpbbknemflpnaaGreat

namespace Go.Proofs.YtnpbbknemflpnaaGreat
def sm:Nat→(Nat→Int)→Int
 | 0,_=>0
 | n+1,f=>sm n f+f n
theorem sm_congr {n:Nat}{f g:Nat→Int}(h:∀i,i<n→f i=g i):sm n f=sm n g:=by
 induction n with
 | zero=>rfl
 | succ n ih=>simp only [sm];rw [ih (fun i hi=>h i (by omega)),h n (by omega)]
theorem sm_zero (n:Nat):sm n (fun _=>0)=0:=by
 induction n with
 | zero=>rfl
 | succ n ih=>simp only [sm,ih];rfl
theorem sm_add (n:Nat) (f g:Nat→Int):sm n (fun i=>f i+g i)=sm n f+sm n g:=by
 induction n with
 | zero=>rfl
 | succ n ih=>simp only [sm,ih];omega
theorem sm_mul (n:Nat) (c:Int) (f:Nat→Int):sm n (fun i=>c*f i)=c*sm n f:=by
 induction n with
 | zero=>simp [sm]
 | succ n ih=>simp only [sm,ih,Int.mul_add]
theorem sm_swap (n m:Nat) (f:Nat→Nat→Int):sm n (fun i=>sm m (fun j=>f i j))=sm m (fun j=>sm n (fun i=>f i j)):=by
 induction n with
 | zero=>simp only [sm,sm_zero]
 | succ n ih=>simp only [sm,ih,sm_add]
theorem sm_at {n i:Nat}(hi:i<n) (f:Nat→Int):sm n (fun j=>if j=i then f j else 0)=f i:=by
 induction n with
 | zero=>omega
 | succ n ih=>
  simp only [sm]
  by_cases h:i<n
  ·rw [ih h,if_neg (by omega)];omega
  ·have e:n=i:=by omega
   subst e
   rw [if_pos rfl,sm_congr (g:=fun _=>0) (fun j hj=>if_neg (by omega)),sm_zero];omega
theorem sm_front (n:Nat) (f:Nat→Int):sm (n+1) f=f 0+sm n (fun i=>f (i+1)):=by
 induction n with
 | zero=>simp [sm]
 | succ n ih=>rw [sm,ih];simp only [sm];omega
def cv:(Nat→Int)→(Nat→Int)→Nat→Int
 | f,g,0=>f 0*g 0
 | f,g,k+1=>f 0*g (k+1)+cv (fun i=>f (i+1)) g k
def c1:Nat→Int
 | 0=>1
 | _+1=>0
abbrev Mx:=Nat→Nat→Int
def mm (n:Nat) (A B:Mx):Mx:=fun i j=>sm n fun k=>A i k*B k j
def m1:Mx:=fun i j=>if i=j then 1 else 0
def mp (n:Nat) (A:Mx):Nat→Mx
 | 0=>m1
 | k+1=>mm n (mp n A k) A
theorem mm_congr {n:Nat}{A A' B B':Mx}{i j:Nat}(h:∀k,k<n→A i k=A' i k) (h':∀k,k<n→B k j=B' k j):mm n A B i j=mm n A' B' i j:=
 sm_congr fun k hk=>by rw [h k hk,h' k hk]
theorem m1_mm {n:Nat}(A:Mx){i:Nat}(j:Nat) (hi:i<n):mm n m1 A i j=A i j:=by
 have:mm n m1 A i j=sm n fun k=>if k=i then A k j else 0:=sm_congr fun k _=>by
  unfold m1
  by_cases h:k=i
  ·rw [if_pos h,if_pos h.symm];omega
  ·rw [if_neg h,if_neg (fun e=>h e.symm)];omega
 rw [this,sm_at hi (fun k=>A k j)]
section
variable (n:Nat) (A:Mx)
def rw_ (t j:Nat):Int:=sm n fun i=>A n i*mp n A t i j
def hh (t:Nat):Int:=sm n fun j=>rw_ n A t j*A j n
def ss:Nat→Int
 | 0=>1
 | 1=> -A n n
 | t+2=> -hh n A t
end
def sx (p n i:Nat):Nat:=if i=p then n else if i=n then p else i
end Go.Proofs.YtnpbbknemflpnaaGreat
