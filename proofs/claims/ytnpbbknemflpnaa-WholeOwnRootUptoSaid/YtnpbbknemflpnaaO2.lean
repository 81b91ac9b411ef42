/- Parts LongB, DivC, Gcd, Int, Sxz, Sxl, Sxw, IntB, IntC, Pop, Small, Zg, Sxb, Ab, Upto, Stays, Zs, UptoZ, App, Zh, Bz, Li, One, Sxk, Ms, Mt, Opm, Dt, Gs, Lpm, Cm, joined. -/
import Derived.Test.YtnpbbknemflpnaaO1
import Derived.IntWalk
import Derived.KernelRfl
import Derived.Test.YtnpbbknemflpnaaRows
import Derived.WalkKit
import Derived.ProofKit
import Derived.OpenShut
import Derived.JoinedCond
import Derived.ChangeSame
import Derived.ChangeSlices
import Derived.ChangeStays
import Derived.Deep.Slices
import Derived.DataShut
import Derived.ArgAppend
import Derived.WalkSmall

namespace Go.Proofs.Ytnpbbknemflpnaa
open Go.RowKit
theorem guess_quiet {u2 u1 u0 v1 v0 D:Nat}(h2:u2≤v1) (h1:u1≤18446744073709551615) (h0:u0≤18446744073709551615) (hv1:v1≤18446744073709551615) (hv0:v0≤18446744073709551615) (hpos:0<v1)
  (k1:D≤18446744073709551615) (k2:D*(v1*WB+v0)≤(u2*WB+u1)*WB+u0) (k3:D=18446744073709551615∨(u2*WB+u1)*WB+u0<(D+1)*(v1*WB+v0)) (w:World) (n:Nat):
  Calls Try.prog 85 #[.int .u64 (u2:Int),.int .u64 (u1:Int),.int .u64 (u0:Int),.int .u64 (v1:Int),.int .u64 (v0:Int)] (w.drewN n) (fun e w''=>e= .returned (.int .u64 (D:Int))∧∃m,w''=w.drewN m):=by
 refine Calls.quiet_of ((divnat_guess h2 h1 h0 hv1 hv0 hpos (w.drewN n)).mono ?_)
 rintro e w' ⟨d,rfl,a,b,c,m,rfl⟩
 rw [guess_only a b.out c.out k1 k2 k3]
 exact⟨rfl,m,rfl⟩
theorem lt_of_drop {l l1:List Nat}{K:Nat}(hl:K≤l.length) (hl1:K≤l1.length) (hw:Wf l1) (hd:l1.drop K=l.drop K) (h:nv l<WB^K):nv l1<WB^K:=by
 have e1:=nv_split l K hl
 have e2:=nv_split l1 K hl1
 have h3:=nv_take_lt hw K
 rw [hd] at e2
 rcases Nat.eq_zero_or_pos (nv (l.drop K)) with h0 | h0
 ·rw [h0,Nat.mul_zero] at e2;omega
 ·have:=Nat.le_mul_of_pos_right (WB^K) h0
  omega
set_option maxRecDepth 10000 in
set_option maxHeartbeats 8000000 in
theorem divnat_longA {w:World}{A B:Option Addr}{N cap n cap':Nat}{xs ys:List Nat}(hx:Rd w A N cap xs) (hN:N≤274877906944) (hy:Rd w B n cap' ys) (hn:2≤n) (hnN:n≤N) (htop:ys.getD (n-1) 0≠0):
  Calls Try.prog 76 #[.slice A N cap,.slice B n cap'] w (RetQRA w (nv xs/nv ys) (nv xs%nv ys)):=by
 obtain⟨b,y,rfl,hyk,hyb,hcy⟩:=hy.get (i:=n-1) (by omega)
 have hlx:=Lib.hid hx.len
 have hly:=Lib.hid hy.len
 have hyp:(0:Int)<(n:Int):=by omega
 go_enter Try.func76,Try.ntmps76
 go_wp2_with fail
 refine (bits_LeadingZeros64 y hyb _).mono ?_
 rintro e w' ⟨s,hs,hs64',rfl,rfl⟩
 have hstart:=long_start hx.wf hy.wf hlx.out hly.out (by omega) hnN hyk.out (by rw [←hyk.out];exact htop) hyb hs.out
 obtain⟨hs64,hVfit,hUfit,hVpos,hVlow,hUV⟩:=hstart
 have HVfit:=Lib.hid hVfit
 have HUfit:=Lib.hid hUfit
 have HVpos:=Lib.hid hVpos
 have HVlow:=Lib.hid hVlow
 have HUV:=Lib.hid hUV
 clear hVfit hUfit hVpos hVlow hUV htop
 go_wp2_with fail
 refine (divnat_shifted hy (by omega) hs64 (by omega) (Nat.le_refl _) HVfit.out).mono ?_
 rintro e w1 ⟨gv,vs,rfl,hgv,hbv,hwv,hlv,hvv,hx1⟩
 go_wp2_with fail
 refine (divnat_shifted (n:=N+1) (hx.ext hx1) (by omega) hs64 (by omega) (by omega) HUfit.out).mono ?_
 rintro e w2 ⟨gu,us,rfl,hgu,hbu,hwu,hlu,hvu,hx2⟩
 obtain⟨M,hM1,hM2⟩:∃M,M+n≤N+1∧N+1≤M+n:=⟨N+1-n,by omega,by omega⟩
 have hmk:=run_make1 (P:=Try.prog) Try.underlying32 info64 rfl (by decide) ((N:Int)-(n:Int)+1) (by omega) (by omega)
 have et:((N:Int)-(n:Int)+1).toNat=M:=by omega
 rw [et] at hmk
 clear et
 go_wp2_with fail
 clear hmk
 have hbv2:=hbv.ext hx2
 have hguv:gv<gu:=Nat.lt_of_lt_of_le hbv.lt hgu
 obtain⟨gq,hgq⟩:∃gq,w2.heap.size=gq:=⟨_,rfl⟩
 rw [hgq]
 have hguq:gu<gq:=by rw [←hgq];exact hbu.lt
 obtain⟨wa,hwa⟩:∃wa,w2.alloc (.cells (zc (.int .u64 0) M) 47)=wa:=⟨_,rfl⟩
 rw [hwa]
 have hbq:Bk wa gq 47 ((List.replicate M 0).map W64):=by
  rw [←hwa,←hgq,←replicate_W64];exact Bk.new' _ _ _
 have hea:Ext w2 wa:=by rw [←hwa];exact (Ext.refl w2).alloc _
 have hgw:w.heap.size≤gv:=hgv
 have hgw2:w.heap.size≤gu:=by omega
 have hgw3:w.heap.size≤gq:=by omega
 have hbva:=hbv2.ext hea
 have hbua:=hbu.ext hea
 have hexa:Ext w wa:=(hx1.trans hx2).trans hea
 clear hgq hwa hbv hbu hbv2 hea hcy
 have hL0:Hid (Lg (nv ys*2^s) (nv xs*2^s) M us (List.replicate M 0)):=by
  refine⟨?_,?_⟩
  ·rw [List.drop_of_length_le (by rw [List.length_replicate];exact Nat.le_refl _),hvu.out];simp [nv]
  ·rw [hvu.out,show M=N+1-n from by omega];exact HUV.out
 have hv1:Hid (0<vs.getD (n-1) 0):=by
  refine Nat.pos_of_ne_zero (fun h0=>?_)
  have e1:=nv_take_zero vs (n-1) (by rw [hlv.out];omega) h0
  rw [Nat.sub_add_cancel (by omega),List.take_of_length_le (by rw [hlv.out];exact Nat.le_refl _),hvv.out] at e1
  have e2:=nv_take_lt hwv (n-1)
  have:=HVlow.out
  omega
 go_loopw [11] (fun u wr=>∃(k:Nat) (l ql:List Nat),k≤M∧u= .int .i64 ((k:Int)-1)∧Hid (l.length=N+1)∧Wf l∧Hid (ql.length=M)∧Wf ql∧Bk wr gv 47 (vs.map W64)∧Bk wr gu 47 (l.map W64)∧Bk wr gq 47 (ql.map W64)∧
  Hid (Lg (nv ys*2^s) (nv xs*2^s) k l ql)∧Ext w wr) (fun u wr=>(intOf u+1).toNat)
 case atStart=>exact⟨M,us,_,Nat.le_refl _,val_int (by omega),hlu,hwu,List.length_replicate,Wf_zeros _,hbva,hbua,hbq,hL0,hexa⟩
 case round=>
  obtain⟨k,l,ql,hk,rfl,hll,hwl,hlq,hwq,hbv,hbu,hbq',hL,hr⟩:=hrel
  clear hbva hbua hbq hexa hL0 hlu hvu
  by_cases hk0:0<k
  ·obtain⟨j,rfl⟩:∃j,k=j+1:=⟨k-1,by omega⟩
   have ek:((j+1:Nat):Int)-1=(j:Int):=by omega
   rw [ek]
   obtain⟨u2,hu2k,hu2b,hcu2⟩:=hbu.word hwl (i:=j+n) (by rw [hll.out];omega)
   obtain⟨u1,hu1k,hu1b,hcu1⟩:=hbu.word hwl (i:=j+n-1) (by rw [hll.out];omega)
   obtain⟨u0,hu0k,hu0b,hcu0⟩:=hbu.word hwl (i:=j+n-2) (by rw [hll.out];omega)
   obtain⟨v1,hv1k,hv1b,hcv1⟩:=hbv.word hwv (i:=n-1) (by rw [hlv.out];omega)
   obtain⟨v0,hv0k,hv0b,hcv0⟩:=hbv.word hwv (i:=n-2) (by rw [hlv.out];omega)
   have hgs:=fun d=>long_guess (d:=d) hL.out hn (by rw [hll.out];omega) hwl hlv.out hwv hvv.out hv1.out
   rw [hu2k.out,hu1k.out,hu0k.out,hv1k.out,hv0k.out] at hgs
   have hu2v:u2≤v1:=(hgs 0).2.1
   have hv1p:0<v1:=by rw [←hv1k.out];exact hv1.out
   have HGS:=Lib.hid hgs
   clear hgs
   have hfin:∀(q:Nat) (l2:List Nat) (wr2:World),q=nv l/(WB^j*(nv ys*2^s))→nv l2=nv l%(WB^j*(nv ys*2^s))→q≤18446744073709551615→l2.length=N+1→Wf l2→Bk wr2 gv 47 (vs.map W64)→Bk wr2 gu 47 (l2.map W64)→Bk wr2 gq 47 ((ql.set j q).map W64)→Ext w wr2→
     ∃(k:Nat) (l ql:List Nat),k≤M∧Value.int .i64 ((j:Int)-1)= .int .i64 ((k:Int)-1)∧Hid (l.length=N+1)∧Wf l∧Hid (ql.length=M)∧Wf ql∧Bk wr2 gv 47 (vs.map W64)∧Bk wr2 gu 47 (l.map W64)∧Bk wr2 gq 47 (ql.map W64)∧
      Hid (Lg (nv ys*2^s) (nv xs*2^s) k l ql)∧Ext w wr2:=by
    intro q l2 wr2 h1 h2 h3 h4 h5 h6 h7 h8 h9
    exact⟨j,l2,ql.set j q,by omega,rfl,h4,h5,(show _=_ by rw [List.length_set];exact hlq.out),Wf_set hwq j (by rw [WB_def];omega),h6,h7,h8,hL.out.step (by rw [hlq.out];omega) HVpos.out h1 h2,h9⟩
   have FIN:=Lib.hid hfin
   clear hfin
   go_upto_region 9 with (fail)
   obtain⟨d,hdb,hd1,hd2⟩:=guess_is ((u2*WB+u1)*WB+u0) (v1*WB+v0) (by rw [WB_def];omega)
   have hdd:=Lib.hid ((HGS.out d).2.2 hdb hd1 hd2)
   have HLT:=Lib.hid (HGS.out d).1
   have HD1:=Lib.hid hd1
   have HD2:=Lib.hid hd2
   clear hd1 hd2 HGS
   have w1e:IntKind.i64.wrap ((j:Int)+(n:Int))=(j:Int)+(n:Int):=IntWalk.i64_in _ (by omega)
   have w2e:IntKind.i64.wrap ((j:Int)+(n:Int)-1)=(j:Int)+(n:Int)-1:=IntWalk.i64_in _ (by omega)
   have w3e:IntKind.i64.wrap ((j:Int)+(n:Int)-2)=(j:Int)+(n:Int)-2:=IntWalk.i64_in _ (by omega)
   have w4e:IntKind.i64.wrap ((n:Int)-1)=(n:Int)-1:=IntWalk.i64_in _ (by omega)
   have w5e:IntKind.i64.wrap ((n:Int)-2)=(n:Int)-2:=IntWalk.i64_in _ (by omega)
   have t1:((j:Int)+(n:Int)).toNat=j+n:=by omega
   have t2:((j:Int)+(n:Int)-1).toNat=j+n-1:=by omega
   have t3:((j:Int)+(n:Int)-2).toNat=j+n-2:=by omega
   have t4:((n:Int)-1).toNat=n-1:=by omega
   have t5:((n:Int)-2).toNat=n-2:=by omega
   have b1:0≤(j:Int)+(n:Int):=by omega
   have b2:0≤(j:Int)+(n:Int)-1:=by omega
   have b3:0≤(j:Int)+(n:Int)-2:=by omega
   have b4:0≤(n:Int)-1:=by omega
   have b5:0≤(n:Int)-2:=by omega
   have c1:(j:Int)+(n:Int)<(N:Int)+1:=by omega
   have c2:(j:Int)+(n:Int)-1<(N:Int)+1:=by omega
   have c3:(j:Int)+(n:Int)-2<(N:Int)+1:=by omega
   have c4:(n:Int)-1<(n:Int):=by omega
   have c5:(n:Int)-2<(n:Int):=by omega
   go_quiet (exact guess_quiet hu2v hu1b hu0b hv1b hv0b hv1p hdb HD1.out HD2.out _ _)
   clear w1e w2e w3e w4e w5e t1 t2 t3 t4 t5 b1 b2 b3 b4 b5 c1 c2 c3 c4 c5
   obtain⟨wd,hwd⟩:∃wd,wr.drewN nq=wd:=⟨_,rfl⟩
   rw [hwd]
   have hbu1:Bk wd gu 47 (l.map W64):=by rw [←hwd];exact hbu.drewN nq
   have hbv1:Bk wd gv 47 (vs.map W64):=by rw [←hwd];exact hbv.drewN nq
   have hbq1:Bk wd gq 47 (ql.map W64):=by rw [←hwd];exact hbq'.drewN nq
   have hr1:Ext w wd:=by rw [←hwd];exact hr.drewN nq
   clear hwd hcu2 hcu1 hcu0 hcv1 hcv0
   have hvrd:=hbv1.rd hwv (o:=0) (n:=n) (cap:=n) (Nat.le_refl _) (by rw [hlv.out];omega) (by rw [len_maxLen];omega)
   rw [List.drop_zero,List.take_of_length_le (by rw [hlv.out];exact Nat.le_refl _)] at hvrd
   go_wp2_with fail
   rw [show j+n+1-j=n+1 from by omega]
   refine (divnat_take (o:=j) (m:=n) hbu1 hwl hvrd (fun a ha=>by cases ha;show gv≠gu;omega) (by rw [hll.out];omega) (by omega) (by omega) hdb).mono ?_
   rintro e w4 ⟨bb,rfl,l1,c,hb4,hw4,hll4,hdr4,hc4,hP4,hu4⟩
   have hll4':Hid (l1.length=N+1):=(show _=_ by rw [hll4.out,hll.out])
   have hL1:Hid (nv l1<WB^(j+n+1)):=lt_of_drop (by rw [hll.out];omega) (by rw [hll4'.out];omega) hw4 hdr4.out HLT.out
   have hcase:=long_case (D:=WB^j*(nv ys*2^s)) (Nat.mul_pos (Nat.pow_pos WB_pos) HVpos.out) hdd.out.1 hdd.out.2 HLT.out hL1.out (by
    have h:=hP4.out.2
    rw [hvv.out,Nat.mul_left_comm] at h
    exact h) hc4
   have hbc:=hP4.out.1
   have hbv4:=hbv1.upd hu4 (by omega)
   have hbq4:=hbq1.upd hu4 (by omega)
   have hr4:=hu4.ext hr1 hgw2
   have hbb:bb=false∧c=0∨bb=true∧c=1:=by
    rcases bb with _ | _
    ·left;refine⟨rfl,?_⟩;simp at hbc;omega
    ·right;exact⟨rfl,hbc.1 rfl⟩
   clear hP4 hbc hc4 hbv hbu hbq' hbu1 hbv1 hbq1 hr hr1 hvrd
   rcases hbb with⟨rfl,hc⟩ | ⟨rfl,hc⟩
   ·have h0:=Lib.hid (hcase.1 hc)
    clear hcase hc
    obtain⟨z,hz,_,hcz⟩:=hbq4.word hwq (i:=j) (by rw [hlq.out];omega)
    have hfz:=hbq4.frozen j
    have hjM:(j:Int)<(M:Int):=by omega
    go_wp2_with fail
    go_roundw
    case rel=>exact FIN.out d l1 _ h0.out.1 h0.out.2 hdb hll4'.out hw4 (hbv4.far (by show gv≠gq;omega) _) (hb4.far (by show gu≠gq;omega) _) (by rw [←map_W64_set];exact hbq4.set _ _) (hr4.setCell hgw3 _)
    case measure=>simp [intOf]
   ·have h0:=Lib.hid (hcase.2 hc)
    clear hcase hc
    obtain⟨q,rfl⟩:∃q,d=q+1:=⟨_,h0.out.1⟩
    have hq:Hid (q=nv l/(WB^j*(nv ys*2^s))):=(show _=_ from Nat.succ.inj h0.out.1)
    have hvrd:=hbv4.rd hwv (o:=0) (n:=n) (cap:=n) (Nat.le_refl _) (by rw [hlv.out];omega) (by rw [len_maxLen];omega)
    rw [List.drop_zero,List.take_of_length_le (by rw [hlv.out];exact Nat.le_refl _)] at hvrd
    go_wp2_with fail
    rw [show j+n+1-j=n+1 from by omega]
    refine (divnat_give (o:=j) (m:=n) hb4 hw4 hvrd (fun a ha=>by cases ha;show gv≠gu;omega) (by rw [hll4'.out];omega) (by omega) (by omega)).mono ?_
    rintro e w5 ⟨rfl,l2,c2,hb5,hw5,hll5,hdr5,hc5,hP5,hu5⟩
    have hll5':Hid (l2.length=N+1):=(show _=_ by rw [hll5.out,hll4'.out])
    have hL2:Hid (nv l2<WB^(j+n+1)):=lt_of_drop (by rw [hll4'.out];omega) (by rw [hll5'.out];omega) hw5 hdr5.out hL1.out
    have hfin2:Hid (nv l2=nv l%(WB^j*(nv ys*2^s))):=h0.out.2 (nv l2) c2 hc5 hL2.out (by have h:=hP5.out;rw [hvv.out] at h;exact h)
    have hbv5:=hbv4.upd hu5 (by omega)
    have hbq5:=hbq4.upd hu5 (by omega)
    have hr5:=hu5.ext hr4 hgw2
    clear hP5 hc5 hbv4 hbq4 hr4 hb4 hvrd h0
    obtain⟨z,hz,_,hcz⟩:=hbq5.word hwq (i:=j) (by rw [hlq.out];omega)
    have hfz:=hbq5.frozen j
    have hjM:(j:Int)<(M:Int):=by omega
    go_wp2_with fail
    go_roundw
    case rel=>exact FIN.out q l2 _ hq.out hfin2.out (by omega) hll5'.out hw5 (hbv5.far (by show gv≠gq;omega) _) (hb5.far (by show gu≠gq;omega) _) (by rw [←map_W64_set];exact hbq5.set _ _) (hr5.setCell hgw3 _)
    case measure=>simp [intOf]
  ·obtain rfl:k=0:=by omega
   have ek:((0:Nat):Int)-1= -1:=rfl
   rw [ek]
   have hLv:Hid (nv l<nv ys*2^s):=by
    have:=hL.out.lt
    rw [Nat.pow_zero,Nat.mul_one] at this
    exact this
   have hQ:=long_end (X:=nv xs) (Y:=nv ys) (s:=s) (Q:=nv ql) (L:=nv l) (Nat.pos_of_mul_pos_right HVpos.out) (by have:=hL.out.eq;simpa using this) hLv.out
   have hln:Hid (nv (l.take n)=nv l):=by
    show _=_
    have e1:=nv_split l n (by rw [hll.out];omega)
    rcases Nat.eq_zero_or_pos (nv (l.drop n)) with h0 | h0
    ·rw [h0,Nat.mul_zero,Nat.add_zero] at e1;exact e1.symm
    ·have:=Nat.le_mul_of_pos_right (WB^n) h0
     have h2:=hLv.out
     have h3:=HVfit.out
     omega
   have HQ:=Lib.hid hQ
   clear hQ
   have hurd:=hbu.rd hwl (o:=0) (n:=n) (cap:=N+1) (by omega) (by rw [hll.out];omega) (by rw [len_maxLen];omega)
   rw [List.drop_zero] at hurd
   go_wp2_with fail
   refine (nat_Shr hurd (by omega) (by omega)).mono ?_
   rintro e w6 ⟨A6,n6,c6,rfl,hn6,hr6,ho6,hx6⟩
   rw [hln.out,HQ.out.2] at hn6 hr6 ho6
   have hqrd:=(hbq'.ext hx6).rd hwq (o:=0) (n:=M) (cap:=M) (Nat.le_refl _) (by rw [hlq.out];omega) (by rw [len_maxLen];omega)
   rw [List.drop_zero,List.take_of_length_le (by rw [hlq.out];exact Nat.le_refl _)] at hqrd
   go_wp2_with fail
   refine (nat_Least hqrd (by omega)).mono ?_
   rintro e w7 ⟨A7,n7,c7,rfl,hn7,hr7,ho7,hx7⟩
   rw [HQ.out.1] at hn7 hr7 ho7
   go_wp2_with fail
   go_ret2
   exact⟨A7,n7,c7,A6,n6,c6,rfl,hn7,hr7,ho7.mono (hr.trans hx6).size,hn6,hr6.ext hx7,(ho6.mono hr.size).ext hx7,(hr.trans hx6).trans hx7,fun p p' hp hp'=>by have h1:=ho7.block p hp;have h2:=ho6.block p' hp';omega⟩
def RetQRE (w:World) (q r:Nat) (er:Int) (e:Ending) (w':World):Prop:=
 ∃A n cap B m cap',e= .returned (.tuple #[.slice A n cap,.slice B m cap',.int .i64 er])∧Hid (n=(wd q).length)∧Rd w' A n cap (wd q)∧Own w' w.heap.size 47 1 A n cap ((wd q).map W64)∧
  Hid (m=(wd r).length)∧Rd w' B m cap' (wd r)∧Own w' w.heap.size 47 1 B m cap' ((wd r).map W64)∧Ext w w'
def RetQREA (w:World) (q r:Nat) (er:Int) (e:Ending) (w':World):Prop:=
 ∃A n cap B m cap',e= .returned (.tuple #[.slice A n cap,.slice B m cap',.int .i64 er])∧Hid (n=(wd q).length)∧Rd w' A n cap (wd q)∧Own w' w.heap.size 47 1 A n cap ((wd q).map W64)∧
  Hid (m=(wd r).length)∧Rd w' B m cap' (wd r)∧Own w' w.heap.size 47 1 B m cap' ((wd r).map W64)∧Ext w w'∧∀p p',A=some p→B=some p'→p.block≠p'.block
theorem RetQREA.old {w:World}{q r:Nat}{er:Int}{e:Ending}{w':World}(h:RetQREA w q r er e w'):RetQRE w q r er e w':=by
 obtain⟨A,n,cap,B,m,cap',h1,h2,h3,h4,h5,h6,h7,h8,_⟩:=h
 exact⟨A,n,cap,B,m,cap',h1,h2,h3,h4,h5,h6,h7,h8⟩
theorem wd_top {m:Nat}(h:m≠0):(wd m).getD ((wd m).length-1) 0≠0:=by
 intro h0
 have hl:0<(wd m).length:=Nat.pos_of_ne_zero (fun e=>h (len_wd_zero.1 e))
 have e1:=nv_take_zero (wd m) ((wd m).length-1) (by omega) h0
 rw [Nat.sub_add_cancel (by omega),List.take_of_length_le (Nat.le_refl _),nv_wd] at e1
 have h2:=nv_take_lt (Wf_wd m) ((wd m).length-1)
 have h3:=pow_len_le h
 omega
theorem wd_len_one {m v:Nat}(h:1=(wd m).length) (hv:(wd m).getD 0 0=v):m=v:=by
 have e1:=nv_take_snoc (wd m) 0 (by omega)
 rw [List.take_of_length_le (by omega),nv_wd,hv] at e1
 simpa [nv] using e1
theorem divnat_DivModA {w:World}{A B:Option Addr}{n cap n' cap':Nat}{xs ys:List Nat}(hx:Rd w A n cap xs) (hl:n≤274877906944) (hy:Rd w B n' cap' ys) (hl':n'≤274877906944) (h0:nv ys≠0):
  Calls Try.prog 64 #[.slice A n cap,.slice B n' cap'] w (RetQREA w (nv xs/nv ys) (nv xs%nv ys) 0):=by
 go_enter Try.func64,Try.ntmps64
 go_wp2_with fail
 refine (nat_Least hy (by omega)).mono ?_
 rintro e w1 ⟨A1,n1,c1,rfl,hn1,hr1,ho1,hx1⟩
 have hn1p:0<n1:=by
  rw [hn1.out];exact Nat.pos_of_ne_zero (fun e=>h0 (len_wd_zero.1 e))
 have hn1b:n1≤n':=by
  have:=len_wd_nv hy.wf
  rw [hn1.out,←hy.len];exact this
 have b0:((n1:Int)==0)=false:=by simp;omega
 by_cases h1:n1=1
 ·subst h1
  obtain⟨a,v,rfl,hvk,hvb,hcv⟩:=hr1.get (i:=0) (by omega)
  have hv:Hid (nv ys=v):=wd_len_one hn1.out hvk.out
  have hcv0:w1.cell? a=some (.int .u64 (v:Int)):=by simpa [Addr.add] using hcv
  go_wp2_with fail
  refine (divnat_Word (hx.ext hx1) (by omega) (v:=v) (by rw [←hv.out];exact h0) hvb).mono ?_
  rintro e w2 ⟨A2,n2,c2,r,rfl,hr,hrb,hn2,hr2,ho2,hx2⟩
  go_wp2_with fail
  have hone:=Rd.one w2 hrb
  refine (nat_Least hone (by omega)).mono ?_
  rintro e w3 ⟨A3,n3,c3,rfl,hn3,hr3,ho3,hx3⟩
  rw [nv_one,hr.out,←hv.out] at hn3 hr3 ho3
  rw [←hv.out] at hn2 hr2 ho2
  have hal:Ext w2 w3:=((Ext.refl w2).alloc _).trans hx3
  go_wp2_with fail
  go_ret3
  exact⟨A2,n2,c2,A3,n3,c3,rfl,hn2,hr2.ext hal,(ho2.mono hx1.size).ext hal,hn3,hr3,ho3.mono (Nat.le_trans (hx1.trans hx2).size (by simp)),(hx1.trans hx2).trans hal,fun p p' hp hp'=>by have h1:=ho2.block p hp;have h2:=ho3.block p' hp';simp only [World.alloc,Array.size_push] at h2;omega⟩
 ·have b1:((n1:Int)==1)=false:=by simp;omega
  go_wp2_with fail
  refine (nat_Least (hx.ext hx1) (by omega)).mono ?_
  rintro e w2 ⟨A2,n2,c2,rfl,hn2,hr2,ho2,hx2⟩
  have hn2b:n2≤n:=by
   have:=len_wd_nv hx.wf
   rw [hn2.out,←hx.len];exact this
  go_wp2_with fail
  refine (nat_Cmp hr2 (by omega) (hr1.ext hx2) (by omega)).mono ?_
  rintro e w3 ⟨c,hc,hcl,hch,rfl,hx3⟩
  rw [nv_wd,nv_wd] at hc
  by_cases hlt:nv xs<nv ys
  ·have hneg:c<0:=by rw [hc.out];exact cmp3_neg.2 hlt
   go_wp2_with fail
   go_ret3
   rw [Nat.div_eq_of_lt hlt,Nat.mod_eq_of_lt hlt]
   exact⟨none,0,0,A2,n2,c2,rfl,rfl,Rd.nil _,Own.nil _ _ _ _,hn2,hr2.ext hx3,(ho2.mono hx1.size).ext hx3,(hx1.trans hx2).trans hx3,fun p p' hp=>by cases hp⟩
  ·have hneg:¬c<0:=by rw [hc.out,cmp3_neg];exact hlt
   have HL:=Lib.hid hlt
   have hn12:n1≤n2:=by rw [hn1.out,hn2.out];exact len_wd_mono (by omega)
   clear hlt
   go_wp2_with fail
   refine (divnat_longA (hr2.ext hx3) (by omega) ((hr1.ext hx2).ext hx3) (by omega) hn12 (by rw [hn1.out];exact wd_top h0)).mono ?_
   rintro e w4 ⟨A4,n4,c4,A5,n5,c5,rfl,hn4,hr4,ho4,hn5,hr5,ho5,hx4,hap⟩
   rw [nv_wd,nv_wd] at hn4 hr4 ho4 hn5 hr5 ho5
   go_wp2_with fail
   go_ret3
   have hs:=((hx1.trans hx2).trans hx3)
   exact⟨A4,n4,c4,A5,n5,c5,rfl,hn4,hr4,ho4.mono hs.size,hn5,hr5,ho5.mono hs.size,hs.trans hx4,hap⟩
theorem divnat_DivMod {w:World}{A B:Option Addr}{n cap n' cap':Nat}{xs ys:List Nat}(hx:Rd w A n cap xs) (hl:n≤274877906944) (hy:Rd w B n' cap' ys) (hl':n'≤274877906944) (h0:nv ys≠0):
  Calls Try.prog 64 #[.slice A n cap,.slice B n' cap'] w (RetQRE w (nv xs/nv ys) (nv xs%nv ys) 0):=(divnat_DivModA hx hl hy hl' h0).mono fun _ _ h=>h.old
theorem divnat_Exact {w:World}{A B:Option Addr}{n cap n' cap':Nat}{xs ys:List Nat}(hx:Rd w A n cap xs) (hl:n≤274877906944) (hy:Rd w B n' cap' ys) (hl':n'≤274877906944) (h0:nv ys≠0) (h1:nv xs%nv ys=0):
  Calls Try.prog 50 #[.slice A n cap,.slice B n' cap'] w (RetWE w (nv xs/nv ys) 0):=by
 go_enter Try.func50,Try.ntmps50
 have H1:=Lib.hid h1
 clear h1
 go_wp2_with fail
 refine (divnat_DivMod hx hl hy hl' h0).mono ?_
 rintro e w1 ⟨A4,n4,c4,A5,n5,c5,rfl,hn4,hr4,ho4,hn5,hr5,ho5,hx4⟩
 obtain rfl:n5=0:=by rw [hn5.out,H1.out];rfl
 go_wp2_with fail
 go_ret2
 exact⟨A4,n4,c4,rfl,hn4,hr4,ho4,hx4⟩
def wordOf:Option Value→Nat
 | some (.int _ z)=>z.toNat
 | _=>0
def numAt (w:World):Value→Nat
 | .slice (some a) n _=>nv ((List.range n).map fun i=>wordOf (w.cell? (a.add i)))
 | _=>0
theorem Rd.numAt {w:World}{A:Option Addr}{n cap:Nat}{xs:List Nat}(h:Rd w A n cap xs):Go.Proofs.Ytnpbbknemflpnaa.numAt w (.slice A n cap)=nv xs:=by
 have hlen:=h.len
 cases A with
 | none=>
  have hn:n=0:=by
   rcases Nat.eq_zero_or_pos n with h0 | h0
   ·exact h0
   ·obtain⟨a,ha,_⟩:=h.rv.get 0 (by omega)
    cases ha
  have:xs= []:=List.eq_nil_of_length_eq_zero (by omega)
  subst this
  rfl
 | some a=>
  show nv _=_
  congr 1
  apply List.ext_getElem
  ·simp [hlen]
  ·intro i h1 h2
   obtain⟨a',x,ha,hx,hxb,hc⟩:=h.get (i:=i) (by omega)
   cases ha
   have e:xs[i]=x:=by
    have:=hx.out
    simpa [List.getD_eq_getElem?_getD,List.getElem?_eq_getElem h2] using this
   simp [hc,wordOf,e]
theorem gcd_step (a b:Nat):Nat.gcd a b=Nat.gcd b (a%b):=by
 rw [Nat.gcd_comm a b,Nat.gcd_rec b a,Nat.gcd_comm]
def OneP (w:World) (x:Nat) (e:Ending) (w':World):Prop:=
 ∃g,e= .returned (.slice (some ⟨g,0,none⟩) 1 1)∧w.heap.size≤g∧Bk w' g 47 ([x].map W64)∧x≤18446744073709551615∧Ext w w'
theorem divnat_words {x y:Nat}(hx:x≤18446744073709551615) (hy:y≤18446744073709551615) (w:World):
  Calls Try.prog 89 #[.int .u64 (x:Int),.int .u64 (y:Int)] w (OneP w (Nat.gcd x y)):=by
 go_enter Try.func89,Try.ntmps89
 go_wp2_with fail
 go_loopw [0,1] (fun u v wr=>∃a b:Nat,u= .int .u64 (a:Int)∧v= .int .u64 (b:Int)∧a≤18446744073709551615∧b≤18446744073709551615∧Hid (Nat.gcd a b=Nat.gcd x y)∧Ext w wr) (fun u v wr=>(intOf v).toNat)
 case atStart=>exact⟨x,y,rfl,rfl,hx,hy,rfl,Ext.refl w⟩
 case round=>
  obtain⟨a,b,rfl,rfl,ha,hb,hg,hr⟩:=hrel
  by_cases h0:b=0
  ·subst h0
   have b0:((0:Int) != 0)=false:=rfl
   go_wp2_with fail
   go_ret
   have e:Nat.gcd x y=a:=by rw [←hg.out,Nat.gcd_zero_right]
   rw [e]
   exact⟨wr.heap.size,rfl,hr.size,Bk.new wr 47 [.int .u64 (a:Int)],ha,hr.alloc _⟩
  ·have b0:((b:Int) != 0)=true:=by simp;omega
   have b1:((b:Int)==0)=false:=by simp;omega
   have h2:¬(b:Int)≤0:=by omega
   have h5:=Int.emod_nonneg (a:Int) (b:=(b:Int)) (by omega)
   have h6:=Int.emod_lt_of_pos (a:Int) (b:=(b:Int)) (by omega)
   have HM:=Lib.hid (Nat.mod_lt a (show 0<b by omega))
   go_wp2_with fail
   go_quiet (fail)
   go_wp2_with fail
   go_roundw
   case rel=>exact⟨b,a%b,rfl,val_int (by simp),hb,by have:=HM.out;omega,(show _=_ by rw [←hg.out,←gcd_step]),hr.drewN _⟩
   case measure=>have:=HM.out;simp [intOf];omega
set_option maxHeartbeats 2000000 in
theorem divnat_Gcd {w:World}{A B:Option Addr}{n cap n' cap':Nat}{xs ys:List Nat}(hx:Rd w A n cap xs) (hl:n≤274877906944) (hy:Rd w B n' cap' ys) (hl':n'≤274877906944):
  Calls Try.prog 77 #[.slice A n cap,.slice B n' cap'] w (RetW w (Nat.gcd (nv xs) (nv ys))):=by
 go_enter Try.func77,Try.ntmps77
 go_wp2_with fail
 refine (nat_Least hx (by omega)).mono ?_
 rintro e w1 ⟨A1,n1,c1,rfl,hn1,hr1,ho1,hx1⟩
 have hn1b:n1≤274877906944:=by rw [hn1.out];exact Nat.le_trans (by have:=len_wd_nv hx.wf;rw [hx.len] at this;exact this) hl
 go_wp2_with fail
 refine (nat_Least (hy.ext hx1) (by omega)).mono ?_
 rintro e w2 ⟨A2,n2,c2,rfl,hn2,hr2,ho2,hx2⟩
 have hn2b:n2≤274877906944:=by rw [hn2.out];exact Nat.le_trans (by have:=len_wd_nv hy.wf;rw [hy.len] at this;exact this) hl'
 go_wp2_with fail
 go_loopw [5,6] (fun u v wr=>∃(A B:Option Addr) (n cap m cap' a b:Nat),u= .slice A n cap∧v= .slice B m cap'∧n≤274877906944∧m≤274877906944∧Hid (n=(wd a).length)∧Hid (m=(wd b).length)∧Rd wr A n cap (wd a)∧Own wr w.heap.size 47 1 A n cap ((wd a).map W64)∧
  Rd wr B m cap' (wd b)∧Own wr w.heap.size 47 1 B m cap' ((wd b).map W64)∧Hid (Nat.gcd a b=Nat.gcd (nv xs) (nv ys))∧Ext w wr) (fun u v wr=>numAt wr v)
 case atStart=>exact⟨A1,A2,n1,c1,n2,c2,nv xs,nv ys,rfl,rfl,hn1b,hn2b,hn1,hn2,hr1.ext hx2,ho1.ext hx2,hr2,ho2.mono hx1.size,rfl,hx1.trans hx2⟩
 case round=>
  obtain⟨A,B,n,cap,m,cap',a,b,rfl,rfl,hnb,hmb,hn,hm,hra,hoa,hrb,hob,hg,hr⟩:=hrel
  clear hr1 hr2 ho1 ho2 hx hy hn1 hn2
  by_cases hm0:0<m
  ·have hb0:b≠0:=fun h=>by rw [hm.out,h] at hm0;simp [wd_zero] at hm0
   have HB:=Lib.hid hb0
   clear hb0
   by_cases hcase:n=1∧m=1
   ·obtain⟨rfl,rfl⟩:=hcase
    obtain⟨p,x,rfl,hxk,hxb,hcx⟩:=hra.get (i:=0) (by omega)
    obtain⟨q,y,rfl,hyk,hyb,hcy⟩:=hrb.get (i:=0) (by omega)
    have ea:Hid (a=x):=wd_len_one hn.out hxk.out
    have eb:Hid (b=y):=wd_len_one hm.out hyk.out
    have hcx0:wr.cell? p=some (.int .u64 (x:Int)):=by simpa [Addr.add] using hcx
    have hcy0:wr.cell? q=some (.int .u64 (y:Int)):=by simpa [Addr.add] using hcy
    clear hcx hcy
    go_wp2_with fail
    go_region_with (first
     | (go_at_call 89;refine (divnat_words hxb hyb _).mono ?_;rintro er w5 ⟨g5,rfl,hg5,hb5,hx5b,hx5⟩))
    all_goals
     go_wp2_with fail
     go_ret
     have h5:Ext w w5:=hr.trans (Ext.trans (by repeat (first | exact Ext.refl _ | assumption | apply Ext.drewN | apply Ext.drew | apply Ext.alloc)) hx5)
     have hgs:wr.heap.size≤g5:=hg5
     have hne:Nat.gcd x y≠0:=by
      have:=Nat.gcd_pos_of_pos_right x (n:=y) (Nat.pos_of_ne_zero (by rw [←eb.out];exact HB.out))
      omega
     have e6:Nat.gcd (nv xs) (nv ys)=Nat.gcd x y:=by rw [←hg.out,ea.out,eb.out]
     rw [e6]
     exact RetW_mk (ys:= [Nat.gcd x y]) (Nat.le_trans hr.size hgs) hb5 rfl (Nat.le_refl _) (by rw [len_maxLen];omega) (by rw [wd_small (by rw [WB_def];omega) hne];rfl) h5
   ·have hd:decide ((n:Int)=1)=false∨decide ((m:Int)=1)=false:=by
     by_cases h:n=1
     ·right;simp;omega
     ·left;simp;omega
    have key:∀(Q' R':Option Addr) (nq cq nr cr:Nat) (w5:World),Hid (nr=(wd (a%b)).length)→Rd w5 R' nr cr (wd (a%b))→Own w5 wr.heap.size 47 1 R' nr cr ((wd (a%b)).map W64)→Ext wr w5→
      (∃(A B':Option Addr) (n cap m' cap'' a b:Nat),Value.slice B m cap'= .slice A n cap∧Value.slice R' nr cr= .slice B' m' cap''∧n≤274877906944∧m'≤274877906944∧Hid (n=(wd a).length)∧Hid (m'=(wd b).length)∧Rd w5 A n cap (wd a)∧Own w5 w.heap.size 47 1 A n cap ((wd a).map W64)∧
       Rd w5 B' m' cap'' (wd b)∧Own w5 w.heap.size 47 1 B' m' cap'' ((wd b).map W64)∧Hid (Nat.gcd a b=Nat.gcd (nv xs) (nv ys))∧Ext w w5)∧numAt w5 (.slice R' nr cr)<numAt wr (.slice B m cap'):=by
     intro Q' R' nq cq nr cr w5 h1 h2 h3 h4
     have hmod:a%b<b:=Nat.mod_lt a (Nat.pos_of_ne_zero HB.out)
     refine⟨⟨B,R',m,cap',nr,cr,b,a%b,rfl,rfl,hmb,?_,hm,h1,hrb.ext h4,hob.ext h4,h2,h3.mono hr.size,(show _=_ by rw [←hg.out,←gcd_step]),hr.trans h4⟩,?_⟩
     ·rw [h1.out]
      refine Nat.le_trans (len_wd_mono (Nat.le_of_lt hmod)) ?_
      rw [←hm.out];exact hmb
     ·rw [h2.numAt,hrb.numAt,nv_wd,nv_wd];exact hmod
    have KEY:=Lib.hid key
    clear key
    by_cases hn1':n=1
    ·have hm1:((m:Int)==1)=false:=by
      have:¬m=1:=fun h=>hcase ⟨hn1',h⟩
      simp;omega
     have bn1:((n:Int)==1)=true:=by simp;omega
     clear hcase hd hn1'
     go_wp2_with fail
     refine (divnat_DivMod hra (by omega) hrb (by omega) (by rw [nv_wd];exact HB.out)).mono ?_
     rintro e w5 ⟨Aq,nq,cq,Ar,nr,cr,rfl,hnq,hrq,hoq,hnr,hrr,hor,hx5⟩
     rw [nv_wd,nv_wd] at hnr hrr hor
     go_wp2_with fail
     go_roundw
     case rel=>exact (KEY.out Aq Ar nq cq nr cr w5 hnr hrr hor hx5).1
     case measure=>exact (KEY.out Aq Ar nq cq nr cr w5 hnr hrr hor hx5).2
    ·have bn1:((n:Int)==1)=false:=by simp;omega
     clear hcase hd hn1'
     go_wp2_with fail
     refine (divnat_DivMod hra (by omega) hrb (by omega) (by rw [nv_wd];exact HB.out)).mono ?_
     rintro e w5 ⟨Aq,nq,cq,Ar,nr,cr,rfl,hnq,hrq,hoq,hnr,hrr,hor,hx5⟩
     rw [nv_wd,nv_wd] at hnr hrr hor
     go_wp2_with fail
     go_roundw
     case rel=>exact (KEY.out Aq Ar nq cq nr cr w5 hnr hrr hor hx5).1
     case measure=>exact (KEY.out Aq Ar nq cq nr cr w5 hnr hrr hor hx5).2
  ·have hb0:b=0:=len_wd_zero.1 (by rw [←hm.out];omega)
   have e:Nat.gcd (nv xs) (nv ys)=a:=by rw [←hg.out,hb0,Nat.gcd_zero_right]
   have HE:=Lib.hid e
   clear e hb0
   go_wp2_with fail
   go_ret
   rw [HE.out]
   exact⟨A,n,cap,rfl,hn,hra,hoa,hr⟩
def sg (s:Bool) (m:Nat):Int:=if s then-(m:Int) else m
theorem sg_false (m:Nat):sg false m=m:=rfl
theorem sg_true (m:Nat):sg true m= -(m:Int):=rfl
theorem sg_abs (s:Bool) (m:Nat):(sg s m).natAbs=m:=by cases s <;> simp [sg]
theorem sg_self (z:Int):sg (decide (z<0)) z.natAbs=z:=by
 by_cases h:z<0
 ·rw [decide_eq_true h,sg_true];omega
 ·rw [decide_eq_false h,sg_false];omega
theorem sg_zero (s:Bool):sg s 0=0:=by cases s <;> rfl
theorem sg_eq_zero {s:Bool}{m:Nat}:sg s m=0↔m=0:=by cases s <;> simp [sg]
theorem sg_not (s:Bool) (m:Nat):sg (!s) m= -sg s m:=by cases s <;> simp [sg]
theorem sg_lt (s:Bool) (m:Nat):decide (sg s m<0)=(s&&decide (0<m)):=by
 cases s
 ·simp [sg]
 ·by_cases h:0<m
  ·simp [sg,h]
  ·have:m=0:=by omega
   subst this
   simp [sg]
theorem sg_add (s:Bool) (m k:Nat):sg s (m+k)=sg s m+sg s k:=by cases s <;> simp [sg] <;> omega
theorem sg_sub {s:Bool}{m k:Nat}(h:k≤m):sg s (m-k)=sg s m+sg (!s) k:=by cases s <;> simp [sg] <;> omega
theorem sg_mul (s t:Bool) (m k:Nat):sg (s != t) (m*k)=sg s m*sg t k:=by
 cases s <;> cases t <;> simp [sg,Int.mul_neg,Int.neg_mul]
theorem sg_tdiv (s t:Bool) (m k:Nat):sg (s != t) (m/k)=(sg s m).tdiv (sg t k):=by
 cases s <;> cases t <;> simp [sg,Int.tdiv_neg,Int.neg_tdiv]
def ln (z:Int):Nat:=(wd z.natAbs).length
theorem ln_mono {x y:Int}(h:x.natAbs≤y.natAbs):ln x≤ln y:=len_wd_mono h
theorem ln_neg (x:Int):ln (-x)=ln x:=by unfold ln;rw [Int.natAbs_neg]
theorem ln_add {x y:Int}{a b:Nat}(hx:ln x≤a) (hy:ln y≤b):ln (x+y)≤max a b+1:=by
 have h1:=len_wd_mono (Int.natAbs_add_le x y)
 have h2:=len_wd_add x.natAbs y.natAbs
 unfold ln at*
 omega
theorem ln_sub {x y:Int}{a b:Nat}(hx:ln x≤a) (hy:ln y≤b):ln (x-y)≤max a b+1:=by
 rw [Int.sub_eq_add_neg]
 exact ln_add hx (by rw [ln_neg];exact hy)
theorem ln_mul {x y:Int}{a b:Nat}(hx:ln x≤a) (hy:ln y≤b):ln (x*y)≤a+b:=by
 have h2:=len_wd_mul x.natAbs y.natAbs
 unfold ln at*
 rw [Int.natAbs_mul]
 omega
theorem ln_zero:ln 0=0:=rfl
theorem ln_one:ln 1=1:=by decide+kernel
def Zi (w:World) (s:Bool) (A:Option Addr) (n cap:Nat) (z:Int):Prop:=∃xs,Rd w A n cap xs∧sg s (nv xs)=z
theorem Zi.ext {w w':World}{s:Bool}{A:Option Addr}{n cap:Nat}{z:Int}(h:Zi w s A n cap z) (e:Ext w w'):Zi w' s A n cap z:=by
 obtain⟨xs,h1,h2⟩:=h
 exact⟨xs,h1.ext e,h2⟩
theorem Zi.ln {w:World}{s:Bool}{A:Option Addr}{n cap:Nat}{z:Int}(h:Zi w s A n cap z):Go.Proofs.Ytnpbbknemflpnaa.ln z≤n:=by
 obtain⟨xs,h1,rfl⟩:=h
 have:=len_wd_nv h1.wf
 rw [h1.len] at this
 unfold Go.Proofs.Ytnpbbknemflpnaa.ln
 rw [sg_abs]
 exact this
theorem Zi.not {w:World}{s:Bool}{A:Option Addr}{n cap:Nat}{z:Int}(h:Zi w s A n cap z):Zi w (!s) A n cap (-z):=by
 obtain⟨xs,h1,rfl⟩:=h
 exact⟨xs,h1,sg_not _ _⟩
structure Zr (w:World) (base:Nat) (s:Bool) (A:Option Addr) (n cap:Nat) (z:Int):Prop where
 sgn:s=decide (z<0)
 len:n=ln z
 own:Own w base 47 1 A n cap ((wd z.natAbs).map W64)
theorem Zr.rd {w:World}{base:Nat}{s:Bool}{A:Option Addr}{n cap:Nat}{z:Int}(h:Zr w base s A n cap z):Rd w A n cap (wd z.natAbs):=h.own.rd (Wf_wd _)
theorem Zr.ext {w w':World}{base:Nat}{s:Bool}{A:Option Addr}{n cap:Nat}{z:Int}(h:Zr w base s A n cap z) (e:Ext w w'):Zr w' base s A n cap z:=⟨h.sgn,h.len,h.own.ext e⟩
theorem Zr.mono {w:World}{base base':Nat}{s:Bool}{A:Option Addr}{n cap:Nat}{z:Int}(h:Zr w base s A n cap z) (e:base'≤base):Zr w base' s A n cap z:=⟨h.sgn,h.len,h.own.mono e⟩
theorem Zr.zi {w:World}{base:Nat}{s:Bool}{A:Option Addr}{n cap:Nat}{z:Int}(h:Zr w base s A n cap z):Zi w s A n cap z:=⟨_,h.rd,by rw [nv_wd,h.sgn,sg_self]⟩
theorem Zr.upd {w w':World}{base g:Nat}{s:Bool}{A:Option Addr}{n cap:Nat}{z:Int}(h:Zr w base s A n cap z) (hg:g<base) (e:Upd g w w'):Zr w' base s A n cap z:=
 ⟨h.sgn,h.len,h.own.upd e (fun a ha=>by have:=(h.own.block a ha).1;omega)⟩
theorem Zr.cast {w:World}{base:Nat}{s:Bool}{A:Option Addr}{n cap:Nat}{z z':Int}(h:Zr w base s A n cap z) (e:z=z'):Zr w base s A n cap z':=e▸h
theorem Zr.le {w:World}{base:Nat}{s:Bool}{A:Option Addr}{n cap:Nat}{z:Int}(h:Zr w base s A n cap z){b:Nat}(hb:ln z≤b):n≤b:=by rw [h.len];exact hb
theorem Zr.ln_le {w:World}{base:Nat}{s:Bool}{A:Option Addr}{n cap:Nat}{z:Int}(h:Zr w base s A n cap z){b:Nat}(hb:n≤b):ln z≤b:=by rw [←h.len];exact hb
theorem Zr.zero {w:World}{base:Nat}:Zr w base false none 0 0 0:=⟨by decide,rfl,Own.nil _ _ _ _⟩
def RetZ (w:World) (z:Int) (e:Ending) (w':World):Prop:=
 ∃s A n cap,e= .returned (.agg #[.bool s,.slice A n cap])∧Zr w' w.heap.size s A n cap z∧Ext w w'
def RetZE (w:World) (z:Int) (er:Int) (e:Ending) (w':World):Prop:=
 ∃s A n cap,e= .returned (.tuple #[.agg #[.bool s,.slice A n cap],.int .i64 er])∧Zr w' w.heap.size s A n cap z∧Ext w w'
theorem Zr_of {w:World}{base:Nat}{s s':Bool}{A:Option Addr}{n cap m:Nat}{z:Int}(h:s'=decide (sg s m<0)) (hn:n=(wd m).length) (ho:Own w base 47 1 A n cap ((wd m).map W64)) (hz:sg s m=z):Zr w base s' A n cap z:=by
 have e:z.natAbs=m:=by rw [←hz,sg_abs]
 rw [hz] at h
 exact⟨h,by unfold ln;rw [e];exact hn,by rw [e];exact ho⟩
theorem Bk.two {w:World}{g:Nat}{t:TypeId}{a b:Value}(h:Bk w g t [a,b]):w.cell? ⟨g,0,none⟩=some a∧w.cell? ⟨g,1,none⟩=some b∧w.frozen? ⟨g,0,none⟩=false∧w.frozen? ⟨g,1,none⟩=false:=
 ⟨h.cell (i:=0) (by simp),h.cell (i:=1) (by simp),h.frozen 0,h.frozen 1⟩
theorem Bk.two_set {w:World}{g:Nat}{t:TypeId}{a b:Value}(h:Bk w g t [a,b]) (u v:Value):Bk ((w.setCell ⟨g,0,none⟩ u).setCell ⟨g,1,none⟩ v) g t [u,v]:=(h.set 0 u).set 1 v
theorem Upd.two {w:World}{g:Nat}(u v:Value):Upd g w ((w.setCell ⟨g,0,none⟩ u).setCell ⟨g,1,none⟩ v):=((Upd.refl g w).setCell 0 u).setCell 1 v
theorem Bk.sec {w:World}{t t':TypeId}{l:Array Value}{a b:Value}:Bk ((w.alloc (.cells l t')).alloc (.cells #[a,b] t)) (w.heap.size+1) t [a,b]:=by
 have:=Bk.new (w.alloc (.cells l t')) t [a,b]
 simpa using this
theorem Bk.thi {w:World}{t t' t'':TypeId}{l l':Array Value}{a b:Value}:Bk (((w.alloc (.cells l t')).alloc (.cells l' t'')).alloc (.cells #[a,b] t)) (w.heap.size+2) t [a,b]:=by
 have:=Bk.new ((w.alloc (.cells l t')).alloc (.cells l' t'')) t [a,b]
 simpa using this
theorem Bk.fou {w:World}{t t' t'' t''':TypeId}{l l' l'':Array Value}{a b:Value}:Bk ((((w.alloc (.cells l t')).alloc (.cells l' t'')).alloc (.cells l'' t''')).alloc (.cells #[a,b] t)) (w.heap.size+3) t [a,b]:=by
 have:=Bk.new (((w.alloc (.cells l t')).alloc (.cells l' t'')).alloc (.cells l'' t''')) t [a,b]
 simpa using this
theorem boxes2 (w:World) (t t':TypeId) (a b c d:Value):∃g g2 wa,w.heap.size+1=g2∧w.heap.size=g∧(w.alloc (.cells #[a,b] t)).alloc (.cells #[c,d] t')=wa∧Bk wa g t [a,b]∧Bk wa g2 t' [c,d]∧Ext w wa∧g<g2∧g2<wa.heap.size∧g≠g2∧g2≠g:=
 ⟨_,_,_,rfl,rfl,rfl,(Bk.new w t [a,b]).alloc _,Bk.sec,((Ext.refl w).alloc _).alloc _,by omega,by simp,by omega,by omega⟩
theorem boxes3 (w:World) (t t' t'':TypeId) (a b c d e f:Value):∃g g2 g3 wa,w.heap.size+1+1=g3∧w.heap.size+1=g2∧w.heap.size=g∧((w.alloc (.cells #[a,b] t)).alloc (.cells #[c,d] t')).alloc (.cells #[e,f] t'')=wa∧Bk wa g t [a,b]∧Bk wa g2 t' [c,d]∧Bk wa g3 t'' [e,f]∧Ext w wa∧g<g2∧g2<g3∧g3<wa.heap.size∧g≠g2∧g2≠g∧g≠g3∧g3≠g∧g2≠g3∧g3≠g2:=
 ⟨_,_,_,_,rfl,rfl,rfl,rfl,((Bk.new w t [a,b]).alloc _).alloc _,Bk.sec.alloc _,Bk.thi,(((Ext.refl w).alloc _).alloc _).alloc _,by omega,by omega,by simp,by omega,by omega,by omega,by omega,by omega,by omega⟩
theorem boxes4 (w:World) (t t' t'' t''':TypeId) (a b c d e f i j:Value):∃g g2 g3 g4 wa,w.heap.size+1+1+1=g4∧w.heap.size+1+1=g3∧w.heap.size+1=g2∧w.heap.size=g∧(((w.alloc (.cells #[a,b] t)).alloc (.cells #[c,d] t')).alloc (.cells #[e,f] t'')).alloc (.cells #[i,j] t''')=wa∧Bk wa g t [a,b]∧Bk wa g2 t' [c,d]∧Bk wa g3 t'' [e,f]∧Bk wa g4 t''' [i,j]∧Ext w wa∧g<g2∧g2<g3∧g3<g4∧g4<wa.heap.size∧g≠g2∧g2≠g∧g≠g3∧g3≠g∧g2≠g3∧g3≠g2∧g≠g4∧g4≠g∧g2≠g4∧g4≠g2∧g3≠g4∧g4≠g3:=
 ⟨_,_,_,_,_,rfl,rfl,rfl,rfl,rfl,(((Bk.new w t [a,b]).alloc _).alloc _).alloc _,(Bk.sec.alloc _).alloc _,Bk.thi.alloc _,Bk.fou,((((Ext.refl w).alloc _).alloc _).alloc _).alloc _,by omega,by omega,by omega,by simp,by omega,by omega,by omega,by omega,by omega,by omega,by omega,by omega,by omega,by omega,by omega,by omega⟩
theorem fin_int {w w2:World}{g base:Nat}{T:TypeId}{x y:Value}{s:Bool}{A:Option Addr}{n cap:Nat}{z:Int}(_hb:Bk w2 g T [x,y]) (hz:Zr w2 base s A n cap z) (hg:g<base) (hw:w.heap.size≤g) (he:Ext w w2):
  RetZ w z (.returned (.agg #[.bool s,.slice A n cap])) ((w2.setCell ⟨g,0,none⟩ (.bool s)).setCell ⟨g,1,none⟩ (.slice A n cap)):=
 ⟨s,A,n,cap,rfl,(hz.upd hg (Upd.two _ _)).mono (by omega),(Upd.two _ _).ext he hw⟩
theorem res_int {w:World}{g:Nat}{t:TypeId}{a b:Value}{fn:Func}{s:Tmp}(hf:fn.results= #[.cell s 34]){tmps:Array Value}(hs:tmps.getD s undef= .pointer (some ⟨g,0,none⟩)) (h:Bk w g t [a,b]):(results fn tmps).run Try.prog w= .ok (.agg #[a,b]) w:=by
 obtain⟨h1,h2,_,_⟩:=h.two
 have hs2:tmps[s]?.getD undef= .pointer (some ⟨g,0,none⟩):=by simpa using hs
 simp [results,hf,hs2,loadVar,loadCells,loadCellsFrom,go_sem,h1,h2]
def scmp (x y:Int):Int:=if x<y then-1 else if x=y then 0 else 1
theorem scmp_neg {x y:Int}:scmp x y<0↔x<y:=by unfold scmp;split <;> (try split) <;> omega
theorem scmp_zero {x y:Int}:scmp x y=0↔x=y:=by unfold scmp;split <;> (try split) <;> omega
def SgnP (v:Int) (w:World) (e:Ending) (w':World):Prop:=∃c:Int,Hid (c=v)∧ -1≤c∧c≤1∧e= .returned (.int .i64 c)∧Ext w w'
theorem zint_of {w:World}{s:Bool}{A:Option Addr}{n cap m:Nat}(hn:n=(wd m).length):
  Calls Try.prog 30 #[.bool s,.slice A n cap] w fun e w'=>∃s',e= .returned (.agg #[.bool s',.slice A n cap])∧Hid (s'=decide (sg s m<0))∧Ext w w':=by
 have hm:decide (0<m)=decide (0<n):=by
  by_cases h:m=0
  ·rw [h] at hn⊢;rw [hn];rfl
  ·have:n≠0:=fun e=>h (len_wd_zero.1 (by rw [←hn,e]))
   rw [decide_eq_true (show 0<m by omega),decide_eq_true (show 0<n by omega)]
 have HM:Hid (decide (sg s m<0)=(s&&decide (0<n))):=(show _=_ by rw [sg_lt,hm])
 clear hm hn
 go_enter Try.func30,Try.ntmps30
 cases s
 ·go_wp2_with fail
  refine bodyPost_ret (v:= .agg #[.bool false,.slice A n cap]) (by simp [results,Try.results30,go_sem]) rfl ?_
  exact⟨_,rfl,(show _=_ by rw [HM.out];rfl),(Ext.refl w).alloc _⟩
 ·by_cases h:n=0
  ·subst h
   go_wp2_with fail
   refine bodyPost_ret (v:= .agg #[.bool false,.slice A 0 cap]) (by simp [results,Try.results30,go_sem]) rfl ?_
   exact⟨_,rfl,(show _=_ by rw [HM.out];rfl),(Ext.refl w).alloc _⟩
  ·have h0:0<n:=by omega
   have hd:decide (0<n)=true:=decide_eq_true h0
   have hi:0<(n:Int):=by omega
   go_wp2_with fail
   refine bodyPost_ret (v:= .agg #[.bool true,.slice A n cap]) (by simp [results,Try.results30,go_sem]) rfl ?_
   exact⟨_,rfl,(show _=_ by rw [HM.out,hd];rfl),(Ext.refl w).alloc _⟩
theorem zint_Neg {w:World}{s:Bool}{A:Option Addr}{n cap:Nat}{x:Int}(hx:Zi w s A n cap x) (hl:n≤68719476736):
  Calls Try.prog 11 #[.agg #[.bool s,.slice A n cap]] w (RetZ w (-x)):=by
 obtain⟨xs,hr,rfl⟩:=hx
 go_enter Try.func11,Try.ntmps11
 go_upto_region 1 with (fail)
 obtain⟨g,g2,wa,hg2,hg,hwa,hb1,hb2,hea,l12,l2,n12,n21⟩:=boxes2 w 34 34 (.bool s) (.slice A n cap) (.bool false) (.slice none 0 0)
 rw [hg2,hg,hwa]
 have hgw:w.heap.size≤g:=Nat.le_of_eq hg
 clear hwa hg hg2
 obtain⟨f1,f2,f3,f4⟩:=hb1.two
 obtain⟨k1,k2,k3,k4⟩:=hb2.two
 go_region_held3 (fun w'=>w'.cell? ⟨g,0,none⟩=some (.bool s)∧w'.cell? ⟨g,1,none⟩=some (.slice A n cap)) (go_keep)
  (first
  | (go_at_call 31;refine (nat_Least (hr.ext (by repeat (first | exact Ext.refl _ | assumption | apply Ext.drewN | apply Ext.drew | apply Ext.alloc))) (by omega)).mono ?_;rintro e w1 ⟨A1,n1,c1,rfl,hn1,hr1,ho1,hx1⟩;have he1:Ext wa w1:=Ext.trans (by repeat (first | exact Ext.refl _ | assumption | apply Ext.drewN | apply Ext.drew | apply Ext.alloc)) hx1;have hc1:=hb1.ext he1;have hc2:=hb2.ext he1;obtain⟨f1',f2',f3',f4'⟩:=hc1.two;obtain⟨k1',k2',k3',k4'⟩:=hc2.two)
  | (go_at_call 30;refine (zint_of hn1.out).mono ?_;rintro e w2 ⟨s',rfl,hs',hx2⟩;have hd1:=hc1.ext hx2;have hd2:=hc2.ext hx2;obtain⟨f1'',f2'',f3'',f4''⟩:=hd1.two;obtain⟨k1'',k2'',k3'',k4''⟩:=hd2.two))
 go_wp2_with fail
 refine bodyPost_ret (res_int rfl rfl (hd2.two_set _ _)) rfl ?_
 exact fin_int hd2 ((Zr_of hs'.out hn1.out ho1 (sg_not _ _)).ext hx2) (by first | omega | (simp;omega)) (by omega) (hea.trans (he1.trans hx2))
theorem zint_Least {w:World}{s:Bool}{A:Option Addr}{n cap:Nat}{x:Int}(hx:Zi w s A n cap x) (hl:n≤68719476736):
  Calls Try.prog 39 #[.agg #[.bool s,.slice A n cap]] w (RetZ w (x)):=by
 obtain⟨xs,hr,rfl⟩:=hx
 go_enter Try.func39,Try.ntmps39
 go_upto_region 1 with (fail)
 obtain⟨g,g2,wa,hg2,hg,hwa,hb1,hb2,hea,l12,l2,n12,n21⟩:=boxes2 w 34 34 (.bool s) (.slice A n cap) (.bool false) (.slice none 0 0)
 rw [hg2,hg,hwa]
 have hgw:w.heap.size≤g:=Nat.le_of_eq hg
 clear hwa hg hg2
 obtain⟨f1,f2,f3,f4⟩:=hb1.two
 obtain⟨k1,k2,k3,k4⟩:=hb2.two
 go_region_held3 (fun w'=>w'.cell? ⟨g,0,none⟩=some (.bool s)∧w'.cell? ⟨g,1,none⟩=some (.slice A n cap)) (go_keep)
  (first
  | (go_at_call 31;refine (nat_Least (hr.ext (by repeat (first | exact Ext.refl _ | assumption | apply Ext.drewN | apply Ext.drew | apply Ext.alloc))) (by omega)).mono ?_;rintro e w1 ⟨A1,n1,c1,rfl,hn1,hr1,ho1,hx1⟩;have he1:Ext wa w1:=Ext.trans (by repeat (first | exact Ext.refl _ | assumption | apply Ext.drewN | apply Ext.drew | apply Ext.alloc)) hx1;have hc1:=hb1.ext he1;have hc2:=hb2.ext he1;obtain⟨f1',f2',f3',f4'⟩:=hc1.two;obtain⟨k1',k2',k3',k4'⟩:=hc2.two)
  | (go_at_call 30;refine (zint_of hn1.out).mono ?_;rintro e w2 ⟨s',rfl,hs',hx2⟩;have hd1:=hc1.ext hx2;have hd2:=hc2.ext hx2;obtain⟨f1'',f2'',f3'',f4''⟩:=hd1.two;obtain⟨k1'',k2'',k3'',k4''⟩:=hd2.two))
 go_wp2_with fail
 refine bodyPost_ret (res_int rfl rfl (hd2.two_set _ _)) rfl ?_
 exact fin_int hd2 ((Zr_of hs'.out hn1.out ho1 rfl).ext hx2) (by first | omega | (simp;omega)) (by omega) (hea.trans (he1.trans hx2))
theorem zint_Mul {w:World}{s t:Bool}{A B:Option Addr}{n cap m cap':Nat}{x y:Int}(hx:Zi w s A n cap x) (hl:n≤68719476736) (hy:Zi w t B m cap' y) (hl':m≤68719476736):
  Calls Try.prog 41 #[.agg #[.bool s,.slice A n cap],.agg #[.bool t,.slice B m cap']] w (RetZ w (x*y)):=by
 obtain⟨xs,hr,rfl⟩:=hx
 obtain⟨ys,hq,rfl⟩:=hy
 go_enter Try.func41,Try.ntmps41
 go_upto_region 1 with (fail)
 obtain⟨g,g2,g3,wa,hg3,hg2,hg,hwa,hb1,hb2,hb3,hea,l12,l23,l3,n12,n21,n13,n31,n23,n32⟩:=boxes3 w 34 34 34 (.bool s) (.slice A n cap) (.bool t) (.slice B m cap') (.bool false) (.slice none 0 0)
 rw [hg3,hg2,hg,hwa]
 have hgw:w.heap.size≤g:=Nat.le_of_eq hg
 clear hwa hg hg2 hg3
 obtain⟨f1,f2,f3,f4⟩:=hb1.two
 obtain⟨h1,h2,h3,h4⟩:=hb2.two
 obtain⟨k1,k2,k3,k4⟩:=hb3.two
 go_region_held3 (fun w'=>w'.cell? ⟨g,0,none⟩=some (.bool s)∧w'.cell? ⟨g,1,none⟩=some (.slice A n cap)∧w'.cell? ⟨g2,0,none⟩=some (.bool t)∧w'.cell? ⟨g2,1,none⟩=some (.slice B m cap')) (go_keep)
  (first
  | (go_at_call 60;refine (mulnat_Mul (hr.ext (by repeat (first | exact Ext.refl _ | assumption | apply Ext.drewN | apply Ext.drew | apply Ext.alloc))) (hq.ext (by repeat (first | exact Ext.refl _ | assumption | apply Ext.drewN | apply Ext.drew | apply Ext.alloc))) (by omega)).mono ?_;rintro e w1 ⟨A1,n1,c1,rfl,hn1,hr1,ho1,hx1⟩;have he1:Ext wa w1:=Ext.trans (by repeat (first | exact Ext.refl _ | assumption | apply Ext.drewN | apply Ext.drew | apply Ext.alloc)) hx1;have hc1:=hb1.ext he1;have hc2:=hb2.ext he1;have hc3:=hb3.ext he1;obtain⟨f1',f2',f3',f4'⟩:=hc1.two;obtain⟨h1',h2',h3',h4'⟩:=hc2.two;obtain⟨k1',k2',k3',k4'⟩:=hc3.two)
  | (go_at_call 30;refine (zint_of hn1.out).mono ?_;rintro e w2 ⟨s',rfl,hs',hx2⟩;have hd1:=hc1.ext hx2;have hd2:=hc2.ext hx2;have hd3:=hc3.ext hx2;obtain⟨f1'',f2'',f3'',f4''⟩:=hd1.two;obtain⟨h1'',h2'',h3'',h4''⟩:=hd2.two;obtain⟨k1'',k2'',k3'',k4''⟩:=hd3.two))
 go_wp2_with fail
 refine bodyPost_ret (res_int rfl rfl (hd3.two_set _ _)) rfl ?_
 exact fin_int hd3 ((Zr_of hs'.out hn1.out ho1 (sg_mul _ _ _ _)).ext hx2) (by first | omega | (simp;omega)) (by omega) (hea.trans (he1.trans hx2))
theorem zint_Sign {w:World}{s:Bool}{A:Option Addr}{n cap:Nat}{x:Int}(hx:Zi w s A n cap x) (hl:n≤68719476736):
  Calls Try.prog 36 #[.agg #[.bool s,.slice A n cap]] w (SgnP (scmp x 0) w):=by
 obtain⟨xs,hr,rfl⟩:=hx
 go_enter Try.func36,Try.ntmps36
 go_upto_region 1 with (fail)
 have hb1:=Bk.new w 34 [.bool s,.slice A n cap]
 obtain⟨wa,hwa⟩:∃wa,w.alloc (.cells #[.bool s,.slice A n cap] 34)=wa:=⟨_,rfl⟩
 rw [hwa]
 obtain⟨g,hg⟩:∃g,w.heap.size=g:=⟨_,rfl⟩
 rw [hg] at hb1⊢
 have hb1':Bk wa g 34 [.bool s,.slice A n cap]:=by rw [←hwa];exact hb1
 have hea:Ext w wa:=by rw [←hwa];exact (Ext.refl w).alloc _
 clear hwa hg hb1
 obtain⟨f1,f2,f3,f4⟩:=hb1'.two
 go_wp2_with fail
 refine (nat_BitLen (hr.ext hea) (by omega)).mono ?_
 rintro e w1 ⟨b,hb,rfl,hx1'⟩
 have hx1:=hea.trans hx1'
 obtain⟨f1',f2',f3',f4'⟩:=(hb1'.ext hx1').two
 by_cases h0:b=0
 ·subst h0
  have hz:nv xs=0:=blen_eq_zero.1 hb.out.symm
  have HZ:=Lib.hid hz
  clear hz
  go_wp2_with fail
  go_ret
  exact⟨0,(show _=_ by rw [HZ.out,sg_zero];rfl),by omega,by omega,rfl,hx1⟩
 ·have bb:((b:Int)==0)=false:=by simp;omega
  have hz:0<nv xs:=Nat.pos_of_ne_zero (fun e=>h0 (by rw [hb.out,e];rfl))
  have HZ:=Lib.hid hz
  clear hz h0
  cases s
  ·go_wp2_with fail
   go_ret
   refine⟨1,?_,by omega,by omega,rfl,hx1⟩
   show _=_
   rw [sg_false,scmp,if_neg (by omega),if_neg (by have:=HZ.out;omega)]
  ·go_wp2_with fail
   go_ret
   refine⟨-1,?_,by omega,by omega,rfl,hx1⟩
   show _=_
   rw [sg_true,scmp,if_pos (by have:=HZ.out;omega)]
theorem Own.updT {w w':World}{base:Nat}{t T:TypeId}{s:Nat}{A:Option Addr}{n cap:Nat}{vs us:List Value}{g:Nat}(h:Own w base t s A n cap vs) (hb:Bk w g T us) (hT:t≠T) (e:Upd g w w'):Own w' base t s A n cap vs:=by
 refine h.upd e (fun a ha hg=>?_)
 rcases h with⟨h,_⟩ | ⟨k,cs,hA,_,hk,_⟩
 ·rw [h] at ha;cases ha
 ·rw [hA] at ha
  cases ha
  simp only at hg
  subst hg
  unfold Bk at hk hb
  rw [hk] at hb
  injection hb with hb
  injection hb with h1 h2
  exact hT h2
theorem Zr.updT {w w':World}{base:Nat}{s:Bool}{A:Option Addr}{n cap:Nat}{z:Int}{g:Nat}{T:TypeId}{us:List Value}(h:Zr w base s A n cap z) (hb:Bk w g T us) (e:Upd g w w') (hT:47≠T:=by decide):Zr w' base s A n cap z:=
 ⟨h.sgn,h.len,h.own.updT hb hT e⟩
theorem Bk.updN {w w':World}{g g':Nat}{T:TypeId}{vs:List Value}(h:Bk w g T vs) (e:Upd g' w w') (hne:g≠g'):Bk w' g T vs:=h.upd e hne
theorem scmp_eq_t {x y:Int}(h:x=y):cmpB .eql (scmp x y) 0=some true:=by
 have e:scmp x y=0:=scmp_zero.2 h
 rw [e];rfl
theorem scmp_eq_f {x y:Int}(h:x≠y):cmpB .eql (scmp x y) 0=some false:=by
 have e:¬scmp x y=0:=fun e=>h (scmp_zero.1 e)
 simp only [cmpB,Option.some.injEq,beq_eq_false_iff_ne,ne_eq];exact e
structure AggT (P:Program) (T:TypeId) (k:Nat):Prop where
 agg:∀w,(isAgg T).run P w= .ok true w
 size:∀w,(sizeOf T).run P w= .ok k w
theorem run_load1 {P:Program}{w:World}{p:Addr}{v:Value}(h:w.cell? p=some v):(load p).run P w= .ok v w:=by
 simp only [load,Sem.run,h]
theorem run_store1 {P:Program}{w:World}{p:Addr}{u v:Value}(h:w.cell? p=some u) (hf:w.frozen? p=false) (h1:v.oneCell'=true):(store p v).run P w= .ok () (w.setCell p v):=by
 rw [run_store P w p v .plain h1,h,hf];rfl
theorem run_loadCells {P:Program}{w:World}{p:Addr}:∀(vs:List Value) (i:Nat) (acc:Array Value),(∀j,j<vs.length→w.cell? (p.add (i+j))=some (vs.getD j undef))→
  (loadCellsFrom p i vs.length acc).run P w= .ok (acc++vs.toArray) w
 | [],i,acc,_=>by simp [loadCellsFrom]
 | v::vs,i,acc,h=>by
  have h0:=h 0 (by simp)
  simp only [Nat.add_zero,List.getD_cons_zero] at h0
  have ih:=run_loadCells (P:=P) (p:=p) vs (i+1) (acc.push v) (fun j hj=>by
   have:=h (j+1) (by simpa using hj)
   rw [show i+1+j=i+(j+1) by omega]
   simpa using this)
  show ((load (p.add i)>>=fun v=>loadCellsFrom p (i+1) vs.length (acc.push v):Sem (Array Value))).run P w=_
  have e:(load (p.add i)).run P w= .ok v w:=run_load1 h0
  rw [Sem.run_bind,e]
  simp only [Result.andThen_ok,ih]
  simp
theorem load_agg {P:Program}{w:World}{T T':TypeId}{k off g:Nat}{vs:List Value}(hT:AggT P T k) (hb:Bk w g T' vs) (us:List Value) (hu:us.length=k) (hle:off+k≤vs.length) (he:(vs.drop off).take k=us):
  (loadVar T ⟨g,off,none⟩).run P w= .ok (.agg us.toArray) w:=by
 subst hu
 have h1:=run_loadCells (P:=P) (w:=w) (p:=⟨g,off,none⟩) us 0 #[] (fun j hj=>by
  rw [Nat.zero_add,add_lit0,hb.cell (by omega)]
  congr 1
  rw [←he]
  simp only [List.getD_eq_getElem?_getD,List.getElem?_take,List.getElem?_drop]
  rw [if_pos hj])
 unfold loadVar loadCells
 rw [Sem.run_bind,hT.agg w]
 simp only [Result.andThen_ok,if_true,Sem.run_bind,hT.size w,h1]
 simp
theorem load_cell {P:Program}{w:World}{T T':TypeId}{g i:Nat}{vs:List Value}{v:Value}(hT:∀w,(isAgg T).run P w= .ok false w) (hb:Bk w g T' vs) (hv:vs[i]?=some v):(loadVar T ⟨g,i,none⟩).run P w= .ok v w:=by
 have hi:i<vs.length:=(List.getElem?_eq_some_iff.1 hv).1
 have hc:=hb.cell hi
 rw [List.getD_eq_getElem?_getD,hv] at hc
 unfold loadVar
 rw [Sem.run_bind,hT w]
 simp only [Result.andThen_ok,Bool.false_eq_true,if_false]
 exact run_load1 hc
def overl (vs:List Value) (off:Nat) (us:List Value):List Value:=vs.take off++us++vs.drop (off+us.length)
theorem store_cells {P:Program}{g:Nat}{T:TypeId}:∀(us:List Value) (i off:Nat) (w:World) (vs:List Value),Bk w g T vs→off+i+us.length≤vs.length→(∀u∈us,u.oneCell'=true)→
  ∃w',(storeCells ⟨g,off,none⟩ us i).run P w= .ok () w'∧Bk w' g T (overl vs (off+i) us)∧Upd g w w'∧w'.heap.size=w.heap.size
 | [],i,off,w,vs,hb,_,_=>⟨w,rfl,by simpa [overl] using hb,Upd.refl g w,rfl⟩
 | u::us,i,off,w,vs,hb,hle,h1=>by
  have hi:off+i<vs.length:=by simp at hle;omega
  have hc:=hb.cell hi
  have hf:=hb.frozen (off+i)
  have hb1:=hb.set (off+i) u
  obtain⟨w',hr,hb2,hu,hs⟩:=store_cells (P:=P) us (i+1) off (w.setCell ⟨g,off+i,none⟩ u) (vs.set (off+i) u) hb1 (by simp at hle⊢;omega) (fun x hx=>h1 x (by simp [hx]))
  refine⟨w',?_,?_,((Upd.refl g w).setCell (off+i) u).trans hu,by rw [hs];simp [World.setCell]⟩
  ·show ((store ((⟨g,off,none⟩:Addr).add i) u>>=fun _=>storeCells ⟨g,off,none⟩ us (i+1):Sem Unit)).run P w=_
   rw [add_lit0,Sem.run_bind,run_store1 hc hf (h1 u (by simp))]
   exact hr
  ·have e:overl (vs.set (off+i) u) (off+(i+1)) us=overl vs (off+i) (u::us):=by
    unfold overl
    have e1:(vs.set (off+i) u).take (off+(i+1))=vs.take (off+i)++ [u]:=by
     rw [show off+(i+1)=off+i+1 by omega,take_snoc _ _ (by simpa using hi) undef,List.take_set_of_le (Nat.le_refl _)]
     congr 2
     rw [List.getD_eq_getElem?_getD,List.getElem?_set_self hi];rfl
    rw [e1,List.drop_set_of_lt (by omega)]
    simp only [List.length_cons,List.append_assoc,List.cons_append,List.nil_append]
    rw [show off+(i+1)+us.length=off+i+(us.length+1) by omega]
   rw [←e];exact hb2
theorem run_stored {P:Program}{w:World}{T T':TypeId}{k g off:Nat}{vs us:List Value}(hT:AggT P T k) (hk:us.length=k)
  (hb:Bk w g T' vs) (hle:off+k≤vs.length) (h1:us.all (·.oneCell')=true) (us':List Value) (he:overl vs off us=us'):
  ∃w',(storeVar T ⟨g,off,none⟩ (.agg us.toArray)).run P w= .ok () w'∧Bk w' g T' us'∧Upd g w w'∧w'.heap.size=w.heap.size:=by
 subst hk
 obtain⟨w',hr,hb2,hu,hs⟩:=store_cells (P:=P) us 0 off w vs hb (by omega) (by simpa [List.all_eq_true] using h1)
 rw [Nat.add_zero,he] at hb2
 refine⟨w',?_,hb2,hu,hs⟩
 unfold storeVar
 rw [Sem.run_bind]
 show ((sizeOf T).run P w).andThen _=_
 rw [hT.size w]
 have e:(Value.agg us.toArray).cells=us.toArray:=rfl
 simp only [Result.andThen_ok,e,List.size_toArray,ne_eq,not_true,if_false]
 exact hr
theorem wl_stored {P:Program}{Q:Exit→Act→World→Prop}{n:Nat}{l:Fr}{w:World}{ops:Array Oper}{rest:List Oper}{ty:TypeId}{pos:String}{af:Array Edge}{gd:Option (Nat×Bool)}
  (hw:guardB ops l gd=some true){x y:Operand}{T T':TypeId}{k g off:Nat}{vs us:List Value}(hx:evo l x=some (.pointer (some ⟨g,off,none⟩))) (hy:evo l y=some (.agg us.toArray)) (hT:AggT P T k) (hk:us.length=k)
  (hb:Bk w g T' vs) (hle:off+k≤vs.length) (h1:us.all (·.oneCell')=true) (us':List Value) (he:overl vs off us=us')
  (h:∀w',Bk w' g T' us'→Upd g w w'→w'.heap.size=w.heap.size→wl P ops Q n rest l w'):wl P ops Q n (⟨none,.store T x y,ty,pos,af,gd⟩::rest) l w:=by
 obtain⟨w',hr,hb2,hu,hs⟩:=run_stored (P:=P) hT hk hb hle h1 us' he
 exact wl_store hw (p:=⟨g,off,none⟩) hx hy (w':=w') hr (h w' hb2 hu hs)
theorem wl_stored1 {P:Program}{Q:Exit→Act→World→Prop}{n:Nat}{l:Fr}{w:World}{ops:Array Oper}{rest:List Oper}{ty:TypeId}{pos:String}{af:Array Edge}{gd:Option (Nat×Bool)}
  (hw:guardB ops l gd=some true){x y:Operand}{T T':TypeId}{g off:Nat}{vs:List Value}{v:Value}(hx:evo l x=some (.pointer (some ⟨g,off,none⟩))) (hy:evo l y=some v) (hT:∀w,(sizeOf T).run P w= .ok 1 w) (hv:v.cells= #[v])
  (hb:Bk w g T' vs) (hle:off<vs.length) (h1:v.oneCell'=true) (us':List Value) (he:vs.set off v=us')
  (h:∀w',Bk w' g T' us'→Upd g w w'→w'.heap.size=w.heap.size→wl P ops Q n rest l w'):wl P ops Q n (⟨none,.store T x y,ty,pos,af,gd⟩::rest) l w:=by
 have hb2:=hb.set off v
 rw [he] at hb2
 refine wl_store hw (p:=⟨g,off,none⟩) hx hy (w':=w.setCell ⟨g,off,none⟩ v) ?_ (h _ hb2 ((Upd.refl g w).setCell off v) (by simp [World.setCell]))
 unfold storeVar
 rw [Sem.run_bind]
 show ((sizeOf T).run P w).andThen _=_
 rw [hT w]
 simp only [Result.andThen_ok,hv,List.size_toArray,List.length_cons,List.length_nil,ne_eq,not_true,Nat.zero_add,if_false]
 show ((store ((⟨g,off,none⟩:Addr).add 0) v>>=fun _=>storeCells ⟨g,off,none⟩ [] (0+1):Sem Unit)).run P w=_
 rw [add_lit0,Nat.add_zero,Sem.run_bind,run_store1 (hb.cell hle) (hb.frozen off) h1]
 rfl
section
variable {P:Program}{Q:Exit→Act→World→Prop}{n:Nat}{l:Fr}{w:World}{ops:Array Oper}{rest:List Oper}{d:Nat}{ty:TypeId}{pos:String}{af:Array Edge}{gd:Option (Nat×Bool)}
theorem run_index {t e:TypeId}{s m c:Nat}{a:Addr}{k:IntKind}{i:Int}(hT:P.underlying t=some (.slice e)) (hs:∀w,(sizeOf e).run P w= .ok s w) (h0:0≤i) (h1:i<m):
  (Instr.indexAt t (.slice (some a) m c) (.int k i)).run P w= .ok (.pointer (some (a.add (i.toNat*s)))) w:=by
 have hu:(underlying t).run P w= .ok (.slice e) w:=run_underlying hT w
 unfold Instr.indexAt
 simp only [asIntOf,Sem.run_bind,Sem.run_pure,Result.andThen_ok,hu]
 rw [if_pos ⟨h0,h1⟩]
 simp only [Sem.run_bind,hs w,Result.andThen_ok,Sem.run_pure]
def optIs (v:Option Value) (k:Nat) (dflt:Nat):Prop:=(v=none∧k=dflt)∨v=some (.int .i64 (k:Int))
theorem run_bound {i cap:Nat}{k:BoundsCode}(h:i≤cap):(Instr.sliceBound (.int .i64 (i:Int)) cap k).run P w= .ok i w:=by
 unfold Instr.sliceBound
 simp only [asIntOf,Sem.run_bind,Sem.run_pure,Result.andThen_ok]
 rw [if_pos ⟨by omega,by omega⟩]
 rfl
theorem run_slice {t e:TypeId}{s m c lo hi:Nat}{A:Option Addr}{low high:Option Value}(hT:P.underlying t=some (.slice e)) (hs:∀w,(sizeOf e).run P w= .ok s w) (h1:optIs low lo 0) (h2:optIs high hi m) (h3:lo≤hi) (h4:hi≤c):
  (Instr.sliceAt t (.slice A m c) low high none).run P w= .ok (.slice (if c=lo then A else A.map (·.add (lo*s))) (hi-lo) (c-lo)) w:=by
 have hu:(underlying t).run P w= .ok (.slice e) w:=run_underlying hT w
 have hb:(Instr.sliceBounds true m c low high none).run P w= .ok (lo,hi,c) w:=by
  unfold Instr.sliceBounds
  rcases h1 with⟨rfl,rfl⟩ | rfl <;> rcases h2 with⟨rfl,rfl⟩ | rfl
  ·simp only [Sem.run_bind,Sem.run_pure,Result.andThen_ok]
  ·simp only [Sem.run_bind,Sem.run_pure,Result.andThen_ok,run_bound h4,if_true]
  ·simp only [Sem.run_bind,Sem.run_pure,Result.andThen_ok,Option.isSome,run_bound h3]
  ·simp only [Sem.run_bind,Sem.run_pure,Result.andThen_ok,Option.isSome,run_bound h4,run_bound h3,if_true]
 unfold Instr.sliceAt
 simp only [Sem.run_bind,hu,Result.andThen_ok]
 unfold Instr.slice
 simp only [Sem.run_bind,hu,Result.andThen_ok,hb,hs w,Sem.run_pure]
theorem wl_slice (hw:guardB ops l gd=some true){x:Operand}{lo' hi':Option Operand}{t e:TypeId}{s m c lo hi:Nat}{A:Option Addr}(hx:evo l x=some (.slice A m c)) (hT:P.underlying t=some (.slice e)) (hs:∀w,(sizeOf e).run P w= .ok s w)
  (h1:match lo' with | none=>lo=0 | some y=>evo l y=some (.int .i64 (lo:Int))) (h2:match hi' with | none=>hi=m | some y=>evo l y=some (.int .i64 (hi:Int))) (h3:lo≤hi) (h4:hi≤c)
  {v:Value}(hv:Value.slice (if c=lo then A else A.map (·.add (lo*s))) (hi-lo) (c-lo)=v) (hn:d<n) (h:wl P ops Q n rest ((d,v)::l) w):wl P ops Q n (⟨some d,.slice t x lo' hi' none,ty,pos,af,gd⟩::rest) l w:=
 wl_val hw hn (fun a' ha=>by
  have e:(Instr.sliceAt t (a'.eval x) (lo'.map a'.eval) (hi'.map a'.eval) (Option.map a'.eval none)).run P w= .ok v w:=by
   rw [ha.ev hx,←hv]
   refine run_slice hT hs ?_ ?_ h3 h4
   ·cases lo' with
    | none=>exact Or.inl ⟨rfl,h1⟩
    | some y=>exact Or.inr (by show some (a'.eval y)=_;rw [ha.ev h1])
   ·cases hi' with
    | none=>exact Or.inl ⟨rfl,h2⟩
    | some y=>exact Or.inr (by show some (a'.eval y)=_;rw [ha.ev h2])
  show ((Instr.sliceAt t (a'.eval x) (lo'.map a'.eval) (hi'.map a'.eval) (Option.map a'.eval none)>>=fun r=>pure (Next.value r):Sem Next)).run P w=_
  rw [Sem.run_bind,e];rfl) h
theorem load_at {T:TypeId}{k:Nat}{p:Addr}(hT:AggT P T k) (us:List Value) (hu:us.length=k) (hc:∀j,j<us.length→w.cell? (p.add j)=some (us.getD j undef)):(loadVar T p).run P w= .ok (.agg us.toArray) w:=by
 subst hu
 have h1:=run_loadCells (P:=P) (w:=w) (p:=p) us 0 #[] (fun j hj=>by rw [Nat.zero_add];exact hc j hj)
 unfold loadVar loadCells
 rw [Sem.run_bind,hT.agg w]
 simp only [Result.andThen_ok,if_true,Sem.run_bind,hT.size w,h1]
 simp
theorem load_cell1 {T:TypeId}{p:Addr}{v:Value}(hT:∀w,(isAgg T).run P w= .ok false w) (hc:w.cell? p=some v):(loadVar T p).run P w= .ok v w:=by
 unfold loadVar
 rw [Sem.run_bind,hT w]
 simp only [Result.andThen_ok,Bool.false_eq_true,if_false]
 exact run_load1 hc
end
theorem ge_t {a b:Int}(h:b≤a):cmpB .geq a b=some true:=by simp only [cmpB,Option.some.injEq,decide_eq_true_eq];omega
theorem lt_t {a b:Int}(h:a<b):cmpB .lss a b=some true:=by simp only [cmpB,Option.some.injEq,decide_eq_true_eq];omega
theorem lt_f {a b:Int}(h:b≤a):cmpB .lss a b=some false:=by simp only [cmpB,Option.some.injEq,decide_eq_false_iff_not];omega
theorem gt_t {a b:Int}(h:b<a):cmpB .gtr a b=some true:=by simp only [cmpB,Option.some.injEq,decide_eq_true_eq];omega
theorem gt_f {a b:Int}(h:a≤b):cmpB .gtr a b=some false:=by simp only [cmpB,Option.some.injEq,decide_eq_false_iff_not];omega
theorem le_t {a b:Int}(h:a≤b):cmpB .leq a b=some true:=by simp only [cmpB,Option.some.injEq,decide_eq_true_eq];omega
theorem le_f {a b:Int}(h:b<a):cmpB .leq a b=some false:=by simp only [cmpB,Option.some.injEq,decide_eq_false_iff_not];omega
theorem eq_t {a b:Int}(h:a=b):cmpB .eql a b=some true:=by subst h;simp [cmpB]
theorem eq_f {a b:Int}(h:a≠b):cmpB .eql a b=some false:=by simp only [cmpB,Option.some.injEq,beq_eq_false_iff_ne,ne_eq];exact h
theorem ne_t {a b:Int}(h:a≠b):cmpB .neq a b=some true:=by simp only [cmpB,Option.some.injEq,bne_iff_ne,ne_eq];exact h
theorem ne_f {a b:Int}(h:a=b):cmpB .neq a b=some false:=by subst h;simp [cmpB]
theorem ar_i64 {a b c:Int}(h:a+b=c) (h1: -9223372036854775808≤c) (h2:c≤9223372036854775807):arB .add .i64 a b=some c:=by
 simp only [arB,Option.some.injEq];rw [h];exact IntWalk.i64_in _ ⟨h1,h2⟩
theorem ar_i64s {a b c:Int}(h:a-b=c) (h1: -9223372036854775808≤c) (h2:c≤9223372036854775807):arB .sub .i64 a b=some c:=by
 simp only [arB,Option.some.injEq];rw [h];exact IntWalk.i64_in _ ⟨h1,h2⟩
theorem ar_i64m {a b c:Int}(h:a*b=c) (h1: -9223372036854775808≤c) (h2:c≤9223372036854775807):arB .mul .i64 a b=some c:=by
 simp only [arB,Option.some.injEq];rw [h];exact IntWalk.i64_in _ ⟨h1,h2⟩
theorem Rd.at {w:World}{A:Option Addr}{n c:Nat}{xs:List Nat}(h:Rd w A n c xs){i:Nat}(hi:i<n):
  ∃p,A.map (·.add (i*1))=some p∧w.cell? p=some (.int .u64 ((xs.getD i 0:Nat):Int))∧xs.getD i 0≤18446744073709551615:=by
 obtain⟨a,x,rfl,hk,hb,hc⟩:=h.get hi
 refine⟨a.add i,by rw [Nat.mul_one];rfl,?_,by rw [hk.out];exact hb⟩
 rw [hk.out];exact hc
section
variable {P:Program}{Q:Exit→Act→World→Prop}{n:Nat}{l:Fr}{w:World}{ops:Array Oper}{rest:List Oper}{d:Nat}{op:Op}{ty:TypeId}{pos:String}{af:Array Edge}{gd:Option (Nat×Bool)}
theorem run_idx {t e:TypeId}{s m c:Nat}{A:Option Addr}{k:IntKind}{i:Int}{j:Nat}{p:Addr}(hT:P.underlying t=some (.slice e)) (hs:∀w,(sizeOf e).run P w= .ok s w) (hi:i=(j:Int)) (hj:j<m) (hp:A.map (·.add (j*s))=some p):
  (Instr.indexAt t (.slice A m c) (.int k i)).run P w= .ok (.pointer (some p)) w:=by
 subst hi
 cases A with
 | none=>cases hp
 | some a=>
  have h:=run_index (P:=P) (w:=w) (t:=t) (e:=e) (s:=s) (m:=m) (c:=c) (a:=a) (k:=k) (i:=(j:Int)) hT hs (by omega) (by omega)
  rw [h]
  rw [Int.toNat_natCast]
  injection hp with hp
  rw [←hp]
theorem wl_idx (hw:guardB ops l gd=some true){x y:Operand}{t e:TypeId}{s m c:Nat}{A:Option Addr}{k:IntKind}{i:Int}(hx:evo l x=some (.slice A m c)) (hy:evo l y=some (.int k i)) (hT:P.underlying t=some (.slice e)) (hs:∀w,(sizeOf e).run P w= .ok s w)
  (j:Nat) (hi:i=(j:Int)) (hj:j<m) (p:Addr) (hp:A.map (·.add (j*s))=some p) (hn:d<n) (h:wl P ops Q n rest ((d,.pointer (some p))::l) w):wl P ops Q n (⟨some d,.indexAddr t x y,ty,pos,af,gd⟩::rest) l w:=
 wl_val hw hn (fun a' ha=>by
  have e:(Instr.indexAt t (a'.eval x) (a'.eval y)).run P w= .ok (.pointer (some p)) w:=by rw [ha.ev hx,ha.ev hy];exact run_idx hT hs hi hj hp
  show ((Instr.indexAt t (a'.eval x) (a'.eval y)>>=fun r=>pure (Next.value r):Sem Next)).run P w=_
  rw [Sem.run_bind,e];rfl) h
theorem rd_idx {x y:Operand}{t e:TypeId}{s m c:Nat}{A:Option Addr}{k:IntKind}{i:Int}{dst:Option Tmp}(hx:evo l x=some (.slice A m c)) (hy:evo l y=some (.int k i)) (hT:P.underlying t=some (.slice e)) (hs:∀w,(sizeOf e).run P w= .ok s w)
  (j:Nat) (hi:i=(j:Int)) (hj:j<m) (p:Addr) (hp:A.map (·.add (j*s))=some p):RunD P n l ⟨dst,.indexAddr t x y,ty,pos,af,gd⟩ w (.value (.pointer (some p))) w:=fun a' ha=>by
 have e:(Instr.indexAt t (a'.eval x) (a'.eval y)).run P w= .ok (.pointer (some p)) w:=by rw [ha.ev hx,ha.ev hy];exact run_idx hT hs hi hj hp
 show ((Instr.indexAt t (a'.eval x) (a'.eval y)>>=fun r=>pure (Next.value r):Sem Next)).run P w=_
 rw [Sem.run_bind,e];rfl
theorem rd_cmp {o:BinOp}{t t':TypeId}{x y:Operand}{k:IntKind}{a b:Int}{dst:Option Tmp}(hx:evo l x=some (.int k a)) (hy:evo l y=some (.int k b)) (c:Bool) (hc:cmpB o a b=some c):RunD P n l ⟨dst,.binOp o t x y t',ty,pos,af,gd⟩ w (.value (.bool c)) w:=fun a' ha=>by
 have e:((do eqGuard o t x y (a'.eval x) (a'.eval y);binOp o t (a'.eval x) (a'.eval y)):Sem Value).run P w= .ok (.bool c) w:=by
  rw [ha.ev hx,ha.ev hy];exact run_cmp hc
 show ((((do eqGuard o t x y (a'.eval x) (a'.eval y);binOp o t (a'.eval x) (a'.eval y)):Sem Value)>>=fun r=>pure (Next.value r)):Sem Next).run P w=_
 rw [Sem.run_bind,e];rfl
theorem run_store1v {w:World}{T T':TypeId}{g off:Nat}{vs:List Value}{v:Value}(hT:∀w,(sizeOf T).run P w= .ok 1 w) (hv:v.cells= #[v]) (hb:Bk w g T' vs) (hle:off<vs.length) (h1:v.oneCell'=true) (us':List Value) (he:vs.set off v=us'):
  ∃w',(storeVar T ⟨g,off,none⟩ v).run P w= .ok () w'∧Bk w' g T' us'∧Upd g w w'∧w'.heap.size=w.heap.size:=by
 have hb2:=hb.set off v
 rw [he] at hb2
 refine⟨w.setCell ⟨g,off,none⟩ v,?_,hb2,(Upd.refl g w).setCell off v,by simp [World.setCell]⟩
 unfold storeVar
 rw [Sem.run_bind]
 show ((sizeOf T).run P w).andThen _=_
 rw [hT w]
 simp only [Result.andThen_ok,hv,List.size_toArray,List.length_cons,List.length_nil,ne_eq,not_true,Nat.zero_add,if_false]
 show ((store ((⟨g,off,none⟩:Addr).add 0) v>>=fun _=>storeCells ⟨g,off,none⟩ [] (0+1):Sem Unit)).run P w=_
 rw [add_lit0,Nat.add_zero,Sem.run_bind,run_store1 (hb.cell hle) (hb.frozen off) h1]
 rfl
end
theorem cb_lt_t {A B:Int}{a b:Nat}(ha:A=(a:Int)) (hb:B=(b:Int)) (h:a<b):cmpB .lss A B=some true:=by subst ha hb;exact lt_t (by omega)
theorem cb_lt_f {A B:Int}{a b:Nat}(ha:A=(a:Int)) (hb:B=(b:Int)) (h:b≤a):cmpB .lss A B=some false:=by subst ha hb;exact lt_f (by omega)
theorem cb_le_t {A B:Int}{a b:Nat}(ha:A=(a:Int)) (hb:B=(b:Int)) (h:a≤b):cmpB .leq A B=some true:=by subst ha hb;exact le_t (by omega)
theorem cb_le_f {A B:Int}{a b:Nat}(ha:A=(a:Int)) (hb:B=(b:Int)) (h:b<a):cmpB .leq A B=some false:=by subst ha hb;exact le_f (by omega)
theorem cb_gt_t {A B:Int}{a b:Nat}(ha:A=(a:Int)) (hb:B=(b:Int)) (h:b<a):cmpB .gtr A B=some true:=by subst ha hb;exact gt_t (by omega)
theorem cb_gt_f {A B:Int}{a b:Nat}(ha:A=(a:Int)) (hb:B=(b:Int)) (h:a≤b):cmpB .gtr A B=some false:=by subst ha hb;exact gt_f (by omega)
theorem cb_ge_t {A B:Int}{a b:Nat}(ha:A=(a:Int)) (hb:B=(b:Int)) (h:b≤a):cmpB .geq A B=some true:=by subst ha hb;exact ge_t (by omega)
theorem cb_eq_t {A B:Int}{a b:Nat}(ha:A=(a:Int)) (hb:B=(b:Int)) (h:a=b):cmpB .eql A B=some true:=by subst ha hb;exact eq_t (by omega)
theorem cb_eq_f {A B:Int}{a b:Nat}(ha:A=(a:Int)) (hb:B=(b:Int)) (h:a≠b):cmpB .eql A B=some false:=by subst ha hb;exact eq_f (by omega)
theorem cb_ne_t {A B:Int}{a b:Nat}(ha:A=(a:Int)) (hb:B=(b:Int)) (h:a≠b):cmpB .neq A B=some true:=by subst ha hb;exact ne_t (by omega)
theorem cb_ne_f {A B:Int}{a b:Nat}(ha:A=(a:Int)) (hb:B=(b:Int)) (h:a=b):cmpB .neq A B=some false:=by subst ha hb;exact ne_f (by omega)
theorem ai_add {A B:Int}{a b:Nat}(ha:A=(a:Int)) (hb:B=(b:Int)) (h:a+b≤9223372036854775807):arB .add .i64 A B=some ((a+b:Nat):Int):=by
 subst ha hb;exact ar_i64 (by omega) (by omega) (by omega)
theorem ai_sub {A B:Int}{a b:Nat}(ha:A=(a:Int)) (hb:B=(b:Int)) (h:b≤a) (h2:a≤9223372036854775807):arB .sub .i64 A B=some ((a-b:Nat):Int):=by
 subst ha hb;exact ar_i64s (by omega) (by omega) (by omega)
theorem ai_mul {A B:Int}{a b:Nat}(ha:A=(a:Int)) (hb:B=(b:Int)) (h:a*b≤9223372036854775807):arB .mul .i64 A B=some ((a*b:Nat):Int):=by
 subst ha hb;exact ar_i64m (by rw [←Int.natCast_mul]) (by omega) (by omega)
theorem sz_u64 (w:World):(sizeOf 47).run Try.prog w= .ok 1 w:=by kernel_rfl
theorem ag_u64 (w:World):(isAgg 47).run Try.prog w= .ok false w:=by kernel_rfl
theorem un_u64:Try.prog.underlying 32=some (.slice 47):=Try.underlying32
theorem res_ie {w:World}{g:Nat}{t:TypeId}{a b:Value}{fn:Func}{s u:Tmp}(hf:fn.results= #[.cell s 34,.tmp u]){tmps:Array Value}(hs:tmps.getD s undef= .pointer (some ⟨g,0,none⟩)){v:Value}(hu:tmps.getD u undef=v) (h:Bk w g t [a,b]):
  (results fn tmps).run Try.prog w= .ok (.tuple #[.agg #[a,b],v]) w:=by
 obtain⟨h1,h2,_,_⟩:=h.two
 have hs2:tmps[s]?.getD undef= .pointer (some ⟨g,0,none⟩):=by simpa using hs
 have hu2:tmps[u]?.getD undef=v:=by simpa using hu
 simp [results,hf,hs2,hu2,loadVar,loadCells,loadCellsFrom,go_sem,h1,h2]
theorem Bk.two_far {w:World}{g g':Nat}{t:TypeId}{l:List Value}(h:Bk w g t l) (hne:g≠g') (u v:Value):Bk ((w.setCell ⟨g',0,none⟩ u).setCell ⟨g',1,none⟩ v) g t l:=(h.far (p:=⟨g',0,none⟩) hne u).far (p:=⟨g',1,none⟩) hne v
set_option maxHeartbeats 1000000 in
theorem zint_Add {w:World}{s t:Bool}{A B:Option Addr}{n cap m cap':Nat}{x y:Int}(hx:Zi w s A n cap x) (hl:n≤274877906944) (hy:Zi w t B m cap' y) (hl':m≤274877906944):
  Calls Try.prog 28 #[.agg #[.bool s,.slice A n cap],.agg #[.bool t,.slice B m cap']] w (RetZ w (x+y)):=by
 obtain⟨xs,hr,rfl⟩:=hx
 obtain⟨ys,hq,rfl⟩:=hy
 go_enter Try.func28,Try.ntmps28
 go_upto_region 1 with (fail)
 obtain⟨g,g2,g3,wa,hg3,hg2,hg,hwa,hb1,hb2,hb3,hea,l12,l23,l3,n12,n21,n13,n31,n23,n32⟩:=boxes3 w 34 34 34 (.bool s) (.slice A n cap) (.bool t) (.slice B m cap') (.bool false) (.slice none 0 0)
 rw [hg3,hg2,hg,hwa]
 have hgw:w.heap.size≤g:=Nat.le_of_eq hg
 clear hwa hg hg2 hg3
 obtain⟨f1,f2,f3,f4⟩:=hb1.two
 obtain⟨h1,h2,h3,h4⟩:=hb2.two
 obtain⟨k1,k2,k3,k4⟩:=hb3.two
 by_cases hst:s=t
 ·have bs:(s==t)=true:=by rw [hst];cases t <;> rfl
  go_upto_region 2 with (fail)
  go_region_held3 (fun w'=>w'.cell? ⟨g,0,none⟩=some (.bool s)∧w'.cell? ⟨g,1,none⟩=some (.slice A n cap)∧w'.cell? ⟨g2,0,none⟩=some (.bool t)∧w'.cell? ⟨g2,1,none⟩=some (.slice B m cap')) (go_keep)
   (first
   | (go_at_call 52;refine (nat_Add (hr.ext (by repeat (first | exact Ext.refl _ | assumption | apply Ext.drewN | apply Ext.drew | apply Ext.alloc))) (by omega) (hq.ext (by repeat (first | exact Ext.refl _ | assumption | apply Ext.drewN | apply Ext.drew | apply Ext.alloc))) (by omega)).mono ?_;rintro e w1 ⟨A1,n1,c1,rfl,hn1,hr1,ho1,hx1⟩;have he1:Ext wa w1:=Ext.trans (by repeat (first | exact Ext.refl _ | assumption | apply Ext.drewN | apply Ext.drew | apply Ext.alloc)) hx1;have hb1:=hb1.ext he1;have hb2:=hb2.ext he1;have hb3:=hb3.ext he1;obtain⟨f1,f2,f3,f4⟩:=hb1.two;obtain⟨h1,h2,h3,h4⟩:=hb2.two;obtain⟨k1,k2,k3,k4⟩:=hb3.two)
   | (go_at_call 30;refine (zint_of hn1.out).mono ?_;rintro e w2 ⟨s',rfl,hs',hx2⟩;have hd1:=hb1.ext hx2;have hd2:=hb2.ext hx2;have hd3:=hb3.ext hx2;obtain⟨f1,f2,f3,f4⟩:=hd1.two;obtain⟨h1,h2,h3,h4⟩:=hd2.two;obtain⟨k1,k2,k3,k4⟩:=hd3.two))
  go_wp2_with fail
  refine bodyPost_ret (res_int rfl rfl (hd3.two_set _ _)) rfl ?_
  exact fin_int hd3 ((Zr_of hs'.out hn1.out ho1 (by rw [sg_add,hst])).ext hx2) (by first | omega | (simp;omega)) (by omega) (hea.trans (he1.trans hx2))
 ·have bs:(s==t)=false:=by cases s <;> cases t <;> simp_all
  have ht:Hid (t= !s):=by show _=_;cases s <;> cases t <;> simp_all
  clear hst
  go_wp2_with fail
  refine (nat_Cmp (hr.ext hea) (by omega) (hq.ext hea) (by omega)).mono ?_
  rintro e w1 ⟨c,hc,hcl,hch,rfl,hx1⟩
  have hb1:=hb1.ext hx1
  have hb2:=hb2.ext hx1
  have hb3:=hb3.ext hx1
  have he1:=hea.trans hx1
  have hsz:=hx1.size
  clear f1 f2 f3 f4 h1 h2 h3 h4 k1 k2 k3 k4
  obtain⟨f1,f2,f3,f4⟩:=hb1.two
  obtain⟨h1,h2,h3,h4⟩:=hb2.two
  by_cases hlt:c<0
  ·have hle:nv xs≤nv ys:=by rw [hc.out] at hlt;exact Nat.le_of_lt (cmp3_neg.1 hlt)
   have HLE:=Lib.hid hle
   clear hle
   go_upto_region 5 with (fail)
   obtain⟨wb,hwb⟩:∃wb,(((w1.setCell ⟨g,0,none⟩ (.bool t)).setCell ⟨g,1,none⟩ (.slice B m cap')).setCell ⟨g2,0,none⟩ (.bool s)).setCell ⟨g2,1,none⟩ (.slice A n cap)=wb:=⟨_,rfl⟩
   rw [hwb]
   have hd1:Bk wb g 34 [.bool t,.slice B m cap']:=by rw [←hwb];exact (hb1.two_set _ _).two_far n12 _ _
   have hd2:Bk wb g2 34 [.bool s,.slice A n cap]:=by rw [←hwb];exact (hb2.two_far n21 _ _).two_set _ _
   have hd3:Bk wb g3 34 [.bool false,.slice none 0 0]:=by rw [←hwb];exact (hb3.two_far n31 _ _).two_far n32 _ _
   have heb:Ext w wb:=by
    rw [←hwb]
    exact (Upd.two _ _).ext ((Upd.two _ _).ext he1 hgw) (by omega)
   have hszb:wb.heap.size=w1.heap.size:=by rw [←hwb];simp [World.setCell]
   clear hwb f1 f2 f3 f4 h1 h2 h3 h4
   obtain⟨f1,f2,f3,f4⟩:=hd1.two
   obtain⟨h1,h2,h3,h4⟩:=hd2.two
   go_wp2_with fail
   refine (nat_Sub (hq.ext heb) (by omega) (hr.ext heb) (by omega) HLE.out).mono ?_
   rintro e w2 ⟨A2,n2,c2,rfl,hn2,hr2,ho2,hx2⟩
   obtain⟨f1,f2,f3,f4⟩:=(hd1.ext hx2).two
   have hd3:=hd3.ext hx2
   go_wp2_with fail
   refine (zint_of hn2.out).mono ?_
   rintro e w3 ⟨s',rfl,hs',hx3⟩
   have hd3:=hd3.ext hx3
   obtain⟨k1,k2,k3,k4⟩:=hd3.two
   go_wp2_with fail
   refine bodyPost_ret (res_int rfl rfl (hd3.two_set _ _)) rfl ?_
   exact fin_int hd3 ((Zr_of hs'.out hn2.out ho2 (by rw [sg_sub HLE.out,ht.out,Bool.not_not,Int.add_comm])).ext hx3) (by omega) (by omega) (heb.trans (hx2.trans hx3))
  ·have hle:nv ys≤nv xs:=by rw [hc.out] at hlt;exact Nat.le_of_not_lt (fun h=>hlt (cmp3_neg.2 h))
   have HLE:=Lib.hid hle
   clear hle
   go_wp2_with fail
   refine (nat_Sub (hr.ext he1) (by omega) (hq.ext he1) (by omega) HLE.out).mono ?_
   rintro e w2 ⟨A2,n2,c2,rfl,hn2,hr2,ho2,hx2⟩
   obtain⟨f1,f2,f3,f4⟩:=(hb1.ext hx2).two
   have hd3:=hb3.ext hx2
   go_wp2_with fail
   refine (zint_of hn2.out).mono ?_
   rintro e w3 ⟨s',rfl,hs',hx3⟩
   have hd3:=hd3.ext hx3
   obtain⟨k1,k2,k3,k4⟩:=hd3.two
   go_wp2_with fail
   refine bodyPost_ret (res_int rfl rfl (hd3.two_set _ _)) rfl ?_
   exact fin_int hd3 ((Zr_of hs'.out hn2.out ho2 (by rw [sg_sub HLE.out,ht.out])).ext hx3) (by omega) (by omega) (he1.trans (hx2.trans hx3))
theorem zint_Sub {w:World}{s t:Bool}{A B:Option Addr}{n cap m cap':Nat}{x y:Int}(hx:Zi w s A n cap x) (hl:n≤274877906944) (hy:Zi w t B m cap' y) (hl':m≤274877906944):
  Calls Try.prog 40 #[.agg #[.bool s,.slice A n cap],.agg #[.bool t,.slice B m cap']] w (RetZ w (x-y)):=by
 go_enter Try.func40,Try.ntmps40
 go_upto_region 1 with (fail)
 obtain⟨g,g2,g3,wa,hg3,hg2,hg,hwa,hb1,hb2,hb3,hea,l12,l23,l3,n12,n21,n13,n31,n23,n32⟩:=boxes3 w 34 34 34 (.bool s) (.slice A n cap) (.bool t) (.slice B m cap') (.bool false) (.slice none 0 0)
 rw [hg3,hg2,hg,hwa]
 have hgw:w.heap.size≤g:=Nat.le_of_eq hg
 clear hwa hg hg2 hg3
 obtain⟨f1,f2,f3,f4⟩:=hb1.two
 obtain⟨h1,h2,h3,h4⟩:=hb2.two
 obtain⟨k1,k2,k3,k4⟩:=hb3.two
 go_wp2_with fail
 refine (zint_Add (hx.ext hea) hl (hy.not.ext hea) hl').mono ?_
 rintro e w1 ⟨s1,A1,n1,c1,rfl,z1,hx1⟩
 have hd3:=hb3.ext hx1
 clear f1 f2 f3 f4 h1 h2 h3 h4 k1 k2 k3 k4
 obtain⟨k1,k2,k3,k4⟩:=hd3.two
 go_wp2_with fail
 refine bodyPost_ret (res_int rfl rfl (hd3.two_set _ _)) rfl ?_
 exact fin_int hd3 (z1.cast Int.sub_eq_add_neg.symm) (by omega) (by omega) (hea.trans hx1)
theorem zint_MulAdd {w:World}{s t u:Bool}{A B C:Option Addr}{n cap m cap' k cap'':Nat}{x y z:Int}(hx:Zi w s A n cap x) (hl:n≤68719476736) (hy:Zi w t B m cap' y) (hl':m≤68719476736) (hz:Zi w u C k cap'' z) (hl'':k≤68719476736):
  Calls Try.prog 63 #[.agg #[.bool s,.slice A n cap],.agg #[.bool t,.slice B m cap'],.agg #[.bool u,.slice C k cap'']] w (RetZ w (x*y+z)):=by
 have lx:=Nat.le_trans hx.ln hl
 have ly:=Nat.le_trans hy.ln hl'
 go_enter Try.func63,Try.ntmps63
 go_upto_region 1 with (fail)
 obtain⟨g,g2,g3,g4,wa,hg4,hg3,hg2,hg,hwa,hb1,hb2,hb3,hb4,hea,l12,l23,l34,l4,n12,n21,n13,n31,n23,n32,n14,n41,n24,n42,n34,n43⟩:=boxes4 w 34 34 34 34 (.bool s) (.slice A n cap) (.bool t) (.slice B m cap') (.bool u) (.slice C k cap'') (.bool false) (.slice none 0 0)
 rw [hg4,hg3,hg2,hg,hwa]
 have hgw:w.heap.size≤g:=Nat.le_of_eq hg
 clear hwa hg hg2 hg3 hg4
 obtain⟨f1,f2,f3,f4⟩:=hb1.two
 obtain⟨h1,h2,h3,h4⟩:=hb2.two
 obtain⟨i1,i2,i3,i4⟩:=hb3.two
 obtain⟨k1,k2,k3,k4⟩:=hb4.two
 go_region_held3 (fun w'=>w'.cell? ⟨g,0,none⟩=some (.bool s)∧w'.cell? ⟨g,1,none⟩=some (.slice A n cap)∧w'.cell? ⟨g2,0,none⟩=some (.bool t)∧w'.cell? ⟨g2,1,none⟩=some (.slice B m cap')∧w'.cell? ⟨g3,0,none⟩=some (.bool u)∧w'.cell? ⟨g3,1,none⟩=some (.slice C k cap'')) (go_keep)
  (first
  | (go_at_call 41;refine (zint_Mul (hx.ext (by repeat (first | exact Ext.refl _ | assumption | apply Ext.drewN | apply Ext.drew | apply Ext.alloc))) hl (hy.ext (by repeat (first | exact Ext.refl _ | assumption | apply Ext.drewN | apply Ext.drew | apply Ext.alloc))) hl').mono ?_;rintro e w1 ⟨s1,A1,n1,c1,rfl,z1,hx1⟩;have q1:n1≤274877906944:=(Nat.le_trans (z1.le (ln_mul lx ly)) (by omega));have he1:Ext wa w1:=Ext.trans (by repeat (first | exact Ext.refl _ | assumption | apply Ext.drewN | apply Ext.drew | apply Ext.alloc)) hx1;have hb1:=hb1.ext he1;have hb2:=hb2.ext he1;have hb3:=hb3.ext he1;have hb4:=hb4.ext he1;obtain⟨f1,f2,f3,f4⟩:=hb1.two;obtain⟨h1,h2,h3,h4⟩:=hb2.two;obtain⟨i1,i2,i3,i4⟩:=hb3.two;obtain⟨k1,k2,k3,k4⟩:=hb4.two)
  | (go_at_call 28;refine (zint_Add z1.zi q1 (hz.ext (hea.trans he1)) (by omega)).mono ?_;rintro e w2 ⟨s2,A2,n2,c2,rfl,z2,hx2⟩;have hb1:=hb1.ext hx2;have hb2:=hb2.ext hx2;have hb3:=hb3.ext hx2;have hb4:=hb4.ext hx2;obtain⟨f1,f2,f3,f4⟩:=hb1.two;obtain⟨h1,h2,h3,h4⟩:=hb2.two;obtain⟨i1,i2,i3,i4⟩:=hb3.two;obtain⟨k1,k2,k3,k4⟩:=hb4.two))
 go_wp2_with fail
 have hsz:=he1.size
 refine bodyPost_ret (res_int rfl rfl (hb4.two_set _ _)) rfl ?_
 exact fin_int hb4 z2 (by omega) (by omega) (hea.trans (he1.trans hx2))
set_option maxHeartbeats 1000000 in
theorem zint_Cmp {w:World}{s t:Bool}{A B:Option Addr}{n cap m cap':Nat}{x y:Int}(hx:Zi w s A n cap x) (hl:n≤68719476736) (hy:Zi w t B m cap' y) (hl':m≤68719476736):
  Calls Try.prog 59 #[.agg #[.bool s,.slice A n cap],.agg #[.bool t,.slice B m cap']] w (SgnP (scmp x y) w):=by
 go_enter Try.func59,Try.ntmps59
 go_upto_region 1 with (fail)
 obtain⟨g,g2,wa,hg2,hg,hwa,hb1,hb2,hea,l12,l2,n12,n21⟩:=boxes2 w 34 34 (.bool s) (.slice A n cap) (.bool t) (.slice B m cap')
 rw [hg2,hg,hwa]
 have hgw:w.heap.size≤g:=Nat.le_of_eq hg
 clear hwa hg hg2
 obtain⟨f1,f2,f3,f4⟩:=hb1.two
 obtain⟨h1,h2,h3,h4⟩:=hb2.two
 go_region_held3 (fun w'=>w'.cell? ⟨g,0,none⟩=some (.bool s)∧w'.cell? ⟨g,1,none⟩=some (.slice A n cap)∧w'.cell? ⟨g2,0,none⟩=some (.bool t)∧w'.cell? ⟨g2,1,none⟩=some (.slice B m cap')) (go_keep)
  (first
  | (go_at_call 36;(with_reducible refine (zint_Sign (hx.ext (hea.trans (by repeat (first | exact Ext.refl _ | assumption | apply Ext.drewN | apply Ext.drew | apply Ext.alloc)))) hl).mono ?_);rintro e w2 ⟨c,hc,hcl,hch,rfl,hx2⟩;have he2:Ext wa w2:=Ext.trans (by repeat (first | exact Ext.refl _ | assumption | apply Ext.drewN | apply Ext.drew | apply Ext.alloc)) hx2;obtain⟨f1,f2,f3,f4⟩:=(hb1.ext he2).two;obtain⟨h1,h2,h3,h4⟩:=(hb2.ext he2).two)
  | (go_at_call 36;(with_reducible refine (zint_Sign (hy.ext (hea.trans (by repeat (first | exact Ext.refl _ | assumption | apply Ext.drewN | apply Ext.drew | apply Ext.alloc)))) hl').mono ?_);rintro e w2 ⟨d,hd,hdl,hdh,rfl,hx2⟩;have he2:Ext wa w2:=Ext.trans (by repeat (first | exact Ext.refl _ | assumption | apply Ext.drewN | apply Ext.drew | apply Ext.alloc)) hx2;obtain⟨f1,f2,f3,f4⟩:=(hb1.ext he2).two;obtain⟨h1,h2,h3,h4⟩:=(hb2.ext he2).two))
 all_goals
  have e2:=hea.trans he2
  clear hx2
  have p1:c<0↔x<0:=by rw [hc.out];exact scmp_neg
  have p2:c=0↔x=0:=by rw [hc.out];exact scmp_zero
  have p3:d<0↔y<0:=by rw [hd.out];exact scmp_neg
  have p4:d=0↔y=0:=by rw [hd.out];exact scmp_zero
  have hlt:c<d→x<y:=by omega
  have hgt:d<c→y<x:=by omega
  have H1:=Lib.hid p1
  have H2:=Lib.hid p2
  have H3:=Lib.hid p3
  have H4:=Lib.hid p4
  clear p1 p2 p3 p4
  rcases Int.lt_trichotomy c d with h | h | h
  ·have bn:(c != d)=true:=by simp;omega
   have HL:=Lib.hid (hlt h)
   clear hlt hgt
   go_wp2_with fail
   go_ret
   exact⟨-1,(show _=_ by rw [scmp,if_pos HL.out]),by omega,by omega,rfl,e2⟩
  ·subst h
   have bn:(c != c)=false:=by simp
   clear hlt hgt
   obtain⟨xs,hr,hxv⟩:=hx
   obtain⟨ys,hq,hyv⟩:=hy
   have HX:=Lib.hid hxv
   have HY:=Lib.hid hyv
   clear hxv hyv
   go_wp2_with fail
   refine (nat_Cmp (hr.ext e2) (by omega) (hq.ext e2) (by omega)).mono ?_
   rintro e w3 ⟨k,hk,hkl,hkh,rfl,hx3⟩
   have fin:c*k=scmp x y:=by
    have ax:x.natAbs=nv xs:=by rw [←HX.out,sg_abs]
    have ay:y.natAbs=nv ys:=by rw [←HY.out,sg_abs]
    have k1:k<0↔nv xs<nv ys:=by rw [hk.out];exact cmp3_neg
    have k2:0<k↔nv ys<nv xs:=by rw [hk.out];exact cmp3_pos
    have p1:=H1.out
    have p2:=H2.out
    have p3:=H3.out
    have p4:=H4.out
    have hc3:c= -1∨c=0∨c=1:=by omega
    have hk3:k= -1∨k=0∨k=1:=by omega
    rcases hc3 with rfl | rfl | rfl
    ·rcases hk3 with rfl | rfl | rfl <;> (unfold scmp;split <;> (try split) <;> omega)
    ·unfold scmp;split <;> (try split) <;> omega
    ·rcases hk3 with rfl | rfl | rfl <;> (unfold scmp;split <;> (try split) <;> omega)
   have FIN:=Lib.hid fin
   clear fin
   have hc3:c= -1∨c=0∨c=1:=by omega
   rcases hc3 with rfl | rfl | rfl
   ·go_wp2_with fail
    go_ret
    exact⟨-k,(show _=_ by rw [←FIN.out];omega),by omega,by omega,rfl,e2.trans hx3⟩
   ·go_wp2_with fail
    go_ret
    exact⟨0,(show _=_ by rw [←FIN.out];omega),by omega,by omega,rfl,e2.trans hx3⟩
   ·go_wp2_with fail
    go_ret
    exact⟨k,(show _=_ by rw [←FIN.out];omega),by omega,by omega,rfl,e2.trans hx3⟩
  ·have bn:(c != d)=true:=by simp;omega
   have hnl:¬c<d:=by omega
   have HG:=Lib.hid (hgt h)
   clear hlt hgt
   go_wp2_with fail
   go_ret
   exact⟨1,(show _=_ by have:=HG.out;rw [scmp,if_neg (by omega),if_neg (by omega)]),by omega,by omega,rfl,e2⟩
theorem zint_Exact {w:World}{s t:Bool}{A B:Option Addr}{n cap m cap':Nat}{x y:Int}(hx:Zi w s A n cap x) (hl:n≤68719476736) (hy:Zi w t B m cap' y) (hl':m≤68719476736) (h0:y≠0) (h1:y∣x):
  Calls Try.prog 24 #[.agg #[.bool s,.slice A n cap],.agg #[.bool t,.slice B m cap']] w (RetZE w (x.tdiv y) 0):=by
 obtain⟨xs,hr,rfl⟩:=hx
 obtain⟨ys,hq,rfl⟩:=hy
 have hz:nv ys≠0:=fun e=>h0 (sg_eq_zero.2 e)
 have hd:nv xs%nv ys=0:=by
  have:=Int.natAbs_dvd_natAbs.2 h1
  rw [sg_abs,sg_abs] at this
  exact Nat.mod_eq_zero_of_dvd this
 have HZ:=Lib.hid hz
 have HD:=Lib.hid hd
 clear hz h0 hd h1
 go_enter Try.func24,Try.ntmps24
 go_upto_region 1 with (fail)
 obtain⟨g,g2,g3,wa,hg3,hg2,hg,hwa,hb1,hb2,hb3,hea,l12,l23,l3,n12,n21,n13,n31,n23,n32⟩:=boxes3 w 34 34 34 (.bool s) (.slice A n cap) (.bool t) (.slice B m cap') (.bool false) (.slice none 0 0)
 rw [hg3,hg2,hg,hwa]
 have hgw:w.heap.size≤g:=Nat.le_of_eq hg
 clear hwa hg hg2 hg3
 obtain⟨f1,f2,f3,f4⟩:=hb1.two
 obtain⟨h1,h2,h3,h4⟩:=hb2.two
 obtain⟨k1,k2,k3,k4⟩:=hb3.two
 go_wp2_with fail
 refine (divnat_Exact (hr.ext hea) (by omega) (hq.ext hea) (by omega) HZ.out HD.out).mono ?_
 rintro e w1 ⟨A1,n1,c1,rfl,hn1,hr1,ho1,hx1⟩
 have hb1:=hb1.ext hx1
 have hb2:=hb2.ext hx1
 have hb3:=hb3.ext hx1
 have he1:=hea.trans hx1
 have hsz:=hx1.size
 clear f1 f2 f3 f4 h1 h2 h3 h4 k1 k2 k3 k4
 obtain⟨f1,f2,f3,f4⟩:=hb1.two
 obtain⟨h1,h2,h3,h4⟩:=hb2.two
 obtain⟨k1,k2,k3,k4⟩:=hb3.two
 go_wp2_with fail
 refine (zint_of hn1.out).mono ?_
 rintro e w2 ⟨s',rfl,hs',hx2⟩
 have hd3:=hb3.ext hx2
 clear f1 f2 f3 f4 h1 h2 h3 h4 k1 k2 k3 k4
 obtain⟨k1,k2,k3,k4⟩:=hd3.two
 go_wp2_with fail
 refine bodyPost_ret (res_ie rfl rfl rfl (hd3.two_set _ _)) rfl ?_
 obtain⟨s4,A4,n4,c4,he,hz,hx⟩:=fin_int (w:=w) hd3 ((Zr_of hs'.out hn1.out ho1 (sg_tdiv _ _ _ _)).ext hx2) (by omega) (by omega) (he1.trans hx2)
 cases he
 exact⟨_,_,_,_,rfl,hz,hx⟩
theorem bezout_Gcd {w:World}{s t:Bool}{A B:Option Addr}{n cap m cap':Nat}{x y:Int}(hx:Zi w s A n cap x) (hl:n≤68719476736) (hy:Zi w t B m cap' y) (hl':m≤68719476736):
  Calls Try.prog 69 #[.agg #[.bool s,.slice A n cap],.agg #[.bool t,.slice B m cap']] w (RetZ w (Int.gcd x y:Int)):=by
 obtain⟨xs,hr,rfl⟩:=hx
 obtain⟨ys,hq,rfl⟩:=hy
 go_enter Try.func69,Try.ntmps69
 go_upto_region 1 with (fail)
 obtain⟨g,g2,g3,wa,hg3,hg2,hg,hwa,hb1,hb2,hb3,hea,l12,l23,l3,n12,n21,n13,n31,n23,n32⟩:=boxes3 w 34 34 34 (.bool s) (.slice A n cap) (.bool t) (.slice B m cap') (.bool false) (.slice none 0 0)
 rw [hg3,hg2,hg,hwa]
 have hgw:w.heap.size≤g:=Nat.le_of_eq hg
 clear hwa hg hg2 hg3
 obtain⟨f1,f2,f3,f4⟩:=hb1.two
 obtain⟨h1,h2,h3,h4⟩:=hb2.two
 obtain⟨k1,k2,k3,k4⟩:=hb3.two
 go_wp2_with fail
 refine (divnat_Gcd (hr.ext hea) (by omega) (hq.ext hea) (by omega)).mono ?_
 rintro e w1 ⟨A1,n1,c1,rfl,hn1,hr1,ho1,hx1⟩
 have hd3:=hb3.ext hx1
 clear f1 f2 f3 f4 h1 h2 h3 h4 k1 k2 k3 k4
 obtain⟨k1,k2,k3,k4⟩:=hd3.two
 go_wp2_with fail
 refine bodyPost_ret (res_int rfl rfl (hd3.two_set _ _)) rfl ?_
 refine fin_int hd3 (Zr_of (s:=false) (m:=Nat.gcd (nv xs) (nv ys)) ?_ hn1.out ho1 ?_) (by omega) (by omega) (hea.trans hx1)
 ·rw [sg_false];simp
 ·rw [sg_false,Int.gcd,sg_abs,sg_abs]
theorem zint_Of {w:World}{v:Nat}(hv:v≤9223372036854775807):
  Calls Try.prog 21 #[.int .i64 (v:Int)] w (RetZ w ((v:Int))):=by
 have hn:¬(v:Int)<0:=by omega
 go_enter Try.func21,Try.ntmps21
 go_upto_region 3 with (fail)
 obtain⟨g,hg⟩:∃g,w.heap.size=g:=⟨_,rfl⟩
 obtain⟨wa,hwa⟩:∃wa,w.alloc (.cells #[.bool false,.slice none 0 0] 34)=wa:=⟨_,rfl⟩
 rw [hg,hwa]
 have hb:Bk wa g 34 [.bool false,.slice none 0 0]:=by rw [←hwa,←hg];exact Bk.new w 34 [.bool false,.slice none 0 0]
 have hea:Ext w wa:=by rw [←hwa];exact (Ext.refl w).alloc _
 have hga:w.heap.size≤g:=Nat.le_of_eq hg
 have hgl:g<wa.heap.size:=hb.lt
 clear hwa hg
 obtain⟨k1,k2,k3,k4⟩:=hb.two
 have h1:Rd (wa.alloc (.cells #[.int .u64 (v:Int)] 47)) (some ⟨wa.heap.size,0,none⟩) 1 1 [v]:=Rd.one wa (by omega)
 go_wp2_with fail
 refine (nat_Least (h1.ext (by repeat (first | exact Ext.refl _ | assumption | apply Ext.drewN | apply Ext.drew | apply Ext.alloc))) (by omega)).mono ?_
 rintro e w1 ⟨A1,n1,c1,rfl,hn1,hr1,ho1,hx1⟩
 rw [nv_one] at hn1 ho1
 have hx1':Ext wa w1:=Ext.trans (by repeat (first | exact Ext.refl _ | assumption | apply Ext.drewN | apply Ext.drew | apply Ext.alloc)) hx1
 have hd:=hb.ext hx1'
 have hsz:=hx1'.size
 go_wp2_with fail
 refine (zint_of hn1.out).mono ?_
 rintro e w2 ⟨s',rfl,hs',hx2⟩
 have hd:=hd.ext hx2
 clear k1 k2 k3 k4
 obtain⟨k1,k2,k3,k4⟩:=hd.two
 go_wp2_with fail
 refine bodyPost_ret (res_int rfl rfl (hd.two_set _ _)) rfl ?_
 exact fin_int hd ((Zr_of hs'.out hn1.out ho1 (sg_false _)).ext hx2) (by simp;omega) (by omega) (hea.trans (hx1'.trans hx2))
end Go.Proofs.Ytnpbbknemflpnaa

namespace Go.Proofs.Ytnpbbknemflpnaa.Pop
def mk (m:Nat):Nat→Nat
 | 0=>0
 | k+1=>m+256*mk m k
theorem and_byte (a A m M:Nat) (ha:a<256) (hm:m<256):(a+256*A)&&& (m+256*M)=(a&&& m)+256*(A&&& M):=by
 have h1:((a+256*A)&&& (m+256*M))%2^8=a&&& m:=by
  rw [Nat.and_mod_two_pow]
  congr 1 <;> omega
 have h2:((a+256*A)&&& (m+256*M))/2^8=A&&& M:=by
  rw [Nat.and_div_two_pow]
  congr 1 <;> omega
 have h3:=Nat.mod_add_div ((a+256*A)&&& (m+256*M)) (2^8)
 rw [h1,h2] at h3
 exact h3.symm
def f1 (k x:Nat):Nat:=(x/2&&& mk 85 k)+(x&&& mk 85 k)
def f2 (k x:Nat):Nat:=(x/4&&& mk 51 k)+(x&&& mk 51 k)
def f3 (k x:Nat):Nat:=(x/16+x)&&& mk 15 k
def d1 (b:Nat):Nat:=(b/2&&& 85)+(b&&& 85)
def d2 (b:Nat):Nat:=(b/4&&& 51)+(b&&& 51)
def d3 (b:Nat):Nat:=(b/16+b)&&& 15
def pc (b:Nat):Nat:=d3 (d2 (d1 b))
theorem t1:∀b:Fin 256,∀p:Fin 2,((b.val/2+128*p.val)&&& 85)=(b.val/2&&& 85):=by decide+kernel
theorem t2:∀b:Fin 256,∀p:Fin 4,((b.val/4+64*p.val)&&& 51)=(b.val/4&&& 51):=by decide+kernel
theorem t3:∀b:Fin 256,∀p:Fin 5,((d2 (d1 b.val)/16+d2 (d1 b.val)+16*p.val)&&& 15)=pc b.val:=by decide+kernel
theorem t4:∀b:Fin 256,d1 b.val<256∧d2 (d1 b.val)<69∧d2 (d1 b.val)%16≤4∧pc b.val≤8∧(pc b.val=0→b.val=0)∧(128≤b.val→pc b.val≤1→b.val=128):=by decide+kernel
theorem f1_step {k b B:Nat}(hb:b<256):f1 (k+1) (b+256*B)=d1 b+256*f1 k B:=by
 unfold f1 d1
 rw [show mk 85 (k+1)=85+256*mk 85 k from rfl]
 have e:(b+256*B)/2=(b/2+128*(B%2))+256*(B/2):=by omega
 rw [e,and_byte _ _ _ _ (by omega) (by omega),and_byte _ _ _ _ hb (by omega),t1 ⟨b,hb⟩ ⟨B%2,by omega⟩]
 show (b/2&&& 85)+_+_=_
 omega
theorem f2_step {k b B:Nat}(hb:b<256):f2 (k+1) (b+256*B)=d2 b+256*f2 k B:=by
 unfold f2 d2
 rw [show mk 51 (k+1)=51+256*mk 51 k from rfl]
 have e:(b+256*B)/4=(b/4+64*(B%4))+256*(B/4):=by omega
 rw [e,and_byte _ _ _ _ (by omega) (by omega),and_byte _ _ _ _ hb (by omega),t2 ⟨b,hb⟩ ⟨B%4,by omega⟩]
 show (b/4&&& 51)+_+_=_
 omega
theorem steps {k b B:Nat}(hb:b<256) (hB:f2 k (f1 k B)%16≤4):
  f3 (k+1) (f2 (k+1) (f1 (k+1) (b+256*B)))=pc b+256*f3 k (f2 k (f1 k B))∧f2 (k+1) (f1 (k+1) (b+256*B))%16≤4:=by
 obtain⟨h1,h2,h3,_⟩:=t4 ⟨b,hb⟩
 rw [f1_step hb,f2_step h1]
 refine⟨?_,by omega⟩
 generalize f2 k (f1 k B)=C at*
 unfold f3
 rw [show mk 15 (k+1)=15+256*mk 15 k from rfl]
 have e:(d2 (d1 b)+256*C)/16+(d2 (d1 b)+256*C)=(d2 (d1 b)/16+d2 (d1 b)+16*(C%16))+256*(C/16+C):=by omega
 have h2':d2 (d1 b)<69:=h2
 rw [e,and_byte _ _ _ _ (by omega) (by omega),t3 ⟨b,hb⟩ ⟨C%16,by omega⟩]
theorem eight {b0 b1 b2 b3 b4 b5 b6 b7:Nat}(h0:b0<256) (h1:b1<256) (h2:b2<256) (h3:b3<256) (h4:b4<256) (h5:b5<256) (h6:b6<256) (h7:b7<256):
  f3 8 (f2 8 (f1 8 (b0+256*(b1+256*(b2+256*(b3+256*(b4+256*(b5+256*(b6+256*(b7+256*0))))))))))
   =pc b0+256*(pc b1+256*(pc b2+256*(pc b3+256*(pc b4+256*(pc b5+256*(pc b6+256*pc b7)))))):=by
 have s7:=steps (k:=0) (B:=0) h7 (by decide)
 have s6:=steps h6 s7.2
 have s5:=steps h5 s6.2
 have s4:=steps h4 s5.2
 have s3:=steps h3 s4.2
 have s2:=steps h2 s3.2
 have s1:=steps h1 s2.2
 have s0:=steps h0 s1.2
 rw [s0.1,s1.1,s2.1,s3.1,s4.1,s5.1,s6.1,s7.1]
 simp [f3,mk]
theorem folds {p0 p1 p2 p3 p4 p5 p6 p7:Nat}(h0:p0≤8) (h1:p1≤8) (h2:p2≤8) (h3:p3≤8) (h4:p4≤8) (h5:p5≤8) (h6:p6≤8) (h7:p7≤8){x3 x4 x5 x6:Nat}
  (e3:x3=p0+256*(p1+256*(p2+256*(p3+256*(p4+256*(p5+256*(p6+256*p7))))))) (e4:x4=x3+x3/256) (e5:x5=x4+x4/65536) (e6:x6=x5+x5/4294967296):
  x6%128=p0+p1+p2+p3+p4+p5+p6+p7∧x6<18446744073709551616:=by
 have g4:x4=(p0+p1)+256*((p1+p2)+256*((p2+p3)+256*((p3+p4)+256*((p4+p5)+256*((p5+p6)+256*((p6+p7)+256*p7)))))):=by omega
 clear e3 e4
 have g5:x5=(p0+p1+p2+p3)+256*((p1+p2+p3+p4)+256*((p2+p3+p4+p5)+256*((p3+p4+p5+p6)+256*((p4+p5+p6+p7)+256*((p5+p6+p7)+256*((p6+p7)+256*p7)))))):=by omega
 clear g4 e5
 have gq:x5/4294967296=(p4+p5+p6+p7)+256*((p5+p6+p7)+256*((p6+p7)+256*p7)):=by omega
 rw [gq] at e6
 have g6:x6=(p0+p1+p2+p3+p4+p5+p6+p7)+256*(((p1+p2+p3+p4)+256*((p2+p3+p4+p5)+256*((p3+p4+p5+p6)+256*((p4+p5+p6+p7)+256*((p5+p6+p7)+256*((p6+p7)+256*p7))))))+((p5+p6+p7)+256*((p6+p7)+256*p7))):=by omega
 clear gq e6 g5
 omega
theorem one {x x1 x2 x3 x4 x5 x6:Nat}(hx:x<18446744073709551616) (hh:9223372036854775808≤x) (e1:x1=f1 8 x) (e2:x2=f2 8 x1) (e3:x3=f3 8 x2) (e4:x4=x3+x3/256) (e5:x5=x4+x4/65536) (e6:x6=x5+x5/4294967296):
  x6%128=1↔x=9223372036854775808:=by
 obtain⟨b0,q0,hb0,hq0⟩:∃b q,b<256∧x=b+256*q:=⟨x%256,x/256,by omega,by omega⟩
 obtain⟨b1,q1,hb1,hq1⟩:∃b q,b<256∧q0=b+256*q:=⟨q0%256,q0/256,by omega,by omega⟩
 obtain⟨b2,q2,hb2,hq2⟩:∃b q,b<256∧q1=b+256*q:=⟨q1%256,q1/256,by omega,by omega⟩
 obtain⟨b3,q3,hb3,hq3⟩:∃b q,b<256∧q2=b+256*q:=⟨q2%256,q2/256,by omega,by omega⟩
 obtain⟨b4,q4,hb4,hq4⟩:∃b q,b<256∧q3=b+256*q:=⟨q3%256,q3/256,by omega,by omega⟩
 obtain⟨b5,q5,hb5,hq5⟩:∃b q,b<256∧q4=b+256*q:=⟨q4%256,q4/256,by omega,by omega⟩
 obtain⟨b6,b7,hb6,hq6⟩:∃b q,b<256∧q5=b+256*q:=⟨q5%256,q5/256,by omega,by omega⟩
 have hb7:b7<256:=by omega
 have hb7':128≤b7:=by omega
 have e:=eight hb0 hb1 hb2 hb3 hb4 hb5 hb6 hb7
 have ex:x=b0+256*(b1+256*(b2+256*(b3+256*(b4+256*(b5+256*(b6+256*(b7+256*0))))))):=by omega
 rw [←ex,←e1,←e2,←e3] at e
 have p0:=(t4 ⟨b0,hb0⟩).2.2.2
 have p1:=(t4 ⟨b1,hb1⟩).2.2.2
 have p2:=(t4 ⟨b2,hb2⟩).2.2.2
 have p3:=(t4 ⟨b3,hb3⟩).2.2.2
 have p4:=(t4 ⟨b4,hb4⟩).2.2.2
 have p5:=(t4 ⟨b5,hb5⟩).2.2.2
 have p6:=(t4 ⟨b6,hb6⟩).2.2.2
 have p7:=(t4 ⟨b7,hb7⟩).2.2.2
 have hf:=(folds p0.1 p1.1 p2.1 p3.1 p4.1 p5.1 p6.1 p7.1 e e4 e5 e6).1
 simp only at p0 p1 p2 p3 p4 p5 p6 p7
 rw [hf]
 show (pc b0+pc b1+pc b2+pc b3+pc b4+pc b5+pc b6+pc b7=1)↔_
 constructor
 ·intro h
  have h7:pc b7≠0:=fun hz=>by have:=p7.2.1 hz;omega
  have hs:pc b0+pc b1+pc b2+pc b3+pc b4+pc b5+pc b6=0∧pc b7=1:=by clear p0 p1 p2 p3 p4 p5 p6 p7 e e1 e2 e3 e4 e5 e6 ex hq0 hq1 hq2 hq3 hq4 hq5 hq6 hf;omega
  obtain⟨hs,h8⟩:=hs
  have z0:=p0.2.1 (by omega)
  have z1:=p1.2.1 (by omega)
  have z2:=p2.2.1 (by omega)
  have z3:=p3.2.1 (by omega)
  have z4:=p4.2.1 (by omega)
  have z5:=p5.2.1 (by omega)
  have z6:=p6.2.1 (by omega)
  have z7:=p7.2.2 hb7' (by omega)
  omega
 ·intro h
  obtain rfl:b7=128:=by omega
  obtain rfl:b0=0:=by omega
  obtain rfl:b1=0:=by omega
  obtain rfl:b2=0:=by omega
  obtain rfl:b3=0:=by omega
  obtain rfl:b4=0:=by omega
  obtain rfl:b5=0:=by omega
  obtain rfl:b6=0:=by omega
  decide
end Go.Proofs.Ytnpbbknemflpnaa.Pop

namespace Go.Proofs.Ytnpbbknemflpnaa
open Go.RowKit
theorem zint_Of_neg {w:World}{v:Nat}(hv1:1≤v) (hv:v≤9223372036854775808):
  Calls Try.prog 21 #[.int .i64 (-(v:Int))] w (RetZ w (-(v:Int))):=by
 have hn: -(v:Int)<0:=by omega
 have w1e:IntKind.u64.wrap (-(v:Int))=18446744073709551616-(v:Int):=by
  simp only [IntKind.wrap,IntKind.bits,IntKind.signed]
  simp
  omega
 have w2e:IntKind.u64.wrap (-(18446744073709551616-(v:Int)))=(v:Int):=by
  simp only [IntKind.wrap,IntKind.bits,IntKind.signed]
  simp
  omega
 have W1:=Lib.hid w1e
 have W2:=Lib.hid w2e
 clear w1e w2e
 go_enter Try.func21,Try.ntmps21
 go_upto_region 2 with (fail)
 obtain⟨g,hg⟩:∃g,w.heap.size=g:=⟨_,rfl⟩
 obtain⟨wa,hwa⟩:∃wa,w.alloc (.cells #[.bool false,.slice none 0 0] 34)=wa:=⟨_,rfl⟩
 rw [hg,hwa]
 have hb:Bk wa g 34 [.bool false,.slice none 0 0]:=by rw [←hwa,←hg];exact Bk.new w 34 [.bool false,.slice none 0 0]
 have hea:Ext w wa:=by rw [←hwa];exact (Ext.refl w).alloc _
 have hga:w.heap.size≤g:=Nat.le_of_eq hg
 have hgl:g<wa.heap.size:=hb.lt
 clear hwa hg
 obtain⟨k1,k2,k3,k4⟩:=hb.two
 have h1:Rd (wa.alloc (.cells #[.int .u64 (v:Int)] 47)) (some ⟨wa.heap.size,0,none⟩) 1 1 [v]:=Rd.one wa (by omega)
 have w1e:=W1.out
 have w2e:=W2.out
 go_wp2_with fail
 clear w1e w2e
 refine (nat_Least (h1.ext (by repeat (first | exact Ext.refl _ | assumption | apply Ext.drewN | apply Ext.drew | apply Ext.alloc))) (by omega)).mono ?_
 rintro e w1 ⟨A1,n1,c1,rfl,hn1,hr1,ho1,hx1⟩
 rw [nv_one] at hn1 ho1
 have hx1':Ext wa w1:=Ext.trans (by repeat (first | exact Ext.refl _ | assumption | apply Ext.drewN | apply Ext.drew | apply Ext.alloc)) hx1
 have hd:=hb.ext hx1'
 have hsz:=hx1'.size
 go_wp2_with fail
 refine (zint_of hn1.out).mono ?_
 rintro e w2 ⟨s',rfl,hs',hx2⟩
 have hd:=hd.ext hx2
 clear k1 k2 k3 k4
 obtain⟨k1,k2,k3,k4⟩:=hd.two
 go_wp2_with fail
 refine bodyPost_ret (res_int rfl rfl (hd.two_set _ _)) rfl ?_
 exact fin_int hd ((Zr_of hs'.out hn1.out ho1 (sg_true _)).ext hx2) (by simp;omega) (by omega) (hea.trans (hx1'.trans hx2))
theorem zint_OfI {w:World}{v:Int}(h1: -9223372036854775808≤v) (h2:v≤9223372036854775807):Calls Try.prog 21 #[.int .i64 v] w (RetZ w v):=by
 by_cases h:0≤v
 ·obtain⟨m,rfl⟩:=Int.eq_ofNat_of_zero_le h
  exact zint_Of (by omega)
 ·obtain⟨m,hm⟩:∃m:Nat,v= -(m:Int):=⟨v.natAbs,by omega⟩
  subst hm
  exact zint_Of_neg (by omega) (by omega)
theorem aggInt:AggT Try.prog 34 2:=⟨fun _=>by kernel_rfl,fun _=>by kernel_rfl⟩
theorem cellBool:∀w,(isAgg 4).run Try.prog w= .ok false w:=fun _=>by kernel_rfl
theorem cellWords:∀w,(isAgg 32).run Try.prog w= .ok false w:=fun _=>by kernel_rfl
theorem mix:Try.prog.follows .mixedOrders=true:=by kernel_rfl
def Is (u v:Value) (_:World):Prop:=v=u
def ZR (b:Nat) (z:Int) (v:Value) (w:World):Prop:=∃s A n c,v= .agg #[.bool s,.slice A n c]∧Zr w b s A n c z
def PR (b:Nat) (T:TypeId) (vs:List Value) (v:Value) (w:World):Prop:=∃g,v= .pointer (some ⟨g,0,none⟩)∧b≤g∧Bk w g T vs
theorem Zr_nat {w:World}{b m n c:Nat}{A:Option Addr}(hn:n=(wd m).length) (ho:Own w b 47 1 A n c ((wd m).map W64)):Zr w b false A n c (m:Int):=
 Zr_of (m:=m) (s:=false) (by rw [sg_false];symm;exact decide_eq_false (by omega)) hn ho (sg_false m)
def T2 (R S:Value→World→Prop) (v:Value) (w:World):Prop:=∃a b,v= .tuple #[a,b]∧R a w∧S b w
def T3 (R S T:Value→World→Prop) (v:Value) (w:World):Prop:=∃a b c,v= .tuple #[a,b,c]∧R a w∧S b w∧T c w
def Gv (w:World) (R:Value→World→Prop) (e:Ending) (w':World):Prop:=∃v,e= .returned v∧R v w'∧Ext w w'
section
variable {w w':World}{b:Nat}{z x y:Int}{v u:Value}{R S T:Value→World→Prop}
theorem ZR.cast (h:ZR b z v w) (e:z=x):ZR b x v w:=e▸h
theorem gz (hb:b≤w.heap.size) (e:Ending) (w':World) (h:RetZ w z e w'):Gv w (ZR b z) e w':=by
 obtain⟨s,A,n,c,rfl,h1,h2⟩:=h
 exact⟨_,rfl,⟨s,A,n,c,rfl,h1.mono hb⟩,h2⟩
theorem gze {er:Int}(hb:b≤w.heap.size) (e:Ending) (w':World) (h:RetZE w z er e w'):Gv w (T2 (ZR b z) (Is (.int .i64 er))) e w':=by
 obtain⟨s,A,n,c,rfl,h1,h2⟩:=h
 exact⟨_,rfl,⟨_,_,rfl,⟨s,A,n,c,rfl,h1.mono hb⟩,rfl⟩,h2⟩
theorem Gv.imp (hi:∀v w,R v w→S v w) (e:Ending) (w':World) (h:Gv w R e w'):Gv w S e w':=by
 obtain⟨v,rfl,h1,h2⟩:=h
 exact⟨v,rfl,hi _ _ h1,h2⟩
theorem T2.imp {R' S':Value→World→Prop}(h1:∀v w,R v w→R' v w) (h2:∀v w,S v w→S' v w) (v:Value) (w:World) (h:T2 R S v w):T2 R' S' v w:=by
 obtain⟨a,c,rfl,h3,h4⟩:=h
 exact⟨a,c,rfl,h1 _ _ h3,h2 _ _ h4⟩
theorem Is.imp {u:Value}(v:Value) (w:World) (h:Is u v w):Is u v w:=h
theorem gsgn (e:Ending) (w':World) (h:SgnP z w e w'):Gv w (Is (.int .i64 z)) e w':=by
 obtain⟨c,h1,_,_,rfl,h2⟩:=h
 exact⟨_,rfl,(show Value.int .i64 c=_ by rw [h1.out]),h2⟩
end
section
variable {w:World}{b:Nat}(hb:b≤w.heap.size){s t u:Bool}{A B C:Option Addr}{n cap m cap' k cap'':Nat}{x y z:Int}
include hb
theorem g_zint_Add (hx:Zi w s A n cap x) (hl:n≤274877906944) (hy:Zi w t B m cap' y) (hl':m≤274877906944):
  Calls Try.prog 28 #[.agg #[.bool s,.slice A n cap],.agg #[.bool t,.slice B m cap']] w (Gv w (ZR b (x+y))):=(zint_Add hx hl hy hl').mono (gz hb)
theorem g_zint_Sub (hx:Zi w s A n cap x) (hl:n≤274877906944) (hy:Zi w t B m cap' y) (hl':m≤274877906944):
  Calls Try.prog 40 #[.agg #[.bool s,.slice A n cap],.agg #[.bool t,.slice B m cap']] w (Gv w (ZR b (x-y))):=(zint_Sub hx hl hy hl').mono (gz hb)
theorem g_zint_Mul (hx:Zi w s A n cap x) (hl:n≤68719476736) (hy:Zi w t B m cap' y) (hl':m≤68719476736):
  Calls Try.prog 41 #[.agg #[.bool s,.slice A n cap],.agg #[.bool t,.slice B m cap']] w (Gv w (ZR b (x*y))):=(zint_Mul hx hl hy hl').mono (gz hb)
theorem g_zint_MulAdd (hx:Zi w s A n cap x) (hl:n≤68719476736) (hy:Zi w t B m cap' y) (hl':m≤68719476736) (hz:Zi w u C k cap'' z) (hl'':k≤68719476736):
  Calls Try.prog 63 #[.agg #[.bool s,.slice A n cap],.agg #[.bool t,.slice B m cap'],.agg #[.bool u,.slice C k cap'']] w (Gv w (ZR b (x*y+z))):=(zint_MulAdd hx hl hy hl' hz hl'').mono (gz hb)
theorem g_zint_Neg (hx:Zi w s A n cap x) (hl:n≤68719476736):Calls Try.prog 11 #[.agg #[.bool s,.slice A n cap]] w (Gv w (ZR b (-x))):=(zint_Neg hx hl).mono (gz hb)
theorem g_zint_Least (hx:Zi w s A n cap x) (hl:n≤68719476736):Calls Try.prog 39 #[.agg #[.bool s,.slice A n cap]] w (Gv w (ZR b x)):=(zint_Least hx hl).mono (gz hb)
theorem g_zint_Of {v:Int}(h1: -9223372036854775808≤v) (h2:v≤9223372036854775807):Calls Try.prog 21 #[.int .i64 v] w (Gv w (ZR b v)):=(zint_OfI h1 h2).mono (gz hb)
theorem g_zint_Exact (hx:Zi w s A n cap x) (hl:n≤68719476736) (hy:Zi w t B m cap' y) (hl':m≤68719476736) (h0:y≠0) (h1:y∣x):
  Calls Try.prog 24 #[.agg #[.bool s,.slice A n cap],.agg #[.bool t,.slice B m cap']] w (Gv w (T2 (ZR b (x.tdiv y)) (Is (.int .i64 0)))):=(zint_Exact hx hl hy hl' h0 h1).mono (gze hb)
theorem g_bezout_Gcd (hx:Zi w s A n cap x) (hl:n≤68719476736) (hy:Zi w t B m cap' y) (hl':m≤68719476736):
  Calls Try.prog 69 #[.agg #[.bool s,.slice A n cap],.agg #[.bool t,.slice B m cap']] w (Gv w (ZR b (Int.gcd x y:Int))):=(bezout_Gcd hx hl hy hl').mono (gz hb)
end
section
variable {w:World}{s t:Bool}{A B:Option Addr}{n cap m cap':Nat}{x y:Int}
theorem g_zint_Sign (hx:Zi w s A n cap x) (hl:n≤68719476736):Calls Try.prog 36 #[.agg #[.bool s,.slice A n cap]] w (Gv w (Is (.int .i64 (scmp x 0)))):=(zint_Sign hx hl).mono gsgn
theorem g_zint_Cmp (hx:Zi w s A n cap x) (hl:n≤68719476736) (hy:Zi w t B m cap' y) (hl':m≤68719476736):
  Calls Try.prog 59 #[.agg #[.bool s,.slice A n cap],.agg #[.bool t,.slice B m cap']] w (Gv w (Is (.int .i64 (scmp x y)))):=(zint_Cmp hx hl hy hl').mono gsgn
end
section
variable {P:Program}{Q:Exit→Act→World→Prop}{n:Nat}{l:Fr}{w:World}{ops:Array Oper}{rest:List Oper}{d:Nat}{op:Op}{ty:TypeId}{pos:String}{af:Array Edge}{gd:Option (Nat×Bool)}
theorem wl_bslice (hw:guardB ops l gd=some true) (hk:known l op=true) (hn:d<n){k:Nat}{e:TypeId}(cells:List Value)
  (hr:∀w,(execOp (rho l) ⟨some d,op,ty,pos,af,gd⟩).run P w= .ok (.value (.slice (some ⟨w.heap.size,0,none⟩) k k)) (w.alloc (.cells cells.toArray e)))
  (h:∀g w',NewBk w w' g e cells→wl P ops Q n rest ((d,.slice (some ⟨g,0,none⟩) k k)::l) w'):wl P ops Q n (⟨some d,op,ty,pos,af,gd⟩::rest) l w:=
 wl_val hw hn (fun a ha=>by rw [exec_known hk ha];exact hr w) (h _ _ (NewBk.mk' w e cells))
end
def O1 (b x:Nat) (v:Value) (w:World):Prop:=∃A,v= .slice A 1 1∧Own w b 47 1 A 1 1 [W64 x]
theorem O1.mk_ {w w':World}{g b x:Nat}(h:NewBk w w' g 47 [W64 x]) (hb:b≤w.heap.size):Own w' b 47 1 (some ⟨g,0,none⟩) 1 1 [W64 x]:=
 Own.mk_ (by rw [←h.at_];exact hb) h.bk (Nat.le_refl _) (by rw [len_maxLen];omega) rfl rfl
theorem own1_wd {w:World}{b x:Nat}{A:Option Addr}(h:Own w b 47 1 A 1 1 [W64 x]) (hx:x≤18446744073709551615) (h0:x≠0):Own w b 47 1 A 1 1 ((wd x).map W64):=by
 rw [wd_small (by rw [WB_def];omega) h0];exact h
theorem len1 {x:Nat}(hx:x≤18446744073709551615) (h0:x≠0):1=(wd x).length:=by rw [wd_small (by rw [WB_def];omega) h0];rfl
theorem Zr_neg {w:World}{b m n c:Nat}{A:Option Addr}(h:m≠0) (hn:n=(wd m).length) (ho:Own w b 47 1 A n c ((wd m).map W64)):Zr w b true A n c (-(m:Int)):=
 Zr_of (m:=m) (s:=true) (by rw [sg_lt,decide_eq_true (Nat.pos_of_ne_zero h)];rfl) hn ho (sg_true m)
section
variable {P:Program}{Q:Exit→Act→World→Prop}{n:Nat}{l:Fr}{w:World}
def mvL (n:Nat) (ops:Array Oper):Nat→List Oper→Fr→Option (Fr×List Oper)
 | 0,rest,l=>some (l,rest)
 | _+1,[],_=>none
 | k+1,⟨some d,op,_,_,_,gd⟩::rest,l=>
  match Nat.blt d n with
  | true=>
   match guardB ops l gd with
   | some true=>
    match op with
    | .move x=>match evo l x with
     | some v=>mvL n ops k rest ((d,v)::l)
     | none=>none
    | .assign x=>match evo l x with
     | some v=>mvL n ops k rest ((d,v)::l)
     | none=>none
    | _=>none
   | some false=>mvL n ops k rest ((d,undef)::l)
   | none=>none
  | false=>none
 | _+1,_::_,_=>none
theorem mv {ops:Array Oper}:∀(k:Nat){rest rest':List Oper}{l l':Fr},mvL n ops k rest l=some (l',rest')→wl P ops Q n rest' l' w→wl P ops Q n rest l w
 | 0,rest,rest',l,l',h,hw=>by
  simp only [mvL,Option.some.injEq,Prod.mk.injEq] at h
  obtain⟨rfl,rfl⟩:=h
  exact hw
 | k+1,[],rest',l,l',h,hw=>by simp [mvL] at h
 | k+1,⟨none,op,ty,pos,af,gd⟩::rest,rest',l,l',h,hw=>by simp [mvL] at h
 | k+1,⟨some d,op,ty,pos,af,gd⟩::rest,rest',l,l',h,hw=>by
  unfold mvL at h
  split at h
  ·rename_i hd
   have hd':d<n:=Nat.le_of_ble_eq_true hd
   split at h
   ·rename_i hg
    split at h
    ·split at h
     ·rename_i hx
      exact wl_move hg hx hd' (mv k h hw)
     ·cases h
    ·split at h
     ·rename_i hx
      exact wl_assign hg hx hd' (mv k h hw)
     ·cases h
    ·cases h
   ·rename_i hg
    exact wl_off hg hd' (mv k h hw)
   ·cases h
  ·cases h
theorem sr {id:Nat}{ol:List Oper}{y:Code}(h:wl P ol.toArray (Exit.then (fun a w=>y.wp P Q a w) Q) n ol l w):cw P Q n (.seq (.region id ol.toArray false) y) l w:=cw_seq (cw_region h)
theorem ne_ {ops:Array Oper}{y:Code}(h:cw P Q n y l w):wl P ops (Exit.then (fun a w=>y.wp P Q a w) Q) n [] l w:=wl_nil (eo_then h)
theorem pu {ops:Array Oper}{rest:List Oper}{d:Nat}{op:Op}{ty:TypeId}{pos:String}{af:Array Edge}{gd:Option (Nat×Bool)}{v:Value}(hk:(guardB ops l gd==some true&&known l op&&Nat.blt d n)=true) (hr:(execOp (rho l) ⟨some d,op,ty,pos,af,gd⟩).run P w= .ok (.value v) w)
  (h:wl P ops Q n rest ((d,v)::l) w):wl P ops Q n (⟨some d,op,ty,pos,af,gd⟩::rest) l w:=by
 rw [Bool.and_eq_true,Bool.and_eq_true,beq_iff_eq] at hk
 exact wl_pure hk.1.1 hk.1.2 (Nat.le_of_ble_eq_true hk.2) hr h
section
variable {ops:Array Oper}{rest:List Oper}{d:Nat}{ty:TypeId}{pos:String}{af:Array Edge}{gd:Option (Nat×Bool)}{w0:World}
theorem bx {x:Operand}{t:TypeId}{v:Value}(vs:List Value) (h0:Ext w0 w) (hx:evo l x=some v) (hk:(guardB ops l gd==some true&&Nat.blt d n)=true) (hv:v.cells=vs.toArray)
  (h:∀g w',Bk w' g t vs→w0.heap.size≤g→Ext w w'→Ext w0 w'→wl P ops Q n rest ((d,.pointer (some ⟨g,0,none⟩))::l) w'):wl P ops Q n (⟨some d,.box t x,ty,pos,af,gd⟩::rest) l w:=by
 rw [Bool.and_eq_true,beq_iff_eq] at hk
 exact wl_box hk.1 hx hv (Nat.le_of_ble_eq_true hk.2) fun g w' nb=>h g w' nb.bk (by rw [←nb.at_];exact h0.size) nb.ext (h0.trans nb.ext)
theorem bxq {x:Operand}{t:TypeId}{v:Value}{gp:Nat}(vs:List Value) (h0:Ext w0 w) (hq:gp<w.heap.size) (hx:evo l x=some v) (hk:(guardB ops l gd==some true&&Nat.blt d n)=true) (hv:v.cells=vs.toArray)
  (h:∀g w',Bk w' g t vs→w0.heap.size≤g→gp<g→Ext w w'→Ext w0 w'→wl P ops Q n rest ((d,.pointer (some ⟨g,0,none⟩))::l) w'):wl P ops Q n (⟨some d,.box t x,ty,pos,af,gd⟩::rest) l w:=by
 rw [Bool.and_eq_true,beq_iff_eq] at hk
 exact wl_box hk.1 hx hv (Nat.le_of_ble_eq_true hk.2) fun g w' nb=>h g w' nb.bk (by rw [←nb.at_];exact h0.size) (by rw [←nb.at_];exact hq) nb.ext (h0.trans nb.ext)
theorem al {t:TypeId}(vs:List Value) (h0:Ext w0 w) (hz:∀w,(zeroValue t).run P w= .ok (.agg vs.toArray) w) (hk:(guardB ops l gd==some true&&Nat.blt d n)=true)
  (h:∀g w',Bk w' g t vs→w0.heap.size≤g→Ext w w'→Ext w0 w'→wl P ops Q n rest ((d,.pointer (some ⟨g,0,none⟩))::l) w'):wl P ops Q n (⟨some d,.alloc t,ty,pos,af,gd⟩::rest) l w:=by
 rw [Bool.and_eq_true,beq_iff_eq] at hk
 exact wl_alloc hk.1 hz rfl (Nat.le_of_ble_eq_true hk.2) fun g w' nb=>h g w' nb.bk (by rw [←nb.at_];exact h0.size) nb.ext (h0.trans nb.ext)
theorem alq {t:TypeId}{gp:Nat}(vs:List Value) (h0:Ext w0 w) (hq:gp<w.heap.size) (hz:∀w,(zeroValue t).run P w= .ok (.agg vs.toArray) w) (hk:(guardB ops l gd==some true&&Nat.blt d n)=true)
  (h:∀g w',Bk w' g t vs→w0.heap.size≤g→gp<g→Ext w w'→Ext w0 w'→wl P ops Q n rest ((d,.pointer (some ⟨g,0,none⟩))::l) w'):wl P ops Q n (⟨some d,.alloc t,ty,pos,af,gd⟩::rest) l w:=by
 rw [Bool.and_eq_true,beq_iff_eq] at hk
 exact wl_alloc hk.1 hz rfl (Nat.le_of_ble_eq_true hk.2) fun g w' nb=>h g w' nb.bk (by rw [←nb.at_];exact h0.size) (by rw [←nb.at_];exact hq) nb.ext (h0.trans nb.ext)
theorem cl {f:FuncId}{xs:Array Operand}{ts:Array TypeId}{vs:List Value}{R:Value→World→Prop}(h0:Ext w0 w) (hc:Calls P f vs.toArray w (Gv w R))
  (hk:(guardB ops l gd==some true&&known l (.call {callee:= .value (.func f),args:=xs,argTypes:=ts})&&Nat.blt d n)=true)
  (hr:(execOp (rho l) ⟨some d,.call {callee:= .value (.func f),args:=xs,argTypes:=ts},ty,pos,af,gd⟩).run P w= .ok (.enter f vs.toArray) w)
  (h:∀v w',R v w'→Ext w w'→Ext w0 w'→wl P ops Q n rest ((d,v)::l) w'):
  wl P ops Q n (⟨some d,.call {callee:= .value (.func f),args:=xs,argTypes:=ts},ty,pos,af,gd⟩::rest) l w:=by
 rw [Bool.and_eq_true,Bool.and_eq_true,beq_iff_eq] at hk
 refine wl_call hk.1.1 hk.1.2 hr (Nat.le_of_ble_eq_true hk.2) hc ?_
 rintro _ w' ⟨v,rfl,r,e⟩
 exact ret_intro (h v w' r e (h0.trans e))
theorem lo {x:Operand}{T T':TypeId}{k off g:Nat}{vs:List Value}(hT:AggT P T k) (hb:Bk w g T' vs) (us:List Value) (hx:evo l x=some (.pointer (some ⟨g,off,none⟩)))
  (hk:(guardB ops l gd==some true&&Nat.blt d n&&Nat.beq us.length k&&Nat.ble (off+k) vs.length)=true) (he:(vs.drop off).take k=us) (h:wl P ops Q n rest ((d,.agg us.toArray)::l) w):wl P ops Q n (⟨some d,.load T x,ty,pos,af,gd⟩::rest) l w:=by
 rw [Bool.and_eq_true,Bool.and_eq_true,Bool.and_eq_true,beq_iff_eq] at hk
 exact wl_load hk.1.1.1 hx (load_agg hT hb us (Nat.eq_of_beq_eq_true hk.1.2) (Nat.le_of_ble_eq_true hk.2) he) (Nat.le_of_ble_eq_true hk.1.1.2) h
theorem so {x y:Operand}{T T':TypeId}{k g off:Nat}{vs us:List Value}(hT:AggT P T k) (hb:Bk w g T' vs) (us':List Value) (h0:Ext w0 w) (hg:w0.heap.size≤g) (hx:evo l x=some (.pointer (some ⟨g,off,none⟩))) (hy:evo l y=some (.agg us.toArray))
  (hk:(guardB ops l gd==some true&&Nat.beq us.length k&&Nat.ble (off+k) vs.length&&us.all (·.oneCell'))=true) (he:overl vs off us=us')
  (h:∀w',Bk w' g T' us'→Upd g w w'→Ext w0 w'→wl P ops Q n rest l w'):wl P ops Q n (⟨none,.store T x y,ty,pos,af,gd⟩::rest) l w:=by
 rw [Bool.and_eq_true,Bool.and_eq_true,Bool.and_eq_true,beq_iff_eq] at hk
 exact wl_stored hk.1.1.1 hx hy hT (Nat.eq_of_beq_eq_true hk.1.1.2) hb (Nat.le_of_ble_eq_true hk.1.2) hk.2 us' he fun w' b u _=>h w' b u (u.ext h0 hg)
end
theorem dk {ol:List Oper}{Rs:List (Value→World→Prop)}{w0 w1:World}{k:Fr→Prop}{acc:Fr}{j:Nat}{ds:List Nat}{v:Value}{d:Nat}
  (hR:Rs[j]?=some (Is v)) (hd:dstOf ol j=some d) (h:Deps ol Rs w0 w1 k ds ((d,v)::acc)):Deps ol Rs w0 w1 k (j::ds) acc:=
 deps_cons hR hd fun v' _ hr _ _=>by
  obtain rfl:=hr
  exact h
theorem pf {ops:Array Oper}{rest:List Oper}{d:Nat}{op:Op}{ty:TypeId}{pos:String}{af:Array Edge}{gd:Option (Nat×Bool)}(g off:Nat) (hk:(guardB ops l gd==some true&&known l op&&Nat.blt d n)=true) (hr:(execOp (rho l) ⟨some d,op,ty,pos,af,gd⟩).run P w= .ok (.value (.pointer (some ⟨g,off,none⟩))) w)
  (h:wl P ops Q n rest ((d,.pointer (some ⟨g,off,none⟩))::l) w):wl P ops Q n (⟨some d,op,ty,pos,af,gd⟩::rest) l w:=pu hk hr h
theorem bq {m k:Nat}(h:Nat.ble m k=true):m≤k:=Nat.le_of_ble_eq_true h
theorem lx_ {a b c:Nat}(h:a≤b) (k:Nat.ble b c=true):a≤c:=Nat.le_trans h (Nat.le_of_ble_eq_true k)
end
abbrev S0:Value:= .slice none 0 0
abbrev F0:Value:= .bool false
abbrev I0:Value:= .int .i64 0
end Go.Proofs.Ytnpbbknemflpnaa

namespace Go.Proofs.Ytnpbbknemflpnaa
open Go.ChangeShapes Go.WideShapes Go.ChangeAt Go.RowKit
theorem own_knob:ownKnob Try.prog.godebug=none:=by kernel_rfl
theorem cells_word:Try.prog.cellsOf 47=1:=by kernel_rfl
theorem bulk_one {H:Type}(d:DataW H):1≤Rows.uptoBulk d:=by
 cases d with
 | lit l=>cases l <;> simp [Rows.uptoBulk]
 | nil=>simp [Rows.uptoBulk]
 | ptr d=>simp [Rows.uptoBulk]
 | slice elems spare=>simp [Rows.uptoBulk]
 | agg parts=>simp [Rows.uptoBulk]
 | iface t d=>simp [Rows.uptoBulk]
 | map entries=>simp [Rows.uptoBulk]
 | held h=>simp [Rows.uptoBulk]
theorem bulk_len {H:Type}(l:List (DataW H)):l.length≤Rows.uptoBulkAll l:=by
 induction l with
 | nil=>simp [Rows.uptoBulkAll]
 | cons x r ih=>have:=bulk_one x;simp only [Rows.uptoBulkAll,List.length_cons];omega
theorem bulk_slice {H:Type}(elems spare:List (DataW H)):elems.length+spare.length≤Rows.uptoBulk (.slice elems spare):=by
 have h1:=bulk_len elems
 have h2:=bulk_len spare
 simp only [Rows.uptoBulk]
 omega
theorem bulk_bound {H:Type}{l:List (DataW H)}(hk:Rows.uptoSmall H l=true):Rows.uptoBulkAll l≤1048576:=of_decide_eq_true hk
theorem wf_nat {n:Int}(h:(Lit.int .u64 n).wf=true):0≤n∧n≤18446744073709551615:=by
 simpa [Lit.wf,IntKind.min,IntKind.max,IntKind.signed,IntKind.bits] using h
theorem post_of_below {H:Type}{enc:TypeId×Value→H}{P:Program}{f:Func}{s:ChangeSpec}{apart fresh handsOn again:Bool}{W W':World}{args:Array Value}{v:Value}{ds gs:List (DataW H)}{before pa pv:List MemPlace}
  (hW:DataW.Whole enc P f.params.toList s.vars apart W args.toList ds gs before)
  (hres:∀(b:Nat) (sp:Nat→Bool) (hd:Bool),DataW.TrodAll enc P W' b sp hd f.resultTypes.toList (v.resultList f.resultTypes.size) (s.fn H (ds++gs)).results [])
  (hargs:∀sp:Nat→Bool,(∀p∈before,sp p.block=true)→DataW.TrodAll enc P W' 0 sp true f.params.toList args.toList (s.fn H (ds++gs)).args pa)
  (hvars:∀sp:Nat→Bool,(∀p∈before,sp p.block=true)→DataW.TrodVars enc P W' sp s.vars (s.fn H (ds++gs)).vars pv)
  (hps:before=pa++pv) (hb:Below W.heap.size W W')
  (hok:∀(j:Nat) (t:TypeId) (r:Value),f.resultTypes[j]?=some t→(v.resultList f.resultTypes.size)[j]?=some r→Value.okWide P W' .any 0 t r):
  s.post enc P f apart fresh handsOn again W args v W':=by
 have hlt:∀p∈before,p.block<W.heap.size:=fun p hp=>hW.lt p hp
 have hold:∀p∈before,(fun b=>decide (b<W.heap.size)) p.block=true:=fun p hp=>by simpa using hlt p hp
 refine⟨ds,gs,before,[],pa,pv,hW,hres _ _ _,hargs _ hold,hvars _ hold,World.keptBut_mono (fun p hp=>⟨hp,?_⟩) (hb.frame (· ∈before)),fun _=>?_⟩
 ·rw [hps,List.mem_append] at hp
  exact Or.inr hp
 ·obtain⟨_,_,_,_,_,hz,hn⟩:=hW
  refine⟨hok,_,_,([]++pa)++pv,⟨[]++pa,pv,trodAll_append (hargs _ (fun _ _=>rfl)) (hres _ _ _),hvars _ (fun _ _=>rfl),rfl,?_,?_⟩,?_⟩
  ·intro b off hp
   have hin:MemPlace.cell b off∈before:=by rw [hps];simpa using hp
   rw [hb.frozen (hlt _ hin)]
   exact hz b off hin
  ·intro ha
   have:=hn ha
   rw [hps] at this
   simpa using this
  ·intro p hp _
   rw [hps]
   simpa using hp
theorem laid_out:laidOutB Try.prog=true:=by kernel_rfl
theorem maps_rowed:mapsRowed Try.prog=true:=by kernel_rfl
def sizedB (P:Program):Bool:=(List.range P.types.size).all fun t=>match P.underlying t with
 | some (.slice e)=>decide (0<P.cellsOf e)
 | _=>true
theorem sized_b:sizedB Try.prog=true:=by kernel_rfl
theorem sized {t e:TypeId}(ht:t<Try.prog.types.size) (hu:Try.prog.underlying t=some (.slice e)):0<Try.prog.cellsOf e:=by
 have:=List.all_eq_true.1 sized_b t (List.mem_range.2 ht)
 simpa [hu] using this
theorem stays {H:Type}{enc:TypeId×Value→H}{W W':World}{t:TypeId}{v:Value}{d:DataW H}{p:List MemPlace}(ht:t<Try.prog.types.size) (h:DataW.Trod enc Try.prog W 0 (fun _=>true) true t v d p)
  (he:Ext W W') (hp:∀q∈p,q.block<W.heap.size){sp:Nat→Bool}(hsp:∀q∈p,sp q.block=true):DataW.Trod enc Try.prog W' 0 sp true t v d p:=by
 obtain⟨n,hn⟩:=h
 exact⟨n,DataW.trod_stays (kids_rows laid_out maps_rowed) sized (fun h=>by cases h) ht hn (fun q hq=>he.below.same (hp q hq)) hsp⟩
theorem stays_all {H:Type}{enc:TypeId×Value→H}{W W':World}(he:Ext W W'){sp:Nat→Bool}:∀{ts:List TypeId}{vs:List Value}{ds:List (DataW H)}{p:List MemPlace},(∀t∈ts,t<Try.prog.types.size)→
  DataW.TrodAll enc Try.prog W 0 (fun _=>true) true ts vs ds p→(∀q∈p,q.block<W.heap.size)→(∀q∈p,sp q.block=true)→DataW.TrodAll enc Try.prog W' 0 sp true ts vs ds p:=by
 intro ts
 induction ts with
 | nil=>
  intro vs ds p _ h _ _
  obtain⟨rfl,rfl,rfl⟩:=trodAll_nil h
  exact trodAll_mk0
 | cons t ts ih=>
  intro vs ds p ht h hp hsp
  obtain⟨v,vs',d,ds',p1,p2,rfl,rfl,rfl,h1,h2⟩:=trodAll_cons h
  exact trodAll_cons_mk (stays (ht t (by simp)) h1 he (fun q hq=>hp q (by simp [hq])) (fun q hq=>hsp q (by simp [hq]))) (ih (fun t h=>ht t (by simp [h])) h2 (fun q hq=>hp q (by simp [hq])) (fun q hq=>hsp q (by simp [hq])))
end Go.Proofs.Ytnpbbknemflpnaa

namespace Go.Proofs.Ytnpbbknemflpnaa
open Go.RowKit
structure Zl (w:World) (A:Option Addr) (n cap:Nat) (zs:List Int) (ms:List Nat):Prop where
 len:zs.length=n
 mlen:ms.length=n
 le:n≤cap
 max:cap≤maxLen
 get:∀i,i<n→∃a s B c,A=some a∧w.cell? (a.add (i*2))=some (.bool s)∧w.cell? (a.add (i*2+1))=some (.slice B (ms.getD i 0) c)∧Zi w s B (ms.getD i 0) c (zs.getD i 0)
theorem Zl.ext {w w':World}{A:Option Addr}{n cap:Nat}{zs:List Int}{ms:List Nat}(h:Zl w A n cap zs ms) (e:Ext w w'):Zl w' A n cap zs ms:=
 ⟨h.len,h.mlen,h.le,h.max,fun i hi=>by
  obtain⟨a,s,B,c,h1,h2,h3,h4⟩:=h.get i hi
  exact⟨a,s,B,c,h1,e.cell h2,e.cell h3,h4.ext e⟩⟩
theorem getD_le_sum:∀(ms:List Nat) (i:Nat),ms.getD i 0≤ms.sum
 | [],i=>by simp
 | m::r,0=>by simp
 | m::r,i+1=>by
  have:=getD_le_sum r i
  simp only [List.getD_cons_succ,List.sum_cons]
  omega
end Go.Proofs.Ytnpbbknemflpnaa

namespace Go.Proofs.Ytnpbbknemflpnaa
open Go.ChangeShapes Go.WideShapes Go.ChangeAt Go.RowKit
theorem cells_int:Try.prog.cellsOf 34=2:=by kernel_rfl
theorem cells_words:Try.prog.cellsOf 32=1:=by kernel_rfl
theorem cells_bool:Try.prog.cellsOf 4=1:=by kernel_rfl
theorem fields_int:∃f0 f1:Field,Try.prog.underlying 34=some (.struct #[f0,f1])∧f0.type=4∧f0.offset=0∧f1.type=32∧f1.offset=1:=⟨_,_,Try.underlying34,rfl,rfl,rfl,rfl⟩
set_option maxRecDepth 20000 in
theorem open_wcell {H:Type}{enc:TypeId×Value→H}{W:World}{v:Value}{d:DataW H}{p:List MemPlace}{fuel:Nat}
  (hf:DataW.trod enc Try.prog W 0 (fun _=>true) true fuel 32 [v]=some (d,p)):
  ∃A n cap xs,v= .slice A n cap∧Rd W A n cap xs∧n≤Rows.uptoBulk d∧
   ∀W',Ext W W'→∀sp:Nat→Bool,(∀q∈p,sp q.block=true)→∃fuel',DataW.trod enc Try.prog W' 0 sp true fuel' 32 [v]=some (d,p):=by
 rcases open_ints Try.underlying32 Try.underlying47 cells_word hf with⟨hcs,hx⟩ | ⟨a,n',cap',zs,hcs,_,hl,hm,hz,hx,hcell,hwf⟩
 ·obtain rfl:=List.singleton_inj.1 hcs
  simp only [Prod.mk.injEq] at hx
  obtain⟨rfl,rfl⟩:=hx
  exact⟨none,0,0,[],rfl,Rd.nil W,Nat.zero_le _,fun W' _ sp _=>by obtain⟨fu,h⟩:=shut_slice_nil (enc:=enc) (w:=W') (base:=0) (spare:=sp) (held:=true) Try.underlying32;exact⟨fu,h⟩⟩
 ·obtain rfl:=List.singleton_inj.1 hcs
  simp only [Prod.mk.injEq] at hx
  obtain⟨rfl,rfl⟩:=hx
  simp only [if_true] at hz
  have hblk:0<cap'→a.block<W.heap.size:=fun hc=>World.block_lt_of_cell? W (a.add 0) (hcell 0 (by omega)) |> fun h=>by rwa [block_of_add] at h
  have hnn:∀z∈zs,((z.toNat:Nat):Int)=z:=fun z hz'=>Int.toNat_of_nonneg (wf_nat (hwf z hz')).1
  have hlen:(zs.take n').length=n':=by rw [List.length_take];omega
  refine⟨some a,n',cap',(zs.take n').map Int.toNat,rfl,⟨⟨by simp;omega,hl,hm,fun i hi=>⟨a,rfl,?_⟩,fun b hb hc=>by cases hb;exact hblk hc⟩,?_⟩,?_,?_⟩
  ·rw [hcell i (by omega)]
   have hi2:i<zs.length:=by omega
   have hmem:zs[i]∈zs:=List.getElem_mem hi2
   have e:(((zs.take n').map Int.toNat).map W64).getD i undef= .int .u64 ((zs[i].toNat:Nat):Int):=by
    simp [List.getD_eq_getElem?_getD,List.getElem?_map,show i<n' by omega,List.getElem?_eq_getElem hi2]
   rw [e,hnn _ hmem]
   simp [List.getD_eq_getElem?_getD,List.getElem?_eq_getElem hi2]
  ·intro x hx
   obtain⟨z,hz1,rfl⟩:=List.mem_map.1 hx
   have:=wf_nat (hwf z (List.mem_of_mem_take hz1))
   rw [WB_def];omega
  ·have:=bulk_slice (H:=H) (lits .u64 (zs.take n')) (lits .u64 (zs.drop n'))
   have e:(lits (H:=H) .u64 (zs.take n')).length=n':=by simp [lits];omega
   omega
  ·intro W' he sp hsp
   have hcell':∀i,i<zs.length→W'.cell? (a.add i)=some (.int .u64 (zs.getD i 0)):=fun i hi=>he.cell (hcell i hi)
   by_cases hz0:zs.length=0
   ·have hc0:cap'=0:=by omega
    have hl0:n'=0:=by omega
    subst hc0;subst hl0
    have t0:=shut_ints (enc:=enc) (w:=W') (base:=0) (spare:=sp) (held:=true) (a:=a) (len:=0) (cap:=0) (zs:=zs) 0 Try.underlying32 Try.underlying47 cells_word (Nat.zero_le _) (Nat.le_refl _) hm (by simp [hz0]) hcell' hwf
    exact⟨2,t0⟩
   ·have hspb:sp a.block=true:=hsp (.cell a.block a.off) (MemPlace.mem_row.2 ⟨0,by omega,by simp⟩)
    have t0:=shut_ints (enc:=enc) (w:=W') (base:=0) (spare:=sp) (held:=true) (a:=a) (len:=n') (cap:=cap') (zs:=zs) 0 Try.underlying32 Try.underlying47 cells_word (Nat.zero_le _) hl hm (by simp [hspb,hz]) hcell' hwf
    exact⟨2,t0⟩
set_option maxRecDepth 20000 in
theorem open_zcells {H:Type}{enc:TypeId×Value→H}{W:World}{c0 c1:Value}{x:DataW H×List MemPlace}{fuel:Nat}
  (h:DataW.trod enc Try.prog W 0 (fun _=>true) true fuel 34 [c0,c1]=some x):
  ∃s A n cap z,c0= .bool s∧c1= .slice A n cap∧Zi W s A n cap z∧n+1≤Rows.uptoBulk x.1∧
   ∀W',Ext W W'→∀sp:Nat→Bool,(∀q∈x.2,sp q.block=true)→∃fuel',DataW.trod enc Try.prog W' 0 sp true fuel' 34 [c0,c1]=some x:=by
 obtain⟨f0,f1,hu,t0,o0,t1,o1⟩:=fields_int
 obtain⟨y0,y1,n,rfl,hl,h0,h1⟩:=trod_struct2 hu h
 rw [t0,o0,cells_bool] at h0
 rw [t1,o1,cells_words] at h1
 have e0:(([c0,c1]:List Value).drop 0).take 1= [c0]:=rfl
 have e1:(([c0,c1]:List Value).drop 1).take 1= [c1]:=rfl
 rw [e0] at h0
 rw [e1] at h1
 obtain⟨s,hs,rfl⟩:=DataW.trod_bool Try.underlying4 h0
 obtain rfl:c0= .bool s:=by simpa using hs
 obtain⟨A,k,cap,xs,rfl,hx,hb,rx⟩:=open_wcell (d:=y1.1) (p:=y1.2) h1
 refine⟨s,A,k,cap,_,rfl,rfl,⟨xs,hx,rfl⟩,?_,?_⟩
 ·simp only [Rows.uptoBulk,Rows.uptoBulkAll];omega
 ·intro W' he sp hsp
  obtain⟨fu,hfu⟩:=rx W' he sp (fun q hq=>hsp q (by simp [hq]))
  refine⟨fu+1+1,trod_struct2_mk (y0:=(.lit (.bool s),[])) (y1:=y1) hu hl ?_ ?_⟩
  ·rw [t0,o0,cells_bool,e0]
   simp [DataW.trod,Try.underlying4]
  ·rw [t1,o1,cells_words,e1]
   exact DataW.trod_le (Nat.le_succ _) hfu
theorem sum_map_le {H:Type}(D:Nat→DataW H) (f:Nat→Nat) (n:Nat) (h:∀i,i<n→f i+1≤Rows.uptoBulk (D i)):((List.range n).map f).sum+n≤Rows.uptoBulkAll ((List.range n).map D):=by
 induction n with
 | zero=>simp [Rows.uptoBulkAll]
 | succ n ih=>
  have ih':=ih (fun i hi=>h i (by omega))
  have hn:=h n (by omega)
  rw [List.range_succ,List.map_append,List.map_append,List.sum_append,List.map_singleton,List.map_singleton]
  have e:∀(l:List (DataW H)) (x:DataW H),Rows.uptoBulkAll (l++ [x])=Rows.uptoBulkAll l+Rows.uptoBulk x:=by
   intro l x
   induction l with
   | nil=>simp [Rows.uptoBulkAll]
   | cons y r ihl=>simp only [List.cons_append,Rows.uptoBulkAll,ihl];omega
  rw [e]
  simp only [List.sum_singleton]
  omega
theorem elem_len {l:List Value}(h:l.length=2):∃a b,l= [a,b]:=by
 match l,h with
 | [a,b],_=>exact⟨a,b,rfl⟩
end Go.Proofs.Ytnpbbknemflpnaa

namespace Go.Proofs.Ytnpbbknemflpnaa
open Go.RowKit
theorem UpdO.of {w w':World}{A:Option Addr}(h:w.grownBy w' none):UpdO A w w':=⟨⟨h.os,h.tape,h.output,h.size,fun k hk _=>h.block k hk (by simp)⟩⟩
theorem Upd.updO {w w':World}{g:Nat}(h:Upd g w w'){o:Nat}{x:_}:UpdO (some ⟨g,o,x⟩) w w':=⟨h.by_⟩
theorem overl_take {cs us vs:List Value}{k:Nat}(hv:cs.take k=vs) (hk:k≤cs.length):(overl cs k us).take (k+us.length)=vs++us:=by
 unfold overl
 have e:(cs.take k++us).length=k+us.length:=by rw [List.length_append,List.length_take,Nat.min_eq_left hk]
 rw [←e,List.take_left',hv]
 rfl
def Kept (w:World) (A A':Option Addr):Prop:=∀a',A'=some a'→(∃a,A=some a∧a'.block=a.block)∨w.heap.size≤a'.block
section
variable {P:Program}
theorem run_app {t ty e:TypeId}{z:Value}{s bytes:Nat}(ht:P.underlying t=some (.slice e)) (hinfo:(P.info? e).map (fun i=>(i.zero,i.size,i.bytes))=some (some z,s,bytes)) (hzs:z.cells.size=s) (hsz:0<s) (hby:bytes≤64)
  {w:World}{base:Nat}{A:Option Addr}{n cap:Nat}{xs:List Value}(hown:Own w base e s A n cap xs) (hb:base≤w.heap.size){a:Addr}{m c:Nat}{news:List Value}(hl:news.length=m*s) (hnews:∀j u,news[j]?=some u→w.cell? (a.add j)=some u)
  (h1:news.all (·.oneCell')=true) (hm:n+m≤1099511627776):
  ∃A' cap' w',(Builtin.append_ #[t,t] ty #[.slice A n cap,.slice (some a) m c]).run P w= .ok (.slice A' (n+m) cap') w'∧Own w' base e s A' (n+m) cap' (xs++news)∧UpdO A w w'∧Kept w A A':=by
 obtain⟨i,hi,hz,hz1,hz2⟩:=info_parts hinfo
 have h1':∀u∈news,u.oneCell'=true:=by simpa [List.all_eq_true] using h1
 have h63:n+m≤maxLen:=by rw [len_maxLen];omega
 have hbytes:(n+m)*bytes≤140737488355328:=by
  have:(n+m)*bytes≤1099511627776*64:=Nat.mul_le_mul hm hby
  omega
 rcases hown with⟨rfl,rfl,rfl,rfl⟩ | ⟨g,cs,rfl,hg,hk,hn,hcm,hcl,hv⟩
 ·obtain⟨v',w',hr,h2,h3,_⟩:=run_append_own (P:=P) w w.heap.size t ty e i z s bytes ht hi hz hz1 hz2 hzs hsz (.slice none 0 0) 0 [] (World.ownsRow_nil w _ e s) a m c news hl hnews h1' h63 hbytes (Nat.le_refl _)
  obtain⟨A',cap',rfl,ho⟩:=Own.of_row h2
  exact⟨A',cap',w',hr,ho.mono hb,UpdO.of h3,fun a' ha=>Or.inr (ho.block a' ha).1⟩
 ·by_cases hroom:n+m≤cap
  ·have hfit:n*s+news.length≤cs.length:=by rw [hl,hcl,←Nat.add_mul];exact Nat.mul_le_mul_right s hroom
   obtain⟨w',hst,hb2,hu,hs⟩:=store_cells (P:=P) news 0 (n*s) w cs hk (by omega) h1'
   rw [Nat.add_zero] at hb2
   have hfc:=run_firstCells_some (P:=P) w i.size m a m c news (by rw [hz1];exact hl) hnews
   rw [hz1] at hfc
   refine⟨some ⟨g,0,none⟩,cap,w',?_,Or.inr ⟨g,_,rfl,hg,hb2,hroom,hcm,?_,?_⟩,hu.updO,fun a' ha=>Or.inl ⟨_,rfl,by cases ha;rfl⟩⟩
   ·simp [Builtin.append_,run_underlying ht,sizeOf,typeInfo,hi,Builtin.lenOf,hroom,hfc,Addr.add_lit,hz1,hst]
   ·unfold overl
    simp only [List.length_append,List.length_take,List.length_drop]
    omega
   ·rw [Nat.add_mul,←hl]
    exact overl_take hv (by omega)
  ·have hx:=hv
   obtain⟨v',w',hr,h2,h3⟩:=run_append_arg_grows (P:=P) w t ty e i z s bytes ht hi hz hz1 hz2 hzs hsz ⟨g,0,none⟩ n cap xs
    (by rw [←hv,List.length_take];have:=Nat.mul_le_mul_right s hn;omega)
    (fun j u hj=>by
     have hjl:=(List.getElem?_eq_some_iff.1 hj).1
     rw [add_lit0,Nat.zero_add,hk.cell (by rw [←hv,List.length_take] at hjl;omega)]
     rw [←hv,List.getElem?_take] at hj
     split at hj
     ·rw [List.getD_eq_getElem?_getD,hj];rfl
     ·cases hj) a m c news hl hnews (by omega) h63 hbytes
   obtain⟨A',cap',rfl,ho⟩:=Own.of_row h2
   exact⟨A',cap',w',hr,ho.mono hb,UpdO.of h3,fun a' ha=>Or.inr (ho.block a' ha).1⟩
variable {Q:Exit→Act→World→Prop}{n:Nat}{l:Fr}{w:World}{ops:Array Oper}{rest:List Oper}{d:Nat}{ty:TypeId}{pos:String}{af:Array Edge}{gd:Option (Nat×Bool)}
theorem wl_app {x y:Operand}{t e:TypeId}{z:Value}{s bytes k m c cap base:Nat}{A:Option Addr}{a:Addr}{xs:List Value}(hw:guardB ops l gd=some true) (hx:evo l x=some (.slice A k cap)) (hy:evo l y=some (.slice (some a) m c))
  (ht:P.underlying t=some (.slice e)) (hinfo:(P.info? e).map (fun i=>(i.zero,i.size,i.bytes))=some (some z,s,bytes)) (hzs:z.cells.size=s) (hsz:0<s) (hby:bytes≤64)
  (hown:Own w base e s A k cap xs) (hb:base≤w.heap.size) (news:List Value) (hl:news.length=m*s) (hnews:∀j u,news[j]?=some u→w.cell? (a.add j)=some u)
  (h1:news.all (·.oneCell')=true) (hm:k+m≤1099511627776) (hn:d<n)
  (h:∀A' cap' w',Own w' base e s A' (k+m) cap' (xs++news)→UpdO A w w'→Kept w A A'→wl P ops Q n rest ((d,.slice A' (k+m) cap')::l) w'):
  wl P ops Q n (⟨some d,.call {callee:= .builtin .append,args:= #[x,y],argTypes:= #[t,t]},ty,pos,af,gd⟩::rest) l w:=by
 obtain⟨A',cap',w',hr,h2,h3,h4⟩:=run_app (P:=P) (ty:=ty) ht hinfo hzs hsz hby hown hb hl hnews h1 hm
 refine wl_val hw hn (fun a' ha=>?_) (h A' cap' w' h2 h3 h4)
 unfold execOp
 simp only [resolve,invoke,builtin,Sem.run_bind,Sem.run_pure,Result.andThen_ok,List.map_toArray,List.map_cons,List.map_nil,ha.ev hx,ha.ev hy]
 rw [hr]
 rfl
end
theorem Own.updOT {w w':World}{b b':Nat}{t T:TypeId}{s s':Nat}{A B:Option Addr}{n cap m c:Nat}{vs us:List Value}(h:Own w b t s A n cap vs) (ho:Own w b' T s' B m c us) (hT:t≠T) (x:UpdO B w w'):Own w' b t s A n cap vs:=by
 refine h.updO x (fun p q hp hq hg=>?_)
 rcases ho with⟨h1,_⟩ | ⟨k,cs,hB,_,hk,_⟩
 ·rw [h1] at hp;cases hp
 ·rcases h with⟨h2,_⟩ | ⟨k',cs',hA,_,hk',_⟩
  ·rw [h2] at hq;cases hq
  ·rw [hB] at hp;rw [hA] at hq
   cases hp;cases hq
   simp only at hg
   subst hg
   unfold Bk at hk hk'
   rw [hk] at hk'
   injection hk' with hk'
   injection hk' with e1 e2
   exact hT e2.symm
theorem one_news3 {w:World}{g:Nat}{T:TypeId}(v:Value) (h:Bk w g T [v]):∀j u,[v][j]?=some u→w.cell? ((⟨g,0,none⟩:Addr).add j)=some u:=by
 intro j u hj
 have hjl:=(List.getElem?_eq_some_iff.1 hj).1
 rw [add_lit0,Nat.zero_add,h.cell hjl,List.getD_eq_getElem?_getD,hj];rfl
theorem ln_tdiv (x y:Int):ln (x.tdiv y)≤ln x:=ln_mono (by rw [Int.natAbs_tdiv];exact Nat.div_le_self _ _)
structure ZC where
 s:Bool
 A:Option Addr
 n:Nat
 c:Nat
theorem ln_gcd (x y:Int):ln (Int.gcd x y:Int)≤max (ln x) (ln y):=by
 by_cases h:x=0
 ·subst h
  rw [Int.gcd_zero_left]
  refine Nat.le_trans (ln_mono (x:=(y.natAbs:Int)) (y:=y) (by simp)) (Nat.le_max_right _ _)
 ·refine Nat.le_trans (ln_mono (y:=x) ?_) (Nat.le_max_left _ _)
  rw [Int.natAbs_natCast]
  exact Nat.le_of_dvd (by omega) (Int.gcd_dvd_natAbs_left x y)
theorem ln_w1 {x:Int}(h1: -18446744073709551615≤x) (h2:x≤18446744073709551615):ln x≤1:=len_wd_le (by rw [WB_def,Nat.pow_one];omega)
theorem elemI:Try.prog.underlying 22=some (.slice 34):=by kernel_rfl
theorem infoI:(Try.prog.info? 34).map (fun i=>(i.zero,i.size,i.bytes))=some (some (.agg #[.bool false,.slice none 0 0]),2,32):=by kernel_rfl
def ZC.zero:ZC:=⟨false,none,0,0⟩
def zcell (e:ZC):List Value:= [.bool e.s,.slice e.A e.n e.c]
def zcells:List ZC→List Value
 | []=> []
 | e::r=> .bool e.s:: .slice e.A e.n e.c::zcells r
theorem zcells_len:∀es:List ZC,(zcells es).length=es.length*2
 | []=>rfl
 | e::r=>by simp only [zcells,List.length_cons,zcells_len r];omega
theorem zcells_app:∀(es fs:List ZC),zcells (es++fs)=zcells es++zcells fs
 | [],fs=>rfl
 | e::r,fs=>by simp only [zcells,List.cons_append,zcells_app r fs]
theorem zcells_get0:∀(es:List ZC) (i:Nat),i<es.length→(zcells es)[i*2]?=some (.bool (es.getD i ZC.zero).s)
 | [],i,h=>by simp at h
 | e::r,0,h=>rfl
 | e::r,i+1,h=>by
  have:=zcells_get0 r i (by simpa using h)
  simpa [zcells,Nat.add_mul] using this
theorem zcells_get1:∀(es:List ZC) (i:Nat),i<es.length→(zcells es)[i*2+1]?=some (.slice (es.getD i ZC.zero).A (es.getD i ZC.zero).n (es.getD i ZC.zero).c)
 | [],i,h=>by simp at h
 | e::r,0,h=>rfl
 | e::r,i+1,h=>by
  have:=zcells_get1 r i (by simpa using h)
  simpa [zcells,Nat.add_mul] using this
theorem zcells_set:∀(es:List ZC) (i:Nat) (e:ZC),i<es.length→overl (zcells es) (i*2) (zcell e)=zcells (es.set i e)
 | [],i,e,h=>by simp at h
 | a::r,0,e,h=>by simp [zcells,overl,zcell]
 | a::r,i+1,e,h=>by
  have:=zcells_set r i e (by simpa using h)
  simp only [overl,zcell,List.length_cons,List.length_nil] at this⊢
  rw [show (i+1)*2=i*2+1+1 by omega,show i*2+1+1+(0+1+1)=i*2+(0+1+1)+1+1 by omega]
  simp only [zcells,List.take_succ_cons,List.drop_succ_cons,List.cons_append,List.set_cons_succ,this]
theorem Zl.at {w:World}{A:Option Addr}{n cap:Nat}{zs:List Int}{ms:List Nat}(h:Zl w A n cap zs ms){i:Nat}(hi:i<n):
  ∃p s B c,A.map (·.add (i*2))=some p∧(∀w',Ext w w'→∀(P:Program) (T:TypeId),AggT P T 2→(loadVar T p).run P w'= .ok (.agg #[.bool s,.slice B (ms.getD i 0) c]) w')∧Zi w s B (ms.getD i 0) c (zs.getD i 0):=by
 obtain⟨a,s,B,c,rfl,h1,h2,h3⟩:=h.get i hi
 refine⟨a.add (i*2),s,B,c,rfl,fun w' e P T hT=>load_at hT [.bool s,.slice B (ms.getD i 0) c] rfl (fun j hj=>?_),h3⟩
 rw [add_of_add]
 match j,hj with
 | 0,_=>exact e.cell h1
 | 1,_=>exact e.cell h2
theorem Zr.updOT {w w':World}{b b':Nat}{s:Bool}{A B:Option Addr}{n cap m c s':Nat}{z:Int}{T:TypeId}{us:List Value}(h:Zr w b s A n cap z) (ho:Own w b' T s' B m c us) (x:UpdO B w w') (hT:47≠T:=by decide):Zr w' b s A n cap z:=
 ⟨h.sgn,h.len,h.own.updOT ho hT x⟩
def Zo (w:World) (b:Nat) (s:Bool) (A:Option Addr) (n cap:Nat) (z:Int):Prop:=∃xs,Own w b 47 1 A n cap (xs.map W64)∧Wf xs∧sg s (nv xs)=z
section
variable {w w':World}{b:Nat}{s:Bool}{A:Option Addr}{n cap:Nat}{z:Int}
theorem Zo.zi (h:Zo w b s A n cap z):Zi w s A n cap z:=by obtain⟨xs,h1,h2,h3⟩:=h;exact⟨xs,h1.rd h2,h3⟩
theorem Zo.ext (h:Zo w b s A n cap z) (x:Ext w w'):Zo w' b s A n cap z:=by obtain⟨xs,h1,h2⟩:=h;exact⟨xs,h1.ext x,h2⟩
theorem Zo.mono {b':Nat}(h:Zo w b s A n cap z) (x:b'≤b):Zo w b' s A n cap z:=by obtain⟨xs,h1,h2⟩:=h;exact⟨xs,h1.mono x,h2⟩
theorem Zo.updT {g:Nat}{T:TypeId}{us:List Value}(h:Zo w b s A n cap z) (hb:Bk w g T us) (x:Upd g w w') (hT:47≠T:=by decide):Zo w' b s A n cap z:=by obtain⟨xs,h1,h2⟩:=h;exact⟨xs,h1.updT hb hT x,h2⟩
theorem Zo.updOT {b':Nat}{B:Option Addr}{m c s':Nat}{T:TypeId}{us:List Value}(h:Zo w b s A n cap z) (ho:Own w b' T s' B m c us) (x:UpdO B w w') (hT:47≠T:=by decide):Zo w' b s A n cap z:=by obtain⟨xs,h1,h2⟩:=h;exact⟨xs,h1.updOT ho hT x,h2⟩
end
def El (m:Option World) (b:Nat) (w:World) (e:ZC) (z:Int):Prop:=Zr w b e.s e.A e.n e.c z∨∃w0,m=some w0∧(Zi w0 e.s e.A e.n e.c z∨Zo w b e.s e.A e.n e.c z)
theorem El.ext {m:Option World}{b:Nat}{w w':World}{e:ZC}{z:Int}(h:El m b w e z) (x:Ext w w'):El m b w' e z:=h.imp (·.ext x) (fun⟨w0,h1,h2⟩=>⟨w0,h1,h2.imp id (·.ext x)⟩)
theorem El.updT {m:Option World}{b g:Nat}{w w':World}{e:ZC}{z:Int}{T:TypeId}{us:List Value}(h:El m b w e z) (hb:Bk w g T us) (x:Upd g w w') (hT:47≠T:=by decide):El m b w' e z:=h.imp (·.updT hb x hT) (fun⟨w0,h1,h2⟩=>⟨w0,h1,h2.imp id (·.updT hb x hT)⟩)
theorem El.mono {m:Option World}{b b':Nat}{w:World}{e:ZC}{z:Int}(h:El m b w e z) (x:b'≤b):El m b' w e z:=h.imp (·.mono x) (fun⟨w0,h1,h2⟩=>⟨w0,h1,h2.imp id (·.mono x)⟩)
theorem El.updOT {m:Option World}{b b':Nat}{w w':World}{e:ZC}{z:Int}{B:Option Addr}{n c s':Nat}{T:TypeId}{us:List Value}(h:El m b w e z) (ho:Own w b' T s' B n c us) (x:UpdO B w w') (hT:47≠T:=by decide):El m b w' e z:=h.imp (·.updOT ho x hT) (fun⟨w0,h1,h2⟩=>⟨w0,h1,h2.imp id (·.updOT ho x hT)⟩)
theorem El.zi {w0:World}{b:Nat}{w:World}{e:ZC}{z:Int}(h:El (some w0) b w e z) (x:Ext w0 w):Zi w e.s e.A e.n e.c z:=by
 rcases h with h | ⟨w1,h1,h2⟩
 ·exact h.zi
 ·cases h1;exact h2.elim (·.ext x) (·.zi)
theorem El.zr {b:Nat}{w:World}{e:ZC}{z:Int}(h:El none b w e z):Zr w b e.s e.A e.n e.c z:=by
 rcases h with h | ⟨w1,h1,h2⟩
 ·exact h
 ·cases h1
def Lz (m:Option World) (K b:Nat) (w:World) (lb:Nat) (A:Option Addr) (n cap:Nat) (zs:List Int):Prop:=
 ∃es,Own w lb 34 2 A n cap (zcells es)∧es.length=n∧zs.length=n∧∀i,i<n→(es.getD i ZC.zero).n≤K∧El m b w (es.getD i ZC.zero) (zs.getD i 0)
section
variable {m:Option World}{K b lb:Nat}{w w':World}{A:Option Addr}{n cap:Nat}{zs:List Int}
theorem Lz.own (h:Lz m K b w lb A n cap zs):∃vs,Own w lb 34 2 A n cap vs:=by obtain⟨es,h1,_⟩:=h;exact⟨_,h1⟩
theorem Lz.block (h:Lz m K b w lb A n cap zs):∀a,A=some a→lb≤a.block∧a.block<w.heap.size:=by obtain⟨vs,h⟩:=h.own;exact h.block
theorem Lz.len (h:Lz m K b w lb A n cap zs):zs.length=n:=by obtain⟨es,h1,h2,h3,h4⟩:=h;exact h3
theorem Lz.le (h:Lz m K b w lb A n cap zs):n≤cap:=by obtain⟨vs,h⟩:=h.own;exact h.rv.le
theorem Lz.ext (h:Lz m K b w lb A n cap zs) (x:Ext w w'):Lz m K b w' lb A n cap zs:=by
 obtain⟨es,h1,h2,h3,h4⟩:=h
 exact⟨es,h1.ext x,h2,h3,fun i hi=>⟨(h4 i hi).1,(h4 i hi).2.ext x⟩⟩
theorem Lz.updT {g:Nat}{T:TypeId}{us:List Value}(h:Lz m K b w lb A n cap zs) (hb:Bk w g T us) (x:Upd g w w') (hne:∀p,A=some p→p.block≠g) (hT:47≠T:=by decide):Lz m K b w' lb A n cap zs:=by
 obtain⟨es,h1,h2,h3,h4⟩:=h
 exact⟨es,h1.upd x hne,h2,h3,fun i hi=>⟨(h4 i hi).1,(h4 i hi).2.updT hb x hT⟩⟩
theorem Lz.updO {B:Option Addr}{lb' c k:Nat}{us:List Value}(h:Lz m K b w lb A n cap zs) (ho:Own w lb' 34 2 B k c us) (x:UpdO B w w') (hne:∀p q,B=some p→A=some q→p.block≠q.block):Lz m K b w' lb A n cap zs:=by
 obtain⟨es,h1,h2,h3,h4⟩:=h
 exact⟨es,h1.updO x hne,h2,h3,fun i hi=>⟨(h4 i hi).1,(h4 i hi).2.updOT ho x⟩⟩
theorem Lz.mono {K' b' lb':Nat}(h:Lz m K b w lb A n cap zs) (hK:K≤K') (hb:b'≤b) (hl:lb'≤lb):Lz m K' b' w lb' A n cap zs:=by
 obtain⟨es,h1,h2,h3,h4⟩:=h
 exact⟨es,h1.mono hl,h2,h3,fun i hi=>⟨Nat.le_trans (h4 i hi).1 hK,(h4 i hi).2.mono hb⟩⟩
theorem Lz.at (h:Lz m K b w lb A n cap zs){i:Nat}(hi:i<n):
  ∃p s B k c,A.map (·.add (i*2))=some p∧(∀w',Ext w w'→∀(P:Program) (T:TypeId),AggT P T 2→(loadVar T p).run P w'= .ok (.agg #[.bool s,.slice B k c]) w')∧k≤K∧El m b w ⟨s,B,k,c⟩ (zs.getD i 0):=by
 obtain⟨es,h1,h2,h3,h4⟩:=h
 obtain⟨a,ha,hc⟩:=h1.rv.get (i*2) (by omega)
 obtain⟨a',ha',hc'⟩:=h1.rv.get (i*2+1) (by omega)
 rw [ha] at ha';cases ha'
 have g0:=zcells_get0 es i (by omega)
 have g1:=zcells_get1 es i (by omega)
 rw [List.getD_eq_getElem?_getD,g0] at hc
 rw [List.getD_eq_getElem?_getD,g1] at hc'
 refine⟨a.add (i*2),_,_,_,_,by rw [ha];rfl,fun w' e P T hT=>load_at hT [.bool (es.getD i ZC.zero).s,.slice (es.getD i ZC.zero).A (es.getD i ZC.zero).n (es.getD i ZC.zero).c] rfl (fun j hj=>?_),(h4 i hi).1,(h4 i hi).2⟩
 rw [add_of_add]
 match j,hj with
 | 0,_=>exact e.cell hc
 | 1,_=>exact e.cell hc'
theorem Lz.zl {w0:World}(h:Lz (some w0) K b w lb A n cap zs) (x:Ext w0 w):∃ms,Zl w A n cap zs ms∧∀i,ms.getD i 0≤K:=by
 obtain⟨es,h1,h2,h3,h4⟩:=h
 have hms:∀i,i<n→(es.map (·.n)).getD i 0=(es.getD i ZC.zero).n:=fun i hi=>by
  simp [List.getD_eq_getElem?_getD,List.getElem?_map,List.getElem?_eq_getElem (show i<es.length by omega)]
 refine⟨es.map (·.n),⟨h3,by rw [List.length_map,h2],h1.rv.le,h1.rv.max,fun i hi=>?_⟩,fun i=>?_⟩
 ·obtain⟨a,ha,hc⟩:=h1.rv.get (i*2) (by omega)
  obtain⟨a',ha',hc'⟩:=h1.rv.get (i*2+1) (by omega)
  rw [ha] at ha';cases ha'
  have g0:=zcells_get0 es i (by omega)
  have g1:=zcells_get1 es i (by omega)
  rw [List.getD_eq_getElem?_getD,g0] at hc
  rw [List.getD_eq_getElem?_getD,g1] at hc'
  rw [hms i hi]
  exact⟨a,_,_,_,ha,hc,hc',(h4 i hi).2.zi x⟩
 ·by_cases hi:i<n
  ·rw [hms i hi];exact (h4 i hi).1
  ·rw [List.getD_eq_getElem?_getD,List.getElem?_eq_none (by rw [List.length_map];omega)];exact Nat.zero_le _
theorem getD_app_l {α:Type}{l r:List α}{i:Nat}{d:α}(h:i<l.length):(l++r).getD i d=l.getD i d:=by
 rw [List.getD_eq_getElem?_getD,List.getD_eq_getElem?_getD,List.getElem?_append_left h]
theorem getD_app_m {α:Type}{l r:List α}{a d:α}:(l++a::r).getD l.length d=a:=by
 rw [List.getD_eq_getElem?_getD,List.getElem?_append_right (Nat.le_refl _),Nat.sub_self];rfl
end
theorem kept_ne {w:World}{A A':Option Addr}{g:Nat}(h:Kept w A A') (hg:g<w.heap.size) (hne:∀p,A=some p→p.block≠g):∀p,A'=some p→p.block≠g:=fun p hp=>by
 rcases h p hp with⟨a,ha,e⟩ | e
 ·rw [e];exact hne a ha
 ·omega
section
variable {Q:Exit→Act→World→Prop}{N:Nat}{l:Fr}{w:World}{ops:Array Oper}{rest:List Oper}{d:Nat}{ty:TypeId}{pos:String}{af:Array Edge}{gd:Option (Nat×Bool)}
theorem wl_appI {m:Option World}{K b lb:Nat}{A:Option Addr}{n cap:Nat}{zs:List Int}{x y:Operand}{g c:Nat}{e:ZC}{z:Int}(hw:guardB ops l gd=some true) (hx:evo l x=some (.slice A n cap)) (hy:evo l y=some (.slice (some ⟨g,0,none⟩) 1 c))
  (h:Lz m K b w lb A n cap zs) (hlb:lb≤w.heap.size) (hb:Bk w g 34 (zcell e)) (he:El m b w e z) (hK:e.n≤K) (hm:n≤1099511627775) (hd:d<N)
  (k:∀A' cap' w',Lz m K b w' lb A' (n+1) cap' (zs++ [z])→UpdO A w w'→Kept w A A'→wl Try.prog ops Q N rest ((d,.slice A' (n+1) cap')::l) w'):
  wl Try.prog ops Q N (⟨some d,.call {callee:= .builtin .append,args:= #[x,y],argTypes:= #[22,22]},ty,pos,af,gd⟩::rest) l w:=by
 obtain⟨es,h1,h2,h3,h4⟩:=h
 refine wl_app hw hx hy elemI infoI rfl (by decide) (by decide) h1 hlb (zcell e) rfl (fun j u hj=>?_) rfl (by omega) hd fun A' cap' w' ho hu hk=>k A' cap' w' ?_ hu hk
 ·have hjl:j<(zcell e).length:=(List.getElem?_eq_some_iff.1 hj).1
  rw [add_lit0,Nat.zero_add,hb.cell hjl,List.getD_eq_getElem?_getD,hj];rfl
 ·refine⟨es++ [e],by rw [zcells_app];exact ho,by simp [h2],by simp [h3],fun i hi=>?_⟩
  by_cases hin:i<n
  ·rw [getD_app_l (by omega),getD_app_l (by omega)]
   exact⟨(h4 i hin).1,(h4 i hin).2.updOT h1 hu⟩
  ·have e1:i=n:=by omega
   subst e1
   have e2:(es++ [e]).getD i ZC.zero=e:=by rw [←h2];exact getD_app_m
   have e3:(zs++ [z]).getD i 0=z:=by rw [←h3];exact getD_app_m
   rw [e2,e3]
   exact⟨hK,he.updOT h1 hu⟩
theorem wl_makeI {x y:Operand}{k:Nat}(m:Option World) (K b:Nat) (hw:guardB ops l gd=some true) (hx:evo l x=some (.int .i64 0)) (hy:evo l y=some (.int .i64 (k:Int))) (hk:k≤1099511627776) (hd:d<N)
  (h:∀g w',w.heap.size=g→Lz m K b w' g (some ⟨g,0,none⟩) 0 k []→Ext w w'→wl Try.prog ops Q N rest ((d,.slice (some ⟨g,0,none⟩) 0 k)::l) w'):wl Try.prog ops Q N (⟨some d,.makeSlice 22 x y,ty,pos,af,gd⟩::rest) l w:=by
 obtain⟨i,hi,hz0,hz1,hz2⟩:=info_parts infoI
 have hr:=run_make (P:=Try.prog) w 22 34 i _ elemI hi hz0 .i64 .i64 0 (k:Int) (by omega) (by omega) (by rw [hz2];omega) (by omega)
 rw [Int.toNat_natCast,show (0:Int).toNat=0 from rfl,hz1] at hr
 obtain⟨cs,hcs,hcl⟩:∃cs:List Value,madeCells (Value.agg #[.bool false,.slice none 0 0]).cells (k*2)=cs.toArray∧cs.length=k*2:=⟨(madeCells (Value.agg #[.bool false,.slice none 0 0]).cells (k*2)).toList,Array.toArray_toList.symm,by rw [Array.length_toList,size_madeCells]⟩
 rw [hcs] at hr
 refine wl_val hw hd (fun a' ha=>?_) (h _ (w.alloc (.cells cs.toArray 34)) rfl ⟨[],Or.inr ⟨w.heap.size,cs,rfl,Nat.le_refl _,Bk.new _ _ _,Nat.zero_le _,by rw [len_maxLen];omega,hcl,rfl⟩,rfl,rfl,fun i hi=>by omega⟩ ((Ext.refl w).alloc _))
 have e':(Instr.makeSlice 22 (a'.eval x) (a'.eval y)).run Try.prog w= .ok (.slice (some ⟨w.heap.size,0,none⟩) 0 k) (w.alloc (.cells cs.toArray 34)):=by rw [ha.ev hx,ha.ev hy];exact hr
 show ((Instr.makeSlice 22 (a'.eval x) (a'.eval y)>>=fun r=>pure (Next.value r):Sem Next)).run Try.prog w=_
 rw [Sem.run_bind,e'];rfl
theorem wl_setI {m:Option World}{K b lb:Nat}{A:Option Addr}{n cap i:Nat}{zs:List Int}{x y:Operand}{p:Addr}{e:ZC}{z:Int}(hw:guardB ops l gd=some true) (hx:evo l x=some (.pointer (some p))) (hy:evo l y=some (.agg #[.bool e.s,.slice e.A e.n e.c]))
  (hp:A.map (·.add (i*2))=some p) (hi:i<n) (h:Lz m K b w lb A n cap zs) (he:El m b w e z) (hK:e.n≤K)
  (k:∀w',Lz m K b w' lb A n cap (zs.set i z)→UpdO A w w'→wl Try.prog ops Q N rest l w'):
  wl Try.prog ops Q N (⟨none,.store 34 x y,ty,pos,af,gd⟩::rest) l w:=by
 obtain⟨es,h1,h2,h3,h4⟩:=h
 have h1':=h1
 rcases h1 with⟨rfl,_⟩ | ⟨g,cs,rfl,hg,hk,hn,hcm,hcl,hv⟩
 ·cases hp
 ·have hp':p=⟨g,i*2,none⟩:=by
   injection hp with hp
   rw [←hp]
   show (⟨g,0,none⟩:Addr).add (i*2)=_
   rw [add_lit0,Nat.zero_add]
  subst hp'
  have hle:=Nat.mul_le_mul_right 2 hn
  refine wl_stored hw hx (us:=zcell e) hy aggInt rfl hk (by omega) rfl _ rfl fun w' hb2 hu hs=>k w' ⟨es.set i e,Or.inr ⟨g,_,rfl,hg,hb2,hn,hcm,?_,?_⟩,by simp [h2],by simp [h3],fun j hj=>?_⟩ hu.updO
  ·unfold overl
   simp only [List.length_append,List.length_take,List.length_drop,zcell,List.length_cons,List.length_nil]
   omega
  ·rw [←zcells_set es i e (by omega),←hv]
   have hi2:i*2+2≤n*2:=by omega
   have hz:(zcell e).length=2:=rfl
   unfold overl
   rw [hz,List.take_append,List.take_append,List.take_take,List.take_take,List.length_append,List.length_take,Nat.min_eq_left (by omega:i*2≤cs.length),hz,Nat.min_eq_right (by omega),Nat.min_eq_left (by omega)]
   congr 1
   ·congr 1
    exact List.take_of_length_le (by rw [hz];omega)
   ·rw [List.drop_take]
  ·by_cases hji:j=i
   ·subst hji
    have e1:(es.set j e).getD j ZC.zero=e:=by simp [List.getD_eq_getElem?_getD,h2,hj]
    have e2:(zs.set j z).getD j 0=z:=by simp [List.getD_eq_getElem?_getD,h3,hj]
    rw [e1,e2]
    exact⟨hK,he.updOT h1' hu.updO⟩
   ·have e1:(es.set i e).getD j ZC.zero=es.getD j ZC.zero:=by simp [List.getD_eq_getElem?_getD,Ne.symm hji]
    have e2:(zs.set i z).getD j 0=zs.getD j 0:=by simp [List.getD_eq_getElem?_getD,Ne.symm hji]
    rw [e1,e2]
    exact⟨(h4 j hj).1,(h4 j hj).2.updOT h1' hu.updO⟩
end
section
variable {P:Program}
theorem run_app0 {t ty e:TypeId}{z:Value}{bytes:Nat}(ht:P.underlying t=some (.slice e)) (hinfo:(P.info? e).map (fun i=>(i.zero,i.size,i.bytes))=some (some z,1,bytes)) (hzs:z.cells.size=1) (hby:bytes≤64)
  {w:World}{base g:Nat}(hg:base≤g) (hb:base≤w.heap.size) (hk:Bk w g e []){S:Option Addr}{m c:Nat}{news:List Value}(hr:Rv w 1 S m c news) (_h1:∀u∈news,u.oneCell'=true) (hm:m≤1099511627776):
  ∃A' cap' w',(Builtin.append_ #[t,t] ty #[.slice (some ⟨g,0,none⟩) 0 0,.slice S m c]).run P w= .ok (.slice A' m cap') w'∧Own w' base e 1 A' m cap' news∧Ext w w':=by
 obtain⟨i,hi,hz,hz1,hz2⟩:=info_parts hinfo
 have own0:Own w base e 1 (some ⟨g,0,none⟩) 0 0 []:=Own.mk_ hg hk (Nat.le_refl _) (Nat.zero_le _) rfl rfl
 have hl:=hr.len
 have nil0:m=0→news= []:=fun h=>List.eq_nil_of_length_eq_zero (by rw [hl,h])
 cases S with
 | none=>
  have h0:m=0:=by
   rcases Nat.eq_zero_or_pos m with h0 | h0
   ·exact h0
   ·obtain⟨ad,h,_⟩:=hr.get 0 (by omega)
    cases h
  rw [nil0 h0,h0]
  exact⟨_,_,w,run_append_of_nil (P:=P) w base t ty e i 1 ht hi _ 0 [] own0.row c,own0,Ext.refl w⟩
 | some a=>
  by_cases h0:m=0
  ·rw [nil0 h0,h0]
   have hfc:=run_firstCells_some (P:=P) (w:=w) i.size 0 a 0 c [] (by simp) (by simp)
   exact⟨_,_,w,by simp [Builtin.append_,run_underlying ht,sizeOf,typeInfo,hi,Builtin.lenOf,hfc,storeCells],own0,Ext.refl w⟩
  ·obtain⟨v',w',hrun,h2,h3⟩:=run_append_arg_grows (P:=P) w t ty e i z 1 bytes ht hi hz hz1 hz2 hzs (by decide) ⟨g,0,none⟩ 0 0 [] rfl (fun j u hj=>by simp at hj) a m c news hl
    (fun j u hu=>by
     have hj:j<news.length:=(List.getElem?_eq_some_iff.1 hu).1
     obtain⟨a',ha',hc⟩:=hr.get j (by rw [←hl];exact hj)
     cases ha'
     rw [hc,←hu,List.getD_eq_getElem?_getD,List.getElem?_eq_getElem hj]
     rfl) (by omega) (by rw [len_maxLen];omega) (by
     have:(0+m)*bytes≤1099511627776*64:=Nat.mul_le_mul (by omega) hby
     omega)
   obtain⟨A',cap',rfl,ho⟩:=Own.of_row h2
   rw [Nat.zero_add,List.nil_append] at ho
   rw [Nat.zero_add] at hrun
   exact⟨A',cap',w',hrun,ho.mono hb,(UpdO.of (A:=none) h3).ext (Ext.refl w) (fun p hp=>by cases hp)⟩
variable {Q:Exit→Act→World→Prop}{n:Nat}{l:Fr}{w:World}{ops:Array Oper}{rest:List Oper}{d:Nat}{ty:TypeId}{pos:String}{af:Array Edge}{gd:Option (Nat×Bool)}
theorem wl_app0 {x y:Operand}{t e:TypeId}{z:Value}{bytes m c base g:Nat}{S:Option Addr}{news:List Value}(hw:guardB ops l gd=some true) (hx:evo l x=some (.slice (some ⟨g,0,none⟩) 0 0)) (hy:evo l y=some (.slice S m c))
  (ht:P.underlying t=some (.slice e)) (hinfo:(P.info? e).map (fun i=>(i.zero,i.size,i.bytes))=some (some z,1,bytes)) (hzs:z.cells.size=1) (hby:bytes≤64)
  (hg:base≤g) (hb:base≤w.heap.size) (hk:Bk w g e []) (hr:Rv w 1 S m c news) (h1:∀u∈news,u.oneCell'=true) (hm:m≤1099511627776) (hn:d<n)
  (h:∀A' cap' w',Own w' base e 1 A' m cap' news→Ext w w'→wl P ops Q n rest ((d,.slice A' m cap')::l) w'):
  wl P ops Q n (⟨some d,.call {callee:= .builtin .append,args:= #[x,y],argTypes:= #[t,t]},ty,pos,af,gd⟩::rest) l w:=by
 obtain⟨A',cap',w',hr,h2,h3⟩:=run_app0 (P:=P) (ty:=ty) ht hinfo hzs hby hg hb hk hr h1 hm
 refine wl_val hw hn (fun a' ha=>?_) (h A' cap' w' h2 h3)
 unfold execOp
 simp only [resolve,invoke,builtin,Sem.run_bind,Sem.run_pure,Result.andThen_ok,List.map_toArray,List.map_cons,List.map_nil,ha.ev hx,ha.ev hy]
 rw [hr]
 rfl
end
theorem made_zcells (k:Nat):(madeCells (Value.agg #[.bool false,.slice none 0 0]).cells (k*2)).toList=zcells (List.replicate k ZC.zero):=by
 refine List.ext_getElem ?_ fun j h1 h2=>?_
 ·rw [Array.length_toList,size_madeCells,zcells_len,List.length_replicate]
 ·have hj:j<k*2:=by simpa [size_madeCells] using h1
  have e1:(madeCells (Value.agg #[.bool false,.slice none 0 0]).cells (k*2)).toList[j]= #[Value.bool false,.slice none 0 0][j%2]!:=by
   simp [madeCells,Value.cells]
  rw [e1]
  have hjk:j/2<(List.replicate k ZC.zero).length:=by rw [List.length_replicate];omega
  have hz:(List.replicate k ZC.zero).getD (j/2) ZC.zero=ZC.zero:=by
   rw [List.getD_eq_getElem?_getD,List.getElem?_replicate];split <;> rfl
  rcases Nat.mod_two_eq_zero_or_one j with h | h
  ·have e2:=zcells_get0 (List.replicate k ZC.zero) (j/2) hjk
   rw [show j/2*2=j by omega,List.getElem?_eq_getElem h2,hz] at e2
   injection e2 with e2
   rw [e2,h];rfl
  ·have e2:=zcells_get1 (List.replicate k ZC.zero) (j/2) hjk
   rw [show j/2*2+1=j by omega,List.getElem?_eq_getElem h2,hz] at e2
   injection e2 with e2
   rw [e2,h];rfl
section
variable {Q:Exit→Act→World→Prop}{N:Nat}{l:Fr}{w:World}{ops:Array Oper}{rest:List Oper}{d:Nat}{ty:TypeId}{pos:String}{af:Array Edge}{gd:Option (Nat×Bool)}
theorem wl_makeL {x y:Operand}{k:Nat}(m:Option World) (K b:Nat) (hw:guardB ops l gd=some true) (hx:evo l x=some (.int .i64 (k:Int))) (hy:evo l y=some (.int .i64 (k:Int))) (hk:k≤1099511627776) (hd:d<N)
  (h:∀g w',w.heap.size=g→Lz m K b w' g (some ⟨g,0,none⟩) k k (List.replicate k 0)→Ext w w'→wl Try.prog ops Q N rest ((d,.slice (some ⟨g,0,none⟩) k k)::l) w'):wl Try.prog ops Q N (⟨some d,.makeSlice 22 x y,ty,pos,af,gd⟩::rest) l w:=by
 obtain⟨i,hi,hz0,hz1,hz2⟩:=info_parts infoI
 have hr:=run_make (P:=Try.prog) w 22 34 i _ elemI hi hz0 .i64 .i64 (k:Int) (k:Int) (by omega) (by omega) (by rw [hz2];omega) (by omega)
 rw [Int.toNat_natCast,hz1] at hr
 obtain⟨cs,hcs,hcl⟩:∃cs:List Value,madeCells (Value.agg #[.bool false,.slice none 0 0]).cells (k*2)=cs.toArray∧cs=zcells (List.replicate k ZC.zero):=⟨(madeCells (Value.agg #[.bool false,.slice none 0 0]).cells (k*2)).toList,Array.toArray_toList.symm,made_zcells k⟩
 rw [hcs] at hr
 have hlen:cs.length=k*2:=by rw [hcl,zcells_len,List.length_replicate]
 refine wl_val hw hd (fun a' ha=>?_) (h _ (w.alloc (.cells cs.toArray 34)) rfl ⟨List.replicate k ZC.zero,Or.inr ⟨w.heap.size,cs,rfl,Nat.le_refl _,Bk.new _ _ _,Nat.le_refl _,by rw [len_maxLen];omega,hlen,by rw [List.take_of_length_le (by omega)];exact hcl⟩,List.length_replicate ..,List.length_replicate ..,fun i hi=>?_⟩ ((Ext.refl w).alloc _))
 ·have e':(Instr.makeSlice 22 (a'.eval x) (a'.eval y)).run Try.prog w= .ok (.slice (some ⟨w.heap.size,0,none⟩) k k) (w.alloc (.cells cs.toArray 34)):=by rw [ha.ev hx,ha.ev hy];exact hr
  show ((Instr.makeSlice 22 (a'.eval x) (a'.eval y)>>=fun r=>pure (Next.value r):Sem Next)).run Try.prog w=_
  rw [Sem.run_bind,e'];rfl
 ·have e1:(List.replicate k ZC.zero).getD i ZC.zero=ZC.zero:=by rw [List.getD_eq_getElem?_getD,List.getElem?_replicate];split <;> rfl
  have e2:(List.replicate k (0:Int)).getD i 0=0:=by rw [List.getD_eq_getElem?_getD,List.getElem?_replicate];split <;> rfl
  rw [e1,e2]
  exact⟨Nat.zero_le _,Or.inl Zr.zero⟩
end
def upto5 (zs:List Int) (n k:Nat):List Int:=zs.take k++List.replicate (n-k) 0
theorem upto5_zero (zs:List Int) (n:Nat):List.replicate n 0=upto5 zs n 0:=by simp [upto5]
theorem upto5_full {zs:List Int}{n:Nat}(h:zs.length=n):upto5 zs n n=zs:=by simp [upto5,←h]
theorem upto5_succ {zs:List Int}{n k:Nat}(h:zs.length=n) (hk:k<n):(upto5 zs n k).set k (zs.getD k 0)=upto5 zs n (k+1):=by
 unfold upto5
 rw [List.set_append_right _ _ (by rw [List.length_take];omega),List.length_take,Nat.min_eq_left (by omega),Nat.sub_self,show n-k=(n-(k+1))+1 by omega,List.replicate_succ,List.set_cons_zero]
 rw [show zs.take (k+1)=zs.take k++ [zs.getD k 0] by rw [List.take_add_one,List.getD_eq_getElem?_getD,List.getElem?_eq_getElem (by omega)];rfl,List.append_assoc]
 rfl
def ZOR (b:Nat) (s:Bool) (n:Nat) (z:Int) (v:Value) (w:World):Prop:=∃A c,v= .agg #[.bool s,.slice A n c]∧Zo w b s A n c z
theorem ZOR.imp {b b':Nat}{s:Bool}{n:Nat}{z:Int}(h:b'≤b):∀v w,ZOR b s n z v w→ZOR b' s n z v w:=fun _ _ ⟨A,c,h1,h2⟩=>⟨A,c,h1,h2.mono h⟩
section
variable {P:Program}{Q:Exit→Act→World→Prop}{n:Nat}{l:Fr}{w:World}{ops:Array Oper}{rest:List Oper}{d:Nat}{op:Op}{ty:TypeId}{pos:String}{af:Array Edge}{gd:Option (Nat×Bool)}
theorem wl_pureE {v v':Value}(hw:guardB ops l gd=some true) (hk:known l op=true) (hn:d<n) (hr:(execOp (rho l) ⟨some d,op,ty,pos,af,gd⟩).run P w= .ok (.value v) w) (e:v=v')
  (h:wl P ops Q n rest ((d,v')::l) w):wl P ops Q n (⟨some d,op,ty,pos,af,gd⟩::rest) l w:=wl_pure hw hk hn hr (by rw [e];exact h)
end
end Go.Proofs.Ytnpbbknemflpnaa

namespace Go.Proofs.Ytnpbbknemflpnaa
def sm:Nat→(Nat→Int)→Int
 | 0,_=>0
 | n+1,f=>sm n f+f n
theorem sm_congr {n:Nat}{f g:Nat→Int}(h:∀i,i<n→f i=g i):sm n f=sm n g:=by
 induction n with
 | zero=>rfl
 | succ n ih=>simp only [sm];rw [ih (fun i hi=>h i (by omega)),h n (by omega)]
theorem sm_zero (n:Nat):sm n (fun _=>0)=0:=by
 induction n with
 | zero=>rfl
 | succ n ih=>simp only [sm,ih];rfl
theorem sm_add (n:Nat) (f g:Nat→Int):sm n (fun i=>f i+g i)=sm n f+sm n g:=by
 induction n with
 | zero=>rfl
 | succ n ih=>simp only [sm,ih];omega
theorem sm_mul (n:Nat) (c:Int) (f:Nat→Int):sm n (fun i=>c*f i)=c*sm n f:=by
 induction n with
 | zero=>simp [sm]
 | succ n ih=>simp only [sm,ih,Int.mul_add]
theorem sm_mulr (n:Nat) (c:Int) (f:Nat→Int):sm n (fun i=>f i*c)=sm n f*c:=by
 rw [Int.mul_comm,←sm_mul];exact sm_congr fun i _=>Int.mul_comm _ _
theorem sm_swap (n m:Nat) (f:Nat→Nat→Int):sm n (fun i=>sm m (fun j=>f i j))=sm m (fun j=>sm n (fun i=>f i j)):=by
 induction n with
 | zero=>simp only [sm,sm_zero]
 | succ n ih=>simp only [sm,ih,sm_add]
theorem sm_at {n i:Nat}(hi:i<n) (f:Nat→Int):sm n (fun j=>if j=i then f j else 0)=f i:=by
 induction n with
 | zero=>omega
 | succ n ih=>
  simp only [sm]
  by_cases h:i<n
  ·rw [ih h,if_neg (by omega)];omega
  ·have e:n=i:=by omega
   subst e
   rw [if_pos rfl,sm_congr (g:=fun _=>0) (fun j hj=>if_neg (by omega)),sm_zero];omega
theorem sm_const (n:Nat) (c:Int):sm n (fun _=>c)=(n:Int)*c:=by
 induction n with
 | zero=>simp [sm]
 | succ n ih=>simp only [sm,ih];grind
theorem sm_front (n:Nat) (f:Nat→Int):sm (n+1) f=f 0+sm n (fun i=>f (i+1)):=by
 induction n with
 | zero=>simp [sm]
 | succ n ih=>rw [sm,ih];simp only [sm];omega
def cv:(Nat→Int)→(Nat→Int)→Nat→Int
 | f,g,0=>f 0*g 0
 | f,g,k+1=>f 0*g (k+1)+cv (fun i=>f (i+1)) g k
theorem cv_congr {f f' g g':Nat→Int}{k:Nat}(hf:∀i,i≤k→f i=f' i) (hg:∀i,i≤k→g i=g' i):cv f g k=cv f' g' k:=by
 induction k generalizing f f' with
 | zero=>simp only [cv];rw [hf 0 (by omega),hg 0 (by omega)]
 | succ k ih=>simp only [cv];rw [hf 0 (by omega),hg (k+1) (by omega),ih (fun i hi=>hf (i+1) (by omega)) (fun i hi=>hg i (by omega))]
theorem cv_addl (f f' g:Nat→Int) (k:Nat):cv (fun i=>f i+f' i) g k=cv f g k+cv f' g k:=by
 induction k generalizing f f' with
 | zero=>simp only [cv,Int.add_mul]
 | succ k ih=>simp only [cv,ih,Int.add_mul];omega
theorem cv_mull (c:Int) (f g:Nat→Int) (k:Nat):cv (fun i=>c*f i) g k=c*cv f g k:=by
 induction k generalizing f with
 | zero=>simp only [cv,Int.mul_assoc]
 | succ k ih=>simp only [cv,ih,Int.mul_add,Int.mul_assoc]
theorem cv_back (f g:Nat→Int) (k:Nat):cv f g (k+1)=cv f (fun i=>g (i+1)) k+f (k+1)*g 0:=by
 induction k generalizing f with
 | zero=>simp only [cv]
 | succ k ih=>rw [cv,ih];simp only [cv];omega
theorem cv_comm (f g:Nat→Int) (k:Nat):cv f g k=cv g f k:=by
 induction k generalizing f g with
 | zero=>simp only [cv,Int.mul_comm]
 | succ k ih=>rw [cv_back g f,cv,ih (fun i=>f (i+1)) g,Int.mul_comm];omega
theorem cv_addr (f g g':Nat→Int) (k:Nat):cv f (fun i=>g i+g' i) k=cv f g k+cv f g' k:=by rw [cv_comm,cv_addl,cv_comm g,cv_comm g']
theorem cv_mulr (c:Int) (f g:Nat→Int) (k:Nat):cv f (fun i=>c*g i) k=c*cv f g k:=by rw [cv_comm,cv_mull,cv_comm g]
theorem cv_assoc (f g h:Nat→Int) (k:Nat):cv (cv f g) h k=cv f (cv g h) k:=by
 induction k generalizing f g with
 | zero=>simp only [cv,Int.mul_assoc]
 | succ k ih=>
  have e:(fun i=>cv f g (i+1))=fun i=>f 0*g (i+1)+cv (fun i=>f (i+1)) g i:=rfl
  rw [cv,e,cv_addl,cv_mull,ih]
  simp only [cv,Int.mul_add,Int.mul_assoc];omega
theorem cv_zl (g:Nat→Int) (k:Nat):cv (fun _=>0) g k=0:=by
 induction k with
 | zero=>simp [cv]
 | succ k ih=>simp only [cv,ih];omega
def c1:Nat→Int
 | 0=>1
 | _+1=>0
theorem cv_1l (g:Nat→Int) (k:Nat):cv c1 g k=g k:=by
 cases k with
 | zero=>simp [cv,c1]
 | succ k=>
  have:(fun i=>c1 (i+1))=fun _=>0:=rfl
  rw [cv,this,cv_zl];simp [c1]
theorem cv_1r (f:Nat→Int) (k:Nat):cv f c1 k=f k:=by rw [cv_comm,cv_1l]
theorem cv_sm (m:Nat) (f:Nat→Nat→Int) (g:Nat→Int) (k:Nat):cv (fun t=>sm m fun l=>f l t) g k=sm m fun l=>cv (f l) g k:=by
 induction m with
 | zero=>simp only [sm,cv_zl]
 | succ m ih=>simp only [sm,cv_addl,ih]
theorem cv_smr (m:Nat) (f:Nat→Int) (g:Nat→Nat→Int) (k:Nat):cv f (fun t=>sm m fun l=>g l t) k=sm m fun l=>cv f (g l) k:=by
 rw [cv_comm,cv_sm];exact sm_congr fun l _=>cv_comm _ _ _
theorem cv_eq (f g:Nat→Int) (k:Nat):cv f g k=sm (k+1) fun i=>f i*g (k-i):=by
 induction k generalizing f with
 | zero=>simp [cv,sm]
 | succ k ih=>
  rw [cv,ih,sm_front (k+1)]
  congr 1
  exact sm_congr fun i hi=>by rw [Nat.add_sub_add_right]
theorem cv_der (f g:Nat→Int) (k:Nat):(k:Int)*cv f g k=cv (fun i=>(i:Int)*f i) g k+cv f (fun i=>(i:Int)*g i) k:=by
 rw [cv_eq,cv_eq,cv_eq,←sm_mul,←sm_add]
 refine sm_congr fun i hi=>?_
 have e:(k:Int)=(i:Int)+((k-i:Nat):Int):=by omega
 rw [e];grind
def Nw (d p:Nat→Int):Prop:=∀k:Nat,(k:Int)*d k+cv d p k=0
theorem Nw.mul {d s p q:Nat→Int}(h:Nw d p) (h':Nw s q):Nw (cv d s) (fun i=>p i+q i):=by
 intro k
 have e1:(fun i:Nat=>(i:Int)*d i)=fun i=> -1*cv d p i:=by funext i;have:=h i;omega
 have e2:(fun i:Nat=>(i:Int)*s i)=fun i=> -1*cv s q i:=by funext i;have:=h' i;omega
 rw [cv_der,e1,e2,cv_mull,cv_mulr,cv_addr,cv_assoc d p s,←cv_assoc d s q,cv_assoc d s p]
 have e3:cv p s=cv s p:=by funext i;exact cv_comm _ _ _
 rw [e3];omega
theorem Nw.uniq {d d' p:Nat→Int}(h:Nw d p) (h':Nw d' p) (hp:p 0=0) (h0:d 0=d' 0):d=d':=by
 funext k
 induction k using Nat.strongRecOn with
 | ind k ih=>
  cases k with
  | zero=>exact h0
  | succ k=>
   have a:=h (k+1)
   have b:=h' (k+1)
   rw [cv_back,hp,Int.mul_zero] at a b
   rw [cv_congr (fun i hi=>ih i (by omega)) (fun i _=>rfl)] at a
   have e:((k+1:Nat):Int)*d (k+1)=((k+1:Nat):Int)*d' (k+1):=by omega
   exact Int.eq_of_mul_eq_mul_left (by omega) e
abbrev Mx:=Nat→Nat→Int
def mm (n:Nat) (A B:Mx):Mx:=fun i j=>sm n fun k=>A i k*B k j
def m1:Mx:=fun i j=>if i=j then 1 else 0
def mp (n:Nat) (A:Mx):Nat→Mx
 | 0=>m1
 | k+1=>mm n (mp n A k) A
def tr (n:Nat) (A:Mx):Int:=sm n fun i=>A i i
theorem mm_assoc (n:Nat) (A B C:Mx):mm n (mm n A B) C=mm n A (mm n B C):=by
 funext i j
 have e1:mm n (mm n A B) C i j=sm n fun k=>sm n fun l=>A i l*B l k*C k j:=sm_congr fun k _=>(sm_mulr _ _ _).symm
 have e2:mm n A (mm n B C) i j=sm n fun l=>sm n fun k=>A i l*B l k*C k j:=sm_congr fun l _=>by
  show A i l*sm n _=_
  rw [←sm_mul];exact sm_congr fun k _=>(Int.mul_assoc _ _ _).symm
 rw [e1,e2,sm_swap]
theorem mm_congr {n:Nat}{A A' B B':Mx}{i j:Nat}(h:∀k,k<n→A i k=A' i k) (h':∀k,k<n→B k j=B' k j):mm n A B i j=mm n A' B' i j:=
 sm_congr fun k hk=>by rw [h k hk,h' k hk]
theorem m1_mm {n:Nat}(A:Mx){i:Nat}(j:Nat) (hi:i<n):mm n m1 A i j=A i j:=by
 have:mm n m1 A i j=sm n fun k=>if k=i then A k j else 0:=sm_congr fun k _=>by
  unfold m1
  by_cases h:k=i
  ·rw [if_pos h,if_pos h.symm];omega
  ·rw [if_neg h,if_neg (fun e=>h e.symm)];omega
 rw [this,sm_at hi (fun k=>A k j)]
theorem mm_m1 {n:Nat}(A:Mx) (i:Nat){j:Nat}(hj:j<n):mm n A m1 i j=A i j:=by
 have:mm n A m1 i j=sm n fun k=>if k=j then A i k else 0:=sm_congr fun k _=>by
  unfold m1
  by_cases h:k=j
  ·rw [if_pos h,if_pos h];omega
  ·rw [if_neg h,if_neg h];omega
 rw [this,sm_at hj (fun k=>A i k)]
theorem mp_add (n:Nat) (A:Mx) (u v i:Nat){j:Nat}(hj:j<n):mp n A (u+v) i j=mm n (mp n A u) (mp n A v) i j:=by
 induction v generalizing j with
 | zero=>exact (mm_m1 _ _ hj).symm
 | succ v ih=>
  show mm n (mp n A (u+v)) A i j=mm n (mp n A u) (mm n (mp n A v) A) i j
  rw [←mm_assoc]
  exact mm_congr (fun k hk=>ih hk) (fun k _=>rfl)
theorem mp_1 {n:Nat}(A:Mx){i:Nat}(j:Nat) (hi:i<n):mp n A 1 i j=A i j:=m1_mm A j hi
theorem mp_left {n:Nat}(A:Mx) (k:Nat){i j:Nat}(hi:i<n) (hj:j<n):mp n A (k+1) i j=mm n A (mp n A k) i j:=by
 rw [Nat.add_comm,mp_add n A 1 k i hj]
 exact mm_congr (fun l _=>mp_1 A l hi) (fun l _=>rfl)
section
variable (n:Nat) (A:Mx)
def rw_ (t j:Nat):Int:=sm n fun i=>A n i*mp n A t i j
def co_ (t i:Nat):Int:=sm n fun j=>mp n A t i j*A j n
def hh (t:Nat):Int:=sm n fun j=>rw_ n A t j*A j n
def crn (t:Nat):Int:=mp (n+1) A t n n
def ss:Nat→Int
 | 0=>1
 | 1=> -A n n
 | t+2=> -hh n A t
theorem mp_s (k i j:Nat):mp (n+1) A (k+1) i j=(sm n fun l=>mp (n+1) A k i l*A l j)+mp (n+1) A k i n*A n j:=rfl
theorem rw_0 {j:Nat}(hj:j<n):rw_ n A 0 j=A n j:=mm_m1 A n hj
theorem rw_s (t j:Nat):rw_ n A (t+1) j=sm n fun l=>rw_ n A t l*A l j:=by
 have e:rw_ n A (t+1) j=mm n A (mm n (mp n A t) A) n j:=rfl
 rw [e,←mm_assoc];rfl
theorem co_0 {i:Nat}(hi:i<n):co_ n A 0 i=A i n:=m1_mm A n hi
theorem co_s (t:Nat){i:Nat}(hi:i<n):co_ n A (t+1) i=sm n fun l=>A i l*co_ n A t l:=by
 have e:co_ n A (t+1) i=mm n (mp n A (t+1)) A i n:=rfl
 rw [e,mm_congr (A':=mm n A (mp n A t)) (fun k hk=>mp_left A t hi hk) (fun k _=>rfl),mm_assoc];rfl
theorem row_k (k:Nat){j:Nat}(hj:j<n):mp (n+1) A (k+1) n j=cv (crn n A) (fun t=>rw_ n A t j) k:=by
 induction k generalizing j with
 | zero=>
  rw [mp_s,cv,rw_0 n A hj]
  have:(sm n fun l=>mp (n+1) A 0 n l*A l j)=0:=by
   rw [←sm_zero n]
   refine sm_congr fun l hl=>?_
   show (if n=l then (1:Int) else 0)*A l j=0
   rw [if_neg (by omega)];omega
  rw [this]
  show 0+crn n A 0*A n j=_
  omega
 | succ k ih=>
  rw [mp_s,cv_back,rw_0 n A hj]
  have:(sm n fun l=>mp (n+1) A (k+1) n l*A l j)=cv (crn n A) (fun t=>rw_ n A (t+1) j) k:=by
   have e:(fun t=>rw_ n A (t+1) j)=fun t=>sm n fun l=>A l j*rw_ n A t l:=by
    funext t;rw [rw_s];exact sm_congr fun l _=>Int.mul_comm _ _
   rw [e,cv_smr]
   refine sm_congr fun l hl=>?_
   rw [cv_mulr,ih hl,Int.mul_comm]
  rw [this];rfl
theorem col_k (k:Nat){i:Nat}(hi:i<n):mp (n+1) A (k+1) i n=cv (crn n A) (fun t=>co_ n A t i) k:=by
 induction k generalizing i with
 | zero=>
  rw [mp_1 A n (show i<n+1 by omega),cv,co_0 n A hi]
  show _=(if n=n then (1:Int) else 0)*_
  rw [if_pos rfl];omega
 | succ k ih=>
  rw [mp_left A _ (show i<n+1 by omega) (show n<n+1 by omega),cv_back,co_0 n A hi]
  show (sm n fun l=>A i l*mp (n+1) A (k+1) l n)+A i n*crn n A (k+1)=_
  have:(sm n fun l=>A i l*mp (n+1) A (k+1) l n)=cv (crn n A) (fun t=>co_ n A (t+1) i) k:=by
   have e:(fun t=>co_ n A (t+1) i)=fun t=>sm n fun l=>A i l*co_ n A t l:=by
    funext t;exact co_s n A t hi
   rw [e,cv_smr]
   refine sm_congr fun l hl=>?_
   rw [cv_mulr,ih hl]
  rw [this,Int.mul_comm]
theorem crn_0:crn n A 0=1:=if_pos rfl
theorem crn_1:crn n A 1=A n n:=mp_1 A n (by omega)
theorem crn_s (k:Nat):crn n A (k+2)=cv (crn n A) (hh n A) k+crn n A (k+1)*A n n:=by
 show mp (n+1) A (k+1+1) n n=_
 rw [mp_s]
 have:(sm n fun l=>mp (n+1) A (k+1) n l*A l n)=cv (crn n A) (hh n A) k:=by
  have e:hh n A=fun t=>sm n fun l=>A l n*rw_ n A t l:=by
   funext t;exact sm_congr fun l _=>Int.mul_comm _ _
  rw [e,cv_smr]
  refine sm_congr fun l hl=>?_
  rw [cv_mulr,row_k n A k hl,Int.mul_comm]
 rw [this];rfl
theorem ss_al (k:Nat):cv (ss n A) (crn n A) k=c1 k:=by
 match k with
 | 0=>simp only [cv,ss,crn_0,c1];rfl
 | 1=>have:=crn_1 n A;simp only [cv,ss,crn_0,c1,Nat.zero_add];omega
 | k+2=>
  have e:(fun i=>ss n A (i+1+1))=fun i=> -1*hh n A i:=by funext i;simp only [ss];omega
  simp only [cv,c1]
  rw [e,cv_mull,crn_s,cv_comm (hh n A)]
  simp only [ss]
  have:=Int.mul_comm (crn n A (k+1)) (A n n)
  have h2: -A n n*crn n A (k+1)= -(A n n*crn n A (k+1)):=Int.neg_mul _ _
  rw [h2];omega
theorem mid_k (k:Nat){i j:Nat}(hi:i<n) (hj:j<n):mp (n+1) A (k+1) i j=mp n A (k+1) i j+cv (fun t=>mp (n+1) A t i n) (fun t=>rw_ n A t j) k:=by
 induction k generalizing j with
 | zero=>
  rw [mp_1 A j (show i<n+1 by omega),mp_1 A j hi,cv]
  have:mp (n+1) A 0 i n=0:=if_neg (by omega)
  rw [this];omega
 | succ k ih=>
  rw [mp_s,cv_back,rw_0 n A hj]
  have e:(fun t=>rw_ n A (t+1) j)=fun t=>sm n fun l=>A l j*rw_ n A t l:=by
   funext t;rw [rw_s];exact sm_congr fun l _=>Int.mul_comm _ _
  rw [e,cv_smr]
  have e2:mp n A (k+1+1) i j=sm n fun l=>mp n A (k+1) i l*A l j:=rfl
  rw [e2,←Int.add_assoc,←sm_add]
  congr 1
  refine sm_congr fun l hl=>?_
  rw [cv_mulr,ih hl];grind
theorem rc_h (u v:Nat):(sm n fun i=>co_ n A u i*rw_ n A v i)=hh n A (u+v):=by
 have e1:(sm n fun i=>co_ n A u i*rw_ n A v i)=mm n (mm n A (mp n A v)) (mm n (mp n A u) A) n n:=sm_congr fun i _=>Int.mul_comm _ _
 have e2:hh n A (u+v)=mm n (mm n A (mp n A (u+v))) A n n:=rfl
 rw [e1,e2,mm_assoc,mm_assoc,Nat.add_comm]
 refine mm_congr (fun k _=>rfl) (fun k _=>?_)
 rw [←mm_assoc]
 exact mm_congr (fun l hl=>(mp_add n A v u k hl).symm) (fun l _=>rfl)
def tp (n:Nat) (A:Mx):Nat→Int
 | 0=>0
 | k+1=>tr n (mp n A (k+1))
def qq:Nat→Int
 | 0=>0
 | 1=>crn n A 1
 | k+2=>crn n A (k+2)+cv (crn n A) (fun t=>((t:Int)+1)*hh n A t) k
theorem tr_k (k:Nat):tp (n+1) A k=tp n A k+qq n A k:=by
 match k with
 | 0=>rfl
 | 1=>
  show tr (n+1) (mp (n+1) A 1)=tr n (mp n A 1)+crn n A 1
  show (sm n fun i=>mp (n+1) A 1 i i)+_=_
  congr 1
  exact sm_congr fun i hi=>by rw [mp_1 A i hi,mp_1 A i (by omega)]
 | k+2=>
  show (sm n fun i=>mp (n+1) A (k+1+1) i i)+crn n A (k+2)=(sm n fun i=>mp n A (k+1+1) i i)+(crn n A (k+2)+_)
  have:(sm n fun i=>mp (n+1) A (k+1+1) i i)=(sm n fun i=>mp n A (k+1+1) i i)+cv (crn n A) (fun t=>((t:Int)+1)*hh n A t) k:=by
   rw [sm_congr (fun i hi=>mid_k n A (k+1) hi hi),sm_add]
   congr 1
   have e:(sm n fun i=>cv (fun t=>mp (n+1) A t i n) (fun t=>rw_ n A t i) (k+1))=sm n fun i=>cv (crn n A) (cv (fun t=>co_ n A t i) (fun t=>rw_ n A t i)) k:=by
    refine sm_congr fun i hi=>?_
    have h0:mp (n+1) A 0 i n=0:=if_neg (by omega)
    have h1:(fun t=>mp (n+1) A (t+1) i n)=cv (crn n A) (fun t=>co_ n A t i):=by funext t;exact col_k n A t hi
    rw [cv,h0,h1,cv_assoc];omega
   rw [e,←cv_smr]
   refine cv_congr (fun i _=>rfl) (fun t _=>?_)
   have e2:(sm n fun i=>cv (fun t=>co_ n A t i) (fun t=>rw_ n A t i) t)=sm (t+1) fun u=>sm n fun i=>co_ n A u i*rw_ n A (t-u) i:=by
    rw [sm_swap];exact sm_congr fun i _=>cv_eq _ _ _
   rw [e2,sm_congr (g:=fun _=>hh n A t) (fun u hu=>by rw [rc_h];congr 1;omega),sm_const];norm_cast
  rw [this];omega
theorem ss_q:Nw (ss n A) (qq n A):=by
 intro k
 let crn':Nat→Int:=fun t=>crn n A t+ -1*c1 t
 let W:Nat→Int:=fun | 0=>0 | 1=>0 | t+2=>((t:Int)+1)*hh n A t
 have eq:qq n A=fun t=>crn' t+cv (crn n A) W t:=by
  funext t
  match t with
  | 0=>simp only [qq,crn',crn_0,c1,cv,W];omega
  | 1=>simp only [qq,crn',crn_1,c1,cv,W];omega
  | t+2=>
   have:cv (crn n A) W (t+2)=cv (crn n A) (fun t=>((t:Int)+1)*hh n A t) t:=by
    rw [cv_comm,cv_comm (crn n A)]
    simp only [cv]
    show 0*_+(0*_+cv (fun t=>((t:Int)+1)*hh n A t) (crn n A) t)=_
    omega
   rw [this];simp only [qq,crn',c1];omega
 rw [eq,cv_addr,←cv_assoc]
 have e1:cv (ss n A) crn' k=c1 k-ss n A k:=by
  show cv (ss n A) (fun t=>crn n A t+ -1*c1 t) k=_
  rw [cv_addr,cv_mulr,ss_al,cv_1r];omega
 have e2:cv (ss n A) (crn n A)=c1:=by funext t;exact ss_al n A t
 rw [e1,e2,cv_1l]
 match k with
 | 0=>simp only [ss,c1,W];omega
 | 1=>simp only [ss,c1,W];omega
 | k+2=>simp only [ss,c1,W];grind
end
def sx (p n i:Nat):Nat:=if i=p then n else if i=n then p else i
theorem sx_sx (p n i:Nat):sx p n (sx p n i)=i:=by unfold sx;split <;> (try split) <;> (try split) <;> omega
theorem sm_sx {p n:Nat}(hp:p≤n) (f:Nat→Int):sm (n+1) (fun i=>f (sx p n i))=sm (n+1) f:=by
 by_cases e:p=n
 ·subst e;exact sm_congr fun i _=>by unfold sx;split <;> simp_all
 simp only [sm]
 have e1:sm n (fun i=>f (sx p n i))=sm n (fun i=>f i+if i=p then f n+ -1*f i else 0):=sm_congr fun i hi=>by
  unfold sx
  by_cases h:i=p
  ·subst h;rw [if_pos rfl,if_pos rfl];omega
  ·rw [if_neg h,if_neg h,if_neg (by omega)];omega
 rw [e1,sm_add,sm_at (show p<n by omega) (fun i=>f n+ -1*f i)]
 have:sx p n n=p:=by unfold sx;rw [if_neg (fun h=>e h.symm),if_pos rfl]
 rw [this];omega
theorem sx_lt {p n i:Nat}(hp:p≤n) (hi:i<n+1):sx p n i<n+1:=by unfold sx;split <;> (try split) <;> omega
theorem mp_sx {p n:Nat}(hp:p≤n) (A:Mx) (k i j:Nat):mp (n+1) (fun a b=>A (sx p n a) (sx p n b)) k i j=mp (n+1) A k (sx p n i) (sx p n j):=by
 induction k generalizing j with
 | zero=>
  show (if i=j then (1:Int) else 0)=if sx p n i=sx p n j then 1 else 0
  by_cases h:i=j
  ·subst h;rw [if_pos rfl,if_pos rfl]
  ·rw [if_neg h,if_neg (fun e=>h (by rw [←sx_sx p n i,e,sx_sx]))]
 | succ k ih=>
  show (sm (n+1) fun l=>mp (n+1) (fun a b=>A (sx p n a) (sx p n b)) k i l*A (sx p n l) (sx p n j))=sm (n+1) fun l=>mp (n+1) A k (sx p n i) l*A l (sx p n j)
  rw [←sm_sx hp (fun l=>mp (n+1) A k (sx p n i) l*A l (sx p n j))]
  exact sm_congr fun l _=>by rw [ih]
theorem tp_sx {p n:Nat}(hp:p≤n) (A:Mx):tp (n+1) (fun a b=>A (sx p n a) (sx p n b))=tp (n+1) A:=by
 funext k
 cases k with
 | zero=>rfl
 | succ k=>
  show (sm (n+1) fun i=>mp (n+1) (fun a b=>A (sx p n a) (sx p n b)) (k+1) i i)=sm (n+1) fun i=>mp (n+1) A (k+1) i i
  rw [←sm_sx hp (fun i=>mp (n+1) A (k+1) i i)]
  exact sm_congr fun i _=>mp_sx hp A _ _ _
structure Chp (n:Nat) (A:Mx) (d:Nat→Int):Prop where
 one:d 0=1
 nw:Nw d (tp n A)
 zero:∀k,n<k→d k=0
 root:∀k,n≤k→∀i j,i<n→j<n→cv d (fun l=>mp n A l i j) k=0
theorem chp_last {n:Nat}(ih:∀A:Mx,∃d,Chp n A d) (A:Mx):∃d:Nat→Int,d 0=1∧Nw d (tp (n+1) A)∧∀k,n+1≤k→∀j,j<n+1→cv d (fun l=>mp (n+1) A l n j) k=0:=by
 obtain⟨d,hd⟩:=ih A
 refine⟨cv d (ss n A),by simp only [cv,ss,hd.one];rfl,?_,fun k hk j hj=>?_⟩
 ·have:=hd.nw.mul (ss_q n A)
  rwa [show (fun i=>tp n A i+qq n A i)=tp (n+1) A from funext fun k=>(tr_k n A k).symm] at this
 ·have e2:cv (ss n A) (crn n A)=c1:=by funext t;exact ss_al n A t
  by_cases h:j=n
  ·subst h
   show cv (cv d (ss j A)) (crn j A) k=0
   rw [cv_assoc,e2,cv_1r]
   exact hd.zero k hk
  ·have hj':j<n:=by omega
   obtain⟨k,rfl⟩:∃t,k=t+1:=⟨k-1,by omega⟩
   have h0:mp (n+1) A 0 n j=0:=if_neg (by omega)
   have h1:(fun l=>mp (n+1) A (l+1) n j)=cv (crn n A) (fun t=>rw_ n A t j):=by funext l;exact row_k n A l hj'
   have e3:cv (cv d (ss n A)) (crn n A)=d:=by funext t;rw [cv_assoc,e2,cv_1r]
   rw [cv_back,h0,h1,←cv_assoc,e3]
   have e4:(fun t=>rw_ n A t j)=fun t=>sm n fun i=>A n i*mp n A t i j:=rfl
   rw [e4,cv_smr,Int.mul_zero,Int.add_zero,←sm_zero n]
   refine sm_congr fun i hi=>?_
   rw [cv_mulr,hd.root k (by omega) i j hi hj',Int.mul_zero]
theorem chp_ex:∀(n:Nat) (A:Mx),∃d,Chp n A d
 | 0,A=>⟨c1,rfl,fun k=>by
   have:tp 0 A=fun _=>0:=by funext k;cases k <;> rfl
   rw [this,cv_comm,cv_zl]
   cases k <;> simp [c1],fun k hk=>by cases k with | zero=>omega | succ k=>rfl,fun k _ i j hi=>by omega⟩
 | n+1,A=>by
  obtain⟨d,h0,hn,_⟩:=chp_last (chp_ex n) A
  have root:∀k,n+1≤k→∀i j,i<n+1→j<n+1→cv d (fun l=>mp (n+1) A l i j) k=0:=fun k hk p q hp hq=>by
   obtain⟨d',h0',hn',hr'⟩:=chp_last (chp_ex n) (fun a b=>A (sx p n a) (sx p n b))
   rw [tp_sx (by omega)] at hn'
   have e:=hn.uniq hn' rfl (by rw [h0,h0'])
   have:=hr' k hk (sx p n q) (sx_lt (by omega) hq)
   rw [←e] at this
   rw [←this]
   refine cv_congr (fun i _=>rfl) (fun l _=>?_)
   rw [mp_sx (by omega),sx_sx]
   congr 1
   unfold sx
   split
   ·omega
   ·rw [if_pos rfl]
  refine⟨d,h0,hn,fun k hk=>?_,root⟩
  have h1:=hn k
  have h2:cv d (fun t=>tr (n+1) (mp (n+1) A t)) k=0:=by
   show cv d (fun t=>sm (n+1) fun i=>mp (n+1) A t i i) k=0
   rw [cv_smr,←sm_zero (n+1)]
   exact sm_congr fun i hi=>root k (by omega) i i hi hi
  have h3:(fun t=>tr (n+1) (mp (n+1) A t))=fun t=>tp (n+1) A t+((n:Int)+1)*c1 t:=by
   funext t
   cases t with
   | zero=>
    show (sm (n+1) fun i=>if i=i then (1:Int) else 0)=0+((n:Int)+1)*1
    rw [sm_congr (g:=fun _=>1) (fun i _=>if_pos rfl),sm_const];omega
   | succ t=>show tp (n+1) A (t+1)=_+_*0;omega
  rw [h3,cv_addr,cv_mulr,cv_1r] at h2
  have h4:((k:Int)-((n:Int)+1))*d k=0:=by rw [Int.sub_mul];omega
  rcases Int.mul_eq_zero.1 h4 with h | h
  ·omega
  ·exact h
end Go.Proofs.Ytnpbbknemflpnaa

namespace Go.Proofs.Ytnpbbknemflpnaa
open Go.RowKit
theorem aggMat:AggT Try.prog 24 3:=⟨fun _=>by kernel_rfl,fun _=>by kernel_rfl⟩
theorem cellInt:∀w,(isAgg 3).run Try.prog w= .ok false w:=fun _=>by kernel_rfl
theorem cellInts:∀w,(isAgg 22).run Try.prog w= .ok false w:=fun _=>by kernel_rfl
theorem szInt:∀w,(sizeOf 3).run Try.prog w= .ok 1 w:=fun _=>by kernel_rfl
theorem szInts:∀w,(sizeOf 22).run Try.prog w= .ok 1 w:=fun _=>by kernel_rfl
theorem szBool:∀w,(sizeOf 4).run Try.prog w= .ok 1 w:=fun _=>by kernel_rfl
section
variable {P:Program}{Q:Exit→Act→World→Prop}{n:Nat}{l:Fr}{w:World}{ops:Array Oper}{rest:List Oper}{d:Nat}{ty:TypeId}{pos:String}{af:Array Edge}{gd:Option (Nat×Bool)}
theorem map_evo {a:Act}(ha:Rp n l a):∀(xs:List Operand) (vs:List Value),xs.map (evo l)=vs.map some→xs.map a.eval=vs
 | [],[],_=>rfl
 | [],_::_,h=>by cases h
 | _::_,[],h=>by cases h
 | x::xs,v::vs,h=>by
  simp only [List.map_cons,List.cons.injEq] at h
  rw [List.map_cons,ha.ev h.1,map_evo ha xs vs h.2]
theorem wl_callF {x:Operand}{xs:Array Operand}{ts:Array TypeId}{k:FuncId}{cs:List Value}(vs:List Value){R:Ending→World→Prop}(hw:guardB ops l gd=some true) (hx:evo l x=some (.func (.func k) #[] cs.toArray))
  (hxs:xs.toList.map (evo l)=vs.map some) (he:∀(args:Array Value) (w:World),(callFunc k args).run P w= .ok (.enter k args) w) (hn:d<n) (hc:Calls P k (vs++cs).toArray w R)
  (h:∀e w',R e w'→Ret (fun v=>wl P ops Q n rest ((d,v)::l) w') e):wl P ops Q n (⟨some d,.call {callee:= .value x,args:=xs,argTypes:=ts},ty,pos,af,gd⟩::rest) l w:=fun a ha=>by
 refine wl_plain hw ha fun K hK=>?_
 have e1:xs.map a.eval=vs.toArray:=by
  apply Array.ext'
  rw [Array.toList_map]
  exact map_evo ha _ _ hxs
 have e2:(execOp a.eval ⟨some d,.call {callee:= .value x,args:=xs,argTypes:=ts},ty,pos,af,gd⟩).run P w= .ok (.enter k (vs++cs).toArray) w:=by
  unfold execOp
  simp only [resolve,ha.ev hx,e1,Deferred.ofValue,Sem.run_bind,Sem.run_pure,Result.andThen_ok,invoke]
  simp only [List.append_toArray,List.nil_append,he]
 unfold Oper.wp
 rw [e2]
 refine hc.mono fun e w' hR=>?_
 have:=h e w' hR
 cases e with
 | returned v=>exact hK _ _ (this _ (ha.put hn v))
 | panicked c=>exact this.elim
 | outgrown=>exact this.elim
end
theorem ix_lt {r c i j:Nat}(hi:i<r) (hj:j<c):i*c+j<r*c:=by
 have:=Nat.mul_le_mul_right c (show i+1≤r by omega)
 rw [Nat.add_mul] at this;omega
theorem ix_64 {i c:Nat}(hi:i≤64) (hc:c≤64):i*c≤4096:=Nat.mul_le_mul hi hc
theorem ix_div {c i j:Nat}(hj:j<c):(i*c+j)/c=i:=by
 rw [Nat.mul_comm,Nat.mul_add_div (by omega),Nat.div_eq_of_lt hj];omega
theorem ix_mod {c i j:Nat}(hj:j<c):(i*c+j)%c=j:=by
 rw [Nat.mul_comm,Nat.mul_add_mod];exact Nat.mod_eq_of_lt hj
def LE (m:Option World) (K b lb n:Nat) (zs:List Int) (v:Value) (w:World):Prop:=∃A cap,v= .slice A n cap∧Lz m K b w lb A n cap zs
def LQ (m:Option World) (K b lb n:Nat) (p:List Int→Prop) (v:Value) (w:World):Prop:=∃A cap zs,v= .slice A n cap∧Lz m K b w lb A n cap zs∧p zs
def MQ (R C:Int) (L:Value→World→Prop) (v:Value) (w:World):Prop:=∃lv,v= .agg #[.int .i64 R,.int .i64 C,lv]∧L lv w
def En (r c:Nat) (f:Mx) (zs:List Int):Prop:=∀i j,i<r→j<c→zs.getD (i*c+j) 0=f i j
theorem LQ.imp {m:Option World}{K b lb n K' b' lb':Nat}{p q:List Int→Prop}(hK:K≤K') (hb:b'≤b) (hl:lb'≤lb) (hp:∀zs,p zs→q zs) (v:Value) (w:World) (h:LQ m K b lb n p v w):LQ m K' b' lb' n q v w:=by
 obtain⟨A,cap,zs,rfl,h1,h2⟩:=h
 exact⟨A,cap,zs,rfl,h1.mono hK hb hl,hp _ h2⟩
theorem MQ.imp {R C:Int}{L L':Value→World→Prop}(h:∀v w,L v w→L' v w) (v:Value) (w:World) (hm:MQ R C L v w):MQ R C L' v w:=by
 obtain⟨lv,rfl,h1⟩:=hm
 exact⟨lv,rfl,h _ _ h1⟩
theorem En.cong {r c:Nat}{f g:Mx}(hfg:∀i j,i<r→j<c→f i j=g i j) (zs:List Int) (h:En r c f zs):En r c g zs:=fun i j hi hj=>(h i j hi hj).trans (hfg i j hi hj)
def ZF (w:World) (A:Option Addr) (n cap K:Nat) (zs:List Int):Prop:=∃ms,Zl w A n cap zs ms∧∀i,ms.getD i 0≤K
theorem ZF.mono {w:World}{A:Option Addr}{n cap K K':Nat}{zs:List Int}(h:ZF w A n cap K zs) (hK:K≤K'):ZF w A n cap K' zs:=by
 obtain⟨ms,h1,h2⟩:=h
 exact⟨ms,h1,fun i=>Nat.le_trans (h2 i) hK⟩
theorem El.som {b:Nat}{w w0:World}{e:ZC}{z:Int}(h:El none b w e z):El (some w0) b w e z:=by
 rcases h with h | ⟨w1,h1,h2⟩
 ·exact Or.inl h
 ·cases h1
theorem Lz.som {K b lb:Nat}{w w0:World}{A:Option Addr}{n cap:Nat}{zs:List Int}(h:Lz none K b w lb A n cap zs):Lz (some w0) K b w lb A n cap zs:=by
 obtain⟨es,h1,h2,h3,h4⟩:=h
 exact⟨es,h1,h2,h3,fun i hi=>⟨(h4 i hi).1,(h4 i hi).2.som⟩⟩
theorem Lz.zf {K b lb:Nat}{w w0:World}{A:Option Addr}{n cap:Nat}{zs:List Int}(h:Lz (some w0) K b w lb A n cap zs) (x:Ext w0 w):ZF w A n cap K zs:=h.zl x
theorem Lz.zf0 {K b lb:Nat}{w:World}{A:Option Addr}{n cap:Nat}{zs:List Int}(h:Lz none K b w lb A n cap zs):ZF w A n cap K zs:=(h.som (w0:=w)).zl (Ext.refl w)
theorem ZF.ln {w:World}{A:Option Addr}{n cap K:Nat}{zs:List Int}(h:ZF w A n cap K zs) (i:Nat):ln (zs.getD i 0)≤K:=by
 obtain⟨ms,h1,h2⟩:=h
 by_cases hi:i<n
 ·obtain⟨p,s,B,c,_,_,hz⟩:=h1.at hi
  exact Nat.le_trans hz.ln (h2 i)
 ·rw [List.getD_eq_getElem?_getD,List.getElem?_eq_none (by rw [h1.len];omega)];exact Nat.zero_le _
theorem ZF.ext {w w':World}{A:Option Addr}{n cap K:Nat}{zs:List Int}(h:ZF w A n cap K zs) (e:Ext w w'):ZF w' A n cap K zs:=by
 obtain⟨ms,h1,h2⟩:=h
 exact⟨ms,h1.ext e,h2⟩
theorem ln_eq_zero {x:Int}(h:ln x=0):x=0:=by
 have:=len_wd_zero.1 (show (wd x.natAbs).length=0 from h)
 omega
theorem ln_w64 {x:Nat}(h:x≤18446744073709551615):ln ((x:Nat):Int)≤1:=ln_w1 (by omega) (by omega)
theorem wd_topI {x:Int}(h:x≠0):(wd x.natAbs).getD (ln x-1) 0≠0:=by
 have h1:=db_top (b:=WB) (by decide) x.natAbs
 rw [←wd_db] at h1
 have h2:(wd x.natAbs).length≠0:=fun e=>h (ln_eq_zero e)
 rcases h1 with h1 | h1
 ·exact absurd h1 h2
 ·exact h1
theorem lz4 {w:World}{K b lb g:Nat}{s1 s2 s3 s4:Bool}{A1 A2 A3 A4:Option Addr}{n1 n2 n3 n4 c1 c2 c3 c4:Nat}{x1 x2 x3 x4:Int}(hl:lb≤g)
  (hb:Bk w g 34 [.bool s1,.slice A1 n1 c1,.bool s2,.slice A2 n2 c2,.bool s3,.slice A3 n3 c3,.bool s4,.slice A4 n4 c4]) (h1:Zr w b s1 A1 n1 c1 x1) (h2:Zr w b s2 A2 n2 c2 x2) (h3:Zr w b s3 A3 n3 c3 x3) (h4:Zr w b s4 A4 n4 c4 x4)
  (k1:n1≤K) (k2:n2≤K) (k3:n3≤K) (k4:n4≤K):Lz none K b w lb (some ⟨g,0,none⟩) 4 4 [x1,x2,x3,x4]:=
 ⟨[⟨s1,A1,n1,c1⟩,⟨s2,A2,n2,c2⟩,⟨s3,A3,n3,c3⟩,⟨s4,A4,n4,c4⟩],Own.mk_ hl hb (by decide) (by decide) rfl rfl,rfl,rfl,fun i hi=>by
  match i,hi with
  | 0,_=>exact⟨k1,Or.inl h1⟩
  | 1,_=>exact⟨k2,Or.inl h2⟩
  | 2,_=>exact⟨k3,Or.inl h3⟩
  | 3,_=>exact⟨k4,Or.inl h4⟩⟩
theorem ai_mulI {r c:Int}(hr:0≤r∧r≤64) (hc:0≤c∧c≤64):arB .mul .i64 r c=some (r*c):=by
 obtain⟨a,rfl⟩:∃a:Nat,r=a:=⟨r.toNat,by omega⟩
 obtain⟨d,rfl⟩:∃d:Nat,c=d:=⟨c.toNat,by omega⟩
 have h:=Nat.mul_le_mul (show a≤64 by omega) (show d≤64 by omega)
 rw [ai_mul (a:=a) (b:=d) rfl rfl (by omega),Int.natCast_mul]
theorem UO.refl (A:Option Addr) (w:World):UpdO A w w:=⟨World.grownBy.refl _ _⟩
theorem UO.ext {A:Option Addr}{a w w':World}(h:UpdO A a w) (e:Ext w w'):UpdO A a w':=
 ⟨⟨e.below.os.trans h.by_.os,e.below.tape.trans h.by_.tape,e.below.output.trans h.by_.output,Nat.le_trans h.by_.size e.size,fun k hk hne=>(e.below.block k (Nat.lt_of_lt_of_le hk h.by_.size)).trans (h.by_.block k hk hne)⟩⟩
theorem UO.trans {A:Option Addr}{a w w':World}(h:UpdO A a w) (u:UpdO A w w'):UpdO A a w':=
 ⟨⟨u.by_.os.trans h.by_.os,u.by_.tape.trans h.by_.tape,u.by_.output.trans h.by_.output,Nat.le_trans h.by_.size u.size,fun k hk hne=>(u.by_.block k (Nat.lt_of_lt_of_le hk h.by_.size) hne).trans (h.by_.block k hk hne)⟩⟩
theorem UO.upd {A:Option Addr}{g:Nat}{a w w':World}(h:UpdO A a w) (u:Upd g w w') (hg:a.heap.size≤g):UpdO A a w':=
 ⟨⟨u.by_.os.trans h.by_.os,u.by_.tape.trans h.by_.tape,u.by_.output.trans h.by_.output,Nat.le_trans h.by_.size u.size,fun k hk hne=>(u.by_.block k (Nat.lt_of_lt_of_le hk h.by_.size) (fun e=>by injection e with e;omega)).trans (h.by_.block k hk hne)⟩⟩
def lf (X:Mx) (x:Int) (k:Nat):Mx:=fun i j=>if i=j∧i<k then X i j+x else X i j
theorem lf_0 (X:Mx) (x:Int):lf X x 0=X:=by funext i j;exact if_neg (by omega)
theorem ix_inj {n i j a b:Nat}(hj:j<n) (hb:b<n) (h:i*n+j=a*n+b):i=a∧j=b:=by
 have h1:=ix_div (i:=i) hj
 have h2:=ix_mod (i:=i) hj
 rw [h,ix_div hb] at h1
 rw [h,ix_mod hb] at h2
 exact⟨h1.symm,h2.symm⟩
theorem getD_set {α:Type}{l:List α}{i k:Nat}{a d:α}(hi:i<l.length):(l.set i a).getD k d=if k=i then a else l.getD k d:=by
 by_cases h:k=i
 ·subst h;rw [if_pos rfl,List.getD_eq_getElem?_getD,List.getElem?_set_self hi];rfl
 ·rw [if_neg h,List.getD_eq_getElem?_getD,List.getElem?_set_ne (fun e=>h e.symm),List.getD_eq_getElem?_getD]
theorem lf_step {n k:Nat}{X:Mx}{x:Int}{ys:List Int}(h:En n n (lf X x k) ys) (hk:k<n) (hl:ys.length=n*n):En n n (lf X x (k+1)) (ys.set (k*n+k) (ys.getD (k*n+k) 0+x)):=fun i j hi hj=>by
 rw [getD_set (by rw [hl];exact ix_lt hk hk)]
 by_cases e:i*n+j=k*n+k
 ·obtain⟨rfl,rfl⟩:=ix_inj hj hk e
  rw [if_pos e,h _ _ hi hj]
  unfold lf
  rw [if_neg (by omega),if_pos ⟨rfl,by omega⟩]
 ·rw [if_neg e,h _ _ hi hj]
  unfold lf
  by_cases e2:i=j
  ·subst e2
   have e3:i≠k:=fun e4=>e (by rw [e4])
   by_cases e5:i<k
   ·rw [if_pos ⟨rfl,e5⟩,if_pos ⟨rfl,by omega⟩]
   ·rw [if_neg (by omega),if_neg (by omega)]
  ·rw [if_neg (by omega),if_neg (by omega)]
def Snd (R C:Int) (n:Nat):Prop:=(0≤R∧R≤64)∧(0≤C∧C≤64)∧(n:Int)=R*C
theorem ci_le_t {a b:Int}(h:a≤b):cmpB .leq a b=some true:=by simp only [cmpB,decide_eq_true h]
theorem ci_le_f {a b:Int}(h:¬a≤b):cmpB .leq a b=some false:=by simp only [cmpB,decide_eq_false h]
theorem ci_ge_t {a b:Int}(h:a≥b):cmpB .geq a b=some true:=by simp only [cmpB,decide_eq_true h]
theorem ci_ge_f {a b:Int}(h:¬a≥b):cmpB .geq a b=some false:=by simp only [cmpB,decide_eq_false h]
theorem ci_eq_t {a b:Int}(h:a=b):cmpB .eql a b=some true:=by subst h;simp [cmpB]
theorem ci_eq_f {a b:Int}(h:a≠b):cmpB .eql a b=some false:=by simp [cmpB,h]
theorem ci_ne_t {a b:Int}(h:a≠b):cmpB .neq a b=some true:=by simp [cmpB,h]
theorem ci_ne_f {a b:Int}(h:a=b):cmpB .neq a b=some false:=by subst h;simp [cmpB]
def B1 (b:Nat) (z:Int) (v:Value) (w:World):Prop:=∃g s A n c,v= .slice (some ⟨g,0,none⟩) 1 1∧Bk w g 34 [.bool s,.slice A n c]∧Zr w b s A n c z
def Bld (c q:Nat) (f:Mx) (zs:List Int):Prop:=∀k,k<q→zs.getD k 0=f (k/c) (k%c)
theorem Bld.step {c i j q:Nat}{f:Mx}{zs:List Int}(h:Bld c q f zs) (hq:q=i*c+j) (hj:j<c) (hl:zs.length=q):Bld c (q+1) f (zs++ [f i j]):=fun k hk=>by
 by_cases h1:k<q
 ·rw [getD_app_l (by omega)];exact h k h1
 ·have e:k=zs.length:=by omega
  rw [e,getD_app_m,hl,hq,Nat.mul_comm,Nat.mul_add_div (by omega),Nat.div_eq_of_lt hj,Nat.mul_add_mod,Nat.mod_eq_of_lt hj,Nat.add_zero]
theorem Bld.en {r c q:Nat}{f:Mx}{zs:List Int}(h:Bld c q f zs) (hq:q=r*c):En r c f zs:=fun i j hi hj=>by
 have h1:=Nat.mul_le_mul_right c (show i+1≤r by omega)
 rw [Nat.add_mul] at h1
 rw [h (i*c+j) (by omega),Nat.mul_comm,Nat.mul_add_div (by omega),Nat.div_eq_of_lt hj,Nat.mul_add_mod,Nat.mod_eq_of_lt hj,Nat.add_zero]
theorem ln_m1 (i j:Nat):ln (m1 i j)≤1:=by
 unfold m1;split
 ·exact ln_w1 (by decide) (by decide)
 ·exact Nat.zero_le _
theorem ln_sm {n K:Nat}{f:Nat→Int}(h:∀i,i<n→ln (f i)≤K):ln (sm n f)≤K+n:=by
 induction n with
 | zero=>exact Nat.zero_le _
 | succ n ih=>exact Nat.le_trans (ln_add (ih fun i hi=>h i (by omega)) (Nat.le_trans (h n (by omega)) (Nat.le_add_right K n))) (by omega)
theorem En.ln {r c:Nat}{f:Mx}{zs:List Int}{w:World}{A:Option Addr}{n cap K:Nat}(h:En r c f zs) (hz:ZF w A n cap K zs){i j:Nat}(hi:i<r) (hj:j<c):ln (f i j)≤K:=by
 rw [←h i j hi hj];exact hz.ln _
theorem ln_part {m k K L:Nat}{X Y:Mx}{i j:Nat}(hX:∀l,l<m→ln (X i l)≤K) (hY:∀l,l<m→ln (Y l j)≤L) (hk:k≤m):ln (sm k fun l=>X i l*Y l j)≤K+L+k:=ln_sm fun l hl=>ln_mul (hX l (by omega)) (hY l (by omega))
theorem ln_mm {n K L:Nat}{A B:Mx}{i j:Nat}(h:∀k,k<n→ln (A i k)≤K) (h':∀k,k<n→ln (B k j)≤L):ln (mm n A B i j)≤K+L+n:=ln_sm fun k hk=>ln_mul (h k hk) (h' k hk)
end Go.Proofs.Ytnpbbknemflpnaa

namespace Go.Proofs.Ytnpbbknemflpnaa
open Go.ChangeShapes Go.WideShapes Go.ChangeAt Go.RowKit
set_option maxRecDepth 20000 in
theorem open_zlcm {H:Type}{enc:TypeId×Value→H}{W:World}{v:Value}{d:DataW H}{p:List MemPlace}{fuel:Nat}
  (hf:DataW.trod enc Try.prog W 0 (fun _=>true) true fuel 22 [v]=some (d,p)):
  ∃A n cap zs ms,v= .slice A n cap∧Zl W A n cap zs ms∧n+ms.sum≤Rows.uptoBulk d:=by
 rcases Go.Deep.open_slice Try.underlying22 hf with⟨hcs,hx⟩ | ⟨a,n,cap,m,k,D,Pl,hcs,_,hl,hm,hmm,hx,hi⟩
 ·obtain rfl:=List.singleton_inj.1 hcs
  exact⟨none,0,0,[],[],rfl,⟨rfl,rfl,Nat.le_refl _,by decide,fun i hi=>by omega⟩,by simp⟩
 ·obtain rfl:=List.singleton_inj.1 hcs
  simp only [if_true] at hmm
  have hmm':=hmm.symm
  subst hmm'
  simp only [Prod.mk.injEq] at hx
  obtain⟨rfl,rfl⟩:=hx
  rw [cells_int] at hi
  have hel:∀i,i<cap→∃(q:Bool×Option Addr×Nat×Nat×Int),W.cell? (a.add (i*2))=some (.bool q.1)∧W.cell? (a.add (i*2+1))=some (.slice q.2.1 q.2.2.1 q.2.2.2.1)∧Zi W q.1 q.2.1 q.2.2.1 q.2.2.2.1 q.2.2.2.2∧q.2.2.1+1≤Rows.uptoBulk (D i):=by
   intro i him
   obtain⟨cs',hc,ht'⟩:=hi i him
   obtain⟨_,hcl,hat⟩:=World.cells?_some hc
   obtain⟨c0,c1,rfl⟩:=elem_len hcl
   have ht2:DataW.trod enc Try.prog W 0 (fun _=>true) true k 34 [c0,c1]=some (D i,Pl i):=ht'
   obtain⟨s,B,nb,c,z,rfl,rfl,hz,hb,rx⟩:=open_zcells ht2
   refine⟨(s,B,nb,c,z),?_,?_,hz,hb⟩
   ·have:=hat 0 (by simp)
    simpa [Go.Deep.add_add] using this
   ·have:=hat 1 (by simp)
    simpa [Go.Deep.add_add] using this
  obtain⟨Q,hQ⟩:=Go.Deep.choose_lt hel
  refine⟨some a,n,cap,(List.range n).map (fun i=>(Q i).2.2.2.2),(List.range n).map (fun i=>(Q i).2.2.1),rfl,⟨by simp,by simp,hl,hm,fun i hin=>?_⟩,?_⟩
  ·obtain⟨h1,h2,h3,_⟩:=hQ i (by omega)
   have e1:((List.range n).map (fun i=>(Q i).2.2.1)).getD i 0=(Q i).2.2.1:=by simp [List.getD_eq_getElem?_getD,hin]
   have e2:((List.range n).map (fun i=>(Q i).2.2.2.2)).getD i 0=(Q i).2.2.2.2:=by simp [List.getD_eq_getElem?_getD,hin]
   rw [e1,e2]
   exact⟨a,_,_,_,rfl,h1,h2,h3⟩
  ·have:=sum_map_le D (fun i=>(Q i).2.2.1) n (fun i hin=>(hQ i (by omega)).2.2.2)
   simp only [Rows.uptoBulk]
   omega
theorem three_m {α:Type}{l:List α}(h:l.length=3):∃a b c,l= [a,b,c]:=by
 match l,h with
 | [a,b,c],_=>exact⟨a,b,c,rfl⟩
theorem fields_mat:∃f0 f1 f2:Field,Try.prog.underlying 24=some (.struct #[f0,f1,f2])∧f0.type=3∧f0.offset=0∧f1.type=3∧f1.offset=1∧f2.type=22∧f2.offset=2:=
 ⟨_,_,_,Try.underlying24,rfl,rfl,rfl,rfl,rfl,rfl⟩
theorem cells_mat:Try.prog.cellsOf 24=3:=by kernel_rfl
theorem cells_im:Try.prog.cellsOf 3=1:=by kernel_rfl
theorem cells_lm:Try.prog.cellsOf 22=1:=by kernel_rfl
set_option maxRecDepth 20000 in
theorem open_mat {H:Type}{enc:TypeId×Value→H}{W:World}{base:Nat}{v:Value}{d:DataW H}{p:List MemPlace}
  (hval:Value.okWide Try.prog W .any base 24 v) (h:DataW.Trod enc Try.prog W 0 (fun _=>true) true 24 v d p):
  ∃(R C:Int) (A:Option Addr) (n c:Nat) (zs:List Int) (ms:List Nat),v= .agg #[.int .i64 R,.int .i64 C,.slice A n c]∧Zl W A n c zs ms∧n+ms.sum≤Rows.uptoBulk d:=by
 obtain⟨f0,f1,f2,hu,t0,o0,t1,o1,t2,o2⟩:=fields_mat
 obtain⟨fuel,hf0⟩:=h
 obtain⟨ys,n,_,hx,hcl,hyl,hf⟩:=DataW.trod_struct hu hf0
 rw [cells_mat] at hcl
 obtain⟨c0,c1,c2,hcs⟩:=three_m hcl
 obtain⟨y0,y1,y2,rfl⟩:=three_m (show ys.length=3 from hyl)
 obtain⟨vs,rfl⟩:∃vs:Array Value,v= .agg vs:=by
  obtain⟨cs,h1,_⟩:=okWide_struct hu hval
  exact⟨cs,h1⟩
 have hvs:vs.toList= [c0,c1,c2]:=hcs
 obtain rfl:vs= #[c0,c1,c2]:=by
  have:=congrArg List.toArray hvs
  simpa using this
 have g0:=hf 0 f0 rfl
 have g1:=hf 1 f1 rfl
 have g2:=hf 2 f2 rfl
 rw [t0,o0,cells_im] at g0
 rw [t1,o1,cells_im] at g1
 rw [t2,o2,cells_lm] at g2
 obtain⟨R,hR,_,_⟩:=DataW.trod_int Try.underlying3 (show DataW.trod enc Try.prog W 0 (fun _=>true) true n 3 [c0]=some y0 from g0)
 obtain⟨C,hC,_,_⟩:=DataW.trod_int Try.underlying3 (show DataW.trod enc Try.prog W 0 (fun _=>true) true n 3 [c1]=some y1 from g1)
 obtain⟨A,m,cap,zs,ms,rfl,hx2,hb2⟩:=open_zlcm (d:=y2.1) (p:=y2.2) (show DataW.trod enc Try.prog W 0 (fun _=>true) true n 22 [c2]=some y2 from g2)
 obtain rfl:=List.singleton_inj.1 hR
 obtain rfl:=List.singleton_inj.1 hC
 simp only [Prod.mk.injEq] at hx
 obtain⟨rfl,_⟩:=hx
 refine⟨R,C,A,m,cap,zs,ms,rfl,hx2,?_⟩
 simp only [Rows.uptoBulk,List.map_cons,Rows.uptoBulkAll]
 omega
theorem Zl.mat {w:World}{A:Option Addr}{n c K:Nat}{zs:List Int}{ms:List Nat}(h:Zl w A n c zs ms) (hb:n+ms.sum≤K):ZF w A n c K zs:=⟨ms,h,fun i=>Nat.le_trans (getD_le_sum ms i) (by omega)⟩
end Go.Proofs.Ytnpbbknemflpnaa

namespace Go.Proofs.Ytnpbbknemflpnaa
def pm:Nat→Int
 | 0=>1
 | i+1=> -pm i
def sk (i r:Nat):Nat:=if r<i then r else r+1
def mi (A:Mx) (i:Nat):Mx:=fun r c=>A (sk i r) (c+1)
def dt:Nat→Mx→Int
 | 0,_=>1
 | n+1,A=>sm (n+1) fun i=>pm i*(A i 0*dt n (mi A i))
def srw (A:Mx) (r:Nat) (u:Nat→Int):Mx:=fun i j=>if i=r then u j else A i j
theorem srw_at (A:Mx) (r:Nat) (u:Nat→Int) (j:Nat):srw A r u r j=u j:=if_pos rfl
theorem srw_ne (A:Mx){r i:Nat}(u:Nat→Int) (j:Nat) (h:i≠r):srw A r u i j=A i j:=if_neg h
theorem sk_lt {i r n:Nat}(hr:r<n):sk i r<n+1:=by unfold sk;split <;> omega
theorem dt_congr {n:Nat}{A B:Mx}(h:∀i j,i<n→j<n→A i j=B i j):dt n A=dt n B:=by
 induction n generalizing A B with
 | zero=>rfl
 | succ n ih=>
  refine sm_congr fun i hi=>?_
  rw [h i 0 hi (by omega),ih (A:=mi A i) (B:=mi B i) fun r c hr hc=>h _ _ (sk_lt hr) (by omega)]
structure Alt (n:Nat) (F:Mx→Int):Prop where
 congr:∀A B:Mx,(∀i j,i<n→j<n→A i j=B i j)→F A=F B
 lin:∀(A:Mx) (r:Nat) (x:Int) (u v:Nat→Int),r<n→F (srw A r fun j=>x*u j+v j)=x*F (srw A r u)+F (srw A r v)
 alt:∀(A:Mx) (r s:Nat),r<s→s<n→(∀j,j<n→A r j=A s j)→F A=0
section
variable {n:Nat}{F:Mx→Int}
theorem srw_self (A:Mx) (r:Nat):srw A r (A r)=A:=by
 funext i j;unfold srw;split
 ·next h=>rw [h]
 ·rfl
theorem Alt.row0 (h:Alt n F) (A:Mx){r:Nat}(hr:r<n):F (srw A r fun _=>0)=0:=by
 have:=h.lin A r 1 (fun _=>0) (fun _=>0) hr
 simp only [Int.mul_zero,Int.add_zero] at this
 omega
theorem Alt.sum (h:Alt n F) (A:Mx){r:Nat}(hr:r<n) (m:Nat) (c:Nat→Int) (U:Nat→Nat→Int):F (srw A r fun j=>sm m fun l=>c l*U l j)=sm m fun l=>c l*F (srw A r (U l)):=by
 induction m with
 | zero=>exact h.row0 A hr
 | succ m ih=>
  have e:(fun j=>sm (m+1) fun l=>c l*U l j)=fun j=>c m*U m j+sm m fun l=>c l*U l j:=by
   funext j;exact Int.add_comm _ _
  rw [e,h.lin A r _ _ _ hr,ih];simp only [sm];omega
theorem Alt.of_adj (hc:∀A B:Mx,(∀i j,i<n→j<n→A i j=B i j)→F A=F B)
  (hl:∀(A:Mx) (r:Nat) (x:Int) (u v:Nat→Int),r<n→F (srw A r fun j=>x*u j+v j)=x*F (srw A r u)+F (srw A r v))
  (ha:∀(A:Mx) (r:Nat),r+1<n→(∀j,j<n→A r j=A (r+1) j)→F A=0):Alt n F:=by
 have hs:∀(A:Mx) (r:Nat),r+1<n→F (srw (srw A r (A (r+1))) (r+1) (A r))= -F A:=fun A r hr=>by
  let D:=fun (u v:Nat→Int)=>F (srw (srw A r u) (r+1) v)
  have l2:∀u v v',D u (fun j=>1*v j+v' j)=D u v+D u v':=fun u v v'=>by
   have:=hl (srw A r u) (r+1) 1 v v' hr
   rw [Int.one_mul] at this
   exact this
  have sw:∀u v,srw (srw A r u) (r+1) v=srw (srw A (r+1) v) r u:=fun u v=>by
   funext i j;unfold srw;split <;> (try split) <;> (first | omega | rfl)
  have l1:∀u u' v,D (fun j=>1*u j+u' j) v=D u v+D u' v:=fun u u' v=>by
   show F _=F _+F _
   rw [sw,sw,sw,hl _ r 1 u u' (by omega),Int.one_mul]
  have z:∀u,D u u=0:=fun u=>ha _ r hr fun j _=>by
   rw [srw_at,srw_ne _ _ _ (by omega),srw_at]
  have a:=z (fun j=>1*A r j+A (r+1) j)
  rw [l1,l2,l2,z,z] at a
  have b:D (A r) (A (r+1))=F A:=by
   show F _=_
   congr 1
   funext i j;unfold srw;split
   ·next h=>rw [h]
   ·split
    ·next h=>rw [h]
    ·rfl
  have c:F (srw (srw A r (A (r+1))) (r+1) (A r))=D (A (r+1)) (A r):=rfl
  rw [c];omega
 refine⟨hc,hl,fun A r s hrs hsn he=>?_⟩
 obtain⟨k,rfl⟩:∃k,s=r+1+k:=⟨s-(r+1),by omega⟩
 clear hrs
 induction k generalizing A with
 | zero=>exact ha A r hsn he
 | succ k ih=>
  have:=hs A (r+1+k) hsn
  have h2:=ih (srw (srw A (r+1+k) (A (r+1+k+1))) (r+1+k+1) (A (r+1+k))) (by omega) fun j hj=>by
   rw [srw_ne _ _ _ (by omega),srw_ne _ _ _ (by omega),srw_ne _ _ _ (by omega),srw_at]
   exact he j hj
  omega
theorem Alt.swap (h:Alt n F) (A:Mx){r s:Nat}(hr:r<n) (hs:s<n) (hne:r≠s):F (srw (srw A r (A s)) s (A r))= -F A:=by
 let D:=fun (u v:Nat→Int)=>F (srw (srw A r u) s v)
 have l2:∀u v v',D u (fun j=>1*v j+v' j)=D u v+D u v':=fun u v v'=>by
  have:=h.lin (srw A r u) s 1 v v' hs
  rw [Int.one_mul] at this
  exact this
 have sw:∀u v,srw (srw A r u) s v=srw (srw A s v) r u:=fun u v=>by
  funext i j;unfold srw;split <;> (try split) <;> (first | omega | rfl)
 have l1:∀u u' v,D (fun j=>1*u j+u' j) v=D u v+D u' v:=fun u u' v=>by
  show F _=F _+F _
  rw [sw,sw,sw,h.lin _ r 1 u u' hr,Int.one_mul]
 have z:∀u,D u u=0:=fun u=>by
  by_cases hlt:r<s
  ·exact h.alt _ r s hlt hs fun j _=>by rw [srw_at,srw_ne _ _ _ hne,srw_at]
  ·exact h.alt _ s r (by omega) hr fun j _=>by rw [srw_at,srw_ne _ _ _ hne,srw_at]
 have a:=z (fun j=>1*A r j+A s j)
 rw [l1,l2,l2,z,z] at a
 have b:D (A r) (A s)=F A:=by
  show F _=_
  congr 1
  funext i j;unfold srw;split
  ·next h=>rw [h]
  ·split
   ·next h=>rw [h]
   ·rfl
 have c:F (srw (srw A r (A s)) s (A r))=D (A s) (A r):=rfl
 rw [c];omega
theorem Alt.add (h:Alt n F) (A:Mx){r:Nat}(hr:r<n) (x:Int) (m:Nat) (y:Nat→Int) (ρ:Nat→Nat) (hρ:∀l,l<m→ρ l<n∧ρ l≠r):F (srw A r fun j=>x*A r j+sm m fun l=>y l*A (ρ l) j)=x*F A:=by
 rw [h.lin A r x (A r) _ hr,srw_self,h.sum A hr m y (fun l j=>A (ρ l) j)]
 have:(sm m fun l=>y l*F (srw A r fun j=>A (ρ l) j))=0:=by
  rw [←sm_zero m]
  refine sm_congr fun l hl=>?_
  obtain⟨h1,h2⟩:=hρ l hl
  have:F (srw A r fun j=>A (ρ l) j)=0:=by
   by_cases hlt:r<ρ l
   ·exact h.alt _ r (ρ l) hlt h1 fun j _=>by rw [srw_at,srw_ne _ _ _ h2]
   ·exact h.alt _ (ρ l) r (by omega) hr fun j _=>by rw [srw_at,srw_ne _ _ _ h2]
  rw [this,Int.mul_zero]
 rw [this];omega
def ef (f:Nat→Nat):Mx:=fun i j=>if f i=j then 1 else 0
theorem pigeon:∀(n:Nat) (f:Nat→Nat),(∀i,i<n+1→f i<n)→∃i j,i<j∧j<n+1∧f i=f j
 | 0,f,h=>absurd (h 0 (by omega)) (by omega)
 | n+1,f,h=>by
  by_cases he:∃i,i<n+1∧f i=f (n+1)
  ·obtain⟨i,hi,e⟩:=he;exact⟨i,n+1,hi,by omega,e⟩
  ·obtain⟨i,j,hij,hj,e⟩:=pigeon n (fun i=>if f i=n then f (n+1) else f i) fun i hi=>by
    have h1:=h i (by omega)
    have h2:=h (n+1) (by omega)
    have h3:f i≠f (n+1):=fun e=>he ⟨i,hi,e⟩
    show (if f i=n then f (n+1) else f i)<n
    split <;> omega
   refine⟨i,j,hij,by omega,?_⟩
   have h3:f i≠f (n+1):=fun e=>he ⟨i,by omega,e⟩
   have h4:f j≠f (n+1):=fun e=>he ⟨j,by omega,e⟩
   split at e <;> split at e <;> omega
theorem Alt.ef0 (h : Alt n F) (h0 : F m1 = 0) : ∀ (k : Nat), k ≤ n → ∀ f : Nat → Nat, (∀ i, i < n → f i < n) → (∀ i, i < n - k → f i = i) → F (ef f) = 0
  | 0, _, f, _, hi => by
    rw [h.congr _ m1 fun i j h1 _ => by unfold ef m1; rw [hi i (by omega)]]; exact h0
  | k + 1, hk, f, hf, hi => by
    by_cases he : f (n - (k + 1)) = n - (k + 1)
    · exact Alt.ef0 h h0 k (by omega) f hf fun i h1 => by
        by_cases e : i = n - (k + 1)
        · subst e; exact he
        · exact hi i (by omega)
    by_cases hs : ∃ s, n - (k + 1) < s ∧ s < n ∧ f s = n - (k + 1)
    · obtain ⟨s, h1, h2, h3⟩ := hs
      have hw := h.swap (ef f) (show n - (k + 1) < n by omega) h2 (by omega)
      have h4 := Alt.ef0 h h0 k (by omega) (fun i => if i = n - (k + 1) then f s else if i = s then f (n - (k + 1)) else f i) (fun i h1 => by
        show (if i = n - (k + 1) then f s else if i = s then f (n - (k + 1)) else f i) < n
        split
        · exact hf s h2
        · split
          · exact hf _ (by omega)
          · exact hf i h1) (fun i h1 => by
        show (if i = n - (k + 1) then f s else if i = s then f (n - (k + 1)) else f i) = i
        split
        · omega
        · rw [if_neg (by omega)]; exact hi i (by omega))
      have e : srw (srw (ef f) (n - (k + 1)) (ef f s)) s (ef f (n - (k + 1))) = ef (fun i => if i = n - (k + 1) then f s else if i = s then f (n - (k + 1)) else f i) := by
        funext i j
        unfold srw
        by_cases h5 : i = s
        · rw [if_pos h5]
          show (if f (n - (k + 1)) = j then (1 : Int) else 0) = if (if i = n - (k + 1) then f s else if i = s then f (n - (k + 1)) else f i) = j then 1 else 0
          rw [if_neg (show ¬ i = n - (k + 1) by omega), if_pos h5]
        · rw [if_neg h5]
          show _ = if (if i = n - (k + 1) then f s else if i = s then f (n - (k + 1)) else f i) = j then (1 : Int) else 0
          by_cases h6 : i = n - (k + 1)
          · rw [if_pos h6, if_pos h6]; rfl
          · rw [if_neg h6, if_neg h6, if_neg h5]; rfl
      rw [e, h4] at hw
      omega
    · -- none goes there: two go to one place
      obtain ⟨i, j, hij, hj, e⟩ := pigeon (n - 1) (fun i => if f i = n - 1 then n - (k + 1) else f i) fun i h1 => by
        have h2 := hf i (by omega)
        show (if f i = n - 1 then n - (k + 1) else f i) < n - 1
        split
        · next h3 =>
          by_cases h4 : k = 0
          · subst h4
            exfalso
            by_cases h5 : i = n - 1
            · subst h5; exact he h3
            · have := hi i (by omega); omega
          · omega
        · omega
      have hne : ∀ t, t < n → f t ≠ n - (k + 1) := fun t ht e => by
        by_cases h1 : t < n - (k + 1)
        · have := hi t h1; omega
        · by_cases h2 : t = n - (k + 1)
          · subst h2; exact he e
          · exact hs ⟨t, by omega, ht, e⟩
      refine h.alt _ i j hij (by omega) fun c _ => ?_
      have e' : f i = f j := by
        have h1 := hne i (by omega)
        have h2 := hne j (by omega)
        split at e <;> split at e <;> omega
      unfold ef
      rw [e']
theorem Alt.zero (h:Alt n F) (h0:F m1=0):∀(k:Nat),k≤n→∀(A:Mx) (f:Nat→Nat),(∀i,i<n→f i<n)→(∀i j,k≤i→i<n→j<n→A i j=ef f i j)→F A=0
 | 0,_,A,f,hf,ha=>by
  rw [h.congr A (ef f) fun i j hi hj=>ha i j (by omega) hi hj]
  exact h.ef0 h0 n (by omega) f hf fun i hi=>by omega
 | k+1,hk,A,f,hf,ha=>by
  have e:F A=F (srw A k fun j=>sm n fun l=>A k l*ef (fun _=>l) 0 j):=h.congr _ _ fun i j hi hj=>by
   by_cases h1:i=k
   ·subst h1
    rw [srw_at]
    have:(sm n fun l=>A i l*ef (fun _=>l) 0 j)=sm n fun l=>if l=j then A i l else 0:=sm_congr fun l _=>by
     unfold ef;split <;> omega
    rw [this,sm_at hj]
   ·rw [srw_ne _ _ _ h1]
  rw [e,h.sum A (by omega) n (A k) (fun l=>ef (fun _=>l) 0),←sm_zero n]
  refine sm_congr fun l hl=>?_
  rw [Alt.zero h h0 k (by omega) _ (fun i=>if i=k then l else f i) (fun i hi=>by
   show (if i=k then l else f i)<n
   split
   ·exact hl
   ·exact hf i hi) (fun i j h1 hi hj=>by
   by_cases h2:i=k
   ·subst h2;rw [srw_at];show _=if (if i=i then l else f i)=j then (1:Int) else 0;rw [if_pos rfl];rfl
   ·rw [srw_ne _ _ _ h2,ha i j (by omega) hi hj];show _=if (if i=k then l else f i)=j then (1:Int) else 0;rw [if_neg h2];rfl),Int.mul_zero]
end
theorem mi_sr_at (A:Mx) (r:Nat) (u:Nat→Int):mi (srw A r u) r=mi A r:=by
 funext i j;unfold mi;exact srw_ne _ _ _ (by unfold sk;split <;> omega)
theorem mi_sr_lt (A:Mx){r i:Nat}(u:Nat→Int) (h:r<i):mi (srw A r u) i=srw (mi A i) r (fun j=>u (j+1)):=by
 funext a b;unfold mi srw sk
 by_cases e:a=r
 ·subst e;rw [if_pos h,if_pos rfl,if_pos rfl]
 ·rw [if_neg e];rw [if_neg];split <;> omega
theorem mi_sr_gt (A:Mx){r i:Nat}(u:Nat→Int) (h:i<r):mi (srw A r u) i=srw (mi A i) (r-1) (fun j=>u (j+1)):=by
 funext a b;unfold mi srw sk
 by_cases e:a=r-1
 ·subst e;rw [if_neg (show¬r-1<i by omega),if_pos (by omega),if_pos rfl]
 ·rw [if_neg e];rw [if_neg];split <;> omega
theorem dt_lin:∀(n:Nat) (A:Mx) (r:Nat) (x:Int) (u v:Nat→Int),r<n→dt n (srw A r fun j=>x*u j+v j)=x*dt n (srw A r u)+dt n (srw A r v)
 | 0,_,r,_,_,_,h=>by omega
 | n+1,A,r,x,u,v,h=>by
  simp only [dt]
  rw [←sm_mul,←sm_add]
  refine sm_congr fun i hi=>?_
  by_cases e:i=r
  ·subst e
   rw [mi_sr_at,mi_sr_at,mi_sr_at,srw_at,srw_at,srw_at];grind
  ·rw [srw_ne _ _ _ e,srw_ne _ _ _ e,srw_ne _ _ _ e]
   by_cases hlt:r<i
   ·rw [mi_sr_lt _ _ hlt,mi_sr_lt _ _ hlt,mi_sr_lt _ _ hlt,dt_lin n (mi A i) r x _ _ (by omega)];grind
   ·rw [mi_sr_gt _ _ (show i<r by omega),mi_sr_gt _ _ (show i<r by omega),mi_sr_gt _ _ (show i<r by omega),dt_lin n (mi A i) (r-1) x _ _ (by omega)];grind
theorem sm_two {n r:Nat}(h:r+1<n) (f:Nat→Int) (h0:∀i,i<n→i≠r→i≠r+1→f i=0):sm n f=f r+f (r+1):=by
 rw [sm_congr (g:=fun i=>(if i=r then f i else 0)+if i=r+1 then f i else 0) (fun i hi=>by
  by_cases e:i=r
  ·subst e;rw [if_pos rfl,if_neg (by omega)];omega
  ·by_cases e2:i=r+1
   ·subst e2;rw [if_neg e,if_pos rfl];omega
   ·rw [if_neg e,if_neg e2,h0 i hi e e2];rfl),sm_add,sm_at (by omega),sm_at h]
theorem dt_adj:∀(n:Nat) (A:Mx) (r:Nat),r+1<n→(∀j,j<n→A r j=A (r+1) j)→dt n A=0
 | 0,_,r,h,_=>by omega
 | n+1,A,r,h,he=>by
  simp only [dt]
  rw [sm_two h _ fun i hi h1 h2=>?_]
  ·have e:dt n (mi A r)=dt n (mi A (r+1)):=dt_congr fun i j hi hj=>by
    unfold mi sk
    by_cases h3:i<r
    ·rw [if_pos h3,if_pos (by omega)]
    ·by_cases h4:i=r
     ·subst h4;rw [if_neg h3,if_pos (by omega)];exact (he (j+1) (by omega)).symm
     ·rw [if_neg h3,if_neg (by omega)]
   rw [e,he 0 (by omega)];simp only [pm];rw [Int.neg_mul];omega
  ·have:dt n (mi A i)=0:=by
    by_cases h3:i<r
    ·refine dt_adj n (mi A i) (r-1) (by omega) fun j hj=>?_
     unfold mi sk
     rw [if_neg (by omega),if_neg (by omega),show r-1+1=r by omega];exact he (j+1) (by omega)
    ·refine dt_adj n (mi A i) r (by omega) fun j hj=>?_
     unfold mi sk
     rw [if_pos (by omega),if_pos (by omega)];exact he (j+1) (by omega)
   rw [this,Int.mul_zero,Int.mul_zero]
theorem dt_alt (n:Nat):Alt n (dt n):=Alt.of_adj (fun _ _ h=>dt_congr h) (fun A r x u v h=>dt_lin n A r x u v h) (fun A r h he=>dt_adj n A r h he)
theorem dt_one:∀n,dt n m1=1
 | 0=>rfl
 | n+1=>by
  simp only [dt]
  rw [sm_front,sm_congr (g:=fun _=>0) (fun i _=>by
   have:m1 (i+1) 0=0:=if_neg (by omega)
   rw [this];grind),sm_zero]
  have e:mi m1 0=m1:=by
   funext a b;unfold mi sk m1
   rw [if_neg (show¬a<0 by omega)]
   by_cases h:a=b
   ·rw [if_pos h,if_pos (by omega)]
   ·rw [if_neg h,if_neg (by omega)]
  rw [e,dt_one n];rfl
theorem Alt.eq {n:Nat}{F:Mx→Int}(h:Alt n F) (A:Mx):F A=dt n A*F m1:=by
 have hd:=dt_alt n
 have h2:Alt n (fun A=> -F m1*dt n A+F A):=⟨fun A B e=>by show _=_;rw [hd.congr A B e,h.congr A B e],
  fun A r x u v hr=>by show _*_+_=x*(_*_+_)+(_*_+_);rw [hd.lin A r x u v hr,h.lin A r x u v hr];grind,
  fun A r s h1 h2 he=>by show _*_+_=_;rw [hd.alt A r s h1 h2 he,h.alt A r s h1 h2 he];omega⟩
 have:=h2.zero (by show-F m1*dt n m1+F m1=0;rw [dt_one];omega) n (by omega) A id (fun i hi=>hi) (fun i j h1 h2=>by omega)
 have e: -F m1*dt n A+F A=0:=this
 rw [Int.neg_mul] at e
 rw [Int.mul_comm];omega
def tq (A:Mx):Mx:=fun i j=>A j i
theorem dt_collin:∀(n:Nat) (A:Mx) (r:Nat) (x:Int) (u v:Nat→Int),r<n→dt n (tq (srw A r fun j=>x*u j+v j))=x*dt n (tq (srw A r u))+dt n (tq (srw A r v))
 | 0,_,r,_,_,_,h=>by omega
 | n+1,A,r,x,u,v,h=>by
  simp only [dt]
  rw [←sm_mul,←sm_add]
  refine sm_congr fun i hi=>?_
  cases r with
  | zero=>
   have e:∀w:Nat→Int,mi (tq (srw A 0 w)) i=mi (tq A) i:=fun w=>by
    funext a b;unfold mi tq;exact srw_ne _ _ _ (by omega)
   rw [e,e,e]
   show _*((x*u i+v i)*_)=x*(_*(u i*_))+_*(v i*_)
   grind
  | succ r=>
   have e:∀w:Nat→Int,mi (tq (srw A (r+1) w)) i=tq (srw (tq (mi (tq A) i)) r fun j=>w (sk i j)):=fun w=>by
    funext a b
    show srw A (r+1) w (b+1) (sk i a)=srw (tq (mi (tq A) i)) r (fun j=>w (sk i j)) b a
    by_cases h:b=r
    ·subst h;rw [srw_at,srw_at]
    ·rw [srw_ne _ _ _ (by omega),srw_ne _ _ _ h];rfl
   have e0:∀w:Nat→Int,tq (srw A (r+1) w) i 0=A 0 i:=fun w=>srw_ne _ _ _ (by omega)
   rw [e,e,e,e0,e0,e0,dt_collin n _ r x (fun j=>u (sk i j)) (fun j=>v (sk i j)) (by omega)];grind
theorem sk_sk {p q r:Nat}(h:p<q):sk q (sk p r)=sk p (sk (q-1) r):=by
 unfold sk
 by_cases h1:r<p
 ·rw [if_pos h1,if_pos (show r<q by omega),if_pos (show r<q-1 by omega),if_pos h1]
 ·rw [if_neg h1]
  by_cases h2:r+1<q
  ·rw [if_pos h2,if_pos (show r<q-1 by omega),if_neg h1]
  ·rw [if_neg h2,if_neg (show¬r<q-1 by omega),if_neg (show¬r+1<p by omega)]
theorem pm_add (i j:Nat):pm (i+j)=pm i*pm j:=by
 induction j with
 | zero=>simp [pm]
 | succ j ih=>rw [←Nat.add_assoc,pm,ih,pm,Int.mul_neg]
theorem dt_col01 (n:Nat) (A:Mx) (h:∀i,i<n+2→A i 0=A i 1):dt (n+2) A=0:=by
 let g:=fun p q=>pm (p+q)*(A p 0*A q 0*dt n fun r c=>A (sk q (sk p r)) (c+2))
 have e1:dt (n+2) A=sm (n+2) fun i=>sm (n+1) fun k=>pm i*(A i 0*(pm k*(A (sk i k) 0*dt n fun r c=>A (sk i (sk k r)) (c+2)))):=by
  rw [dt]
  refine sm_congr fun i hi=>?_
  rw [dt,←sm_mul,←sm_mul]
  refine sm_congr fun k hk=>?_
  have:mi A i k 0=A (sk i k) 0:=(h _ (sk_lt hk)).symm
  rw [this];rfl
 have e2:∀i,i<n+2→(sm (n+1) fun k=>pm i*(A i 0*(pm k*(A (sk i k) 0*dt n fun r c=>A (sk i (sk k r)) (c+2)))))=(sm (n+2) fun k=>if k<i then g k i else 0)+ -1*sm (n+2) fun l=>if i<l then g i l else 0:=fun i hi=>by
  have h1:(sm (n+2) fun k=>if k<i then g k i else 0)=sm (n+1) fun k=>if k<i then g k i else 0:=by
   show _+(if n+1<i then g (n+1) i else 0)=_
   rw [if_neg (by omega)];omega
  rw [h1,sm_front (n+1) fun l=>if i<l then g i l else 0,if_neg (by omega),Int.zero_add,←sm_mul,←sm_add]
  refine sm_congr fun k hk=>?_
  by_cases hlt:k<i
  ·rw [if_pos hlt,if_neg (by omega)]
   have:sk i k=k:=if_pos hlt
   rw [this]
   show _=pm (k+i)*_+_
   rw [pm_add];grind
  ·rw [if_neg hlt,if_pos (by omega)]
   have h2:sk i k=k+1:=if_neg hlt
   have h3:(fun r c=>A (sk i (sk k r)) (c+2))=fun r c=>A (sk (k+1) (sk i r)) (c+2):=by
    funext r c
    rw [sk_sk (show i<k+1 by omega)];rfl
   rw [h2,h3]
   show _=0+ -1*(pm (i+(k+1))*_)
   rw [pm_add];simp only [pm];grind
 rw [e1,sm_congr e2,sm_add,sm_mul,sm_swap];omega
theorem dt_coladj:∀(n:Nat) (A:Mx) (r:Nat),r+1<n→(∀i,i<n→A i r=A i (r+1))→dt n A=0
 | 0,_,r,h,_=>by omega
 | 1,_,r,h,_=>by omega
 | n+2,A,0,_,he=>dt_col01 n A he
 | n+2,A,r+1,h,he=>by
  rw [dt,←sm_zero (n+2)]
  refine sm_congr fun i hi=>?_
  rw [dt_coladj (n+1) (mi A i) r (by omega) fun a ha=>he _ (sk_lt ha)];grind
theorem dt_talt (n:Nat):Alt n (fun A=>dt n (tq A)):=
 Alt.of_adj (fun _ _ h=>dt_congr fun i j hi hj=>h j i hj hi) (fun A r x u v h=>dt_collin n A r x u v h) (fun A r h he=>dt_coladj n (tq A) r h fun i hi=>he i hi)
theorem dt_tq (n:Nat) (A:Mx):dt n (tq A)=dt n A:=by
 have:=(dt_talt n).eq A
 have e:tq m1=m1:=by
  funext i j
  show (if j=i then (1:Int) else 0)=if i=j then 1 else 0
  by_cases h:i=j
  ·rw [if_pos h,if_pos h.symm]
  ·rw [if_neg h,if_neg (fun e=>h e.symm)]
 simp only [e,dt_one,Int.mul_one] at this
 exact this
theorem dt_corner:∀(k:Nat) (A:Mx),(∀j,j<k→A k j=0)→dt (k+1) A=A k k*dt k A
 | 0,A,_=>by simp [dt,sm,pm]
 | k+1,A,h=>by
  have e0:dt (k+2) A=(sm (k+1) fun i=>pm i*(A i 0*dt (k+1) (mi A i)))+pm (k+1)*(A (k+1) 0*dt (k+1) (mi A (k+1))):=rfl
  have:∀i,i<k+1→pm i*(A i 0*dt (k+1) (mi A i))=A (k+1) (k+1)*(pm i*(A i 0*dt k (mi A i))):=fun i hi=>by
   have e:mi A i k=fun c=>A (k+1) (c+1):=by
    funext c;unfold mi sk;rw [if_neg (by omega)]
   rw [dt_corner k (mi A i) fun j hj=>by rw [e];exact h (j+1) (by omega),e];grind
  rw [e0,h 0 (by omega),sm_congr this,sm_mul,Int.zero_mul,Int.mul_zero,Int.add_zero];rfl
def bord (P:Mx) (k i j:Nat):Mx:=fun r c=>P (if r<k then r else i) (if c<k then c else j)
def bm (P:Mx) (k i j:Nat):Int:=dt (k+1) (bord P k i j)
theorem bm_0 (P:Mx) (i j:Nat):bm P 0 i j=P i j:=by simp [bm,bord,dt,sm,pm]
theorem bm_self (P:Mx) (k:Nat):bm P k k k=dt (k+1) P:=dt_congr fun i j hi hj=>by
 unfold bord
 have h1:(if i<k then i else k)=i:=by split <;> omega
 have h2:(if j<k then j else k)=j:=by split <;> omega
 rw [h1,h2]
theorem bm_row (P:Mx) (k i:Nat):∃x:Nat→Int,∀j,bm P k i j=dt k P*P i j+sm k fun l=>x l*P l j:=by
 let B:=tq (bord P k i 0)
 let U:=fun l=>dt (k+1) (tq (srw B k fun r=>if l=r then 1 else 0))
 refine⟨U,fun j=>?_⟩
 have h:=dt_talt (k+1)
 have e:bm P k i j=dt (k+1) (tq (srw B k fun r=>sm (k+1) fun l=>P (if l<k then l else i) j*if l=r then 1 else 0)):=dt_congr fun r c hr hc=>by
  show _=srw B k _ c r
  by_cases h:c=k
  ·subst h
   rw [srw_at,sm_congr (g:=fun l=>if l=r then P (if l<c then l else i) j else 0) (fun l _=>by
    by_cases h2:l=r
    ·rw [if_pos h2,if_pos h2,Int.mul_one]
    ·rw [if_neg h2,if_neg h2,Int.mul_zero]),sm_at hr]
   unfold bord;rw [if_neg (show¬c<c by omega)]
  ·rw [srw_ne _ _ _ h]
   show P _ (if c<k then c else j)=P _ (if c<k then c else 0)
   rw [if_pos (show c<k by omega),if_pos (show c<k by omega)]
 have e2:U k=dt k P:=by
  show dt (k+1) (tq _)=_
  rw [dt_tq,dt_corner k _ fun j hj=>by rw [srw_at,if_neg (show¬k=j by omega)],srw_at,if_pos rfl,Int.one_mul,←dt_tq]
  refine dt_congr fun a b ha hb=>?_
  show srw B k _ b a=_
  rw [srw_ne _ _ _ (by omega)]
  show P (if a<k then a else i) (if b<k then b else 0)=_
  rw [if_pos ha,if_pos hb]
 rw [e,h.sum B (by omega) (k+1) (fun l=>P (if l<k then l else i) j) (fun l r=>if l=r then 1 else 0)]
 show (sm k fun l=>P (if l<k then l else i) j*U l)+P (if k<k then k else i) j*U k=_
 rw [e2,if_neg (show¬k<k by omega),sm_congr (g:=fun l=>U l*P l j) (fun l hl=>by rw [if_pos hl,Int.mul_comm]),Int.mul_comm];omega
theorem bm_tq (P:Mx) (k i j:Nat):bm (tq P) k j i=bm P k i j:=(dt_tq (k+1) (bord P k i j))
theorem bm_col (P:Mx) (k j:Nat):∃z:Nat→Int,∀i,bm P k i j=dt k P*P i j+sm k fun l=>z l*P i l:=by
 obtain⟨z,h⟩:=bm_row (tq P) k j
 exact⟨z,fun i=>by rw [←bm_tq,h i,dt_tq];rfl⟩
theorem bm_old (P:Mx){k i:Nat}(j:Nat) (hi:i<k):bm P k i j=0:=(dt_alt (k+1)).alt _ i k hi (by omega) fun c _=>by
 unfold bord;rw [if_pos hi,if_neg (show¬k<k by omega)]
theorem bm_oldc (P:Mx){k j:Nat}(i:Nat) (hj:j<k):bm P k i j=0:=by rw [←bm_tq];exact bm_old _ _ hj
theorem br_alg (D E d U V X Y:Int):D*(d*U+X)-E*(d*V+Y)=D*d*U+(D*X+ -E*Y+ -E*d*V):=by grind
theorem bm_step (P:Mx){k:Nat}(i j:Nat) (hD:bm P k k k≠0):bm P k k k*bm P k i j-bm P k i k*bm P k k j=dt k P*bm P (k+1) i j:=by
 obtain⟨x,hx⟩:=bm_row P k i
 obtain⟨y,hy⟩:=bm_row P k k
 let N:=bord P (k+1) i j
 let R:=fun c=>bm P k k k*bm P k i (if c<k+1 then c else j)-bm P k i k*bm P k k (if c<k+1 then c else j)
 have h:=dt_alt (k+2)
 have e:srw N (k+1) R=srw N (k+1) fun c=>(bm P k k k*dt k P)*N (k+1) c+sm (k+1) fun l=>(if l<k then bm P k k k*x l-bm P k i k*y l else-bm P k i k*dt k P)*N l c:=by
  congr 1
  funext c
  have n1:N (k+1) c=P i (if c<k+1 then c else j):=by show P (if k+1<k+1 then k+1 else i) _=_;rw [if_neg (show¬k+1<k+1 by omega)]
  have n2:∀l,l<k+1→N l c=P l (if c<k+1 then c else j):=fun l hl=>by show P (if l<k+1 then l else i) _=_;rw [if_pos hl]
  rw [sm,n1,n2 k (by omega),if_neg (show¬k<k by omega),sm_congr (g:=fun l=>bm P k k k*(x l*P l (if c<k+1 then c else j))+ -bm P k i k*(y l*P l (if c<k+1 then c else j))) (fun l hl=>by rw [if_pos hl,n2 l (by omega)];grind),sm_add,sm_mul,sm_mul]
  show bm P k k k*bm P k i (if c<k+1 then c else j)-bm P k i k*bm P k k (if c<k+1 then c else j)=_
  rw [hx (if c<k+1 then c else j),hy (if c<k+1 then c else j)]
  exact br_alg _ _ _ _ _ _ _
 have a:=h.add N (show k+1<k+2 by omega) (bm P k k k*dt k P) (k+1) (fun l=>if l<k then bm P k k k*x l-bm P k i k*y l else-bm P k i k*dt k P) (fun l=>l) (fun l hl=>⟨by omega,by omega⟩)
 rw [←e,dt_corner (k+1) _ fun c hc=>?_,srw_at] at a
 ·have e3:dt (k+1) (srw N (k+1) R)=bm P k k k:=by
   rw [bm_self]
   refine dt_congr fun r c hr hc=>?_
   rw [srw_ne _ _ _ (by omega)]
   show P (if r<k+1 then r else i) (if c<k+1 then c else j)=_
   rw [if_pos hr,if_pos hc]
  rw [e3] at a
  have e4:R (k+1)=bm P k k k*bm P k i j-bm P k i k*bm P k k j:=by
   show bm P k k k*bm P k i (if k+1<k+1 then k+1 else j)-bm P k i k*bm P k k (if k+1<k+1 then k+1 else j)=_
   rw [if_neg (show¬k+1<k+1 by omega)]
  rw [e4] at a
  have e5:dt (k+2) N=bm P (k+1) i j:=rfl
  rw [e5] at a
  refine Int.eq_of_mul_eq_mul_left hD ?_
  rw [Int.mul_comm,a,Int.mul_assoc]
 ·rw [srw_at]
  show _*bm P k i (if c<k+1 then c else j)-_*bm P k k (if c<k+1 then c else j)=0
  rw [if_pos hc]
  by_cases h1:c<k
  ·rw [bm_oldc P i h1,bm_oldc P k h1];omega
  ·have:c=k:=by omega
   subst this;rw [Int.mul_comm];omega
theorem bm_none (P:Mx){k n:Nat}(hk:k<n) (hd:dt k P≠0) (h:∀i,k≤i→i<n→bm P k i k=0):dt n P=0:=by
 obtain⟨z,hz⟩:=bm_col P k k
 have ht:=dt_talt n
 have a:=ht.add (tq P) hk (dt k P) k z (fun l=>l) (fun l hl=>⟨by omega,by omega⟩)
 have e:dt n (tq (srw (tq P) k fun i=>dt k P*tq P k i+sm k fun l=>z l*tq P l i))=dt n (tq (srw (tq P) k fun _=>0)):=dt_congr fun i j hi hj=>by
  show srw (tq P) k _ j i=srw (tq P) k _ j i
  by_cases h1:j=k
  ·subst h1
   rw [srw_at,srw_at]
   show dt j P*P i j+(sm j fun l=>z l*P i l)=0
   rw [←hz i]
   by_cases h2:i<j
   ·exact bm_old P j h2
   ·exact h i (by omega) hi
  ·rw [srw_ne _ _ _ h1,srw_ne _ _ _ h1]
 rw [e,ht.row0 (tq P) hk] at a
 have:dt k P*dt n P=0:=a.symm
 rcases Int.mul_eq_zero.1 this with h | h
 ·exact absurd h hd
 ·exact h
def Pri (p:Nat):Prop:=1<p∧∀d,d∣p→d=1∨d=p
theorem pri_ex:∀(n:Nat),1<n→∃p,Pri p∧p∣n:=by
 intro n
 induction n using Nat.strongRecOn with
 | ind n ih=>
  intro hn
  by_cases h:∀d,d∣n→d=1∨d=n
  ·exact⟨n,⟨hn,h⟩,Nat.dvd_refl n⟩
  ·obtain⟨d,hd,h1,h2⟩:∃d,d∣n∧d≠1∧d≠n:=by
    refine Classical.byContradiction fun hno=>h fun d hd=>?_
    refine Classical.byContradiction fun h3=>hno ⟨d,hd,fun e=>h3 (Or.inl e),fun e=>h3 (Or.inr e)⟩
   have hle:=Nat.le_of_dvd (by omega) hd
   have h0:d≠0:=fun e=>by subst e;have:=Nat.eq_zero_of_zero_dvd hd;omega
   obtain⟨p,hp,hpd⟩:=ih d (by omega) (by omega)
   exact⟨p,hp,Nat.dvd_trans hpd hd⟩
theorem Pri.mul {p:Nat}(h:Pri p){a b:Int}(hab:(p:Int)∣a*b):(p:Int)∣a∨(p:Int)∣b:=by
 rw [Int.ofNat_dvd_left,Int.natAbs_mul] at hab
 rw [Int.ofNat_dvd_left,Int.ofNat_dvd_left]
 rcases h.2 (Nat.gcd p a.natAbs) (Nat.gcd_dvd_left _ _) with e | e
 ·exact Or.inr (Nat.Coprime.dvd_of_dvd_mul_left e hab)
 ·exact Or.inl (e▸Nat.gcd_dvd_right p a.natAbs)
theorem sm_but {n i:Nat}(hi:i<n){f:Nat→Int}{d:Int}(h:∀t,t<n→t≠i→d∣f t) (hs:d∣sm n f):d∣f i:=by
 induction n with
 | zero=>omega
 | succ n ih=>
  simp only [sm] at hs
  by_cases e:i=n
  ·subst e
   have h2:d∣sm i f:=by
    have key:∀m,m≤i→d∣sm m f:=by
     intro m
     induction m with
     | zero=>intro _;exact⟨0,by simp [sm]⟩
     | succ m ihm=>intro hm;simp only [sm];exact Int.dvd_add (ihm (by omega)) (h m (by omega) (by omega))
    exact key i (Nat.le_refl i)
   exact (Int.dvd_add_right h2).1 hs
  ·exact ih (by omega) (fun t ht=>h t (by omega)) ((Int.dvd_add_left (h n (by omega) (fun e2=>e e2.symm))).1 hs)
theorem least_ex {P:Nat→Prop}:∀n,P n→∃m,P m∧∀k,k<m→¬P k:=by
 intro n
 induction n using Nat.strongRecOn with
 | ind n ih=>
  intro h
  by_cases e:∃k,k<n∧P k
  ·obtain⟨k,hk,hp⟩:=e;exact ih k hk hp
  ·exact⟨n,h,fun k hk hp=>e ⟨k,hk,hp⟩⟩
theorem Pri.cv {p:Nat}(h:Pri p){q v:Nat→Int}(hv:∃j,¬(p:Int)∣v j) (hqv:∀k,(p:Int)∣cv q v k) (i:Nat):(p:Int)∣q i:=by
 refine Classical.byContradiction fun hn=>?_
 obtain⟨j0,hj0⟩:=hv
 obtain⟨a,ha,hal⟩:=least_ex (P:=fun i=>¬(p:Int)∣q i) i hn
 obtain⟨b,hb,hbl⟩:=least_ex (P:=fun j=>¬(p:Int)∣v j) j0 hj0
 have h1:=hqv (a+b)
 rw [cv_eq] at h1
 have h2:=sm_but (i:=a) (show a<a+b+1 by omega) (fun t ht hne=>by
  rcases Nat.lt_or_ge t a with h3 | h3
  ·exact Int.dvd_mul_of_dvd_left (Classical.not_not.1 (hal t h3))
  ·exact Int.dvd_mul_of_dvd_right (Classical.not_not.1 (hbl (a+b-t) (by omega)))) h1
 rw [show a+b-a=b by omega] at h2
 exact (h.mul h2).elim ha hb
def Prm (v:Nat→Int):Prop:=∀p:Nat,1<p→∃j,¬(p:Int)∣v j
theorem gauss {v:Nat→Int}(hv:Prm v):∀(d:Nat),d≠0→∀q:Nat→Int,(∀k,(d:Int)∣cv q v k)→∀i,(d:Int)∣q i:=by
 intro d
 induction d using Nat.strongRecOn with
 | ind d ih=>
  intro hd q h i
  by_cases h1:d=1
  ·subst h1;exact⟨q i,by simp⟩
  ·obtain⟨p,hp,e,rfl⟩:=pri_ex d (by omega)
   have hp1:=hp.1
   have he:e≠0:=fun e0=>hd (by rw [e0,Nat.mul_zero])
   have hq:∀i,(p:Int)∣q i:=fun i=>hp.cv (hv p hp.1) (fun k=>Int.dvd_trans ⟨(e:Int),by rw [Int.natCast_mul]⟩ (h k)) i
   obtain⟨q1,hq1⟩:∃q1:Nat→Int,∀i,q i=p*q1 i:=⟨fun i=>q i/p,fun i=>(Int.mul_ediv_cancel' (hq i)).symm⟩
   have e1:q=fun i=>(p:Int)*q1 i:=funext hq1
   have h2:∀k,(e:Int)∣cv q1 v k:=fun k=>by
    have h3:=h k
    rw [e1,cv_mull,Int.natCast_mul] at h3
    exact Int.dvd_of_mul_dvd_mul_left (by omega) h3
   have h4:=ih e (by have:=Nat.mul_le_mul_right e hp1;omega) he q1 h2 i
   rw [hq1 i,Int.natCast_mul]
   exact Int.mul_dvd_mul (Int.dvd_refl _) h4
def pwt (n:Nat) (X:Mx):Mx:=fun k c=>if c<n*n then mp n X k (c/n) (c%n) else if c=n*n+k then 1 else 0
def pwh (n:Nat) (X:Mx) (hs:List Nat):Mx:=fun r s=>if s<65 then pwt n X r (hs.getD s 0) else pwt n X r (s-65)
def wh (n:Nat) (X:Mx) (hs:List Nat) (j k c:Nat):Int:=bm (pwh n X hs) j k (65+c)
theorem wh_head (n:Nat) (X:Mx) (hs:List Nat) (j k:Nat){l:Nat}(hl:l<65):wh n X hs j k (hs.getD l 0)=bm (pwh n X hs) j k l:=by
 refine dt_congr fun a b _ _=>?_
 unfold bord
 by_cases hb:b<j
 ·rw [if_pos hb,if_pos hb]
 ·rw [if_neg hb,if_neg hb]
  unfold pwh
  rw [if_neg (by omega),if_pos hl,show 65+hs.getD l 0-65=hs.getD l 0 by omega]
theorem wh_app (n:Nat) (X:Mx){hs:List Nat}{j:Nat}(hj:j≤hs.length) (hj2:j≤65) (x k c:Nat):wh n X (hs++ [x]) j k c=wh n X hs j k c:=by
 refine dt_congr fun a b _ _=>?_
 unfold bord
 by_cases hb:b<j
 ·rw [if_pos hb]
  unfold pwh
  rw [if_pos (show b<65 by omega),if_pos (show b<65 by omega),List.getD_eq_getElem?_getD,List.getD_eq_getElem?_getD,List.getElem?_append_left (by omega)]
 ·rw [if_neg hb]
  unfold pwh
  rw [if_neg (show¬65+c<65 by omega),if_neg (show¬65+c<65 by omega)]
theorem int_cop {a b c:Int}(h:Int.gcd a b=1) (hd:a∣b*c):a∣c:=by
 rw [←Int.natAbs_dvd_natAbs,Int.natAbs_mul] at hd
 rw [←Int.natAbs_dvd_natAbs]
 exact Nat.Coprime.dvd_of_dvd_mul_left h hd
theorem prm_div {d m:Int}{N:Nat}{v u:Nat→Int}(hd:d≠0) (hm:m≠0) (hp:∀p:Nat,1<p→∃c,c<N∧¬(p:Int)∣v c) (h:∀c,c<N→d*u c=m*v c):
  ∃t,t≠0∧∀c,c<N→u c=t*v c:=by
 have hg:0<Int.gcd d m:=Int.gcd_pos_of_ne_zero_left m hd
 have hg0:((Int.gcd d m:Nat):Int)≠0:=by omega
 obtain⟨d1,hd1⟩:=Int.gcd_dvd_left d m
 obtain⟨m1,hm1⟩:=Int.gcd_dvd_right d m
 have hco:Int.gcd d1 m1=1:=by
  have e:=Int.gcd_mul_left (Int.gcd d m:Int) d1 m1
  rw [←hd1,←hm1,Int.natAbs_natCast] at e
  exact Nat.eq_of_mul_eq_mul_left hg (by rw [Nat.mul_one];exact e.symm)
 have h1:∀c,c<N→d1*u c=m1*v c:=fun c hc=>by
  have e:=h c hc
  refine Int.eq_of_mul_eq_mul_left hg0 ?_
  rw [←Int.mul_assoc,←Int.mul_assoc,←hd1,←hm1];exact e
 have h2:∀c,c<N→d1∣v c:=fun c hc=>int_cop hco ⟨u c,(h1 c hc).symm▸rfl⟩
 have hd10:d1≠0:=fun e=>hd (by rw [hd1,e,Int.mul_zero])
 have hm10:m1≠0:=fun e=>hm (by rw [hm1,e,Int.mul_zero])
 have h3:d1.natAbs=1:=by
  have:=Int.natAbs_ne_zero.2 hd10
  refine Classical.byContradiction fun hne=>?_
  obtain⟨c,hc,hn⟩:=hp d1.natAbs (by omega)
  exact hn (Int.natAbs_dvd.2 (h2 c hc))
 rcases (by omega:d1=1∨d1= -1) with e | e
 ·exact⟨m1,hm10,fun c hc=>by have:=h1 c hc;rw [e,Int.one_mul] at this;exact this⟩
 ·exact⟨-m1,by omega,fun c hc=>by have:=h1 c hc;rw [e,Int.neg_mul,Int.one_mul] at this;rw [Int.neg_mul,←this,Int.neg_neg]⟩
structure Lv (n:Nat) (X:Mx) (hs:List Nat) (j k:Nat) (v:Nat→Int):Prop where
 pro:∃t:Int,t≠0∧∀c,c<n*n+n+1→wh n X hs j k c=t*v c
 prm:∀p:Nat,1<p→∃c,c<n*n+n+1∧¬(p:Int)∣v c
 top:v (n*n+k)≠0
 zer:∀i,k<i→i≤n→v (n*n+i)=0
 cmb:∀c,c<n*n→v c=sm (k+1) fun l=>v (n*n+l)*mp n X l (c/n) (c%n)
theorem Lv.congr {n:Nat}{X:Mx}{hs:List Nat}{j k:Nat}{v v':Nat→Int}(hk:k≤n) (h:Lv n X hs j k v) (e:∀c,c<n*n+n+1→v' c=v c):Lv n X hs j k v':=by
 refine⟨?_,fun p hp=>?_,?_,fun i h1 h2=>?_,fun c hc=>?_⟩
 ·obtain⟨t,h0,h1⟩:=h.pro
  exact⟨t,h0,fun c hc=>by rw [h1 c hc,e c hc]⟩
 ·obtain⟨c,hc,hn⟩:=h.prm p hp
  exact⟨c,hc,by rw [e c hc];exact hn⟩
 ·rw [e _ (by omega)];exact h.top
 ·rw [e _ (by omega)];exact h.zer i h1 h2
 ·rw [e _ (by omega),h.cmb c hc]
  exact sm_congr fun l hl=>by rw [e _ (by omega)]
theorem Lv.start {n:Nat}{X:Mx}{hs:List Nat}{k:Nat}(hk:k≤n):Lv n X hs 0 k (pwt n X k):=by
 have hu:∀i,pwt n X k (n*n+i)=if i=k then 1 else 0:=fun i=>by
  unfold pwt
  rw [if_neg (by omega)]
  by_cases h:i=k
  ·rw [if_pos (by omega),if_pos h]
  ·rw [if_neg (by omega),if_neg h]
 refine⟨⟨1,by decide,fun c hc=>?_⟩,fun p hp=>⟨n*n+k,by omega,fun hd=>?_⟩,?_,fun i h1 h2=>?_,fun c hc=>?_⟩
 ·rw [wh,bm_0,pwh,if_neg (by omega),Int.one_mul,show 65+c-65=c by omega]
 ·rw [hu,if_pos rfl] at hd
  have:=Int.le_of_dvd (by decide) hd
  omega
 ·rw [hu,if_pos rfl];decide
 ·rw [hu,if_neg (by omega)]
 ·rw [pwt,if_pos hc]
  have e:=sm_at (n:=k+1) (i:=k) (by omega) (fun l=>mp n X l (c/n) (c%n))
  rw [←e]
  refine sm_congr fun l _=>?_
  rw [hu]
  by_cases h:l=k
  ·rw [if_pos h,if_pos h,Int.one_mul]
  ·rw [if_neg h,if_neg h,Int.zero_mul]
theorem Lv.heads {n:Nat}{X:Mx}{hs:List Nat}{j k:Nat}{v:Nat→Int}(h:Lv n X hs j k v){l:Nat}(hl:l<j) (hj:j≤65) (hh:hs.getD l 0<n*n):v (hs.getD l 0)=0:=by
 obtain⟨t,h0,h1⟩:=h.pro
 have e:=h1 _ (show hs.getD l 0<n*n+n+1 by omega)
 rw [wh_head n X hs j k (by omega),bm_oldc _ _ hl] at e
 rcases Int.mul_eq_zero.1 e.symm with e2 | e2
 ·exact absurd e2 h0
 ·exact e2
theorem sm_ext {n m:Nat}(h:n≤m){f:Nat→Int}(h0:∀i,n≤i→i<m→f i=0):sm m f=sm n f:=by
 obtain⟨k,rfl⟩:∃k,m=n+k:=⟨m-n,by omega⟩
 clear h
 induction k with
 | zero=>rfl
 | succ k ih=>
  show sm (n+k) f+f (n+k)=sm n f
  rw [h0 (n+k) (by omega) (by omega),Int.add_zero]
  exact ih fun i h1 h2=>h0 i h1 (by omega)
theorem Lv.less {n:Nat}{X:Mx}{hs:List Nat}{j k:Nat}{v r v':Nat→Int}{g:Int}(hjk:j<k) (hk:k≤n) (hn:n≤64) (h:Lv n X hs j k v) (hr:Lv n X hs j j r) (hd:dt j (pwh n X hs)≠0)
  (hh:hs.getD j 0<n*n) (hx:r (hs.getD j 0)≠0) (hg:g≠0) (he:∀c,c<n*n+n+1→g*v' c=r (hs.getD j 0)*v c-v (hs.getD j 0)*r c)
  (hp:∀p:Nat,1<p→∃c,c<n*n+n+1∧¬(p:Int)∣v' c):Lv n X hs (j+1) k v':=by
 have hrk:∀i,j<i→i≤n→r (n*n+i)=0:=hr.zer
 refine⟨?_,hp,fun e=>?_,fun i h1 h2=>?_,fun c hc=>?_⟩
 ·obtain⟨t,ht,h1⟩:=h.pro
  obtain⟨s,hs0,h2⟩:=hr.pro
  refine prm_div hd (m:=s*t*g) (Int.mul_ne_zero (Int.mul_ne_zero hs0 ht) hg) hp fun c hc=>?_
  have e1:bm (pwh n X hs) j j j=s*r (hs.getD j 0):=by rw [←wh_head n X hs j j (by omega)];exact h2 _ (by omega)
  have e2:bm (pwh n X hs) j k j=t*v (hs.getD j 0):=by rw [←wh_head n X hs j k (by omega)];exact h1 _ (by omega)
  have e3:=bm_step (pwh n X hs) k (65+c) (k:=j) (by rw [e1];exact Int.mul_ne_zero hs0 hx)
  have e4:=h1 c hc
  have e5:=h2 c hc
  have e6:=he c hc
  unfold wh at e4 e5⊢
  rw [e1,e2,e4,e5] at e3
  rw [←e3]
  have e7:s*t*g*v' c=s*t*(g*v' c):=by rw [Int.mul_assoc (s*t)]
  rw [e7,e6]
  grind
 ·have e1:=he (n*n+k) (by omega)
  rw [e,hrk k hjk hk,Int.mul_zero,Int.mul_zero,Int.sub_zero] at e1
  rcases Int.mul_eq_zero.1 e1.symm with e2 | e2
  ·exact hx e2
  ·exact h.top e2
 ·have e1:=he (n*n+i) (by omega)
  rw [hrk i (by omega) h2,h.zer i h1 h2,Int.mul_zero,Int.mul_zero,Int.sub_zero] at e1
  rcases Int.mul_eq_zero.1 e1 with e2 | e2
  ·exact absurd e2 hg
  ·exact e2
 ·refine Int.eq_of_mul_eq_mul_left hg ?_
  rw [he c (by omega),←sm_mul,h.cmb c hc,hr.cmb c hc,←sm_ext (n:=j+1) (m:=k+1) (by omega) (fun i h1 h2=>by rw [hrk i (by omega) (by omega),Int.zero_mul]),←sm_mul,←sm_mul]
  have e:∀l,l<k+1→g*(v' (n*n+l)*mp n X l (c/n) (c%n))=r (hs.getD j 0)*(v (n*n+l)*mp n X l (c/n) (c%n))+ -1*(v (hs.getD j 0)*(r (n*n+l)*mp n X l (c/n) (c%n))):=fun l hl=>by
   rw [←Int.mul_assoc g,he (n*n+l) (by omega)]
   grind
  rw [sm_congr e,sm_add,sm_mul (k+1) (-1)]
  omega
structure Seen (n:Nat) (X:Mx) (hs:List Nat) (k:Nat) (R:Nat→Nat→Int):Prop where
 len:hs.length=k
 row:∀j,j<k→Lv n X hs j j (R j)
 hd:∀j,j<k→hs.getD j 0<n*n
 nz:∀j,j<k→R j (hs.getD j 0)≠0
theorem Seen.dt {n:Nat}{X:Mx}{hs:List Nat}{k:Nat}{R:Nat→Nat→Int}(h:Seen n X hs k R) (hk:k≤65){j:Nat}(hj:j≤k):dt j (pwh n X hs)≠0:=by
 cases j with
 | zero=>exact (by decide:(1:Int)≠0)
 | succ j=>
  rw [←bm_self,←wh_head n X hs j j (by omega)]
  obtain⟨t,h0,h1⟩:=(h.row j (by omega)).pro
  rw [h1 _ (by have:=h.hd j (by omega);omega)]
  exact Int.mul_ne_zero h0 (h.nz j (by omega))
theorem Seen.nil {n:Nat}{X:Mx}(R:Nat→Nat→Int):Seen n X [] 0 R:=⟨rfl,fun _ h=>absurd h (Nat.not_lt_zero _),fun _ h=>absurd h (Nat.not_lt_zero _),fun _ h=>absurd h (Nat.not_lt_zero _)⟩
theorem Lv.app {n:Nat}{X:Mx}{hs:List Nat}{j k:Nat}{v:Nat→Int}(h:Lv n X hs j k v) (hj:j≤hs.length) (hj2:j≤65) (x:Nat):Lv n X (hs++ [x]) j k v:=
 ⟨by obtain⟨t,h0,h1⟩:=h.pro;exact⟨t,h0,fun c hc=>by rw [wh_app n X hj hj2,h1 c hc]⟩,h.prm,h.top,h.zer,h.cmb⟩
theorem getD_app_lt {hs:List Nat}{j:Nat}(x:Nat) (h:j<hs.length):(hs++ [x]).getD j 0=hs.getD j 0:=by
 rw [List.getD_eq_getElem?_getD,List.getD_eq_getElem?_getD,List.getElem?_append_left h]
theorem getD_app_at {hs:List Nat}(x:Nat):(hs++ [x]).getD hs.length 0=x:=by
 rw [List.getD_eq_getElem?_getD,List.getElem?_append_right (Nat.le_refl _)];simp
theorem Seen.add {n:Nat}{X:Mx}{hs:List Nat}{k:Nat}{R R':Nat→Nat→Int}(h:Seen n X hs k R) (hk:k≤64){v:Nat→Int}(hv:Lv n X hs k k v){x:Nat}(hx:x<n*n) (h0:v x≠0)
  (hR:∀j,j<k→R' j=R j) (hRk:R' k=v):Seen n X (hs++ [x]) (k+1) R':=by
 have hl:=h.len
 refine⟨by simp [hl],fun j hj=>?_,fun j hj=>?_,fun j hj=>?_⟩
 ·by_cases e:j=k
  ·subst e;rw [hRk];exact hv.app (by omega) (by omega) x
  ·rw [hR j (by omega)];exact (h.row j (by omega)).app (by omega) (by omega) x
 ·by_cases e:j=k
  ·subst e;rw [←hl,getD_app_at];exact hx
  ·rw [getD_app_lt x (by omega)];exact h.hd j (by omega)
 ·by_cases e:j=k
  ·subst e;rw [hRk,←hl,getD_app_at];exact h0
  ·rw [hR j (by omega),getD_app_lt x (by omega)];exact h.nz j (by omega)
theorem Seen.free0 {n:Nat}{X:Mx}{hs:List Nat}{k:Nat}{R:Nat→Nat→Int}(h:Seen n X hs k R) (hk:k≤65):∀l,l≤k→∀q:Nat→Int,
  (∀i,i<l→(sm l fun m=>q m*mp n X m (hs.getD i 0/n) (hs.getD i 0%n))=0)→∀i,i<l→q i=0:=by
 intro l
 induction l with
 | zero=>intro _ q _ i hi;omega
 | succ l ih=>
  intro hl q hq
  have hR:=h.row l (by omega)
  have ha:=hR.top
  have h1:∀i,i<l→R l (n*n+l)*q i-q l*R l (n*n+i)=0:=by
   refine ih (by omega) (fun i=>R l (n*n+l)*q i-q l*R l (n*n+i)) fun i hi=>?_
   have e1:=hq i (by omega)
   have e2:=hR.cmb (hs.getD i 0) (h.hd i (by omega))
   rw [hR.heads hi (by omega) (h.hd i (by omega))] at e2
   simp only [sm] at e1 e2
   have e3:∀m,m<l→(R l (n*n+l)*q m-q l*R l (n*n+m))*mp n X m (hs.getD i 0/n) (hs.getD i 0%n)=
     R l (n*n+l)*(q m*mp n X m (hs.getD i 0/n) (hs.getD i 0%n))+ -q l*(R l (n*n+m)*mp n X m (hs.getD i 0/n) (hs.getD i 0%n)):=fun m _=>by grind
   rw [sm_congr e3,sm_add,sm_mul,sm_mul]
   grind
  have h2:q l=0:=by
   have e1:=hq l (by omega)
   have e2:=hR.cmb (hs.getD l 0) (h.hd l (by omega))
   have e3:∀m,m<l+1→R l (n*n+l)*(q m*mp n X m (hs.getD l 0/n) (hs.getD l 0%n))=q l*(R l (n*n+m)*mp n X m (hs.getD l 0/n) (hs.getD l 0%n)):=fun m hm=>by
    by_cases e:m=l
    ·subst e;grind
    ·have:=h1 m (by omega)
     have e4:R l (n*n+l)*q m=q l*R l (n*n+m):=by omega
     rw [←Int.mul_assoc,e4,Int.mul_assoc]
   have e5:q l*R l (hs.getD l 0)=0:=by rw [e2,←sm_mul,←sm_congr e3,sm_mul,e1,Int.mul_zero]
   rcases Int.mul_eq_zero.1 e5 with e | e
   ·exact e
   ·exact absurd e (h.nz l (by omega))
  intro i hi
  by_cases e:i=l
  ·subst e;exact h2
  ·have:=h1 i (by omega)
   rw [h2,Int.zero_mul,Int.sub_zero] at this
   rcases Int.mul_eq_zero.1 this with e | e
   ·exact absurd e ha
   ·exact e
def Rt (n:Nat) (X:Mx) (K:Nat) (p:Nat→Int):Prop:=∀i j,i<n→j<n→(sm K fun l=>p l*mp n X l i j)=0
theorem Seen.free {n:Nat}{X:Mx}{hs:List Nat}{k:Nat}{R:Nat→Nat→Int}(h:Seen n X hs k R) (hk:k≤65){q:Nat→Int}(hq:Rt n X k q):∀i,i<k→q i=0:=by
 refine h.free0 hk k (Nat.le_refl _) q fun i hi=>?_
 have h1:=h.hd i hi
 have hn:0<n:=Nat.pos_of_ne_zero fun e=>by subst e;omega
 exact hq _ _ (Nat.div_lt_of_lt_mul h1) (Nat.mod_lt _ hn)
theorem Chp.rt {n:Nat}{X:Mx}{d:Nat→Int}(h:Chp n X d):Rt n X (n+1) fun i=>d (n-i):=fun i j hi hj=>by
 have e:=h.root n (Nat.le_refl _) i j hi hj
 rw [cv_comm,cv_eq] at e
 rw [←e]
 exact sm_congr fun l _=>Int.mul_comm _ _
theorem Seen.not {n:Nat}{X:Mx}{hs:List Nat}{R:Nat→Nat→Int}{d:Nat→Int}(h:Seen n X hs (n+1) R) (hn:n≤64) (hd:Chp n X d):False:=by
 have:=h.free (by omega) hd.rt n (by omega)
 rw [Nat.sub_self,hd.one] at this
 cases this
def sh (s:Nat) (p:Nat→Int):Nat→Int:=fun i=>if s≤i then p (i-s) else 0
theorem cv_sh {M:Nat}{q:Nat→Int}(hq:∀i,M≤i→q i=0) (p:Nat→Int) (i:Nat):cv q p i=sm M fun s=>q s*sh s p i:=by
 rw [cv_eq]
 rcases Nat.le_total M (i+1) with h | h
 ·rw [sm_ext h fun t h1 h2=>by rw [hq t h1,Int.zero_mul]]
  exact sm_congr fun s hs=>by rw [sh,if_pos (by omega)]
 ·rw [sm_ext h fun t h1 h2=>by rw [sh,if_neg (by omega),Int.mul_zero]]
  exact sm_congr fun s hs=>by rw [sh,if_pos (by omega)]
theorem sm_shift (s K:Nat) (f:Nat→Int) (h0:∀i,i<s→f i=0):sm (s+K) f=sm K fun l=>f (s+l):=by
 induction K with
 | zero=>exact (sm_ext (n:=0) (m:=s) (Nat.zero_le _) fun i _ h=>h0 i h)
 | succ K ih=>show sm (s+K) f+f (s+K)=_;rw [ih];rfl
theorem Rt.sh {n:Nat}{X:Mx}{K:Nat}{p:Nat→Int}(h:Rt n X K p) (s:Nat):Rt n X (s+K) (sh s p):=fun i j hi hj=>by
 rw [sm_shift s K _ fun l hl=>by rw [Go.Proofs.Ytnpbbknemflpnaa.sh,if_neg (by omega),Int.zero_mul]]
 have e:∀l,l<K→Go.Proofs.Ytnpbbknemflpnaa.sh s p (s+l)*mp n X (s+l) i j=sm n fun t=>mp n X s i t*(p l*mp n X l t j):=fun l _=>by
  rw [Go.Proofs.Ytnpbbknemflpnaa.sh,if_pos (by omega),show s+l-s=l by omega,mp_add n X s l i hj,mm,←sm_mul]
  exact sm_congr fun t _=>by grind
 rw [sm_congr e,sm_swap]
 refine (sm_congr fun t ht=>?_).trans (sm_zero n)
 rw [sm_mul,h t j ht hj,Int.mul_zero]
theorem Rt.ext {n:Nat}{X:Mx}{K L:Nat}{p:Nat→Int}(h:Rt n X K p) (hK:K≤L) (h0:∀i,K≤i→i<L→p i=0):Rt n X L p:=fun i j hi hj=>by
 rw [sm_ext hK fun l h1 h2=>by rw [h0 l h1 h2,Int.zero_mul]];exact h i j hi hj
theorem Rt.low {n:Nat}{X:Mx}{K L:Nat}{p:Nat→Int}(h:Rt n X L p) (hK:K≤L) (h0:∀i,K≤i→i<L→p i=0):Rt n X K p:=fun i j hi hj=>by
 rw [←sm_ext hK fun l h1 h2=>by rw [h0 l h1 h2,Int.zero_mul]];exact h i j hi hj
theorem Rt.lin {n:Nat}{X:Mx}{K:Nat}{p q:Nat→Int}(h:Rt n X K p) (h':Rt n X K q) (x y:Int):Rt n X K fun i=>x*p i-y*q i:=fun i j hi hj=>by
 have e:∀l,l<K→(x*p l-y*q l)*mp n X l i j=x*(p l*mp n X l i j)+ -y*(q l*mp n X l i j):=fun l _=>by grind
 rw [sm_congr e,sm_add,sm_mul,sm_mul,h i j hi hj,h' i j hi hj,Int.mul_zero,Int.mul_zero];rfl
theorem Seen.pseudo {n:Nat}{X:Mx}{hs:List Nat}{k:Nat}{R:Nat→Nat→Int}(h:Seen n X hs k R) (hk:k≤65){p:Nat→Int}(hp:Rt n X (k+1) p) (hp0:∀i,k<i→p i=0):
  ∀m,∀c:Nat→Int,(∀i,k+m≤i→c i=0)→Rt n X (k+m) c→∃N q,(∀i,m≤i→q i=0)∧∀i,p k^N*c i=cv q p i:=by
 intro m
 induction m with
 | zero=>
  intro c h0 hc
  refine⟨0,fun _=>0,fun _ _=>rfl,fun i=>?_⟩
  rw [cv_zl]
  have:c i=0:=if hi:i<k then h.free hk hc i hi else h0 i (by omega)
  rw [this,Int.mul_zero]
 | succ m ih=>
  intro c h0 hc
  have hs1:Rt n X (k+(m+1)) (sh m p):=by
   have:=hp.sh m
   rwa [show m+(k+1)=k+(m+1) by omega] at this
  have h1:=hc.lin hs1 (p k) (c (k+m))
  have h2:∀i,k+m≤i→p k*c i-c (k+m)*sh m p i=0:=fun i hi=>by
   by_cases e:i=k+m
   ·subst e
    rw [sh,if_pos (by omega),show k+m-m=k by omega,Int.mul_comm];omega
   ·rw [h0 i (by omega),sh,if_pos (show m≤i by omega),hp0 (i-m) (by omega)];simp
  obtain⟨N,q,hq0,hq⟩:=ih _ h2 (h1.low (by omega) fun i hi _=>h2 i hi)
  refine⟨N+1,fun i=>q i+p k^N*c (k+m)*(if i=m then 1 else 0),fun i hi=>?_,fun i=>?_⟩
  ·simp only;rw [hq0 i (by omega),if_neg (by omega)];simp
  ·have e1:cv (fun i=>if i=m then (1:Int) else 0) p i=sh m p i:=by
    rw [cv_sh (M:=m+1) (fun i hi=>if_neg (by omega)) p i,←sm_at (n:=m+1) (i:=m) (by omega) (fun s=>sh s p i)]
    refine sm_congr fun s _=>?_
    by_cases e:s=m
    ·rw [if_pos e,if_pos e,Int.one_mul]
    ·rw [if_neg e,if_neg e,Int.zero_mul]
   rw [cv_addl,cv_mull,e1,←hq i,Int.pow_succ]
   grind
theorem Seen.lead {n:Nat}{X:Mx}{hs:List Nat}{k:Nat}{R:Nat→Nat→Int}{d v:Nat→Int}(h:Seen n X hs k R) (hk:k≤n) (hn:n≤64) (hd:Chp n X d) (hv:Lv n X hs k k v) (h0:∀c,c<n*n→v c=0):
  Rt n X (k+1) (fun l=>v (n*n+l))∧(v (n*n+k)=1∨v (n*n+k)= -1):=by
 have hr:Rt n X (k+1) (fun l=>v (n*n+l)):=fun i j hi hj=>by
  have hc:i*n+j<n*n:=by
   have:=Nat.mul_le_mul_right n (show i+1≤n by omega)
   rw [Nat.succ_mul] at this;omega
  have e:=hv.cmb (i*n+j) hc
  rw [h0 _ hc,show (i*n+j)/n=i by rw [Nat.mul_comm,Nat.mul_add_div (by omega),Nat.div_eq_of_lt hj,Nat.add_zero],show (i*n+j)%n=j by rw [Nat.mul_comm,Nat.mul_add_mod,Nat.mod_eq_of_lt hj]] at e
  exact e.symm
 refine⟨hr,?_⟩
 obtain⟨p,hp⟩:∃p:Nat→Int,p=fun l=>if l≤k then v (n*n+l) else 0:=⟨_,rfl⟩
 have hpk:p k=v (n*n+k):=by rw [hp];exact if_pos (Nat.le_refl _)
 have hp0:∀i,k<i→p i=0:=fun i hi=>by rw [hp];exact if_neg (by omega)
 have hpr:Rt n X (k+1) p:=fun i j hi hj=>by
  rw [←hr i j hi hj]
  exact sm_congr fun l hl=>by rw [hp];simp only;rw [if_pos (by omega)]
 have hprm:Prm p:=fun q hq=>by
  obtain⟨c,hc,hnd⟩:=hv.prm q hq
  have hc1:n*n≤c:=Nat.le_of_not_lt fun hlt=>hnd (by rw [h0 c hlt];exact Int.dvd_zero _)
  refine⟨c-n*n,?_⟩
  have hc2:c-n*n≤k:=Nat.le_of_not_lt fun hlt=>hnd (by
   have:=hv.zer (c-n*n) hlt (by omega)
   rw [show n*n+(c-n*n)=c by omega] at this
   rw [this];exact Int.dvd_zero _)
  rw [hp];simp only;rw [if_pos hc2,show n*n+(c-n*n)=c by omega];exact hnd
 obtain⟨c,hc⟩:∃c:Nat→Int,c=fun i=>if i≤n then d (n-i) else 0:=⟨_,rfl⟩
 have hcr:Rt n X (k+(n+1-k)) c:=fun i j hi hj=>by
  rw [show k+(n+1-k)=n+1 by omega,←hd.rt i j hi hj]
  exact sm_congr fun l hl=>by rw [hc];simp only;rw [if_pos (by omega)]
 obtain⟨N,q,hq0,hq⟩:=h.pseudo (by omega) hpr hp0 (n+1-k) c (fun i hi=>by rw [hc];exact if_neg (by omega)) hcr
 have htop:=hv.top
 rw [←hpk] at htop
 have ha:p k^N≠0:=Int.pow_ne_zero htop
 have hdv:∀i,p k^N∣q i:=fun i=>by
  have:=gauss hprm (p k^N).natAbs (Int.natAbs_ne_zero.2 ha) q (fun t=>Int.natAbs_dvd.2 ⟨c t,(hq t).symm⟩) i
  exact Int.natAbs_dvd.1 this
 have e1:=hq n
 rw [cv_eq] at e1
 have e2:(sm (n+1) fun i=>q i*p (n-i))=q (n-k)*p k:=by
  have e3:=sm_at (n:=n+1) (i:=n-k) (by omega) (fun i=>q i*p (n-i))
  simp only [show n-(n-k)=k by omega] at e3
  rw [←e3]
  refine sm_congr fun i hi=>?_
  by_cases e:i=n-k
  ·rw [if_pos e]
  ·rw [if_neg e]
   rcases Nat.lt_or_ge i (n-k) with h1 | h1
   ·rw [hp0 _ (by omega),Int.mul_zero]
   ·rw [hq0 i (by omega),Int.zero_mul]
 obtain⟨x,hx⟩:=hdv (n-k)
 rw [e2,hx,hc] at e1
 simp only at e1
 rw [if_pos (Nat.le_refl _),Nat.sub_self,hd.one,Int.mul_assoc] at e1
 have e3:x*p k=1:=(Int.eq_of_mul_eq_mul_left ha e1).symm
 rw [hpk] at e3
 have:=Int.natAbs_mul x (v (n*n+k))
 rw [e3] at this
 have h5:(v (n*n+k)).natAbs=1:=Nat.eq_one_of_mul_eq_one_left this.symm
 omega
theorem Seen.rest {n:Nat}{X:Mx}{hs:List Nat}{k M:Nat}{R:Nat→Nat→Int}{c p q r:Nat→Int}(h:Seen n X hs k R) (hk:k≤65) (hc:Rt n X (M+k) c) (hp:Rt n X (k+1) p) (hp0:∀i,k<i→p i=0)
  (hr:∀i,r i=c i-sm M fun s=>q s*sh s p i) (hr0:∀i,k≤i→i<M+k→r i=0):∀i,i<k→r i=0:=by
 refine h.free hk ?_
 refine Rt.low (L:=M+k) ?_ (by omega) fun i h1 h2=>hr0 i h1 h2
 intro i j hi hj
 have e:∀l,l<M+k→r l*mp n X l i j=c l*mp n X l i j+ -1*sm M fun s=>q s*(sh s p l*mp n X l i j):=fun l _=>by
  rw [hr l,show (fun s=>q s*(sh s p l*mp n X l i j))=fun s=>(q s*sh s p l)*mp n X l i j from funext fun s=>(Int.mul_assoc _ _ _).symm,sm_mulr]
  grind
 rw [sm_congr e,sm_add,hc i j hi hj,sm_mul,sm_swap]
 have e2:(sm M fun s=>sm (M+k) fun l=>q s*(sh s p l*mp n X l i j))=sm M fun _=>0:=sm_congr fun s hs=>by
  rw [sm_mul]
  have:=(hp.sh s).ext (L:=M+k) (by omega) (fun i h1 _=>by rw [sh,if_pos (by omega),hp0 _ (by omega)]) i j hi hj
  rw [this,Int.mul_zero]
 rw [e2,sm_zero];rfl
end Go.Proofs.Ytnpbbknemflpnaa

namespace Go.Proofs.Ytnpbbknemflpnaa
open Go.RowKit
def mk (d:Nat→Int) (n:Nat) (X:Mx) (t:Nat):Mx:=fun i j=>cv d (fun l=>mp n X l i j) t
theorem mk_0 {d:Nat→Int}(h:d 0=1) (n:Nat) (X:Mx) (i j:Nat):mk d n X 0 i j=m1 i j:=by
 show d 0*mp n X 0 i j=_
 rw [h,Int.one_mul];rfl
theorem mk_mm (d:Nat→Int){n:Nat}(X:Mx) (t:Nat){i j:Nat}(hi:i<n) (hj:j<n):mm n X (mk d n X t) i j=cv d (fun l=>mp n X (l+1) i j) t:=by
 have e:(fun l=>mp n X (l+1) i j)=fun l=>sm n fun k=>X i k*mp n X l k j:=by funext l;exact mp_left X l hi hj
 rw [e,cv_smr]
 exact sm_congr fun k _=>(cv_mulr _ _ _ _).symm
theorem mk_s (d:Nat→Int){n:Nat}(X:Mx) (t:Nat){i j:Nat}(hi:i<n) (hj:j<n):mk d n X (t+1) i j=mm n X (mk d n X t) i j+d (t+1)*m1 i j:=by
 rw [mk_mm d X t hi hj]
 show cv d (fun l=>mp n X l i j) (t+1)=_
 rw [cv_back];rfl
theorem mk_lf (d:Nat→Int){n:Nat}(X:Mx) (t:Nat){i j:Nat}(hi:i<n) (hj:j<n):lf (mm n X (mk d n X t)) (d (t+1)) n i j=mk d n X (t+1) i j:=by
 rw [mk_s d X t hi hj]
 unfold lf m1
 by_cases h:i=j
 ·rw [if_pos ⟨h,hi⟩,if_pos h,Int.mul_one]
 ·rw [if_neg (fun e=>h e.1),if_neg h,Int.mul_zero,Int.add_zero]
theorem mk_lf1 (d:Nat→Int){n:Nat}(X:Mx){k:Nat}(hk:1≤k){i j:Nat}(hi:i<n) (hj:j<n):lf (mm n X (mk d n X (k-1))) (d k) n i j=mk d n X (k+1-1) i j:=by
 obtain⟨t,rfl⟩:∃t,k=t+1:=⟨k-1,by omega⟩
 exact mk_lf d X t hi hj
theorem tr_mk {d:Nat→Int}{n:Nat}{X:Mx}(h:Nw d (tp n X)) (t:Nat):tr n (mm n X (mk d n X t))= -(((t+1:Nat):Int)*d (t+1)):=by
 have h1:=h (t+1)
 rw [cv_back] at h1
 have e:tr n (mm n X (mk d n X t))=cv d (fun i=>tp n X (i+1)) t:=by
  show (sm n fun i=>mm n X (mk d n X t) i i)=cv d (fun l=>sm n fun i=>mp n X (l+1) i i) t
  rw [cv_smr]
  exact sm_congr fun i hi=>mk_mm d X t hi hi
 rw [e]
 have h2:tp n X 0=0:=rfl
 rw [h2,Int.mul_zero] at h1
 omega
theorem ln_tr {n K:Nat}{Y:Mx}(h:∀i,i<n→ln (Y i i)≤K):ln (tr n Y)≤K+n:=ln_sm h
theorem ln_div {x y:Int}{k K:Nat}(h:x= -(((k+1:Nat):Int)*y)) (hx:ln x≤K):ln y≤K:=by
 refine Nat.le_trans (ln_mono ?_) hx
 rw [h,Int.natAbs_neg,Int.natAbs_mul]
 exact Nat.le_trans (by omega) (Nat.le_mul_of_pos_left y.natAbs (show 0<Int.natAbs ((k+1:Nat):Int) by omega))
theorem ln_mk {d:Nat→Int}{n K:Nat}{X:Mx}(h0:d 0=1) (h:Nw d (tp n X)) (hX:∀i j,i<n→j<n→ln (X i j)≤K):∀t,ln (d t)≤1+t*(K+2*n+1)∧∀i j,i<n→j<n→ln (mk d n X t i j)≤1+t*(K+2*n+1)
 | 0=>⟨by rw [h0];exact Nat.le_trans (ln_w1 (x:=1) (by decide) (by decide)) (by omega),fun i j _ _=>by rw [mk_0 h0];exact Nat.le_trans (ln_m1 i j) (by omega)⟩
 | t+1=>by
  obtain⟨_,h2⟩:=ln_mk h0 h hX t
  have hY:∀i j,i<n→j<n→ln (mm n X (mk d n X t) i j)≤K+(1+t*(K+2*n+1))+n:=fun i j hi hj=>ln_mm (fun k hk=>hX i k hi hk) (fun k hk=>h2 k j hk hj)
  have hd:=ln_div (tr_mk h t) (ln_tr fun i hi=>hY i i hi hi)
  have e:(t+1)*(K+2*n+1)=t*(K+2*n+1)+(K+2*n+1):=Nat.succ_mul _ _
  refine⟨by omega,fun i j hi hj=>?_⟩
  rw [←mk_lf d X t hi hj]
  unfold lf
  split
  ·exact Nat.le_trans (ln_add (hY i j hi hj) hd) (by omega)
  ·exact Nat.le_trans (hY i j hi hj) (by omega)
theorem ln_mkB {d:Nat→Int}{n:Nat}{X:Mx}(h0:d 0=1) (h:Nw d (tp n X)) (hn:n≤64) (hX:∀i j,i<n→j<n→ln (X i j)≤1048576){t:Nat}(ht:t≤n):
  ln (d t)≤134217728∧(∀i j,i<n→j<n→ln (mk d n X t i j)≤134217728)∧∀i j,i<n→j<n→ln (mm n X (mk d n X t) i j)≤134217728:=by
 obtain⟨h1,h2⟩:=ln_mk h0 h hX t
 have e:=Nat.mul_le_mul_right (1048576+2*n+1) (show t≤64 by omega)
 refine⟨by omega,fun i j hi hj=>Nat.le_trans (h2 i j hi hj) (by omega),fun i j hi hj=>Nat.le_trans (ln_mm (fun k hk=>hX i k hi hk) (fun k hk=>h2 k j hk hj)) (by omega)⟩
theorem ln_mp {n K:Nat}{X:Mx}(hX:∀i j,i<n→j<n→ln (X i j)≤K):∀t i j,i<n→j<n→ln (mp n X t i j)≤1+t*(K+n)
 | 0,i,j,_,_=>Nat.le_trans (ln_m1 i j) (by omega)
 | t+1,i,j,hi,hj=>by
  have e:(t+1)*(K+n)=t*(K+n)+(K+n):=Nat.succ_mul _ _
  exact Nat.le_trans (ln_mm (fun k hk=>ln_mp hX t i k hi hk) (fun k hk=>hX k j hk hj)) (by omega)
theorem ln_mpB {n:Nat}{X:Mx}(hn:n≤64) (hX:∀i j,i<n→j<n→ln (X i j)≤1048576){t:Nat}(ht:t≤64):∀i j,i<n→j<n→ln (mp n X t i j)≤134217728:=fun i j hi hj=>by
 have e:=Nat.mul_le_mul_right (1048576+n) ht
 exact Nat.le_trans (ln_mp hX t i j hi hj) (by omega)
def Chl (n:Nat) (d:Nat→Int) (ps:List Int):Prop:=∀j,j≤n→ps.getD (n-j) 0=d j
theorem chl_0 {n:Nat}{d:Nat→Int}(h:d 0=1):∀j,j<1→((List.replicate (n+1) 0).set n 1).getD (n-j) 0=d j:=fun j hj=>by
 have e:j=0:=by omega
 subst e
 rw [getD_set (by simp),if_pos (by omega),h]
theorem chl_s {n k:Nat}{d:Nat→Int}{ps:List Int}(h:∀j,j<k→ps.getD (n-j) 0=d j) (hl:ps.length=n+1) (hk:k≤n){x:Int}(hx:x=d k):∀j,j<k+1→(ps.set (n-k) x).getD (n-j) 0=d j:=fun j hj=>by
 rw [getD_set (by omega)]
 by_cases e:j=k
 ·subst e;rw [if_pos rfl,hx]
 ·rw [if_neg (by omega)];exact h j (by omega)
end Go.Proofs.Ytnpbbknemflpnaa
