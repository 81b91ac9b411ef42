/- Parts LongB, DivC, Gcd, Int, Sxz, Sxl, Sxw, IntB, IntC, Pop, Small, Zg, Sxb, Ab, Upto, Stays, Zs, UptoZ, App, Bz, Li, One, Sxk, Ms, Mt, Opm, Mta, Top, Br, joined. -/
import Derived.Test.YtgekkehpljbklaaM1
import Derived.IntWalk
import Derived.KernelRfl
import Derived.Test.YtgekkehpljbklaaRows
import Derived.WalkKit
import Derived.ProofKit
import Derived.OpenShut
import Derived.JoinedCond
import Derived.ChangeSame
import Derived.ChangeSlices
import Derived.ChangeStays
import Derived.Deep.Slices
import Derived.DataShut
import Derived.ArgAppend
import Derived.WalkSmall

namespace Go.Proofs.Ytgekkehpljbklaa
open Go.RowKit
theorem guess_quiet {u2 u1 u0 v1 v0 D:Nat}(h2:u2≤v1) (h1:u1≤18446744073709551615) (h0:u0≤18446744073709551615) (hv1:v1≤18446744073709551615) (hv0:v0≤18446744073709551615) (hpos:0<v1)
  (k1:D≤18446744073709551615) (k2:D*(v1*WB+v0)≤(u2*WB+u1)*WB+u0) (k3:D=18446744073709551615∨(u2*WB+u1)*WB+u0<(D+1)*(v1*WB+v0)) (w:World) (n:Nat):
  Calls Try.prog 100 #[.int .u64 (u2:Int),.int .u64 (u1:Int),.int .u64 (u0:Int),.int .u64 (v1:Int),.int .u64 (v0:Int)] (w.drewN n) (fun e w''=>e= .returned (.int .u64 (D:Int))∧∃m,w''=w.drewN m):=by
 refine Calls.quiet_of ((divnat_guess h2 h1 h0 hv1 hv0 hpos (w.drewN n)).mono ?_)
 rintro e w' ⟨d,rfl,a,b,c,m,rfl⟩
 rw [guess_only a b.out c.out k1 k2 k3]
 exact⟨rfl,m,rfl⟩
theorem lt_of_drop {l l1:List Nat}{K:Nat}(hl:K≤l.length) (hl1:K≤l1.length) (hw:Wf l1) (hd:l1.drop K=l.drop K) (h:nv l<WB^K):nv l1<WB^K:=by
 have e1:=nv_split l K hl
 have e2:=nv_split l1 K hl1
 have h3:=nv_take_lt hw K
 rw [hd] at e2
 rcases Nat.eq_zero_or_pos (nv (l.drop K)) with h0 | h0
 ·rw [h0,Nat.mul_zero] at e2;omega
 ·have:=Nat.le_mul_of_pos_right (WB^K) h0
  omega
set_option maxRecDepth 10000 in
set_option maxHeartbeats 8000000 in
theorem divnat_longA {w:World}{A B:Option Addr}{N cap n cap':Nat}{xs ys:List Nat}(hx:Rd w A N cap xs) (hN:N≤274877906944) (hy:Rd w B n cap' ys) (hn:2≤n) (hnN:n≤N) (htop:ys.getD (n-1) 0≠0):
  Calls Try.prog 92 #[.slice A N cap,.slice B n cap'] w (RetQRA w (nv xs/nv ys) (nv xs%nv ys)):=by
 obtain⟨b,y,rfl,hyk,hyb,hcy⟩:=hy.get (i:=n-1) (by omega)
 have hlx:=Lib.hid hx.len
 have hly:=Lib.hid hy.len
 have hyp:(0:Int)<(n:Int):=by omega
 go_enter Try.func92,Try.ntmps92
 go_wp2_with fail
 refine (bits_LeadingZeros64 y hyb _).mono ?_
 rintro e w' ⟨s,hs,hs64',rfl,rfl⟩
 have hstart:=long_start hx.wf hy.wf hlx.out hly.out (by omega) hnN hyk.out (by rw [←hyk.out];exact htop) hyb hs.out
 obtain⟨hs64,hVfit,hUfit,hVpos,hVlow,hUV⟩:=hstart
 have HVfit:=Lib.hid hVfit
 have HUfit:=Lib.hid hUfit
 have HVpos:=Lib.hid hVpos
 have HVlow:=Lib.hid hVlow
 have HUV:=Lib.hid hUV
 clear hVfit hUfit hVpos hVlow hUV htop
 go_wp2_with fail
 refine (divnat_shifted hy (by omega) hs64 (by omega) (Nat.le_refl _) HVfit.out).mono ?_
 rintro e w1 ⟨gv,vs,rfl,hgv,hbv,hwv,hlv,hvv,hx1⟩
 go_wp2_with fail
 refine (divnat_shifted (n:=N+1) (hx.ext hx1) (by omega) hs64 (by omega) (by omega) HUfit.out).mono ?_
 rintro e w2 ⟨gu,us,rfl,hgu,hbu,hwu,hlu,hvu,hx2⟩
 obtain⟨M,hM1,hM2⟩:∃M,M+n≤N+1∧N+1≤M+n:=⟨N+1-n,by omega,by omega⟩
 have hmk:=run_make1 (P:=Try.prog) Try.underlying32 info64 rfl (by decide) ((N:Int)-(n:Int)+1) (by omega) (by omega)
 have et:((N:Int)-(n:Int)+1).toNat=M:=by omega
 rw [et] at hmk
 clear et
 go_wp2_with fail
 clear hmk
 have hbv2:=hbv.ext hx2
 have hguv:gv<gu:=Nat.lt_of_lt_of_le hbv.lt hgu
 obtain⟨gq,hgq⟩:∃gq,w2.heap.size=gq:=⟨_,rfl⟩
 rw [hgq]
 have hguq:gu<gq:=by rw [←hgq];exact hbu.lt
 obtain⟨wa,hwa⟩:∃wa,w2.alloc (.cells (zc (.int .u64 0) M) 57)=wa:=⟨_,rfl⟩
 rw [hwa]
 have hbq:Bk wa gq 57 ((List.replicate M 0).map W64):=by
  rw [←hwa,←hgq,←replicate_W64];exact Bk.new' _ _ _
 have hea:Ext w2 wa:=by rw [←hwa];exact (Ext.refl w2).alloc _
 have hgw:w.heap.size≤gv:=hgv
 have hgw2:w.heap.size≤gu:=by omega
 have hgw3:w.heap.size≤gq:=by omega
 have hbva:=hbv2.ext hea
 have hbua:=hbu.ext hea
 have hexa:Ext w wa:=(hx1.trans hx2).trans hea
 clear hgq hwa hbv hbu hbv2 hea hcy
 have hL0:Hid (Lg (nv ys*2^s) (nv xs*2^s) M us (List.replicate M 0)):=by
  refine⟨?_,?_⟩
  ·rw [List.drop_of_length_le (by rw [List.length_replicate];exact Nat.le_refl _),hvu.out];simp [nv]
  ·rw [hvu.out,show M=N+1-n from by omega];exact HUV.out
 have hv1:Hid (0<vs.getD (n-1) 0):=by
  refine Nat.pos_of_ne_zero (fun h0=>?_)
  have e1:=nv_take_zero vs (n-1) (by rw [hlv.out];omega) h0
  rw [Nat.sub_add_cancel (by omega),List.take_of_length_le (by rw [hlv.out];exact Nat.le_refl _),hvv.out] at e1
  have e2:=nv_take_lt hwv (n-1)
  have:=HVlow.out
  omega
 go_loopw [11] (fun u wr=>∃(k:Nat) (l ql:List Nat),k≤M∧u= .int .i64 ((k:Int)-1)∧Hid (l.length=N+1)∧Wf l∧Hid (ql.length=M)∧Wf ql∧Bk wr gv 57 (vs.map W64)∧Bk wr gu 57 (l.map W64)∧Bk wr gq 57 (ql.map W64)∧
  Hid (Lg (nv ys*2^s) (nv xs*2^s) k l ql)∧Ext w wr) (fun u wr=>(intOf u+1).toNat)
 case atStart=>exact⟨M,us,_,Nat.le_refl _,val_int (by omega),hlu,hwu,List.length_replicate,Wf_zeros _,hbva,hbua,hbq,hL0,hexa⟩
 case round=>
  obtain⟨k,l,ql,hk,rfl,hll,hwl,hlq,hwq,hbv,hbu,hbq',hL,hr⟩:=hrel
  clear hbva hbua hbq hexa hL0 hlu hvu
  by_cases hk0:0<k
  ·obtain⟨j,rfl⟩:∃j,k=j+1:=⟨k-1,by omega⟩
   have ek:((j+1:Nat):Int)-1=(j:Int):=by omega
   rw [ek]
   obtain⟨u2,hu2k,hu2b,hcu2⟩:=hbu.word hwl (i:=j+n) (by rw [hll.out];omega)
   obtain⟨u1,hu1k,hu1b,hcu1⟩:=hbu.word hwl (i:=j+n-1) (by rw [hll.out];omega)
   obtain⟨u0,hu0k,hu0b,hcu0⟩:=hbu.word hwl (i:=j+n-2) (by rw [hll.out];omega)
   obtain⟨v1,hv1k,hv1b,hcv1⟩:=hbv.word hwv (i:=n-1) (by rw [hlv.out];omega)
   obtain⟨v0,hv0k,hv0b,hcv0⟩:=hbv.word hwv (i:=n-2) (by rw [hlv.out];omega)
   have hgs:=fun d=>long_guess (d:=d) hL.out hn (by rw [hll.out];omega) hwl hlv.out hwv hvv.out hv1.out
   rw [hu2k.out,hu1k.out,hu0k.out,hv1k.out,hv0k.out] at hgs
   have hu2v:u2≤v1:=(hgs 0).2.1
   have hv1p:0<v1:=by rw [←hv1k.out];exact hv1.out
   have HGS:=Lib.hid hgs
   clear hgs
   have hfin:∀(q:Nat) (l2:List Nat) (wr2:World),q=nv l/(WB^j*(nv ys*2^s))→nv l2=nv l%(WB^j*(nv ys*2^s))→q≤18446744073709551615→l2.length=N+1→Wf l2→Bk wr2 gv 57 (vs.map W64)→Bk wr2 gu 57 (l2.map W64)→Bk wr2 gq 57 ((ql.set j q).map W64)→Ext w wr2→
     ∃(k:Nat) (l ql:List Nat),k≤M∧Value.int .i64 ((j:Int)-1)= .int .i64 ((k:Int)-1)∧Hid (l.length=N+1)∧Wf l∧Hid (ql.length=M)∧Wf ql∧Bk wr2 gv 57 (vs.map W64)∧Bk wr2 gu 57 (l.map W64)∧Bk wr2 gq 57 (ql.map W64)∧
      Hid (Lg (nv ys*2^s) (nv xs*2^s) k l ql)∧Ext w wr2:=by
    intro q l2 wr2 h1 h2 h3 h4 h5 h6 h7 h8 h9
    exact⟨j,l2,ql.set j q,by omega,rfl,h4,h5,(show _=_ by rw [List.length_set];exact hlq.out),Wf_set hwq j (by rw [WB_def];omega),h6,h7,h8,hL.out.step (by rw [hlq.out];omega) HVpos.out h1 h2,h9⟩
   have FIN:=Lib.hid hfin
   clear hfin
   go_upto_region 9 with (fail)
   obtain⟨d,hdb,hd1,hd2⟩:=guess_is ((u2*WB+u1)*WB+u0) (v1*WB+v0) (by rw [WB_def];omega)
   have hdd:=Lib.hid ((HGS.out d).2.2 hdb hd1 hd2)
   have HLT:=Lib.hid (HGS.out d).1
   have HD1:=Lib.hid hd1
   have HD2:=Lib.hid hd2
   clear hd1 hd2 HGS
   have w1e:IntKind.i64.wrap ((j:Int)+(n:Int))=(j:Int)+(n:Int):=IntWalk.i64_in _ (by omega)
   have w2e:IntKind.i64.wrap ((j:Int)+(n:Int)-1)=(j:Int)+(n:Int)-1:=IntWalk.i64_in _ (by omega)
   have w3e:IntKind.i64.wrap ((j:Int)+(n:Int)-2)=(j:Int)+(n:Int)-2:=IntWalk.i64_in _ (by omega)
   have w4e:IntKind.i64.wrap ((n:Int)-1)=(n:Int)-1:=IntWalk.i64_in _ (by omega)
   have w5e:IntKind.i64.wrap ((n:Int)-2)=(n:Int)-2:=IntWalk.i64_in _ (by omega)
   have t1:((j:Int)+(n:Int)).toNat=j+n:=by omega
   have t2:((j:Int)+(n:Int)-1).toNat=j+n-1:=by omega
   have t3:((j:Int)+(n:Int)-2).toNat=j+n-2:=by omega
   have t4:((n:Int)-1).toNat=n-1:=by omega
   have t5:((n:Int)-2).toNat=n-2:=by omega
   have b1:0≤(j:Int)+(n:Int):=by omega
   have b2:0≤(j:Int)+(n:Int)-1:=by omega
   have b3:0≤(j:Int)+(n:Int)-2:=by omega
   have b4:0≤(n:Int)-1:=by omega
   have b5:0≤(n:Int)-2:=by omega
   have c1:(j:Int)+(n:Int)<(N:Int)+1:=by omega
   have c2:(j:Int)+(n:Int)-1<(N:Int)+1:=by omega
   have c3:(j:Int)+(n:Int)-2<(N:Int)+1:=by omega
   have c4:(n:Int)-1<(n:Int):=by omega
   have c5:(n:Int)-2<(n:Int):=by omega
   go_quiet (exact guess_quiet hu2v hu1b hu0b hv1b hv0b hv1p hdb HD1.out HD2.out _ _)
   clear w1e w2e w3e w4e w5e t1 t2 t3 t4 t5 b1 b2 b3 b4 b5 c1 c2 c3 c4 c5
   obtain⟨wd,hwd⟩:∃wd,wr.drewN nq=wd:=⟨_,rfl⟩
   rw [hwd]
   have hbu1:Bk wd gu 57 (l.map W64):=by rw [←hwd];exact hbu.drewN nq
   have hbv1:Bk wd gv 57 (vs.map W64):=by rw [←hwd];exact hbv.drewN nq
   have hbq1:Bk wd gq 57 (ql.map W64):=by rw [←hwd];exact hbq'.drewN nq
   have hr1:Ext w wd:=by rw [←hwd];exact hr.drewN nq
   clear hwd hcu2 hcu1 hcu0 hcv1 hcv0
   have hvrd:=hbv1.rd hwv (o:=0) (n:=n) (cap:=n) (Nat.le_refl _) (by rw [hlv.out];omega) (by rw [len_maxLen];omega)
   rw [List.drop_zero,List.take_of_length_le (by rw [hlv.out];exact Nat.le_refl _)] at hvrd
   go_wp2_with fail
   rw [show j+n+1-j=n+1 from by omega]
   refine (divnat_take (o:=j) (m:=n) hbu1 hwl hvrd (fun a ha=>by cases ha;show gv≠gu;omega) (by rw [hll.out];omega) (by omega) (by omega) hdb).mono ?_
   rintro e w4 ⟨bb,rfl,l1,c,hb4,hw4,hll4,hdr4,hc4,hP4,hu4⟩
   have hll4':Hid (l1.length=N+1):=(show _=_ by rw [hll4.out,hll.out])
   have hL1:Hid (nv l1<WB^(j+n+1)):=lt_of_drop (by rw [hll.out];omega) (by rw [hll4'.out];omega) hw4 hdr4.out HLT.out
   have hcase:=long_case (D:=WB^j*(nv ys*2^s)) (Nat.mul_pos (Nat.pow_pos WB_pos) HVpos.out) hdd.out.1 hdd.out.2 HLT.out hL1.out (by
    have h:=hP4.out.2
    rw [hvv.out,Nat.mul_left_comm] at h
    exact h) hc4
   have hbc:=hP4.out.1
   have hbv4:=hbv1.upd hu4 (by omega)
   have hbq4:=hbq1.upd hu4 (by omega)
   have hr4:=hu4.ext hr1 hgw2
   have hbb:bb=false∧c=0∨bb=true∧c=1:=by
    rcases bb with _ | _
    ·left;refine⟨rfl,?_⟩;simp at hbc;omega
    ·right;exact⟨rfl,hbc.1 rfl⟩
   clear hP4 hbc hc4 hbv hbu hbq' hbu1 hbv1 hbq1 hr hr1 hvrd
   rcases hbb with⟨rfl,hc⟩ | ⟨rfl,hc⟩
   ·have h0:=Lib.hid (hcase.1 hc)
    clear hcase hc
    obtain⟨z,hz,_,hcz⟩:=hbq4.word hwq (i:=j) (by rw [hlq.out];omega)
    have hfz:=hbq4.frozen j
    have hjM:(j:Int)<(M:Int):=by omega
    go_wp2_with fail
    go_roundw
    case rel=>exact FIN.out d l1 _ h0.out.1 h0.out.2 hdb hll4'.out hw4 (hbv4.far (by show gv≠gq;omega) _) (hb4.far (by show gu≠gq;omega) _) (by rw [←map_W64_set];exact hbq4.set _ _) (hr4.setCell hgw3 _)
    case measure=>simp [intOf]
   ·have h0:=Lib.hid (hcase.2 hc)
    clear hcase hc
    obtain⟨q,rfl⟩:∃q,d=q+1:=⟨_,h0.out.1⟩
    have hq:Hid (q=nv l/(WB^j*(nv ys*2^s))):=(show _=_ from Nat.succ.inj h0.out.1)
    have hvrd:=hbv4.rd hwv (o:=0) (n:=n) (cap:=n) (Nat.le_refl _) (by rw [hlv.out];omega) (by rw [len_maxLen];omega)
    rw [List.drop_zero,List.take_of_length_le (by rw [hlv.out];exact Nat.le_refl _)] at hvrd
    go_wp2_with fail
    rw [show j+n+1-j=n+1 from by omega]
    refine (divnat_give (o:=j) (m:=n) hb4 hw4 hvrd (fun a ha=>by cases ha;show gv≠gu;omega) (by rw [hll4'.out];omega) (by omega) (by omega)).mono ?_
    rintro e w5 ⟨rfl,l2,c2,hb5,hw5,hll5,hdr5,hc5,hP5,hu5⟩
    have hll5':Hid (l2.length=N+1):=(show _=_ by rw [hll5.out,hll4'.out])
    have hL2:Hid (nv l2<WB^(j+n+1)):=lt_of_drop (by rw [hll4'.out];omega) (by rw [hll5'.out];omega) hw5 hdr5.out hL1.out
    have hfin2:Hid (nv l2=nv l%(WB^j*(nv ys*2^s))):=h0.out.2 (nv l2) c2 hc5 hL2.out (by have h:=hP5.out;rw [hvv.out] at h;exact h)
    have hbv5:=hbv4.upd hu5 (by omega)
    have hbq5:=hbq4.upd hu5 (by omega)
    have hr5:=hu5.ext hr4 hgw2
    clear hP5 hc5 hbv4 hbq4 hr4 hb4 hvrd h0
    obtain⟨z,hz,_,hcz⟩:=hbq5.word hwq (i:=j) (by rw [hlq.out];omega)
    have hfz:=hbq5.frozen j
    have hjM:(j:Int)<(M:Int):=by omega
    go_wp2_with fail
    go_roundw
    case rel=>exact FIN.out q l2 _ hq.out hfin2.out (by omega) hll5'.out hw5 (hbv5.far (by show gv≠gq;omega) _) (hb5.far (by show gu≠gq;omega) _) (by rw [←map_W64_set];exact hbq5.set _ _) (hr5.setCell hgw3 _)
    case measure=>simp [intOf]
  ·obtain rfl:k=0:=by omega
   have ek:((0:Nat):Int)-1= -1:=rfl
   rw [ek]
   have hLv:Hid (nv l<nv ys*2^s):=by
    have:=hL.out.lt
    rw [Nat.pow_zero,Nat.mul_one] at this
    exact this
   have hQ:=long_end (X:=nv xs) (Y:=nv ys) (s:=s) (Q:=nv ql) (L:=nv l) (Nat.pos_of_mul_pos_right HVpos.out) (by have:=hL.out.eq;simpa using this) hLv.out
   have hln:Hid (nv (l.take n)=nv l):=by
    show _=_
    have e1:=nv_split l n (by rw [hll.out];omega)
    rcases Nat.eq_zero_or_pos (nv (l.drop n)) with h0 | h0
    ·rw [h0,Nat.mul_zero,Nat.add_zero] at e1;exact e1.symm
    ·have:=Nat.le_mul_of_pos_right (WB^n) h0
     have h2:=hLv.out
     have h3:=HVfit.out
     omega
   have HQ:=Lib.hid hQ
   clear hQ
   have hurd:=hbu.rd hwl (o:=0) (n:=n) (cap:=N+1) (by omega) (by rw [hll.out];omega) (by rw [len_maxLen];omega)
   rw [List.drop_zero] at hurd
   go_wp2_with fail
   refine (nat_Shr hurd (by omega) (by omega)).mono ?_
   rintro e w6 ⟨A6,n6,c6,rfl,hn6,hr6,ho6,hx6⟩
   rw [hln.out,HQ.out.2] at hn6 hr6 ho6
   have hqrd:=(hbq'.ext hx6).rd hwq (o:=0) (n:=M) (cap:=M) (Nat.le_refl _) (by rw [hlq.out];omega) (by rw [len_maxLen];omega)
   rw [List.drop_zero,List.take_of_length_le (by rw [hlq.out];exact Nat.le_refl _)] at hqrd
   go_wp2_with fail
   refine (nat_Least hqrd (by omega)).mono ?_
   rintro e w7 ⟨A7,n7,c7,rfl,hn7,hr7,ho7,hx7⟩
   rw [HQ.out.1] at hn7 hr7 ho7
   go_wp2_with fail
   go_ret2
   exact⟨A7,n7,c7,A6,n6,c6,rfl,hn7,hr7,ho7.mono (hr.trans hx6).size,hn6,hr6.ext hx7,(ho6.mono hr.size).ext hx7,(hr.trans hx6).trans hx7,fun p p' hp hp'=>by have h1:=ho7.block p hp;have h2:=ho6.block p' hp';omega⟩
def RetQRE (w:World) (q r:Nat) (er:Int) (e:Ending) (w':World):Prop:=
 ∃A n cap B m cap',e= .returned (.tuple #[.slice A n cap,.slice B m cap',.int .i64 er])∧Hid (n=(wd q).length)∧Rd w' A n cap (wd q)∧Own w' w.heap.size 57 1 A n cap ((wd q).map W64)∧
  Hid (m=(wd r).length)∧Rd w' B m cap' (wd r)∧Own w' w.heap.size 57 1 B m cap' ((wd r).map W64)∧Ext w w'
def RetQREA (w:World) (q r:Nat) (er:Int) (e:Ending) (w':World):Prop:=
 ∃A n cap B m cap',e= .returned (.tuple #[.slice A n cap,.slice B m cap',.int .i64 er])∧Hid (n=(wd q).length)∧Rd w' A n cap (wd q)∧Own w' w.heap.size 57 1 A n cap ((wd q).map W64)∧
  Hid (m=(wd r).length)∧Rd w' B m cap' (wd r)∧Own w' w.heap.size 57 1 B m cap' ((wd r).map W64)∧Ext w w'∧∀p p',A=some p→B=some p'→p.block≠p'.block
theorem RetQREA.old {w:World}{q r:Nat}{er:Int}{e:Ending}{w':World}(h:RetQREA w q r er e w'):RetQRE w q r er e w':=by
 obtain⟨A,n,cap,B,m,cap',h1,h2,h3,h4,h5,h6,h7,h8,_⟩:=h
 exact⟨A,n,cap,B,m,cap',h1,h2,h3,h4,h5,h6,h7,h8⟩
theorem wd_top {m:Nat}(h:m≠0):(wd m).getD ((wd m).length-1) 0≠0:=by
 intro h0
 have hl:0<(wd m).length:=Nat.pos_of_ne_zero (fun e=>h (len_wd_zero.1 e))
 have e1:=nv_take_zero (wd m) ((wd m).length-1) (by omega) h0
 rw [Nat.sub_add_cancel (by omega),List.take_of_length_le (Nat.le_refl _),nv_wd] at e1
 have h2:=nv_take_lt (Wf_wd m) ((wd m).length-1)
 have h3:=pow_len_le h
 omega
theorem wd_len_one {m v:Nat}(h:1=(wd m).length) (hv:(wd m).getD 0 0=v):m=v:=by
 have e1:=nv_take_snoc (wd m) 0 (by omega)
 rw [List.take_of_length_le (by omega),nv_wd,hv] at e1
 simpa [nv] using e1
theorem divnat_DivModA {w:World}{A B:Option Addr}{n cap n' cap':Nat}{xs ys:List Nat}(hx:Rd w A n cap xs) (hl:n≤274877906944) (hy:Rd w B n' cap' ys) (hl':n'≤274877906944) (h0:nv ys≠0):
  Calls Try.prog 80 #[.slice A n cap,.slice B n' cap'] w (RetQREA w (nv xs/nv ys) (nv xs%nv ys) 0):=by
 go_enter Try.func80,Try.ntmps80
 go_wp2_with fail
 refine (nat_Least hy (by omega)).mono ?_
 rintro e w1 ⟨A1,n1,c1,rfl,hn1,hr1,ho1,hx1⟩
 have hn1p:0<n1:=by
  rw [hn1.out];exact Nat.pos_of_ne_zero (fun e=>h0 (len_wd_zero.1 e))
 have hn1b:n1≤n':=by
  have:=len_wd_nv hy.wf
  rw [hn1.out,←hy.len];exact this
 have b0:((n1:Int)==0)=false:=by simp;omega
 by_cases h1:n1=1
 ·subst h1
  obtain⟨a,v,rfl,hvk,hvb,hcv⟩:=hr1.get (i:=0) (by omega)
  have hv:Hid (nv ys=v):=wd_len_one hn1.out hvk.out
  have hcv0:w1.cell? a=some (.int .u64 (v:Int)):=by simpa [Addr.add] using hcv
  go_wp2_with fail
  refine (divnat_Word (hx.ext hx1) (by omega) (v:=v) (by rw [←hv.out];exact h0) hvb).mono ?_
  rintro e w2 ⟨A2,n2,c2,r,rfl,hr,hrb,hn2,hr2,ho2,hx2⟩
  go_wp2_with fail
  have hone:=Rd.one w2 hrb
  refine (nat_Least hone (by omega)).mono ?_
  rintro e w3 ⟨A3,n3,c3,rfl,hn3,hr3,ho3,hx3⟩
  rw [nv_one,hr.out,←hv.out] at hn3 hr3 ho3
  rw [←hv.out] at hn2 hr2 ho2
  have hal:Ext w2 w3:=((Ext.refl w2).alloc _).trans hx3
  go_wp2_with fail
  go_ret3
  exact⟨A2,n2,c2,A3,n3,c3,rfl,hn2,hr2.ext hal,(ho2.mono hx1.size).ext hal,hn3,hr3,ho3.mono (Nat.le_trans (hx1.trans hx2).size (by simp)),(hx1.trans hx2).trans hal,fun p p' hp hp'=>by have h1:=ho2.block p hp;have h2:=ho3.block p' hp';simp only [World.alloc,Array.size_push] at h2;omega⟩
 ·have b1:((n1:Int)==1)=false:=by simp;omega
  go_wp2_with fail
  refine (nat_Least (hx.ext hx1) (by omega)).mono ?_
  rintro e w2 ⟨A2,n2,c2,rfl,hn2,hr2,ho2,hx2⟩
  have hn2b:n2≤n:=by
   have:=len_wd_nv hx.wf
   rw [hn2.out,←hx.len];exact this
  go_wp2_with fail
  refine (nat_Cmp hr2 (by omega) (hr1.ext hx2) (by omega)).mono ?_
  rintro e w3 ⟨c,hc,hcl,hch,rfl,hx3⟩
  rw [nv_wd,nv_wd] at hc
  by_cases hlt:nv xs<nv ys
  ·have hneg:c<0:=by rw [hc.out];exact cmp3_neg.2 hlt
   go_wp2_with fail
   go_ret3
   rw [Nat.div_eq_of_lt hlt,Nat.mod_eq_of_lt hlt]
   exact⟨none,0,0,A2,n2,c2,rfl,rfl,Rd.nil _,Own.nil _ _ _ _,hn2,hr2.ext hx3,(ho2.mono hx1.size).ext hx3,(hx1.trans hx2).trans hx3,fun p p' hp=>by cases hp⟩
  ·have hneg:¬c<0:=by rw [hc.out,cmp3_neg];exact hlt
   have HL:=Lib.hid hlt
   have hn12:n1≤n2:=by rw [hn1.out,hn2.out];exact len_wd_mono (by omega)
   clear hlt
   go_wp2_with fail
   refine (divnat_longA (hr2.ext hx3) (by omega) ((hr1.ext hx2).ext hx3) (by omega) hn12 (by rw [hn1.out];exact wd_top h0)).mono ?_
   rintro e w4 ⟨A4,n4,c4,A5,n5,c5,rfl,hn4,hr4,ho4,hn5,hr5,ho5,hx4,hap⟩
   rw [nv_wd,nv_wd] at hn4 hr4 ho4 hn5 hr5 ho5
   go_wp2_with fail
   go_ret3
   have hs:=((hx1.trans hx2).trans hx3)
   exact⟨A4,n4,c4,A5,n5,c5,rfl,hn4,hr4,ho4.mono hs.size,hn5,hr5,ho5.mono hs.size,hs.trans hx4,hap⟩
theorem divnat_DivMod {w:World}{A B:Option Addr}{n cap n' cap':Nat}{xs ys:List Nat}(hx:Rd w A n cap xs) (hl:n≤274877906944) (hy:Rd w B n' cap' ys) (hl':n'≤274877906944) (h0:nv ys≠0):
  Calls Try.prog 80 #[.slice A n cap,.slice B n' cap'] w (RetQRE w (nv xs/nv ys) (nv xs%nv ys) 0):=(divnat_DivModA hx hl hy hl' h0).mono fun _ _ h=>h.old
theorem divnat_Exact {w:World}{A B:Option Addr}{n cap n' cap':Nat}{xs ys:List Nat}(hx:Rd w A n cap xs) (hl:n≤274877906944) (hy:Rd w B n' cap' ys) (hl':n'≤274877906944) (h0:nv ys≠0) (h1:nv xs%nv ys=0):
  Calls Try.prog 66 #[.slice A n cap,.slice B n' cap'] w (RetWE w (nv xs/nv ys) 0):=by
 go_enter Try.func66,Try.ntmps66
 have H1:=Lib.hid h1
 clear h1
 go_wp2_with fail
 refine (divnat_DivMod hx hl hy hl' h0).mono ?_
 rintro e w1 ⟨A4,n4,c4,A5,n5,c5,rfl,hn4,hr4,ho4,hn5,hr5,ho5,hx4⟩
 obtain rfl:n5=0:=by rw [hn5.out,H1.out];rfl
 go_wp2_with fail
 go_ret2
 exact⟨A4,n4,c4,rfl,hn4,hr4,ho4,hx4⟩
def wordOf:Option Value→Nat
 | some (.int _ z)=>z.toNat
 | _=>0
def numAt (w:World):Value→Nat
 | .slice (some a) n _=>nv ((List.range n).map fun i=>wordOf (w.cell? (a.add i)))
 | _=>0
def sg (s:Bool) (m:Nat):Int:=if s then-(m:Int) else m
theorem sg_false (m:Nat):sg false m=m:=rfl
theorem sg_true (m:Nat):sg true m= -(m:Int):=rfl
theorem sg_abs (s:Bool) (m:Nat):(sg s m).natAbs=m:=by cases s <;> simp [sg]
theorem sg_self (z:Int):sg (decide (z<0)) z.natAbs=z:=by
 by_cases h:z<0
 ·rw [decide_eq_true h,sg_true];omega
 ·rw [decide_eq_false h,sg_false];omega
theorem sg_zero (s:Bool):sg s 0=0:=by cases s <;> rfl
theorem sg_eq_zero {s:Bool}{m:Nat}:sg s m=0↔m=0:=by cases s <;> simp [sg]
theorem sg_not (s:Bool) (m:Nat):sg (!s) m= -sg s m:=by cases s <;> simp [sg]
theorem sg_lt (s:Bool) (m:Nat):decide (sg s m<0)=(s&&decide (0<m)):=by
 cases s
 ·simp [sg]
 ·by_cases h:0<m
  ·simp [sg,h]
  ·have:m=0:=by omega
   subst this
   simp [sg]
theorem sg_add (s:Bool) (m k:Nat):sg s (m+k)=sg s m+sg s k:=by cases s <;> simp [sg] <;> omega
theorem sg_sub {s:Bool}{m k:Nat}(h:k≤m):sg s (m-k)=sg s m+sg (!s) k:=by cases s <;> simp [sg] <;> omega
theorem sg_mul (s t:Bool) (m k:Nat):sg (s != t) (m*k)=sg s m*sg t k:=by
 cases s <;> cases t <;> simp [sg,Int.mul_neg,Int.neg_mul]
theorem sg_tdiv (s t:Bool) (m k:Nat):sg (s != t) (m/k)=(sg s m).tdiv (sg t k):=by
 cases s <;> cases t <;> simp [sg,Int.tdiv_neg,Int.neg_tdiv]
def ln (z:Int):Nat:=(wd z.natAbs).length
theorem ln_neg (x:Int):ln (-x)=ln x:=by unfold ln;rw [Int.natAbs_neg]
theorem ln_add {x y:Int}{a b:Nat}(hx:ln x≤a) (hy:ln y≤b):ln (x+y)≤max a b+1:=by
 have h1:=len_wd_mono (Int.natAbs_add_le x y)
 have h2:=len_wd_add x.natAbs y.natAbs
 unfold ln at*
 omega
theorem ln_sub {x y:Int}{a b:Nat}(hx:ln x≤a) (hy:ln y≤b):ln (x-y)≤max a b+1:=by
 rw [Int.sub_eq_add_neg]
 exact ln_add hx (by rw [ln_neg];exact hy)
theorem ln_mul {x y:Int}{a b:Nat}(hx:ln x≤a) (hy:ln y≤b):ln (x*y)≤a+b:=by
 have h2:=len_wd_mul x.natAbs y.natAbs
 unfold ln at*
 rw [Int.natAbs_mul]
 omega
def Zi (w:World) (s:Bool) (A:Option Addr) (n cap:Nat) (z:Int):Prop:=∃xs,Rd w A n cap xs∧sg s (nv xs)=z
theorem Zi.ext {w w':World}{s:Bool}{A:Option Addr}{n cap:Nat}{z:Int}(h:Zi w s A n cap z) (e:Ext w w'):Zi w' s A n cap z:=by
 obtain⟨xs,h1,h2⟩:=h
 exact⟨xs,h1.ext e,h2⟩
theorem Zi.ln {w:World}{s:Bool}{A:Option Addr}{n cap:Nat}{z:Int}(h:Zi w s A n cap z):Go.Proofs.Ytgekkehpljbklaa.ln z≤n:=by
 obtain⟨xs,h1,rfl⟩:=h
 have:=len_wd_nv h1.wf
 rw [h1.len] at this
 unfold Go.Proofs.Ytgekkehpljbklaa.ln
 rw [sg_abs]
 exact this
theorem Zi.not {w:World}{s:Bool}{A:Option Addr}{n cap:Nat}{z:Int}(h:Zi w s A n cap z):Zi w (!s) A n cap (-z):=by
 obtain⟨xs,h1,rfl⟩:=h
 exact⟨xs,h1,sg_not _ _⟩
structure Zr (w:World) (base:Nat) (s:Bool) (A:Option Addr) (n cap:Nat) (z:Int):Prop where
 sgn:s=decide (z<0)
 len:n=ln z
 own:Own w base 57 1 A n cap ((wd z.natAbs).map W64)
theorem Zr.rd {w:World}{base:Nat}{s:Bool}{A:Option Addr}{n cap:Nat}{z:Int}(h:Zr w base s A n cap z):Rd w A n cap (wd z.natAbs):=h.own.rd (Wf_wd _)
theorem Zr.ext {w w':World}{base:Nat}{s:Bool}{A:Option Addr}{n cap:Nat}{z:Int}(h:Zr w base s A n cap z) (e:Ext w w'):Zr w' base s A n cap z:=⟨h.sgn,h.len,h.own.ext e⟩
theorem Zr.mono {w:World}{base base':Nat}{s:Bool}{A:Option Addr}{n cap:Nat}{z:Int}(h:Zr w base s A n cap z) (e:base'≤base):Zr w base' s A n cap z:=⟨h.sgn,h.len,h.own.mono e⟩
theorem Zr.zi {w:World}{base:Nat}{s:Bool}{A:Option Addr}{n cap:Nat}{z:Int}(h:Zr w base s A n cap z):Zi w s A n cap z:=⟨_,h.rd,by rw [nv_wd,h.sgn,sg_self]⟩
theorem Zr.upd {w w':World}{base g:Nat}{s:Bool}{A:Option Addr}{n cap:Nat}{z:Int}(h:Zr w base s A n cap z) (hg:g<base) (e:Upd g w w'):Zr w' base s A n cap z:=
 ⟨h.sgn,h.len,h.own.upd e (fun a ha=>by have:=(h.own.block a ha).1;omega)⟩
theorem Zr.cast {w:World}{base:Nat}{s:Bool}{A:Option Addr}{n cap:Nat}{z z':Int}(h:Zr w base s A n cap z) (e:z=z'):Zr w base s A n cap z':=e▸h
theorem Zr.le {w:World}{base:Nat}{s:Bool}{A:Option Addr}{n cap:Nat}{z:Int}(h:Zr w base s A n cap z){b:Nat}(hb:ln z≤b):n≤b:=by rw [h.len];exact hb
theorem Zr.ln_le {w:World}{base:Nat}{s:Bool}{A:Option Addr}{n cap:Nat}{z:Int}(h:Zr w base s A n cap z){b:Nat}(hb:n≤b):ln z≤b:=by rw [←h.len];exact hb
theorem Zr.zero {w:World}{base:Nat}:Zr w base false none 0 0 0:=⟨by decide,rfl,Own.nil _ _ _ _⟩
def RetZ (w:World) (z:Int) (e:Ending) (w':World):Prop:=
 ∃s A n cap,e= .returned (.agg #[.bool s,.slice A n cap])∧Zr w' w.heap.size s A n cap z∧Ext w w'
def RetZE (w:World) (z:Int) (er:Int) (e:Ending) (w':World):Prop:=
 ∃s A n cap,e= .returned (.tuple #[.agg #[.bool s,.slice A n cap],.int .i64 er])∧Zr w' w.heap.size s A n cap z∧Ext w w'
theorem Zr_of {w:World}{base:Nat}{s s':Bool}{A:Option Addr}{n cap m:Nat}{z:Int}(h:s'=decide (sg s m<0)) (hn:n=(wd m).length) (ho:Own w base 57 1 A n cap ((wd m).map W64)) (hz:sg s m=z):Zr w base s' A n cap z:=by
 have e:z.natAbs=m:=by rw [←hz,sg_abs]
 rw [hz] at h
 exact⟨h,by unfold ln;rw [e];exact hn,by rw [e];exact ho⟩
theorem Bk.two {w:World}{g:Nat}{t:TypeId}{a b:Value}(h:Bk w g t [a,b]):w.cell? ⟨g,0,none⟩=some a∧w.cell? ⟨g,1,none⟩=some b∧w.frozen? ⟨g,0,none⟩=false∧w.frozen? ⟨g,1,none⟩=false:=
 ⟨h.cell (i:=0) (by simp),h.cell (i:=1) (by simp),h.frozen 0,h.frozen 1⟩
theorem Bk.two_set {w:World}{g:Nat}{t:TypeId}{a b:Value}(h:Bk w g t [a,b]) (u v:Value):Bk ((w.setCell ⟨g,0,none⟩ u).setCell ⟨g,1,none⟩ v) g t [u,v]:=(h.set 0 u).set 1 v
theorem Upd.two {w:World}{g:Nat}(u v:Value):Upd g w ((w.setCell ⟨g,0,none⟩ u).setCell ⟨g,1,none⟩ v):=((Upd.refl g w).setCell 0 u).setCell 1 v
theorem Bk.sec {w:World}{t t':TypeId}{l:Array Value}{a b:Value}:Bk ((w.alloc (.cells l t')).alloc (.cells #[a,b] t)) (w.heap.size+1) t [a,b]:=by
 have:=Bk.new (w.alloc (.cells l t')) t [a,b]
 simpa using this
theorem Bk.thi {w:World}{t t' t'':TypeId}{l l':Array Value}{a b:Value}:Bk (((w.alloc (.cells l t')).alloc (.cells l' t'')).alloc (.cells #[a,b] t)) (w.heap.size+2) t [a,b]:=by
 have:=Bk.new ((w.alloc (.cells l t')).alloc (.cells l' t'')) t [a,b]
 simpa using this
theorem Bk.fou {w:World}{t t' t'' t''':TypeId}{l l' l'':Array Value}{a b:Value}:Bk ((((w.alloc (.cells l t')).alloc (.cells l' t'')).alloc (.cells l'' t''')).alloc (.cells #[a,b] t)) (w.heap.size+3) t [a,b]:=by
 have:=Bk.new (((w.alloc (.cells l t')).alloc (.cells l' t'')).alloc (.cells l'' t''')) t [a,b]
 simpa using this
theorem boxes2 (w:World) (t t':TypeId) (a b c d:Value):∃g g2 wa,w.heap.size+1=g2∧w.heap.size=g∧(w.alloc (.cells #[a,b] t)).alloc (.cells #[c,d] t')=wa∧Bk wa g t [a,b]∧Bk wa g2 t' [c,d]∧Ext w wa∧g<g2∧g2<wa.heap.size∧g≠g2∧g2≠g:=
 ⟨_,_,_,rfl,rfl,rfl,(Bk.new w t [a,b]).alloc _,Bk.sec,((Ext.refl w).alloc _).alloc _,by omega,by simp,by omega,by omega⟩
theorem boxes3 (w:World) (t t' t'':TypeId) (a b c d e f:Value):∃g g2 g3 wa,w.heap.size+1+1=g3∧w.heap.size+1=g2∧w.heap.size=g∧((w.alloc (.cells #[a,b] t)).alloc (.cells #[c,d] t')).alloc (.cells #[e,f] t'')=wa∧Bk wa g t [a,b]∧Bk wa g2 t' [c,d]∧Bk wa g3 t'' [e,f]∧Ext w wa∧g<g2∧g2<g3∧g3<wa.heap.size∧g≠g2∧g2≠g∧g≠g3∧g3≠g∧g2≠g3∧g3≠g2:=
 ⟨_,_,_,_,rfl,rfl,rfl,rfl,((Bk.new w t [a,b]).alloc _).alloc _,Bk.sec.alloc _,Bk.thi,(((Ext.refl w).alloc _).alloc _).alloc _,by omega,by omega,by simp,by omega,by omega,by omega,by omega,by omega,by omega⟩
theorem boxes4 (w:World) (t t' t'' t''':TypeId) (a b c d e f i j:Value):∃g g2 g3 g4 wa,w.heap.size+1+1+1=g4∧w.heap.size+1+1=g3∧w.heap.size+1=g2∧w.heap.size=g∧(((w.alloc (.cells #[a,b] t)).alloc (.cells #[c,d] t')).alloc (.cells #[e,f] t'')).alloc (.cells #[i,j] t''')=wa∧Bk wa g t [a,b]∧Bk wa g2 t' [c,d]∧Bk wa g3 t'' [e,f]∧Bk wa g4 t''' [i,j]∧Ext w wa∧g<g2∧g2<g3∧g3<g4∧g4<wa.heap.size∧g≠g2∧g2≠g∧g≠g3∧g3≠g∧g2≠g3∧g3≠g2∧g≠g4∧g4≠g∧g2≠g4∧g4≠g2∧g3≠g4∧g4≠g3:=
 ⟨_,_,_,_,_,rfl,rfl,rfl,rfl,rfl,(((Bk.new w t [a,b]).alloc _).alloc _).alloc _,(Bk.sec.alloc _).alloc _,Bk.thi.alloc _,Bk.fou,((((Ext.refl w).alloc _).alloc _).alloc _).alloc _,by omega,by omega,by omega,by simp,by omega,by omega,by omega,by omega,by omega,by omega,by omega,by omega,by omega,by omega,by omega,by omega⟩
theorem fin_int {w w2:World}{g base:Nat}{T:TypeId}{x y:Value}{s:Bool}{A:Option Addr}{n cap:Nat}{z:Int}(_hb:Bk w2 g T [x,y]) (hz:Zr w2 base s A n cap z) (hg:g<base) (hw:w.heap.size≤g) (he:Ext w w2):
  RetZ w z (.returned (.agg #[.bool s,.slice A n cap])) ((w2.setCell ⟨g,0,none⟩ (.bool s)).setCell ⟨g,1,none⟩ (.slice A n cap)):=
 ⟨s,A,n,cap,rfl,(hz.upd hg (Upd.two _ _)).mono (by omega),(Upd.two _ _).ext he hw⟩
theorem res_int {w:World}{g:Nat}{t:TypeId}{a b:Value}{fn:Func}{s:Tmp}(hf:fn.results= #[.cell s 34]){tmps:Array Value}(hs:tmps.getD s undef= .pointer (some ⟨g,0,none⟩)) (h:Bk w g t [a,b]):(results fn tmps).run Try.prog w= .ok (.agg #[a,b]) w:=by
 obtain⟨h1,h2,_,_⟩:=h.two
 have hs2:tmps[s]?.getD undef= .pointer (some ⟨g,0,none⟩):=by simpa using hs
 simp [results,hf,hs2,loadVar,loadCells,loadCellsFrom,go_sem,h1,h2]
def scmp (x y:Int):Int:=if x<y then-1 else if x=y then 0 else 1
theorem scmp_zero {x y:Int}:scmp x y=0↔x=y:=by unfold scmp;split <;> (try split) <;> omega
def SgnP (v:Int) (w:World) (e:Ending) (w':World):Prop:=∃c:Int,Hid (c=v)∧ -1≤c∧c≤1∧e= .returned (.int .i64 c)∧Ext w w'
theorem zint_of {w:World}{s:Bool}{A:Option Addr}{n cap m:Nat}(hn:n=(wd m).length):
  Calls Try.prog 36 #[.bool s,.slice A n cap] w fun e w'=>∃s',e= .returned (.agg #[.bool s',.slice A n cap])∧Hid (s'=decide (sg s m<0))∧Ext w w':=by
 have hm:decide (0<m)=decide (0<n):=by
  by_cases h:m=0
  ·rw [h] at hn⊢;rw [hn];rfl
  ·have:n≠0:=fun e=>h (len_wd_zero.1 (by rw [←hn,e]))
   rw [decide_eq_true (show 0<m by omega),decide_eq_true (show 0<n by omega)]
 have HM:Hid (decide (sg s m<0)=(s&&decide (0<n))):=(show _=_ by rw [sg_lt,hm])
 clear hm hn
 go_enter Try.func36,Try.ntmps36
 cases s
 ·go_wp2_with fail
  refine bodyPost_ret (v:= .agg #[.bool false,.slice A n cap]) (by simp [results,Try.results36,go_sem]) rfl ?_
  exact⟨_,rfl,(show _=_ by rw [HM.out];rfl),(Ext.refl w).alloc _⟩
 ·by_cases h:n=0
  ·subst h
   go_wp2_with fail
   refine bodyPost_ret (v:= .agg #[.bool false,.slice A 0 cap]) (by simp [results,Try.results36,go_sem]) rfl ?_
   exact⟨_,rfl,(show _=_ by rw [HM.out];rfl),(Ext.refl w).alloc _⟩
  ·have h0:0<n:=by omega
   have hd:decide (0<n)=true:=decide_eq_true h0
   have hi:0<(n:Int):=by omega
   go_wp2_with fail
   refine bodyPost_ret (v:= .agg #[.bool true,.slice A n cap]) (by simp [results,Try.results36,go_sem]) rfl ?_
   exact⟨_,rfl,(show _=_ by rw [HM.out,hd];rfl),(Ext.refl w).alloc _⟩
theorem zint_Neg {w:World}{s:Bool}{A:Option Addr}{n cap:Nat}{x:Int}(hx:Zi w s A n cap x) (hl:n≤68719476736):
  Calls Try.prog 23 #[.agg #[.bool s,.slice A n cap]] w (RetZ w (-x)):=by
 obtain⟨xs,hr,rfl⟩:=hx
 go_enter Try.func23,Try.ntmps23
 go_upto_region 1 with (fail)
 obtain⟨g,g2,wa,hg2,hg,hwa,hb1,hb2,hea,l12,l2,n12,n21⟩:=boxes2 w 34 34 (.bool s) (.slice A n cap) (.bool false) (.slice none 0 0)
 rw [hg2,hg,hwa]
 have hgw:w.heap.size≤g:=Nat.le_of_eq hg
 clear hwa hg hg2
 obtain⟨f1,f2,f3,f4⟩:=hb1.two
 obtain⟨k1,k2,k3,k4⟩:=hb2.two
 go_region_held3 (fun w'=>w'.cell? ⟨g,0,none⟩=some (.bool s)∧w'.cell? ⟨g,1,none⟩=some (.slice A n cap)) (go_keep)
  (first
  | (go_at_call 38;refine (nat_Least (hr.ext (by repeat (first | exact Ext.refl _ | assumption | apply Ext.drewN | apply Ext.drew | apply Ext.alloc))) (by omega)).mono ?_;rintro e w1 ⟨A1,n1,c1,rfl,hn1,hr1,ho1,hx1⟩;have he1:Ext wa w1:=Ext.trans (by repeat (first | exact Ext.refl _ | assumption | apply Ext.drewN | apply Ext.drew | apply Ext.alloc)) hx1;have hc1:=hb1.ext he1;have hc2:=hb2.ext he1;obtain⟨f1',f2',f3',f4'⟩:=hc1.two;obtain⟨k1',k2',k3',k4'⟩:=hc2.two)
  | (go_at_call 36;refine (zint_of hn1.out).mono ?_;rintro e w2 ⟨s',rfl,hs',hx2⟩;have hd1:=hc1.ext hx2;have hd2:=hc2.ext hx2;obtain⟨f1'',f2'',f3'',f4''⟩:=hd1.two;obtain⟨k1'',k2'',k3'',k4''⟩:=hd2.two))
 go_wp2_with fail
 refine bodyPost_ret (res_int rfl rfl (hd2.two_set _ _)) rfl ?_
 exact fin_int hd2 ((Zr_of hs'.out hn1.out ho1 (sg_not _ _)).ext hx2) (by first | omega | (simp;omega)) (by omega) (hea.trans (he1.trans hx2))
theorem zint_Least {w:World}{s:Bool}{A:Option Addr}{n cap:Nat}{x:Int}(hx:Zi w s A n cap x) (hl:n≤68719476736):
  Calls Try.prog 45 #[.agg #[.bool s,.slice A n cap]] w (RetZ w (x)):=by
 obtain⟨xs,hr,rfl⟩:=hx
 go_enter Try.func45,Try.ntmps45
 go_upto_region 1 with (fail)
 obtain⟨g,g2,wa,hg2,hg,hwa,hb1,hb2,hea,l12,l2,n12,n21⟩:=boxes2 w 34 34 (.bool s) (.slice A n cap) (.bool false) (.slice none 0 0)
 rw [hg2,hg,hwa]
 have hgw:w.heap.size≤g:=Nat.le_of_eq hg
 clear hwa hg hg2
 obtain⟨f1,f2,f3,f4⟩:=hb1.two
 obtain⟨k1,k2,k3,k4⟩:=hb2.two
 go_region_held3 (fun w'=>w'.cell? ⟨g,0,none⟩=some (.bool s)∧w'.cell? ⟨g,1,none⟩=some (.slice A n cap)) (go_keep)
  (first
  | (go_at_call 38;refine (nat_Least (hr.ext (by repeat (first | exact Ext.refl _ | assumption | apply Ext.drewN | apply Ext.drew | apply Ext.alloc))) (by omega)).mono ?_;rintro e w1 ⟨A1,n1,c1,rfl,hn1,hr1,ho1,hx1⟩;have he1:Ext wa w1:=Ext.trans (by repeat (first | exact Ext.refl _ | assumption | apply Ext.drewN | apply Ext.drew | apply Ext.alloc)) hx1;have hc1:=hb1.ext he1;have hc2:=hb2.ext he1;obtain⟨f1',f2',f3',f4'⟩:=hc1.two;obtain⟨k1',k2',k3',k4'⟩:=hc2.two)
  | (go_at_call 36;refine (zint_of hn1.out).mono ?_;rintro e w2 ⟨s',rfl,hs',hx2⟩;have hd1:=hc1.ext hx2;have hd2:=hc2.ext hx2;obtain⟨f1'',f2'',f3'',f4''⟩:=hd1.two;obtain⟨k1'',k2'',k3'',k4''⟩:=hd2.two))
 go_wp2_with fail
 refine bodyPost_ret (res_int rfl rfl (hd2.two_set _ _)) rfl ?_
 exact fin_int hd2 ((Zr_of hs'.out hn1.out ho1 rfl).ext hx2) (by first | omega | (simp;omega)) (by omega) (hea.trans (he1.trans hx2))
theorem zint_Mul {w:World}{s t:Bool}{A B:Option Addr}{n cap m cap':Nat}{x y:Int}(hx:Zi w s A n cap x) (hl:n≤68719476736) (hy:Zi w t B m cap' y) (hl':m≤68719476736):
  Calls Try.prog 11 #[.agg #[.bool s,.slice A n cap],.agg #[.bool t,.slice B m cap']] w (RetZ w (x*y)):=by
 obtain⟨xs,hr,rfl⟩:=hx
 obtain⟨ys,hq,rfl⟩:=hy
 go_enter Try.func11,Try.ntmps11
 go_upto_region 1 with (fail)
 obtain⟨g,g2,g3,wa,hg3,hg2,hg,hwa,hb1,hb2,hb3,hea,l12,l23,l3,n12,n21,n13,n31,n23,n32⟩:=boxes3 w 34 34 34 (.bool s) (.slice A n cap) (.bool t) (.slice B m cap') (.bool false) (.slice none 0 0)
 rw [hg3,hg2,hg,hwa]
 have hgw:w.heap.size≤g:=Nat.le_of_eq hg
 clear hwa hg hg2 hg3
 obtain⟨f1,f2,f3,f4⟩:=hb1.two
 obtain⟨h1,h2,h3,h4⟩:=hb2.two
 obtain⟨k1,k2,k3,k4⟩:=hb3.two
 go_region_held3 (fun w'=>w'.cell? ⟨g,0,none⟩=some (.bool s)∧w'.cell? ⟨g,1,none⟩=some (.slice A n cap)∧w'.cell? ⟨g2,0,none⟩=some (.bool t)∧w'.cell? ⟨g2,1,none⟩=some (.slice B m cap')) (go_keep)
  (first
  | (go_at_call 37;refine (mulnat_Mul (hr.ext (by repeat (first | exact Ext.refl _ | assumption | apply Ext.drewN | apply Ext.drew | apply Ext.alloc))) (hq.ext (by repeat (first | exact Ext.refl _ | assumption | apply Ext.drewN | apply Ext.drew | apply Ext.alloc))) (by omega)).mono ?_;rintro e w1 ⟨A1,n1,c1,rfl,hn1,hr1,ho1,hx1⟩;have he1:Ext wa w1:=Ext.trans (by repeat (first | exact Ext.refl _ | assumption | apply Ext.drewN | apply Ext.drew | apply Ext.alloc)) hx1;have hc1:=hb1.ext he1;have hc2:=hb2.ext he1;have hc3:=hb3.ext he1;obtain⟨f1',f2',f3',f4'⟩:=hc1.two;obtain⟨h1',h2',h3',h4'⟩:=hc2.two;obtain⟨k1',k2',k3',k4'⟩:=hc3.two)
  | (go_at_call 36;refine (zint_of hn1.out).mono ?_;rintro e w2 ⟨s',rfl,hs',hx2⟩;have hd1:=hc1.ext hx2;have hd2:=hc2.ext hx2;have hd3:=hc3.ext hx2;obtain⟨f1'',f2'',f3'',f4''⟩:=hd1.two;obtain⟨h1'',h2'',h3'',h4''⟩:=hd2.two;obtain⟨k1'',k2'',k3'',k4''⟩:=hd3.two))
 go_wp2_with fail
 refine bodyPost_ret (res_int rfl rfl (hd3.two_set _ _)) rfl ?_
 exact fin_int hd3 ((Zr_of hs'.out hn1.out ho1 (sg_mul _ _ _ _)).ext hx2) (by first | omega | (simp;omega)) (by omega) (hea.trans (he1.trans hx2))
theorem zint_Sign {w:World}{s:Bool}{A:Option Addr}{n cap:Nat}{x:Int}(hx:Zi w s A n cap x) (hl:n≤68719476736):
  Calls Try.prog 59 #[.agg #[.bool s,.slice A n cap]] w (SgnP (scmp x 0) w):=by
 obtain⟨xs,hr,rfl⟩:=hx
 go_enter Try.func59,Try.ntmps59
 go_upto_region 1 with (fail)
 have hb1:=Bk.new w 34 [.bool s,.slice A n cap]
 obtain⟨wa,hwa⟩:∃wa,w.alloc (.cells #[.bool s,.slice A n cap] 34)=wa:=⟨_,rfl⟩
 rw [hwa]
 obtain⟨g,hg⟩:∃g,w.heap.size=g:=⟨_,rfl⟩
 rw [hg] at hb1⊢
 have hb1':Bk wa g 34 [.bool s,.slice A n cap]:=by rw [←hwa];exact hb1
 have hea:Ext w wa:=by rw [←hwa];exact (Ext.refl w).alloc _
 clear hwa hg hb1
 obtain⟨f1,f2,f3,f4⟩:=hb1'.two
 go_wp2_with fail
 refine (nat_BitLen (hr.ext hea) (by omega)).mono ?_
 rintro e w1 ⟨b,hb,rfl,hx1'⟩
 have hx1:=hea.trans hx1'
 obtain⟨f1',f2',f3',f4'⟩:=(hb1'.ext hx1').two
 by_cases h0:b=0
 ·subst h0
  have hz:nv xs=0:=blen_eq_zero.1 hb.out.symm
  have HZ:=Lib.hid hz
  clear hz
  go_wp2_with fail
  go_ret
  exact⟨0,(show _=_ by rw [HZ.out,sg_zero];rfl),by omega,by omega,rfl,hx1⟩
 ·have bb:((b:Int)==0)=false:=by simp;omega
  have hz:0<nv xs:=Nat.pos_of_ne_zero (fun e=>h0 (by rw [hb.out,e];rfl))
  have HZ:=Lib.hid hz
  clear hz h0
  cases s
  ·go_wp2_with fail
   go_ret
   refine⟨1,?_,by omega,by omega,rfl,hx1⟩
   show _=_
   rw [sg_false,scmp,if_neg (by omega),if_neg (by have:=HZ.out;omega)]
  ·go_wp2_with fail
   go_ret
   refine⟨-1,?_,by omega,by omega,rfl,hx1⟩
   show _=_
   rw [sg_true,scmp,if_pos (by have:=HZ.out;omega)]
theorem Own.updT {w w':World}{base:Nat}{t T:TypeId}{s:Nat}{A:Option Addr}{n cap:Nat}{vs us:List Value}{g:Nat}(h:Own w base t s A n cap vs) (hb:Bk w g T us) (hT:t≠T) (e:Upd g w w'):Own w' base t s A n cap vs:=by
 refine h.upd e (fun a ha hg=>?_)
 rcases h with⟨h,_⟩ | ⟨k,cs,hA,_,hk,_⟩
 ·rw [h] at ha;cases ha
 ·rw [hA] at ha
  cases ha
  simp only at hg
  subst hg
  unfold Bk at hk hb
  rw [hk] at hb
  injection hb with hb
  injection hb with h1 h2
  exact hT h2
theorem Zr.updT {w w':World}{base:Nat}{s:Bool}{A:Option Addr}{n cap:Nat}{z:Int}{g:Nat}{T:TypeId}{us:List Value}(h:Zr w base s A n cap z) (hb:Bk w g T us) (e:Upd g w w') (hT:57≠T:=by decide):Zr w' base s A n cap z:=
 ⟨h.sgn,h.len,h.own.updT hb hT e⟩
theorem Bk.updN {w w':World}{g g':Nat}{T:TypeId}{vs:List Value}(h:Bk w g T vs) (e:Upd g' w w') (hne:g≠g'):Bk w' g T vs:=h.upd e hne
theorem scmp_eq_t {x y:Int}(h:x=y):cmpB .eql (scmp x y) 0=some true:=by
 have e:scmp x y=0:=scmp_zero.2 h
 rw [e];rfl
theorem scmp_eq_f {x y:Int}(h:x≠y):cmpB .eql (scmp x y) 0=some false:=by
 have e:¬scmp x y=0:=fun e=>h (scmp_zero.1 e)
 simp only [cmpB,Option.some.injEq,beq_eq_false_iff_ne,ne_eq];exact e
structure AggT (P:Program) (T:TypeId) (k:Nat):Prop where
 agg:∀w,(isAgg T).run P w= .ok true w
 size:∀w,(sizeOf T).run P w= .ok k w
theorem run_load1 {P:Program}{w:World}{p:Addr}{v:Value}(h:w.cell? p=some v):(load p).run P w= .ok v w:=by
 simp only [load,Sem.run,h]
theorem run_store1 {P:Program}{w:World}{p:Addr}{u v:Value}(h:w.cell? p=some u) (hf:w.frozen? p=false) (h1:v.oneCell'=true):(store p v).run P w= .ok () (w.setCell p v):=by
 rw [run_store P w p v .plain h1,h,hf];rfl
theorem run_loadCells {P:Program}{w:World}{p:Addr}:∀(vs:List Value) (i:Nat) (acc:Array Value),(∀j,j<vs.length→w.cell? (p.add (i+j))=some (vs.getD j undef))→
  (loadCellsFrom p i vs.length acc).run P w= .ok (acc++vs.toArray) w
 | [],i,acc,_=>by simp [loadCellsFrom]
 | v::vs,i,acc,h=>by
  have h0:=h 0 (by simp)
  simp only [Nat.add_zero,List.getD_cons_zero] at h0
  have ih:=run_loadCells (P:=P) (p:=p) vs (i+1) (acc.push v) (fun j hj=>by
   have:=h (j+1) (by simpa using hj)
   rw [show i+1+j=i+(j+1) by omega]
   simpa using this)
  show ((load (p.add i)>>=fun v=>loadCellsFrom p (i+1) vs.length (acc.push v):Sem (Array Value))).run P w=_
  have e:(load (p.add i)).run P w= .ok v w:=run_load1 h0
  rw [Sem.run_bind,e]
  simp only [Result.andThen_ok,ih]
  simp
theorem load_agg {P:Program}{w:World}{T T':TypeId}{k off g:Nat}{vs:List Value}(hT:AggT P T k) (hb:Bk w g T' vs) (us:List Value) (hu:us.length=k) (hle:off+k≤vs.length) (he:(vs.drop off).take k=us):
  (loadVar T ⟨g,off,none⟩).run P w= .ok (.agg us.toArray) w:=by
 subst hu
 have h1:=run_loadCells (P:=P) (w:=w) (p:=⟨g,off,none⟩) us 0 #[] (fun j hj=>by
  rw [Nat.zero_add,add_lit0,hb.cell (by omega)]
  congr 1
  rw [←he]
  simp only [List.getD_eq_getElem?_getD,List.getElem?_take,List.getElem?_drop]
  rw [if_pos hj])
 unfold loadVar loadCells
 rw [Sem.run_bind,hT.agg w]
 simp only [Result.andThen_ok,if_true,Sem.run_bind,hT.size w,h1]
 simp
theorem load_cell {P:Program}{w:World}{T T':TypeId}{g i:Nat}{vs:List Value}{v:Value}(hT:∀w,(isAgg T).run P w= .ok false w) (hb:Bk w g T' vs) (hv:vs[i]?=some v):(loadVar T ⟨g,i,none⟩).run P w= .ok v w:=by
 have hi:i<vs.length:=(List.getElem?_eq_some_iff.1 hv).1
 have hc:=hb.cell hi
 rw [List.getD_eq_getElem?_getD,hv] at hc
 unfold loadVar
 rw [Sem.run_bind,hT w]
 simp only [Result.andThen_ok,Bool.false_eq_true,if_false]
 exact run_load1 hc
def overl (vs:List Value) (off:Nat) (us:List Value):List Value:=vs.take off++us++vs.drop (off+us.length)
theorem store_cells {P:Program}{g:Nat}{T:TypeId}:∀(us:List Value) (i off:Nat) (w:World) (vs:List Value),Bk w g T vs→off+i+us.length≤vs.length→(∀u∈us,u.oneCell'=true)→
  ∃w',(storeCells ⟨g,off,none⟩ us i).run P w= .ok () w'∧Bk w' g T (overl vs (off+i) us)∧Upd g w w'∧w'.heap.size=w.heap.size
 | [],i,off,w,vs,hb,_,_=>⟨w,rfl,by simpa [overl] using hb,Upd.refl g w,rfl⟩
 | u::us,i,off,w,vs,hb,hle,h1=>by
  have hi:off+i<vs.length:=by simp at hle;omega
  have hc:=hb.cell hi
  have hf:=hb.frozen (off+i)
  have hb1:=hb.set (off+i) u
  obtain⟨w',hr,hb2,hu,hs⟩:=store_cells (P:=P) us (i+1) off (w.setCell ⟨g,off+i,none⟩ u) (vs.set (off+i) u) hb1 (by simp at hle⊢;omega) (fun x hx=>h1 x (by simp [hx]))
  refine⟨w',?_,?_,((Upd.refl g w).setCell (off+i) u).trans hu,by rw [hs];simp [World.setCell]⟩
  ·show ((store ((⟨g,off,none⟩:Addr).add i) u>>=fun _=>storeCells ⟨g,off,none⟩ us (i+1):Sem Unit)).run P w=_
   rw [add_lit0,Sem.run_bind,run_store1 hc hf (h1 u (by simp))]
   exact hr
  ·have e:overl (vs.set (off+i) u) (off+(i+1)) us=overl vs (off+i) (u::us):=by
    unfold overl
    have e1:(vs.set (off+i) u).take (off+(i+1))=vs.take (off+i)++ [u]:=by
     rw [show off+(i+1)=off+i+1 by omega,take_snoc _ _ (by simpa using hi) undef,List.take_set_of_le (Nat.le_refl _)]
     congr 2
     rw [List.getD_eq_getElem?_getD,List.getElem?_set_self hi];rfl
    rw [e1,List.drop_set_of_lt (by omega)]
    simp only [List.length_cons,List.append_assoc,List.cons_append,List.nil_append]
    rw [show off+(i+1)+us.length=off+i+(us.length+1) by omega]
   rw [←e];exact hb2
theorem run_stored {P:Program}{w:World}{T T':TypeId}{k g off:Nat}{vs us:List Value}(hT:AggT P T k) (hk:us.length=k)
  (hb:Bk w g T' vs) (hle:off+k≤vs.length) (h1:us.all (·.oneCell')=true) (us':List Value) (he:overl vs off us=us'):
  ∃w',(storeVar T ⟨g,off,none⟩ (.agg us.toArray)).run P w= .ok () w'∧Bk w' g T' us'∧Upd g w w'∧w'.heap.size=w.heap.size:=by
 subst hk
 obtain⟨w',hr,hb2,hu,hs⟩:=store_cells (P:=P) us 0 off w vs hb (by omega) (by simpa [List.all_eq_true] using h1)
 rw [Nat.add_zero,he] at hb2
 refine⟨w',?_,hb2,hu,hs⟩
 unfold storeVar
 rw [Sem.run_bind]
 show ((sizeOf T).run P w).andThen _=_
 rw [hT.size w]
 have e:(Value.agg us.toArray).cells=us.toArray:=rfl
 simp only [Result.andThen_ok,e,List.size_toArray,ne_eq,not_true,if_false]
 exact hr
theorem wl_stored {P:Program}{Q:Exit→Act→World→Prop}{n:Nat}{l:Fr}{w:World}{ops:Array Oper}{rest:List Oper}{ty:TypeId}{pos:String}{af:Array Edge}{gd:Option (Nat×Bool)}
  (hw:guardB ops l gd=some true){x y:Operand}{T T':TypeId}{k g off:Nat}{vs us:List Value}(hx:evo l x=some (.pointer (some ⟨g,off,none⟩))) (hy:evo l y=some (.agg us.toArray)) (hT:AggT P T k) (hk:us.length=k)
  (hb:Bk w g T' vs) (hle:off+k≤vs.length) (h1:us.all (·.oneCell')=true) (us':List Value) (he:overl vs off us=us')
  (h:∀w',Bk w' g T' us'→Upd g w w'→w'.heap.size=w.heap.size→wl P ops Q n rest l w'):wl P ops Q n (⟨none,.store T x y,ty,pos,af,gd⟩::rest) l w:=by
 obtain⟨w',hr,hb2,hu,hs⟩:=run_stored (P:=P) hT hk hb hle h1 us' he
 exact wl_store hw (p:=⟨g,off,none⟩) hx hy (w':=w') hr (h w' hb2 hu hs)
theorem wl_stored1 {P:Program}{Q:Exit→Act→World→Prop}{n:Nat}{l:Fr}{w:World}{ops:Array Oper}{rest:List Oper}{ty:TypeId}{pos:String}{af:Array Edge}{gd:Option (Nat×Bool)}
  (hw:guardB ops l gd=some true){x y:Operand}{T T':TypeId}{g off:Nat}{vs:List Value}{v:Value}(hx:evo l x=some (.pointer (some ⟨g,off,none⟩))) (hy:evo l y=some v) (hT:∀w,(sizeOf T).run P w= .ok 1 w) (hv:v.cells= #[v])
  (hb:Bk w g T' vs) (hle:off<vs.length) (h1:v.oneCell'=true) (us':List Value) (he:vs.set off v=us')
  (h:∀w',Bk w' g T' us'→Upd g w w'→w'.heap.size=w.heap.size→wl P ops Q n rest l w'):wl P ops Q n (⟨none,.store T x y,ty,pos,af,gd⟩::rest) l w:=by
 have hb2:=hb.set off v
 rw [he] at hb2
 refine wl_store hw (p:=⟨g,off,none⟩) hx hy (w':=w.setCell ⟨g,off,none⟩ v) ?_ (h _ hb2 ((Upd.refl g w).setCell off v) (by simp [World.setCell]))
 unfold storeVar
 rw [Sem.run_bind]
 show ((sizeOf T).run P w).andThen _=_
 rw [hT w]
 simp only [Result.andThen_ok,hv,List.size_toArray,List.length_cons,List.length_nil,ne_eq,not_true,Nat.zero_add,if_false]
 show ((store ((⟨g,off,none⟩:Addr).add 0) v>>=fun _=>storeCells ⟨g,off,none⟩ [] (0+1):Sem Unit)).run P w=_
 rw [add_lit0,Nat.add_zero,Sem.run_bind,run_store1 (hb.cell hle) (hb.frozen off) h1]
 rfl
section
variable {P:Program}{Q:Exit→Act→World→Prop}{n:Nat}{l:Fr}{w:World}{ops:Array Oper}{rest:List Oper}{d:Nat}{ty:TypeId}{pos:String}{af:Array Edge}{gd:Option (Nat×Bool)}
theorem run_index {t e:TypeId}{s m c:Nat}{a:Addr}{k:IntKind}{i:Int}(hT:P.underlying t=some (.slice e)) (hs:∀w,(sizeOf e).run P w= .ok s w) (h0:0≤i) (h1:i<m):
  (Instr.indexAt t (.slice (some a) m c) (.int k i)).run P w= .ok (.pointer (some (a.add (i.toNat*s)))) w:=by
 have hu:(underlying t).run P w= .ok (.slice e) w:=run_underlying hT w
 unfold Instr.indexAt
 simp only [asIntOf,Sem.run_bind,Sem.run_pure,Result.andThen_ok,hu]
 rw [if_pos ⟨h0,h1⟩]
 simp only [Sem.run_bind,hs w,Result.andThen_ok,Sem.run_pure]
def optIs (v:Option Value) (k:Nat) (dflt:Nat):Prop:=(v=none∧k=dflt)∨v=some (.int .i64 (k:Int))
theorem run_bound {i cap:Nat}{k:BoundsCode}(h:i≤cap):(Instr.sliceBound (.int .i64 (i:Int)) cap k).run P w= .ok i w:=by
 unfold Instr.sliceBound
 simp only [asIntOf,Sem.run_bind,Sem.run_pure,Result.andThen_ok]
 rw [if_pos ⟨by omega,by omega⟩]
 rfl
theorem run_slice {t e:TypeId}{s m c lo hi:Nat}{A:Option Addr}{low high:Option Value}(hT:P.underlying t=some (.slice e)) (hs:∀w,(sizeOf e).run P w= .ok s w) (h1:optIs low lo 0) (h2:optIs high hi m) (h3:lo≤hi) (h4:hi≤c):
  (Instr.sliceAt t (.slice A m c) low high none).run P w= .ok (.slice (if c=lo then A else A.map (·.add (lo*s))) (hi-lo) (c-lo)) w:=by
 have hu:(underlying t).run P w= .ok (.slice e) w:=run_underlying hT w
 have hb:(Instr.sliceBounds true m c low high none).run P w= .ok (lo,hi,c) w:=by
  unfold Instr.sliceBounds
  rcases h1 with⟨rfl,rfl⟩ | rfl <;> rcases h2 with⟨rfl,rfl⟩ | rfl
  ·simp only [Sem.run_bind,Sem.run_pure,Result.andThen_ok]
  ·simp only [Sem.run_bind,Sem.run_pure,Result.andThen_ok,run_bound h4,if_true]
  ·simp only [Sem.run_bind,Sem.run_pure,Result.andThen_ok,Option.isSome,run_bound h3]
  ·simp only [Sem.run_bind,Sem.run_pure,Result.andThen_ok,Option.isSome,run_bound h4,run_bound h3,if_true]
 unfold Instr.sliceAt
 simp only [Sem.run_bind,hu,Result.andThen_ok]
 unfold Instr.slice
 simp only [Sem.run_bind,hu,Result.andThen_ok,hb,hs w,Sem.run_pure]
theorem wl_slice (hw:guardB ops l gd=some true){x:Operand}{lo' hi':Option Operand}{t e:TypeId}{s m c lo hi:Nat}{A:Option Addr}(hx:evo l x=some (.slice A m c)) (hT:P.underlying t=some (.slice e)) (hs:∀w,(sizeOf e).run P w= .ok s w)
  (h1:match lo' with | none=>lo=0 | some y=>evo l y=some (.int .i64 (lo:Int))) (h2:match hi' with | none=>hi=m | some y=>evo l y=some (.int .i64 (hi:Int))) (h3:lo≤hi) (h4:hi≤c)
  {v:Value}(hv:Value.slice (if c=lo then A else A.map (·.add (lo*s))) (hi-lo) (c-lo)=v) (hn:d<n) (h:wl P ops Q n rest ((d,v)::l) w):wl P ops Q n (⟨some d,.slice t x lo' hi' none,ty,pos,af,gd⟩::rest) l w:=
 wl_val hw hn (fun a' ha=>by
  have e:(Instr.sliceAt t (a'.eval x) (lo'.map a'.eval) (hi'.map a'.eval) (Option.map a'.eval none)).run P w= .ok v w:=by
   rw [ha.ev hx,←hv]
   refine run_slice hT hs ?_ ?_ h3 h4
   ·cases lo' with
    | none=>exact Or.inl ⟨rfl,h1⟩
    | some y=>exact Or.inr (by show some (a'.eval y)=_;rw [ha.ev h1])
   ·cases hi' with
    | none=>exact Or.inl ⟨rfl,h2⟩
    | some y=>exact Or.inr (by show some (a'.eval y)=_;rw [ha.ev h2])
  show ((Instr.sliceAt t (a'.eval x) (lo'.map a'.eval) (hi'.map a'.eval) (Option.map a'.eval none)>>=fun r=>pure (Next.value r):Sem Next)).run P w=_
  rw [Sem.run_bind,e];rfl) h
theorem load_at {T:TypeId}{k:Nat}{p:Addr}(hT:AggT P T k) (us:List Value) (hu:us.length=k) (hc:∀j,j<us.length→w.cell? (p.add j)=some (us.getD j undef)):(loadVar T p).run P w= .ok (.agg us.toArray) w:=by
 subst hu
 have h1:=run_loadCells (P:=P) (w:=w) (p:=p) us 0 #[] (fun j hj=>by rw [Nat.zero_add];exact hc j hj)
 unfold loadVar loadCells
 rw [Sem.run_bind,hT.agg w]
 simp only [Result.andThen_ok,if_true,Sem.run_bind,hT.size w,h1]
 simp
theorem load_cell1 {T:TypeId}{p:Addr}{v:Value}(hT:∀w,(isAgg T).run P w= .ok false w) (hc:w.cell? p=some v):(loadVar T p).run P w= .ok v w:=by
 unfold loadVar
 rw [Sem.run_bind,hT w]
 simp only [Result.andThen_ok,Bool.false_eq_true,if_false]
 exact run_load1 hc
end
theorem lt_t {a b:Int}(h:a<b):cmpB .lss a b=some true:=by simp only [cmpB,Option.some.injEq,decide_eq_true_eq];omega
theorem lt_f {a b:Int}(h:b≤a):cmpB .lss a b=some false:=by simp only [cmpB,Option.some.injEq,decide_eq_false_iff_not];omega
theorem gt_f {a b:Int}(h:a≤b):cmpB .gtr a b=some false:=by simp only [cmpB,Option.some.injEq,decide_eq_false_iff_not];omega
theorem eq_t {a b:Int}(h:a=b):cmpB .eql a b=some true:=by subst h;simp [cmpB]
theorem eq_f {a b:Int}(h:a≠b):cmpB .eql a b=some false:=by simp only [cmpB,Option.some.injEq,beq_eq_false_iff_ne,ne_eq];exact h
theorem ne_t {a b:Int}(h:a≠b):cmpB .neq a b=some true:=by simp only [cmpB,Option.some.injEq,bne_iff_ne,ne_eq];exact h
theorem ne_f {a b:Int}(h:a=b):cmpB .neq a b=some false:=by subst h;simp [cmpB]
theorem ar_i64 {a b c:Int}(h:a+b=c) (h1: -9223372036854775808≤c) (h2:c≤9223372036854775807):arB .add .i64 a b=some c:=by
 simp only [arB,Option.some.injEq];rw [h];exact IntWalk.i64_in _ ⟨h1,h2⟩
theorem ar_i64s {a b c:Int}(h:a-b=c) (h1: -9223372036854775808≤c) (h2:c≤9223372036854775807):arB .sub .i64 a b=some c:=by
 simp only [arB,Option.some.injEq];rw [h];exact IntWalk.i64_in _ ⟨h1,h2⟩
theorem ar_i64m {a b c:Int}(h:a*b=c) (h1: -9223372036854775808≤c) (h2:c≤9223372036854775807):arB .mul .i64 a b=some c:=by
 simp only [arB,Option.some.injEq];rw [h];exact IntWalk.i64_in _ ⟨h1,h2⟩
theorem Rd.at {w:World}{A:Option Addr}{n c:Nat}{xs:List Nat}(h:Rd w A n c xs){i:Nat}(hi:i<n):
  ∃p,A.map (·.add (i*1))=some p∧w.cell? p=some (.int .u64 ((xs.getD i 0:Nat):Int))∧xs.getD i 0≤18446744073709551615:=by
 obtain⟨a,x,rfl,hk,hb,hc⟩:=h.get hi
 refine⟨a.add i,by rw [Nat.mul_one];rfl,?_,by rw [hk.out];exact hb⟩
 rw [hk.out];exact hc
section
variable {P:Program}{Q:Exit→Act→World→Prop}{n:Nat}{l:Fr}{w:World}{ops:Array Oper}{rest:List Oper}{d:Nat}{op:Op}{ty:TypeId}{pos:String}{af:Array Edge}{gd:Option (Nat×Bool)}
theorem run_idx {t e:TypeId}{s m c:Nat}{A:Option Addr}{k:IntKind}{i:Int}{j:Nat}{p:Addr}(hT:P.underlying t=some (.slice e)) (hs:∀w,(sizeOf e).run P w= .ok s w) (hi:i=(j:Int)) (hj:j<m) (hp:A.map (·.add (j*s))=some p):
  (Instr.indexAt t (.slice A m c) (.int k i)).run P w= .ok (.pointer (some p)) w:=by
 subst hi
 cases A with
 | none=>cases hp
 | some a=>
  have h:=run_index (P:=P) (w:=w) (t:=t) (e:=e) (s:=s) (m:=m) (c:=c) (a:=a) (k:=k) (i:=(j:Int)) hT hs (by omega) (by omega)
  rw [h]
  rw [Int.toNat_natCast]
  injection hp with hp
  rw [←hp]
theorem wl_idx (hw:guardB ops l gd=some true){x y:Operand}{t e:TypeId}{s m c:Nat}{A:Option Addr}{k:IntKind}{i:Int}(hx:evo l x=some (.slice A m c)) (hy:evo l y=some (.int k i)) (hT:P.underlying t=some (.slice e)) (hs:∀w,(sizeOf e).run P w= .ok s w)
  (j:Nat) (hi:i=(j:Int)) (hj:j<m) (p:Addr) (hp:A.map (·.add (j*s))=some p) (hn:d<n) (h:wl P ops Q n rest ((d,.pointer (some p))::l) w):wl P ops Q n (⟨some d,.indexAddr t x y,ty,pos,af,gd⟩::rest) l w:=
 wl_val hw hn (fun a' ha=>by
  have e:(Instr.indexAt t (a'.eval x) (a'.eval y)).run P w= .ok (.pointer (some p)) w:=by rw [ha.ev hx,ha.ev hy];exact run_idx hT hs hi hj hp
  show ((Instr.indexAt t (a'.eval x) (a'.eval y)>>=fun r=>pure (Next.value r):Sem Next)).run P w=_
  rw [Sem.run_bind,e];rfl) h
theorem rd_idx {x y:Operand}{t e:TypeId}{s m c:Nat}{A:Option Addr}{k:IntKind}{i:Int}{dst:Option Tmp}(hx:evo l x=some (.slice A m c)) (hy:evo l y=some (.int k i)) (hT:P.underlying t=some (.slice e)) (hs:∀w,(sizeOf e).run P w= .ok s w)
  (j:Nat) (hi:i=(j:Int)) (hj:j<m) (p:Addr) (hp:A.map (·.add (j*s))=some p):RunD P n l ⟨dst,.indexAddr t x y,ty,pos,af,gd⟩ w (.value (.pointer (some p))) w:=fun a' ha=>by
 have e:(Instr.indexAt t (a'.eval x) (a'.eval y)).run P w= .ok (.pointer (some p)) w:=by rw [ha.ev hx,ha.ev hy];exact run_idx hT hs hi hj hp
 show ((Instr.indexAt t (a'.eval x) (a'.eval y)>>=fun r=>pure (Next.value r):Sem Next)).run P w=_
 rw [Sem.run_bind,e];rfl
theorem rd_cmp {o:BinOp}{t t':TypeId}{x y:Operand}{k:IntKind}{a b:Int}{dst:Option Tmp}(hx:evo l x=some (.int k a)) (hy:evo l y=some (.int k b)) (c:Bool) (hc:cmpB o a b=some c):RunD P n l ⟨dst,.binOp o t x y t',ty,pos,af,gd⟩ w (.value (.bool c)) w:=fun a' ha=>by
 have e:((do eqGuard o t x y (a'.eval x) (a'.eval y);binOp o t (a'.eval x) (a'.eval y)):Sem Value).run P w= .ok (.bool c) w:=by
  rw [ha.ev hx,ha.ev hy];exact run_cmp hc
 show ((((do eqGuard o t x y (a'.eval x) (a'.eval y);binOp o t (a'.eval x) (a'.eval y)):Sem Value)>>=fun r=>pure (Next.value r)):Sem Next).run P w=_
 rw [Sem.run_bind,e];rfl
theorem run_store1v {w:World}{T T':TypeId}{g off:Nat}{vs:List Value}{v:Value}(hT:∀w,(sizeOf T).run P w= .ok 1 w) (hv:v.cells= #[v]) (hb:Bk w g T' vs) (hle:off<vs.length) (h1:v.oneCell'=true) (us':List Value) (he:vs.set off v=us'):
  ∃w',(storeVar T ⟨g,off,none⟩ v).run P w= .ok () w'∧Bk w' g T' us'∧Upd g w w'∧w'.heap.size=w.heap.size:=by
 have hb2:=hb.set off v
 rw [he] at hb2
 refine⟨w.setCell ⟨g,off,none⟩ v,?_,hb2,(Upd.refl g w).setCell off v,by simp [World.setCell]⟩
 unfold storeVar
 rw [Sem.run_bind]
 show ((sizeOf T).run P w).andThen _=_
 rw [hT w]
 simp only [Result.andThen_ok,hv,List.size_toArray,List.length_cons,List.length_nil,ne_eq,not_true,Nat.zero_add,if_false]
 show ((store ((⟨g,off,none⟩:Addr).add 0) v>>=fun _=>storeCells ⟨g,off,none⟩ [] (0+1):Sem Unit)).run P w=_
 rw [add_lit0,Nat.add_zero,Sem.run_bind,run_store1 (hb.cell hle) (hb.frozen off) h1]
 rfl
end
theorem cb_lt_t {A B:Int}{a b:Nat}(ha:A=(a:Int)) (hb:B=(b:Int)) (h:a<b):cmpB .lss A B=some true:=by subst ha hb;exact lt_t (by omega)
theorem cb_lt_f {A B:Int}{a b:Nat}(ha:A=(a:Int)) (hb:B=(b:Int)) (h:b≤a):cmpB .lss A B=some false:=by subst ha hb;exact lt_f (by omega)
theorem cb_gt_f {A B:Int}{a b:Nat}(ha:A=(a:Int)) (hb:B=(b:Int)) (h:a≤b):cmpB .gtr A B=some false:=by subst ha hb;exact gt_f (by omega)
theorem cb_eq_t {A B:Int}{a b:Nat}(ha:A=(a:Int)) (hb:B=(b:Int)) (h:a=b):cmpB .eql A B=some true:=by subst ha hb;exact eq_t (by omega)
theorem cb_eq_f {A B:Int}{a b:Nat}(ha:A=(a:Int)) (hb:B=(b:Int)) (h:a≠b):cmpB .eql A B=some false:=by subst ha hb;exact eq_f (by omega)
theorem cb_ne_t {A B:Int}{a b:Nat}(ha:A=(a:Int)) (hb:B=(b:Int)) (h:a≠b):cmpB .neq A B=some true:=by subst ha hb;exact ne_t (by omega)
theorem cb_ne_f {A B:Int}{a b:Nat}(ha:A=(a:Int)) (hb:B=(b:Int)) (h:a=b):cmpB .neq A B=some false:=by subst ha hb;exact ne_f (by omega)
theorem ai_add {A B:Int}{a b:Nat}(ha:A=(a:Int)) (hb:B=(b:Int)) (h:a+b≤9223372036854775807):arB .add .i64 A B=some ((a+b:Nat):Int):=by
 subst ha hb;exact ar_i64 (by omega) (by omega) (by omega)
theorem ai_sub {A B:Int}{a b:Nat}(ha:A=(a:Int)) (hb:B=(b:Int)) (h:b≤a) (h2:a≤9223372036854775807):arB .sub .i64 A B=some ((a-b:Nat):Int):=by
 subst ha hb;exact ar_i64s (by omega) (by omega) (by omega)
theorem ai_mul {A B:Int}{a b:Nat}(ha:A=(a:Int)) (hb:B=(b:Int)) (h:a*b≤9223372036854775807):arB .mul .i64 A B=some ((a*b:Nat):Int):=by
 subst ha hb;exact ar_i64m (by rw [←Int.natCast_mul]) (by omega) (by omega)
theorem sz_u64 (w:World):(sizeOf 57).run Try.prog w= .ok 1 w:=by kernel_rfl
theorem ag_u64 (w:World):(isAgg 57).run Try.prog w= .ok false w:=by kernel_rfl
theorem un_u64:Try.prog.underlying 32=some (.slice 57):=Try.underlying32
theorem res_ie {w:World}{g:Nat}{t:TypeId}{a b:Value}{fn:Func}{s u:Tmp}(hf:fn.results= #[.cell s 34,.tmp u]){tmps:Array Value}(hs:tmps.getD s undef= .pointer (some ⟨g,0,none⟩)){v:Value}(hu:tmps.getD u undef=v) (h:Bk w g t [a,b]):
  (results fn tmps).run Try.prog w= .ok (.tuple #[.agg #[a,b],v]) w:=by
 obtain⟨h1,h2,_,_⟩:=h.two
 have hs2:tmps[s]?.getD undef= .pointer (some ⟨g,0,none⟩):=by simpa using hs
 have hu2:tmps[u]?.getD undef=v:=by simpa using hu
 simp [results,hf,hs2,hu2,loadVar,loadCells,loadCellsFrom,go_sem,h1,h2]
theorem Bk.two_far {w:World}{g g':Nat}{t:TypeId}{l:List Value}(h:Bk w g t l) (hne:g≠g') (u v:Value):Bk ((w.setCell ⟨g',0,none⟩ u).setCell ⟨g',1,none⟩ v) g t l:=(h.far (p:=⟨g',0,none⟩) hne u).far (p:=⟨g',1,none⟩) hne v
set_option maxHeartbeats 1000000 in
theorem zint_Add {w:World}{s t:Bool}{A B:Option Addr}{n cap m cap':Nat}{x y:Int}(hx:Zi w s A n cap x) (hl:n≤274877906944) (hy:Zi w t B m cap' y) (hl':m≤274877906944):
  Calls Try.prog 13 #[.agg #[.bool s,.slice A n cap],.agg #[.bool t,.slice B m cap']] w (RetZ w (x+y)):=by
 obtain⟨xs,hr,rfl⟩:=hx
 obtain⟨ys,hq,rfl⟩:=hy
 go_enter Try.func13,Try.ntmps13
 go_upto_region 1 with (fail)
 obtain⟨g,g2,g3,wa,hg3,hg2,hg,hwa,hb1,hb2,hb3,hea,l12,l23,l3,n12,n21,n13,n31,n23,n32⟩:=boxes3 w 34 34 34 (.bool s) (.slice A n cap) (.bool t) (.slice B m cap') (.bool false) (.slice none 0 0)
 rw [hg3,hg2,hg,hwa]
 have hgw:w.heap.size≤g:=Nat.le_of_eq hg
 clear hwa hg hg2 hg3
 obtain⟨f1,f2,f3,f4⟩:=hb1.two
 obtain⟨h1,h2,h3,h4⟩:=hb2.two
 obtain⟨k1,k2,k3,k4⟩:=hb3.two
 by_cases hst:s=t
 ·have bs:(s==t)=true:=by rw [hst];cases t <;> rfl
  go_upto_region 2 with (fail)
  go_region_held3 (fun w'=>w'.cell? ⟨g,0,none⟩=some (.bool s)∧w'.cell? ⟨g,1,none⟩=some (.slice A n cap)∧w'.cell? ⟨g2,0,none⟩=some (.bool t)∧w'.cell? ⟨g2,1,none⟩=some (.slice B m cap')) (go_keep)
   (first
   | (go_at_call 39;refine (nat_Add (hr.ext (by repeat (first | exact Ext.refl _ | assumption | apply Ext.drewN | apply Ext.drew | apply Ext.alloc))) (by omega) (hq.ext (by repeat (first | exact Ext.refl _ | assumption | apply Ext.drewN | apply Ext.drew | apply Ext.alloc))) (by omega)).mono ?_;rintro e w1 ⟨A1,n1,c1,rfl,hn1,hr1,ho1,hx1⟩;have he1:Ext wa w1:=Ext.trans (by repeat (first | exact Ext.refl _ | assumption | apply Ext.drewN | apply Ext.drew | apply Ext.alloc)) hx1;have hb1:=hb1.ext he1;have hb2:=hb2.ext he1;have hb3:=hb3.ext he1;obtain⟨f1,f2,f3,f4⟩:=hb1.two;obtain⟨h1,h2,h3,h4⟩:=hb2.two;obtain⟨k1,k2,k3,k4⟩:=hb3.two)
   | (go_at_call 36;refine (zint_of hn1.out).mono ?_;rintro e w2 ⟨s',rfl,hs',hx2⟩;have hd1:=hb1.ext hx2;have hd2:=hb2.ext hx2;have hd3:=hb3.ext hx2;obtain⟨f1,f2,f3,f4⟩:=hd1.two;obtain⟨h1,h2,h3,h4⟩:=hd2.two;obtain⟨k1,k2,k3,k4⟩:=hd3.two))
  go_wp2_with fail
  refine bodyPost_ret (res_int rfl rfl (hd3.two_set _ _)) rfl ?_
  exact fin_int hd3 ((Zr_of hs'.out hn1.out ho1 (by rw [sg_add,hst])).ext hx2) (by first | omega | (simp;omega)) (by omega) (hea.trans (he1.trans hx2))
 ·have bs:(s==t)=false:=by cases s <;> cases t <;> simp_all
  have ht:Hid (t= !s):=by show _=_;cases s <;> cases t <;> simp_all
  clear hst
  go_wp2_with fail
  refine (nat_Cmp (hr.ext hea) (by omega) (hq.ext hea) (by omega)).mono ?_
  rintro e w1 ⟨c,hc,hcl,hch,rfl,hx1⟩
  have hb1:=hb1.ext hx1
  have hb2:=hb2.ext hx1
  have hb3:=hb3.ext hx1
  have he1:=hea.trans hx1
  have hsz:=hx1.size
  clear f1 f2 f3 f4 h1 h2 h3 h4 k1 k2 k3 k4
  obtain⟨f1,f2,f3,f4⟩:=hb1.two
  obtain⟨h1,h2,h3,h4⟩:=hb2.two
  by_cases hlt:c<0
  ·have hle:nv xs≤nv ys:=by rw [hc.out] at hlt;exact Nat.le_of_lt (cmp3_neg.1 hlt)
   have HLE:=Lib.hid hle
   clear hle
   go_upto_region 5 with (fail)
   obtain⟨wb,hwb⟩:∃wb,(((w1.setCell ⟨g,0,none⟩ (.bool t)).setCell ⟨g,1,none⟩ (.slice B m cap')).setCell ⟨g2,0,none⟩ (.bool s)).setCell ⟨g2,1,none⟩ (.slice A n cap)=wb:=⟨_,rfl⟩
   rw [hwb]
   have hd1:Bk wb g 34 [.bool t,.slice B m cap']:=by rw [←hwb];exact (hb1.two_set _ _).two_far n12 _ _
   have hd2:Bk wb g2 34 [.bool s,.slice A n cap]:=by rw [←hwb];exact (hb2.two_far n21 _ _).two_set _ _
   have hd3:Bk wb g3 34 [.bool false,.slice none 0 0]:=by rw [←hwb];exact (hb3.two_far n31 _ _).two_far n32 _ _
   have heb:Ext w wb:=by
    rw [←hwb]
    exact (Upd.two _ _).ext ((Upd.two _ _).ext he1 hgw) (by omega)
   have hszb:wb.heap.size=w1.heap.size:=by rw [←hwb];simp [World.setCell]
   clear hwb f1 f2 f3 f4 h1 h2 h3 h4
   obtain⟨f1,f2,f3,f4⟩:=hd1.two
   obtain⟨h1,h2,h3,h4⟩:=hd2.two
   go_wp2_with fail
   refine (nat_Sub (hq.ext heb) (by omega) (hr.ext heb) (by omega) HLE.out).mono ?_
   rintro e w2 ⟨A2,n2,c2,rfl,hn2,hr2,ho2,hx2⟩
   obtain⟨f1,f2,f3,f4⟩:=(hd1.ext hx2).two
   have hd3:=hd3.ext hx2
   go_wp2_with fail
   refine (zint_of hn2.out).mono ?_
   rintro e w3 ⟨s',rfl,hs',hx3⟩
   have hd3:=hd3.ext hx3
   obtain⟨k1,k2,k3,k4⟩:=hd3.two
   go_wp2_with fail
   refine bodyPost_ret (res_int rfl rfl (hd3.two_set _ _)) rfl ?_
   exact fin_int hd3 ((Zr_of hs'.out hn2.out ho2 (by rw [sg_sub HLE.out,ht.out,Bool.not_not,Int.add_comm])).ext hx3) (by omega) (by omega) (heb.trans (hx2.trans hx3))
  ·have hle:nv ys≤nv xs:=by rw [hc.out] at hlt;exact Nat.le_of_not_lt (fun h=>hlt (cmp3_neg.2 h))
   have HLE:=Lib.hid hle
   clear hle
   go_wp2_with fail
   refine (nat_Sub (hr.ext he1) (by omega) (hq.ext he1) (by omega) HLE.out).mono ?_
   rintro e w2 ⟨A2,n2,c2,rfl,hn2,hr2,ho2,hx2⟩
   obtain⟨f1,f2,f3,f4⟩:=(hb1.ext hx2).two
   have hd3:=hb3.ext hx2
   go_wp2_with fail
   refine (zint_of hn2.out).mono ?_
   rintro e w3 ⟨s',rfl,hs',hx3⟩
   have hd3:=hd3.ext hx3
   obtain⟨k1,k2,k3,k4⟩:=hd3.two
   go_wp2_with fail
   refine bodyPost_ret (res_int rfl rfl (hd3.two_set _ _)) rfl ?_
   exact fin_int hd3 ((Zr_of hs'.out hn2.out ho2 (by rw [sg_sub HLE.out,ht.out])).ext hx3) (by omega) (by omega) (he1.trans (hx2.trans hx3))
theorem zint_Sub {w:World}{s t:Bool}{A B:Option Addr}{n cap m cap':Nat}{x y:Int}(hx:Zi w s A n cap x) (hl:n≤274877906944) (hy:Zi w t B m cap' y) (hl':m≤274877906944):
  Calls Try.prog 62 #[.agg #[.bool s,.slice A n cap],.agg #[.bool t,.slice B m cap']] w (RetZ w (x-y)):=by
 go_enter Try.func62,Try.ntmps62
 go_upto_region 1 with (fail)
 obtain⟨g,g2,g3,wa,hg3,hg2,hg,hwa,hb1,hb2,hb3,hea,l12,l23,l3,n12,n21,n13,n31,n23,n32⟩:=boxes3 w 34 34 34 (.bool s) (.slice A n cap) (.bool t) (.slice B m cap') (.bool false) (.slice none 0 0)
 rw [hg3,hg2,hg,hwa]
 have hgw:w.heap.size≤g:=Nat.le_of_eq hg
 clear hwa hg hg2 hg3
 obtain⟨f1,f2,f3,f4⟩:=hb1.two
 obtain⟨h1,h2,h3,h4⟩:=hb2.two
 obtain⟨k1,k2,k3,k4⟩:=hb3.two
 go_wp2_with fail
 refine (zint_Add (hx.ext hea) hl (hy.not.ext hea) hl').mono ?_
 rintro e w1 ⟨s1,A1,n1,c1,rfl,z1,hx1⟩
 have hd3:=hb3.ext hx1
 clear f1 f2 f3 f4 h1 h2 h3 h4 k1 k2 k3 k4
 obtain⟨k1,k2,k3,k4⟩:=hd3.two
 go_wp2_with fail
 refine bodyPost_ret (res_int rfl rfl (hd3.two_set _ _)) rfl ?_
 exact fin_int hd3 (z1.cast Int.sub_eq_add_neg.symm) (by omega) (by omega) (hea.trans hx1)
theorem zint_MulAdd {w:World}{s t u:Bool}{A B C:Option Addr}{n cap m cap' k cap'':Nat}{x y z:Int}(hx:Zi w s A n cap x) (hl:n≤68719476736) (hy:Zi w t B m cap' y) (hl':m≤68719476736) (hz:Zi w u C k cap'' z) (hl'':k≤68719476736):
  Calls Try.prog 75 #[.agg #[.bool s,.slice A n cap],.agg #[.bool t,.slice B m cap'],.agg #[.bool u,.slice C k cap'']] w (RetZ w (x*y+z)):=by
 have lx:=Nat.le_trans hx.ln hl
 have ly:=Nat.le_trans hy.ln hl'
 go_enter Try.func75,Try.ntmps75
 go_upto_region 1 with (fail)
 obtain⟨g,g2,g3,g4,wa,hg4,hg3,hg2,hg,hwa,hb1,hb2,hb3,hb4,hea,l12,l23,l34,l4,n12,n21,n13,n31,n23,n32,n14,n41,n24,n42,n34,n43⟩:=boxes4 w 34 34 34 34 (.bool s) (.slice A n cap) (.bool t) (.slice B m cap') (.bool u) (.slice C k cap'') (.bool false) (.slice none 0 0)
 rw [hg4,hg3,hg2,hg,hwa]
 have hgw:w.heap.size≤g:=Nat.le_of_eq hg
 clear hwa hg hg2 hg3 hg4
 obtain⟨f1,f2,f3,f4⟩:=hb1.two
 obtain⟨h1,h2,h3,h4⟩:=hb2.two
 obtain⟨i1,i2,i3,i4⟩:=hb3.two
 obtain⟨k1,k2,k3,k4⟩:=hb4.two
 go_region_held3 (fun w'=>w'.cell? ⟨g,0,none⟩=some (.bool s)∧w'.cell? ⟨g,1,none⟩=some (.slice A n cap)∧w'.cell? ⟨g2,0,none⟩=some (.bool t)∧w'.cell? ⟨g2,1,none⟩=some (.slice B m cap')∧w'.cell? ⟨g3,0,none⟩=some (.bool u)∧w'.cell? ⟨g3,1,none⟩=some (.slice C k cap'')) (go_keep)
  (first
  | (go_at_call 11;refine (zint_Mul (hx.ext (by repeat (first | exact Ext.refl _ | assumption | apply Ext.drewN | apply Ext.drew | apply Ext.alloc))) hl (hy.ext (by repeat (first | exact Ext.refl _ | assumption | apply Ext.drewN | apply Ext.drew | apply Ext.alloc))) hl').mono ?_;rintro e w1 ⟨s1,A1,n1,c1,rfl,z1,hx1⟩;have q1:n1≤274877906944:=(Nat.le_trans (z1.le (ln_mul lx ly)) (by omega));have he1:Ext wa w1:=Ext.trans (by repeat (first | exact Ext.refl _ | assumption | apply Ext.drewN | apply Ext.drew | apply Ext.alloc)) hx1;have hb1:=hb1.ext he1;have hb2:=hb2.ext he1;have hb3:=hb3.ext he1;have hb4:=hb4.ext he1;obtain⟨f1,f2,f3,f4⟩:=hb1.two;obtain⟨h1,h2,h3,h4⟩:=hb2.two;obtain⟨i1,i2,i3,i4⟩:=hb3.two;obtain⟨k1,k2,k3,k4⟩:=hb4.two)
  | (go_at_call 13;refine (zint_Add z1.zi q1 (hz.ext (hea.trans he1)) (by omega)).mono ?_;rintro e w2 ⟨s2,A2,n2,c2,rfl,z2,hx2⟩;have hb1:=hb1.ext hx2;have hb2:=hb2.ext hx2;have hb3:=hb3.ext hx2;have hb4:=hb4.ext hx2;obtain⟨f1,f2,f3,f4⟩:=hb1.two;obtain⟨h1,h2,h3,h4⟩:=hb2.two;obtain⟨i1,i2,i3,i4⟩:=hb3.two;obtain⟨k1,k2,k3,k4⟩:=hb4.two))
 go_wp2_with fail
 have hsz:=he1.size
 refine bodyPost_ret (res_int rfl rfl (hb4.two_set _ _)) rfl ?_
 exact fin_int hb4 z2 (by omega) (by omega) (hea.trans (he1.trans hx2))
theorem zint_Exact {w:World}{s t:Bool}{A B:Option Addr}{n cap m cap':Nat}{x y:Int}(hx:Zi w s A n cap x) (hl:n≤68719476736) (hy:Zi w t B m cap' y) (hl':m≤68719476736) (h0:y≠0) (h1:y∣x):
  Calls Try.prog 33 #[.agg #[.bool s,.slice A n cap],.agg #[.bool t,.slice B m cap']] w (RetZE w (x.tdiv y) 0):=by
 obtain⟨xs,hr,rfl⟩:=hx
 obtain⟨ys,hq,rfl⟩:=hy
 have hz:nv ys≠0:=fun e=>h0 (sg_eq_zero.2 e)
 have hd:nv xs%nv ys=0:=by
  have:=Int.natAbs_dvd_natAbs.2 h1
  rw [sg_abs,sg_abs] at this
  exact Nat.mod_eq_zero_of_dvd this
 have HZ:=Lib.hid hz
 have HD:=Lib.hid hd
 clear hz h0 hd h1
 go_enter Try.func33,Try.ntmps33
 go_upto_region 1 with (fail)
 obtain⟨g,g2,g3,wa,hg3,hg2,hg,hwa,hb1,hb2,hb3,hea,l12,l23,l3,n12,n21,n13,n31,n23,n32⟩:=boxes3 w 34 34 34 (.bool s) (.slice A n cap) (.bool t) (.slice B m cap') (.bool false) (.slice none 0 0)
 rw [hg3,hg2,hg,hwa]
 have hgw:w.heap.size≤g:=Nat.le_of_eq hg
 clear hwa hg hg2 hg3
 obtain⟨f1,f2,f3,f4⟩:=hb1.two
 obtain⟨h1,h2,h3,h4⟩:=hb2.two
 obtain⟨k1,k2,k3,k4⟩:=hb3.two
 go_wp2_with fail
 refine (divnat_Exact (hr.ext hea) (by omega) (hq.ext hea) (by omega) HZ.out HD.out).mono ?_
 rintro e w1 ⟨A1,n1,c1,rfl,hn1,hr1,ho1,hx1⟩
 have hb1:=hb1.ext hx1
 have hb2:=hb2.ext hx1
 have hb3:=hb3.ext hx1
 have he1:=hea.trans hx1
 have hsz:=hx1.size
 clear f1 f2 f3 f4 h1 h2 h3 h4 k1 k2 k3 k4
 obtain⟨f1,f2,f3,f4⟩:=hb1.two
 obtain⟨h1,h2,h3,h4⟩:=hb2.two
 obtain⟨k1,k2,k3,k4⟩:=hb3.two
 go_wp2_with fail
 refine (zint_of hn1.out).mono ?_
 rintro e w2 ⟨s',rfl,hs',hx2⟩
 have hd3:=hb3.ext hx2
 clear f1 f2 f3 f4 h1 h2 h3 h4 k1 k2 k3 k4
 obtain⟨k1,k2,k3,k4⟩:=hd3.two
 go_wp2_with fail
 refine bodyPost_ret (res_ie rfl rfl rfl (hd3.two_set _ _)) rfl ?_
 obtain⟨s4,A4,n4,c4,he,hz,hx⟩:=fin_int (w:=w) hd3 ((Zr_of hs'.out hn1.out ho1 (sg_tdiv _ _ _ _)).ext hx2) (by omega) (by omega) (he1.trans hx2)
 cases he
 exact⟨_,_,_,_,rfl,hz,hx⟩
theorem zint_Of {w:World}{v:Nat}(hv:v≤9223372036854775807):
  Calls Try.prog 12 #[.int .i64 (v:Int)] w (RetZ w ((v:Int))):=by
 have hn:¬(v:Int)<0:=by omega
 go_enter Try.func12,Try.ntmps12
 go_upto_region 3 with (fail)
 obtain⟨g,hg⟩:∃g,w.heap.size=g:=⟨_,rfl⟩
 obtain⟨wa,hwa⟩:∃wa,w.alloc (.cells #[.bool false,.slice none 0 0] 34)=wa:=⟨_,rfl⟩
 rw [hg,hwa]
 have hb:Bk wa g 34 [.bool false,.slice none 0 0]:=by rw [←hwa,←hg];exact Bk.new w 34 [.bool false,.slice none 0 0]
 have hea:Ext w wa:=by rw [←hwa];exact (Ext.refl w).alloc _
 have hga:w.heap.size≤g:=Nat.le_of_eq hg
 have hgl:g<wa.heap.size:=hb.lt
 clear hwa hg
 obtain⟨k1,k2,k3,k4⟩:=hb.two
 have h1:Rd (wa.alloc (.cells #[.int .u64 (v:Int)] 57)) (some ⟨wa.heap.size,0,none⟩) 1 1 [v]:=Rd.one wa (by omega)
 go_wp2_with fail
 refine (nat_Least (h1.ext (by repeat (first | exact Ext.refl _ | assumption | apply Ext.drewN | apply Ext.drew | apply Ext.alloc))) (by omega)).mono ?_
 rintro e w1 ⟨A1,n1,c1,rfl,hn1,hr1,ho1,hx1⟩
 rw [nv_one] at hn1 ho1
 have hx1':Ext wa w1:=Ext.trans (by repeat (first | exact Ext.refl _ | assumption | apply Ext.drewN | apply Ext.drew | apply Ext.alloc)) hx1
 have hd:=hb.ext hx1'
 have hsz:=hx1'.size
 go_wp2_with fail
 refine (zint_of hn1.out).mono ?_
 rintro e w2 ⟨s',rfl,hs',hx2⟩
 have hd:=hd.ext hx2
 clear k1 k2 k3 k4
 obtain⟨k1,k2,k3,k4⟩:=hd.two
 go_wp2_with fail
 refine bodyPost_ret (res_int rfl rfl (hd.two_set _ _)) rfl ?_
 exact fin_int hd ((Zr_of hs'.out hn1.out ho1 (sg_false _)).ext hx2) (by simp;omega) (by omega) (hea.trans (hx1'.trans hx2))
end Go.Proofs.Ytgekkehpljbklaa

namespace Go.Proofs.Ytgekkehpljbklaa.Pop
def mk (m:Nat):Nat→Nat
 | 0=>0
 | k+1=>m+256*mk m k
theorem and_byte (a A m M:Nat) (ha:a<256) (hm:m<256):(a+256*A)&&& (m+256*M)=(a&&& m)+256*(A&&& M):=by
 have h1:((a+256*A)&&& (m+256*M))%2^8=a&&& m:=by
  rw [Nat.and_mod_two_pow]
  congr 1 <;> omega
 have h2:((a+256*A)&&& (m+256*M))/2^8=A&&& M:=by
  rw [Nat.and_div_two_pow]
  congr 1 <;> omega
 have h3:=Nat.mod_add_div ((a+256*A)&&& (m+256*M)) (2^8)
 rw [h1,h2] at h3
 exact h3.symm
def f1 (k x:Nat):Nat:=(x/2&&& mk 85 k)+(x&&& mk 85 k)
def f2 (k x:Nat):Nat:=(x/4&&& mk 51 k)+(x&&& mk 51 k)
def f3 (k x:Nat):Nat:=(x/16+x)&&& mk 15 k
def d1 (b:Nat):Nat:=(b/2&&& 85)+(b&&& 85)
def d2 (b:Nat):Nat:=(b/4&&& 51)+(b&&& 51)
def d3 (b:Nat):Nat:=(b/16+b)&&& 15
def pc (b:Nat):Nat:=d3 (d2 (d1 b))
theorem t1:∀b:Fin 256,∀p:Fin 2,((b.val/2+128*p.val)&&& 85)=(b.val/2&&& 85):=by decide+kernel
theorem t2:∀b:Fin 256,∀p:Fin 4,((b.val/4+64*p.val)&&& 51)=(b.val/4&&& 51):=by decide+kernel
theorem t3:∀b:Fin 256,∀p:Fin 5,((d2 (d1 b.val)/16+d2 (d1 b.val)+16*p.val)&&& 15)=pc b.val:=by decide+kernel
theorem t4:∀b:Fin 256,d1 b.val<256∧d2 (d1 b.val)<69∧d2 (d1 b.val)%16≤4∧pc b.val≤8∧(pc b.val=0→b.val=0)∧(128≤b.val→pc b.val≤1→b.val=128):=by decide+kernel
theorem f1_step {k b B:Nat}(hb:b<256):f1 (k+1) (b+256*B)=d1 b+256*f1 k B:=by
 unfold f1 d1
 rw [show mk 85 (k+1)=85+256*mk 85 k from rfl]
 have e:(b+256*B)/2=(b/2+128*(B%2))+256*(B/2):=by omega
 rw [e,and_byte _ _ _ _ (by omega) (by omega),and_byte _ _ _ _ hb (by omega),t1 ⟨b,hb⟩ ⟨B%2,by omega⟩]
 show (b/2&&& 85)+_+_=_
 omega
theorem f2_step {k b B:Nat}(hb:b<256):f2 (k+1) (b+256*B)=d2 b+256*f2 k B:=by
 unfold f2 d2
 rw [show mk 51 (k+1)=51+256*mk 51 k from rfl]
 have e:(b+256*B)/4=(b/4+64*(B%4))+256*(B/4):=by omega
 rw [e,and_byte _ _ _ _ (by omega) (by omega),and_byte _ _ _ _ hb (by omega),t2 ⟨b,hb⟩ ⟨B%4,by omega⟩]
 show (b/4&&& 51)+_+_=_
 omega
theorem steps {k b B:Nat}(hb:b<256) (hB:f2 k (f1 k B)%16≤4):
  f3 (k+1) (f2 (k+1) (f1 (k+1) (b+256*B)))=pc b+256*f3 k (f2 k (f1 k B))∧f2 (k+1) (f1 (k+1) (b+256*B))%16≤4:=by
 obtain⟨h1,h2,h3,_⟩:=t4 ⟨b,hb⟩
 rw [f1_step hb,f2_step h1]
 refine⟨?_,by omega⟩
 generalize f2 k (f1 k B)=C at*
 unfold f3
 rw [show mk 15 (k+1)=15+256*mk 15 k from rfl]
 have e:(d2 (d1 b)+256*C)/16+(d2 (d1 b)+256*C)=(d2 (d1 b)/16+d2 (d1 b)+16*(C%16))+256*(C/16+C):=by omega
 have h2':d2 (d1 b)<69:=h2
 rw [e,and_byte _ _ _ _ (by omega) (by omega),t3 ⟨b,hb⟩ ⟨C%16,by omega⟩]
theorem eight {b0 b1 b2 b3 b4 b5 b6 b7:Nat}(h0:b0<256) (h1:b1<256) (h2:b2<256) (h3:b3<256) (h4:b4<256) (h5:b5<256) (h6:b6<256) (h7:b7<256):
  f3 8 (f2 8 (f1 8 (b0+256*(b1+256*(b2+256*(b3+256*(b4+256*(b5+256*(b6+256*(b7+256*0))))))))))
   =pc b0+256*(pc b1+256*(pc b2+256*(pc b3+256*(pc b4+256*(pc b5+256*(pc b6+256*pc b7)))))):=by
 have s7:=steps (k:=0) (B:=0) h7 (by decide)
 have s6:=steps h6 s7.2
 have s5:=steps h5 s6.2
 have s4:=steps h4 s5.2
 have s3:=steps h3 s4.2
 have s2:=steps h2 s3.2
 have s1:=steps h1 s2.2
 have s0:=steps h0 s1.2
 rw [s0.1,s1.1,s2.1,s3.1,s4.1,s5.1,s6.1,s7.1]
 simp [f3,mk]
theorem folds {p0 p1 p2 p3 p4 p5 p6 p7:Nat}(h0:p0≤8) (h1:p1≤8) (h2:p2≤8) (h3:p3≤8) (h4:p4≤8) (h5:p5≤8) (h6:p6≤8) (h7:p7≤8){x3 x4 x5 x6:Nat}
  (e3:x3=p0+256*(p1+256*(p2+256*(p3+256*(p4+256*(p5+256*(p6+256*p7))))))) (e4:x4=x3+x3/256) (e5:x5=x4+x4/65536) (e6:x6=x5+x5/4294967296):
  x6%128=p0+p1+p2+p3+p4+p5+p6+p7∧x6<18446744073709551616:=by
 have g4:x4=(p0+p1)+256*((p1+p2)+256*((p2+p3)+256*((p3+p4)+256*((p4+p5)+256*((p5+p6)+256*((p6+p7)+256*p7)))))):=by omega
 clear e3 e4
 have g5:x5=(p0+p1+p2+p3)+256*((p1+p2+p3+p4)+256*((p2+p3+p4+p5)+256*((p3+p4+p5+p6)+256*((p4+p5+p6+p7)+256*((p5+p6+p7)+256*((p6+p7)+256*p7)))))):=by omega
 clear g4 e5
 have gq:x5/4294967296=(p4+p5+p6+p7)+256*((p5+p6+p7)+256*((p6+p7)+256*p7)):=by omega
 rw [gq] at e6
 have g6:x6=(p0+p1+p2+p3+p4+p5+p6+p7)+256*(((p1+p2+p3+p4)+256*((p2+p3+p4+p5)+256*((p3+p4+p5+p6)+256*((p4+p5+p6+p7)+256*((p5+p6+p7)+256*((p6+p7)+256*p7))))))+((p5+p6+p7)+256*((p6+p7)+256*p7))):=by omega
 clear gq e6 g5
 omega
theorem one {x x1 x2 x3 x4 x5 x6:Nat}(hx:x<18446744073709551616) (hh:9223372036854775808≤x) (e1:x1=f1 8 x) (e2:x2=f2 8 x1) (e3:x3=f3 8 x2) (e4:x4=x3+x3/256) (e5:x5=x4+x4/65536) (e6:x6=x5+x5/4294967296):
  x6%128=1↔x=9223372036854775808:=by
 obtain⟨b0,q0,hb0,hq0⟩:∃b q,b<256∧x=b+256*q:=⟨x%256,x/256,by omega,by omega⟩
 obtain⟨b1,q1,hb1,hq1⟩:∃b q,b<256∧q0=b+256*q:=⟨q0%256,q0/256,by omega,by omega⟩
 obtain⟨b2,q2,hb2,hq2⟩:∃b q,b<256∧q1=b+256*q:=⟨q1%256,q1/256,by omega,by omega⟩
 obtain⟨b3,q3,hb3,hq3⟩:∃b q,b<256∧q2=b+256*q:=⟨q2%256,q2/256,by omega,by omega⟩
 obtain⟨b4,q4,hb4,hq4⟩:∃b q,b<256∧q3=b+256*q:=⟨q3%256,q3/256,by omega,by omega⟩
 obtain⟨b5,q5,hb5,hq5⟩:∃b q,b<256∧q4=b+256*q:=⟨q4%256,q4/256,by omega,by omega⟩
 obtain⟨b6,b7,hb6,hq6⟩:∃b q,b<256∧q5=b+256*q:=⟨q5%256,q5/256,by omega,by omega⟩
 have hb7:b7<256:=by omega
 have hb7':128≤b7:=by omega
 have e:=eight hb0 hb1 hb2 hb3 hb4 hb5 hb6 hb7
 have ex:x=b0+256*(b1+256*(b2+256*(b3+256*(b4+256*(b5+256*(b6+256*(b7+256*0))))))):=by omega
 rw [←ex,←e1,←e2,←e3] at e
 have p0:=(t4 ⟨b0,hb0⟩).2.2.2
 have p1:=(t4 ⟨b1,hb1⟩).2.2.2
 have p2:=(t4 ⟨b2,hb2⟩).2.2.2
 have p3:=(t4 ⟨b3,hb3⟩).2.2.2
 have p4:=(t4 ⟨b4,hb4⟩).2.2.2
 have p5:=(t4 ⟨b5,hb5⟩).2.2.2
 have p6:=(t4 ⟨b6,hb6⟩).2.2.2
 have p7:=(t4 ⟨b7,hb7⟩).2.2.2
 have hf:=(folds p0.1 p1.1 p2.1 p3.1 p4.1 p5.1 p6.1 p7.1 e e4 e5 e6).1
 simp only at p0 p1 p2 p3 p4 p5 p6 p7
 rw [hf]
 show (pc b0+pc b1+pc b2+pc b3+pc b4+pc b5+pc b6+pc b7=1)↔_
 constructor
 ·intro h
  have h7:pc b7≠0:=fun hz=>by have:=p7.2.1 hz;omega
  have hs:pc b0+pc b1+pc b2+pc b3+pc b4+pc b5+pc b6=0∧pc b7=1:=by clear p0 p1 p2 p3 p4 p5 p6 p7 e e1 e2 e3 e4 e5 e6 ex hq0 hq1 hq2 hq3 hq4 hq5 hq6 hf;omega
  obtain⟨hs,h8⟩:=hs
  have z0:=p0.2.1 (by omega)
  have z1:=p1.2.1 (by omega)
  have z2:=p2.2.1 (by omega)
  have z3:=p3.2.1 (by omega)
  have z4:=p4.2.1 (by omega)
  have z5:=p5.2.1 (by omega)
  have z6:=p6.2.1 (by omega)
  have z7:=p7.2.2 hb7' (by omega)
  omega
 ·intro h
  obtain rfl:b7=128:=by omega
  obtain rfl:b0=0:=by omega
  obtain rfl:b1=0:=by omega
  obtain rfl:b2=0:=by omega
  obtain rfl:b3=0:=by omega
  obtain rfl:b4=0:=by omega
  obtain rfl:b5=0:=by omega
  obtain rfl:b6=0:=by omega
  decide
end Go.Proofs.Ytgekkehpljbklaa.Pop

namespace Go.Proofs.Ytgekkehpljbklaa
open Go.RowKit
theorem zint_Of_neg {w:World}{v:Nat}(hv1:1≤v) (hv:v≤9223372036854775808):
  Calls Try.prog 12 #[.int .i64 (-(v:Int))] w (RetZ w (-(v:Int))):=by
 have hn: -(v:Int)<0:=by omega
 have w1e:IntKind.u64.wrap (-(v:Int))=18446744073709551616-(v:Int):=by
  simp only [IntKind.wrap,IntKind.bits,IntKind.signed]
  simp
  omega
 have w2e:IntKind.u64.wrap (-(18446744073709551616-(v:Int)))=(v:Int):=by
  simp only [IntKind.wrap,IntKind.bits,IntKind.signed]
  simp
  omega
 have W1:=Lib.hid w1e
 have W2:=Lib.hid w2e
 clear w1e w2e
 go_enter Try.func12,Try.ntmps12
 go_upto_region 2 with (fail)
 obtain⟨g,hg⟩:∃g,w.heap.size=g:=⟨_,rfl⟩
 obtain⟨wa,hwa⟩:∃wa,w.alloc (.cells #[.bool false,.slice none 0 0] 34)=wa:=⟨_,rfl⟩
 rw [hg,hwa]
 have hb:Bk wa g 34 [.bool false,.slice none 0 0]:=by rw [←hwa,←hg];exact Bk.new w 34 [.bool false,.slice none 0 0]
 have hea:Ext w wa:=by rw [←hwa];exact (Ext.refl w).alloc _
 have hga:w.heap.size≤g:=Nat.le_of_eq hg
 have hgl:g<wa.heap.size:=hb.lt
 clear hwa hg
 obtain⟨k1,k2,k3,k4⟩:=hb.two
 have h1:Rd (wa.alloc (.cells #[.int .u64 (v:Int)] 57)) (some ⟨wa.heap.size,0,none⟩) 1 1 [v]:=Rd.one wa (by omega)
 have w1e:=W1.out
 have w2e:=W2.out
 go_wp2_with fail
 clear w1e w2e
 refine (nat_Least (h1.ext (by repeat (first | exact Ext.refl _ | assumption | apply Ext.drewN | apply Ext.drew | apply Ext.alloc))) (by omega)).mono ?_
 rintro e w1 ⟨A1,n1,c1,rfl,hn1,hr1,ho1,hx1⟩
 rw [nv_one] at hn1 ho1
 have hx1':Ext wa w1:=Ext.trans (by repeat (first | exact Ext.refl _ | assumption | apply Ext.drewN | apply Ext.drew | apply Ext.alloc)) hx1
 have hd:=hb.ext hx1'
 have hsz:=hx1'.size
 go_wp2_with fail
 refine (zint_of hn1.out).mono ?_
 rintro e w2 ⟨s',rfl,hs',hx2⟩
 have hd:=hd.ext hx2
 clear k1 k2 k3 k4
 obtain⟨k1,k2,k3,k4⟩:=hd.two
 go_wp2_with fail
 refine bodyPost_ret (res_int rfl rfl (hd.two_set _ _)) rfl ?_
 exact fin_int hd ((Zr_of hs'.out hn1.out ho1 (sg_true _)).ext hx2) (by simp;omega) (by omega) (hea.trans (hx1'.trans hx2))
theorem zint_OfI {w:World}{v:Int}(h1: -9223372036854775808≤v) (h2:v≤9223372036854775807):Calls Try.prog 12 #[.int .i64 v] w (RetZ w v):=by
 by_cases h:0≤v
 ·obtain⟨m,rfl⟩:=Int.eq_ofNat_of_zero_le h
  exact zint_Of (by omega)
 ·obtain⟨m,hm⟩:∃m:Nat,v= -(m:Int):=⟨v.natAbs,by omega⟩
  subst hm
  exact zint_Of_neg (by omega) (by omega)
theorem aggInt:AggT Try.prog 34 2:=⟨fun _=>by kernel_rfl,fun _=>by kernel_rfl⟩
theorem cellBool:∀w,(isAgg 4).run Try.prog w= .ok false w:=fun _=>by kernel_rfl
theorem cellWords:∀w,(isAgg 32).run Try.prog w= .ok false w:=fun _=>by kernel_rfl
theorem mix:Try.prog.follows .mixedOrders=true:=by kernel_rfl
def Is (u v:Value) (_:World):Prop:=v=u
def ZR (b:Nat) (z:Int) (v:Value) (w:World):Prop:=∃s A n c,v= .agg #[.bool s,.slice A n c]∧Zr w b s A n c z
def PR (b:Nat) (T:TypeId) (vs:List Value) (v:Value) (w:World):Prop:=∃g,v= .pointer (some ⟨g,0,none⟩)∧b≤g∧Bk w g T vs
theorem Zr_nat {w:World}{b m n c:Nat}{A:Option Addr}(hn:n=(wd m).length) (ho:Own w b 57 1 A n c ((wd m).map W64)):Zr w b false A n c (m:Int):=
 Zr_of (m:=m) (s:=false) (by rw [sg_false];symm;exact decide_eq_false (by omega)) hn ho (sg_false m)
def T2 (R S:Value→World→Prop) (v:Value) (w:World):Prop:=∃a b,v= .tuple #[a,b]∧R a w∧S b w
def Gv (w:World) (R:Value→World→Prop) (e:Ending) (w':World):Prop:=∃v,e= .returned v∧R v w'∧Ext w w'
section
variable {w w':World}{b:Nat}{z x y:Int}{v u:Value}{R S T:Value→World→Prop}
theorem ZR.cast (h:ZR b z v w) (e:z=x):ZR b x v w:=e▸h
theorem gz (hb:b≤w.heap.size) (e:Ending) (w':World) (h:RetZ w z e w'):Gv w (ZR b z) e w':=by
 obtain⟨s,A,n,c,rfl,h1,h2⟩:=h
 exact⟨_,rfl,⟨s,A,n,c,rfl,h1.mono hb⟩,h2⟩
theorem gze {er:Int}(hb:b≤w.heap.size) (e:Ending) (w':World) (h:RetZE w z er e w'):Gv w (T2 (ZR b z) (Is (.int .i64 er))) e w':=by
 obtain⟨s,A,n,c,rfl,h1,h2⟩:=h
 exact⟨_,rfl,⟨_,_,rfl,⟨s,A,n,c,rfl,h1.mono hb⟩,rfl⟩,h2⟩
theorem Gv.imp (hi:∀v w,R v w→S v w) (e:Ending) (w':World) (h:Gv w R e w'):Gv w S e w':=by
 obtain⟨v,rfl,h1,h2⟩:=h
 exact⟨v,rfl,hi _ _ h1,h2⟩
theorem T2.imp {R' S':Value→World→Prop}(h1:∀v w,R v w→R' v w) (h2:∀v w,S v w→S' v w) (v:Value) (w:World) (h:T2 R S v w):T2 R' S' v w:=by
 obtain⟨a,c,rfl,h3,h4⟩:=h
 exact⟨a,c,rfl,h1 _ _ h3,h2 _ _ h4⟩
theorem Is.imp {u:Value}(v:Value) (w:World) (h:Is u v w):Is u v w:=h
theorem gsgn (e:Ending) (w':World) (h:SgnP z w e w'):Gv w (Is (.int .i64 z)) e w':=by
 obtain⟨c,h1,_,_,rfl,h2⟩:=h
 exact⟨_,rfl,(show Value.int .i64 c=_ by rw [h1.out]),h2⟩
end
section
variable {w:World}{b:Nat}(hb:b≤w.heap.size){s t u:Bool}{A B C:Option Addr}{n cap m cap' k cap'':Nat}{x y z:Int}
include hb
theorem g_zint_Sub (hx:Zi w s A n cap x) (hl:n≤274877906944) (hy:Zi w t B m cap' y) (hl':m≤274877906944):
  Calls Try.prog 62 #[.agg #[.bool s,.slice A n cap],.agg #[.bool t,.slice B m cap']] w (Gv w (ZR b (x-y))):=(zint_Sub hx hl hy hl').mono (gz hb)
theorem g_zint_Mul (hx:Zi w s A n cap x) (hl:n≤68719476736) (hy:Zi w t B m cap' y) (hl':m≤68719476736):
  Calls Try.prog 11 #[.agg #[.bool s,.slice A n cap],.agg #[.bool t,.slice B m cap']] w (Gv w (ZR b (x*y))):=(zint_Mul hx hl hy hl').mono (gz hb)
theorem g_zint_MulAdd (hx:Zi w s A n cap x) (hl:n≤68719476736) (hy:Zi w t B m cap' y) (hl':m≤68719476736) (hz:Zi w u C k cap'' z) (hl'':k≤68719476736):
  Calls Try.prog 75 #[.agg #[.bool s,.slice A n cap],.agg #[.bool t,.slice B m cap'],.agg #[.bool u,.slice C k cap'']] w (Gv w (ZR b (x*y+z))):=(zint_MulAdd hx hl hy hl' hz hl'').mono (gz hb)
theorem g_zint_Neg (hx:Zi w s A n cap x) (hl:n≤68719476736):Calls Try.prog 23 #[.agg #[.bool s,.slice A n cap]] w (Gv w (ZR b (-x))):=(zint_Neg hx hl).mono (gz hb)
theorem g_zint_Least (hx:Zi w s A n cap x) (hl:n≤68719476736):Calls Try.prog 45 #[.agg #[.bool s,.slice A n cap]] w (Gv w (ZR b x)):=(zint_Least hx hl).mono (gz hb)
theorem g_zint_Of {v:Int}(h1: -9223372036854775808≤v) (h2:v≤9223372036854775807):Calls Try.prog 12 #[.int .i64 v] w (Gv w (ZR b v)):=(zint_OfI h1 h2).mono (gz hb)
theorem g_zint_Exact (hx:Zi w s A n cap x) (hl:n≤68719476736) (hy:Zi w t B m cap' y) (hl':m≤68719476736) (h0:y≠0) (h1:y∣x):
  Calls Try.prog 33 #[.agg #[.bool s,.slice A n cap],.agg #[.bool t,.slice B m cap']] w (Gv w (T2 (ZR b (x.tdiv y)) (Is (.int .i64 0)))):=(zint_Exact hx hl hy hl' h0 h1).mono (gze hb)
end
section
variable {w:World}{s t:Bool}{A B:Option Addr}{n cap m cap':Nat}{x y:Int}
theorem g_zint_Sign (hx:Zi w s A n cap x) (hl:n≤68719476736):Calls Try.prog 59 #[.agg #[.bool s,.slice A n cap]] w (Gv w (Is (.int .i64 (scmp x 0)))):=(zint_Sign hx hl).mono gsgn
end
section
variable {P:Program}{Q:Exit→Act→World→Prop}{n:Nat}{l:Fr}{w:World}{ops:Array Oper}{rest:List Oper}{d:Nat}{op:Op}{ty:TypeId}{pos:String}{af:Array Edge}{gd:Option (Nat×Bool)}
theorem wl_bslice (hw:guardB ops l gd=some true) (hk:known l op=true) (hn:d<n){k:Nat}{e:TypeId}(cells:List Value)
  (hr:∀w,(execOp (rho l) ⟨some d,op,ty,pos,af,gd⟩).run P w= .ok (.value (.slice (some ⟨w.heap.size,0,none⟩) k k)) (w.alloc (.cells cells.toArray e)))
  (h:∀g w',NewBk w w' g e cells→wl P ops Q n rest ((d,.slice (some ⟨g,0,none⟩) k k)::l) w'):wl P ops Q n (⟨some d,op,ty,pos,af,gd⟩::rest) l w:=
 wl_val hw hn (fun a ha=>by rw [exec_known hk ha];exact hr w) (h _ _ (NewBk.mk' w e cells))
end
def O1 (b x:Nat) (v:Value) (w:World):Prop:=∃A,v= .slice A 1 1∧Own w b 57 1 A 1 1 [W64 x]
theorem O1.mk_ {w w':World}{g b x:Nat}(h:NewBk w w' g 57 [W64 x]) (hb:b≤w.heap.size):Own w' b 57 1 (some ⟨g,0,none⟩) 1 1 [W64 x]:=
 Own.mk_ (by rw [←h.at_];exact hb) h.bk (Nat.le_refl _) (by rw [len_maxLen];omega) rfl rfl
theorem own1_wd {w:World}{b x:Nat}{A:Option Addr}(h:Own w b 57 1 A 1 1 [W64 x]) (hx:x≤18446744073709551615) (h0:x≠0):Own w b 57 1 A 1 1 ((wd x).map W64):=by
 rw [wd_small (by rw [WB_def];omega) h0];exact h
theorem len1 {x:Nat}(hx:x≤18446744073709551615) (h0:x≠0):1=(wd x).length:=by rw [wd_small (by rw [WB_def];omega) h0];rfl
theorem Zr_neg {w:World}{b m n c:Nat}{A:Option Addr}(h:m≠0) (hn:n=(wd m).length) (ho:Own w b 57 1 A n c ((wd m).map W64)):Zr w b true A n c (-(m:Int)):=
 Zr_of (m:=m) (s:=true) (by rw [sg_lt,decide_eq_true (Nat.pos_of_ne_zero h)];rfl) hn ho (sg_true m)
section
variable {P:Program}{Q:Exit→Act→World→Prop}{n:Nat}{l:Fr}{w:World}
def mvL (n:Nat) (ops:Array Oper):Nat→List Oper→Fr→Option (Fr×List Oper)
 | 0,rest,l=>some (l,rest)
 | _+1,[],_=>none
 | k+1,⟨some d,op,_,_,_,gd⟩::rest,l=>
  match Nat.blt d n with
  | true=>
   match guardB ops l gd with
   | some true=>
    match op with
    | .move x=>match evo l x with
     | some v=>mvL n ops k rest ((d,v)::l)
     | none=>none
    | .assign x=>match evo l x with
     | some v=>mvL n ops k rest ((d,v)::l)
     | none=>none
    | _=>none
   | some false=>mvL n ops k rest ((d,undef)::l)
   | none=>none
  | false=>none
 | _+1,_::_,_=>none
theorem mv {ops:Array Oper}:∀(k:Nat){rest rest':List Oper}{l l':Fr},mvL n ops k rest l=some (l',rest')→wl P ops Q n rest' l' w→wl P ops Q n rest l w
 | 0,rest,rest',l,l',h,hw=>by
  simp only [mvL,Option.some.injEq,Prod.mk.injEq] at h
  obtain⟨rfl,rfl⟩:=h
  exact hw
 | k+1,[],rest',l,l',h,hw=>by simp [mvL] at h
 | k+1,⟨none,op,ty,pos,af,gd⟩::rest,rest',l,l',h,hw=>by simp [mvL] at h
 | k+1,⟨some d,op,ty,pos,af,gd⟩::rest,rest',l,l',h,hw=>by
  unfold mvL at h
  split at h
  ·rename_i hd
   have hd':d<n:=Nat.le_of_ble_eq_true hd
   split at h
   ·rename_i hg
    split at h
    ·split at h
     ·rename_i hx
      exact wl_move hg hx hd' (mv k h hw)
     ·cases h
    ·split at h
     ·rename_i hx
      exact wl_assign hg hx hd' (mv k h hw)
     ·cases h
    ·cases h
   ·rename_i hg
    exact wl_off hg hd' (mv k h hw)
   ·cases h
  ·cases h
theorem sr {id:Nat}{ol:List Oper}{y:Code}(h:wl P ol.toArray (Exit.then (fun a w=>y.wp P Q a w) Q) n ol l w):cw P Q n (.seq (.region id ol.toArray false) y) l w:=cw_seq (cw_region h)
theorem ne_ {ops:Array Oper}{y:Code}(h:cw P Q n y l w):wl P ops (Exit.then (fun a w=>y.wp P Q a w) Q) n [] l w:=wl_nil (eo_then h)
theorem pu {ops:Array Oper}{rest:List Oper}{d:Nat}{op:Op}{ty:TypeId}{pos:String}{af:Array Edge}{gd:Option (Nat×Bool)}{v:Value}(hk:(guardB ops l gd==some true&&known l op&&Nat.blt d n)=true) (hr:(execOp (rho l) ⟨some d,op,ty,pos,af,gd⟩).run P w= .ok (.value v) w)
  (h:wl P ops Q n rest ((d,v)::l) w):wl P ops Q n (⟨some d,op,ty,pos,af,gd⟩::rest) l w:=by
 rw [Bool.and_eq_true,Bool.and_eq_true,beq_iff_eq] at hk
 exact wl_pure hk.1.1 hk.1.2 (Nat.le_of_ble_eq_true hk.2) hr h
section
variable {ops:Array Oper}{rest:List Oper}{d:Nat}{ty:TypeId}{pos:String}{af:Array Edge}{gd:Option (Nat×Bool)}{w0:World}
theorem bx {x:Operand}{t:TypeId}{v:Value}(vs:List Value) (h0:Ext w0 w) (hx:evo l x=some v) (hk:(guardB ops l gd==some true&&Nat.blt d n)=true) (hv:v.cells=vs.toArray)
  (h:∀g w',Bk w' g t vs→w0.heap.size≤g→Ext w w'→Ext w0 w'→wl P ops Q n rest ((d,.pointer (some ⟨g,0,none⟩))::l) w'):wl P ops Q n (⟨some d,.box t x,ty,pos,af,gd⟩::rest) l w:=by
 rw [Bool.and_eq_true,beq_iff_eq] at hk
 exact wl_box hk.1 hx hv (Nat.le_of_ble_eq_true hk.2) fun g w' nb=>h g w' nb.bk (by rw [←nb.at_];exact h0.size) nb.ext (h0.trans nb.ext)
theorem bxq {x:Operand}{t:TypeId}{v:Value}{gp:Nat}(vs:List Value) (h0:Ext w0 w) (hq:gp<w.heap.size) (hx:evo l x=some v) (hk:(guardB ops l gd==some true&&Nat.blt d n)=true) (hv:v.cells=vs.toArray)
  (h:∀g w',Bk w' g t vs→w0.heap.size≤g→gp<g→Ext w w'→Ext w0 w'→wl P ops Q n rest ((d,.pointer (some ⟨g,0,none⟩))::l) w'):wl P ops Q n (⟨some d,.box t x,ty,pos,af,gd⟩::rest) l w:=by
 rw [Bool.and_eq_true,beq_iff_eq] at hk
 exact wl_box hk.1 hx hv (Nat.le_of_ble_eq_true hk.2) fun g w' nb=>h g w' nb.bk (by rw [←nb.at_];exact h0.size) (by rw [←nb.at_];exact hq) nb.ext (h0.trans nb.ext)
theorem al {t:TypeId}(vs:List Value) (h0:Ext w0 w) (hz:∀w,(zeroValue t).run P w= .ok (.agg vs.toArray) w) (hk:(guardB ops l gd==some true&&Nat.blt d n)=true)
  (h:∀g w',Bk w' g t vs→w0.heap.size≤g→Ext w w'→Ext w0 w'→wl P ops Q n rest ((d,.pointer (some ⟨g,0,none⟩))::l) w'):wl P ops Q n (⟨some d,.alloc t,ty,pos,af,gd⟩::rest) l w:=by
 rw [Bool.and_eq_true,beq_iff_eq] at hk
 exact wl_alloc hk.1 hz rfl (Nat.le_of_ble_eq_true hk.2) fun g w' nb=>h g w' nb.bk (by rw [←nb.at_];exact h0.size) nb.ext (h0.trans nb.ext)
theorem alq {t:TypeId}{gp:Nat}(vs:List Value) (h0:Ext w0 w) (hq:gp<w.heap.size) (hz:∀w,(zeroValue t).run P w= .ok (.agg vs.toArray) w) (hk:(guardB ops l gd==some true&&Nat.blt d n)=true)
  (h:∀g w',Bk w' g t vs→w0.heap.size≤g→gp<g→Ext w w'→Ext w0 w'→wl P ops Q n rest ((d,.pointer (some ⟨g,0,none⟩))::l) w'):wl P ops Q n (⟨some d,.alloc t,ty,pos,af,gd⟩::rest) l w:=by
 rw [Bool.and_eq_true,beq_iff_eq] at hk
 exact wl_alloc hk.1 hz rfl (Nat.le_of_ble_eq_true hk.2) fun g w' nb=>h g w' nb.bk (by rw [←nb.at_];exact h0.size) (by rw [←nb.at_];exact hq) nb.ext (h0.trans nb.ext)
theorem cl {f:FuncId}{xs:Array Operand}{ts:Array TypeId}{vs:List Value}{R:Value→World→Prop}(h0:Ext w0 w) (hc:Calls P f vs.toArray w (Gv w R))
  (hk:(guardB ops l gd==some true&&known l (.call {callee:= .value (.func f),args:=xs,argTypes:=ts})&&Nat.blt d n)=true)
  (hr:(execOp (rho l) ⟨some d,.call {callee:= .value (.func f),args:=xs,argTypes:=ts},ty,pos,af,gd⟩).run P w= .ok (.enter f vs.toArray) w)
  (h:∀v w',R v w'→Ext w w'→Ext w0 w'→wl P ops Q n rest ((d,v)::l) w'):
  wl P ops Q n (⟨some d,.call {callee:= .value (.func f),args:=xs,argTypes:=ts},ty,pos,af,gd⟩::rest) l w:=by
 rw [Bool.and_eq_true,Bool.and_eq_true,beq_iff_eq] at hk
 refine wl_call hk.1.1 hk.1.2 hr (Nat.le_of_ble_eq_true hk.2) hc ?_
 rintro _ w' ⟨v,rfl,r,e⟩
 exact ret_intro (h v w' r e (h0.trans e))
theorem lo {x:Operand}{T T':TypeId}{k off g:Nat}{vs:List Value}(hT:AggT P T k) (hb:Bk w g T' vs) (us:List Value) (hx:evo l x=some (.pointer (some ⟨g,off,none⟩)))
  (hk:(guardB ops l gd==some true&&Nat.blt d n&&Nat.beq us.length k&&Nat.ble (off+k) vs.length)=true) (he:(vs.drop off).take k=us) (h:wl P ops Q n rest ((d,.agg us.toArray)::l) w):wl P ops Q n (⟨some d,.load T x,ty,pos,af,gd⟩::rest) l w:=by
 rw [Bool.and_eq_true,Bool.and_eq_true,Bool.and_eq_true,beq_iff_eq] at hk
 exact wl_load hk.1.1.1 hx (load_agg hT hb us (Nat.eq_of_beq_eq_true hk.1.2) (Nat.le_of_ble_eq_true hk.2) he) (Nat.le_of_ble_eq_true hk.1.1.2) h
theorem so {x y:Operand}{T T':TypeId}{k g off:Nat}{vs us:List Value}(hT:AggT P T k) (hb:Bk w g T' vs) (us':List Value) (h0:Ext w0 w) (hg:w0.heap.size≤g) (hx:evo l x=some (.pointer (some ⟨g,off,none⟩))) (hy:evo l y=some (.agg us.toArray))
  (hk:(guardB ops l gd==some true&&Nat.beq us.length k&&Nat.ble (off+k) vs.length&&us.all (·.oneCell'))=true) (he:overl vs off us=us')
  (h:∀w',Bk w' g T' us'→Upd g w w'→Ext w0 w'→wl P ops Q n rest l w'):wl P ops Q n (⟨none,.store T x y,ty,pos,af,gd⟩::rest) l w:=by
 rw [Bool.and_eq_true,Bool.and_eq_true,Bool.and_eq_true,beq_iff_eq] at hk
 exact wl_stored hk.1.1.1 hx hy hT (Nat.eq_of_beq_eq_true hk.1.1.2) hb (Nat.le_of_ble_eq_true hk.1.2) hk.2 us' he fun w' b u _=>h w' b u (u.ext h0 hg)
end
theorem dk {ol:List Oper}{Rs:List (Value→World→Prop)}{w0 w1:World}{k:Fr→Prop}{acc:Fr}{j:Nat}{ds:List Nat}{v:Value}{d:Nat}
  (hR:Rs[j]?=some (Is v)) (hd:dstOf ol j=some d) (h:Deps ol Rs w0 w1 k ds ((d,v)::acc)):Deps ol Rs w0 w1 k (j::ds) acc:=
 deps_cons hR hd fun v' _ hr _ _=>by
  obtain rfl:=hr
  exact h
theorem pf {ops:Array Oper}{rest:List Oper}{d:Nat}{op:Op}{ty:TypeId}{pos:String}{af:Array Edge}{gd:Option (Nat×Bool)}(g off:Nat) (hk:(guardB ops l gd==some true&&known l op&&Nat.blt d n)=true) (hr:(execOp (rho l) ⟨some d,op,ty,pos,af,gd⟩).run P w= .ok (.value (.pointer (some ⟨g,off,none⟩))) w)
  (h:wl P ops Q n rest ((d,.pointer (some ⟨g,off,none⟩))::l) w):wl P ops Q n (⟨some d,op,ty,pos,af,gd⟩::rest) l w:=pu hk hr h
theorem bq {m k:Nat}(h:Nat.ble m k=true):m≤k:=Nat.le_of_ble_eq_true h
theorem lx_ {a b c:Nat}(h:a≤b) (k:Nat.ble b c=true):a≤c:=Nat.le_trans h (Nat.le_of_ble_eq_true k)
end
abbrev S0:Value:= .slice none 0 0
abbrev F0:Value:= .bool false
abbrev I0:Value:= .int .i64 0
end Go.Proofs.Ytgekkehpljbklaa

namespace Go.Proofs.Ytgekkehpljbklaa
open Go.ChangeShapes Go.WideShapes Go.ChangeAt Go.RowKit
theorem own_knob:ownKnob Try.prog.godebug=none:=by kernel_rfl
theorem cells_word:Try.prog.cellsOf 57=1:=by kernel_rfl
theorem bulk_one {H:Type}(d:DataW H):1≤Rows.uptoBulk d:=by
 cases d with
 | lit l=>cases l <;> simp [Rows.uptoBulk]
 | nil=>simp [Rows.uptoBulk]
 | ptr d=>simp [Rows.uptoBulk]
 | slice elems spare=>simp [Rows.uptoBulk]
 | agg parts=>simp [Rows.uptoBulk]
 | iface t d=>simp [Rows.uptoBulk]
 | map entries=>simp [Rows.uptoBulk]
 | held h=>simp [Rows.uptoBulk]
theorem bulk_len {H:Type}(l:List (DataW H)):l.length≤Rows.uptoBulkAll l:=by
 induction l with
 | nil=>simp [Rows.uptoBulkAll]
 | cons x r ih=>have:=bulk_one x;simp only [Rows.uptoBulkAll,List.length_cons];omega
theorem bulk_slice {H:Type}(elems spare:List (DataW H)):elems.length+spare.length≤Rows.uptoBulk (.slice elems spare):=by
 have h1:=bulk_len elems
 have h2:=bulk_len spare
 simp only [Rows.uptoBulk]
 omega
theorem bulk_bound {H:Type}{l:List (DataW H)}(hk:Rows.uptoSmall H l=true):Rows.uptoBulkAll l≤1048576:=of_decide_eq_true hk
theorem wf_nat {n:Int}(h:(Lit.int .u64 n).wf=true):0≤n∧n≤18446744073709551615:=by
 simpa [Lit.wf,IntKind.min,IntKind.max,IntKind.signed,IntKind.bits] using h
theorem post_of_below {H:Type}{enc:TypeId×Value→H}{P:Program}{f:Func}{s:ChangeSpec}{apart fresh handsOn again:Bool}{W W':World}{args:Array Value}{v:Value}{ds gs:List (DataW H)}{before pa pv:List MemPlace}
  (hW:DataW.Whole enc P f.params.toList s.vars apart W args.toList ds gs before)
  (hres:∀(b:Nat) (sp:Nat→Bool) (hd:Bool),DataW.TrodAll enc P W' b sp hd f.resultTypes.toList (v.resultList f.resultTypes.size) (s.fn H (ds++gs)).results [])
  (hargs:∀sp:Nat→Bool,(∀p∈before,sp p.block=true)→DataW.TrodAll enc P W' 0 sp true f.params.toList args.toList (s.fn H (ds++gs)).args pa)
  (hvars:∀sp:Nat→Bool,(∀p∈before,sp p.block=true)→DataW.TrodVars enc P W' sp s.vars (s.fn H (ds++gs)).vars pv)
  (hps:before=pa++pv) (hb:Below W.heap.size W W')
  (hok:∀(j:Nat) (t:TypeId) (r:Value),f.resultTypes[j]?=some t→(v.resultList f.resultTypes.size)[j]?=some r→Value.okWide P W' .any 0 t r):
  s.post enc P f apart fresh handsOn again W args v W':=by
 have hlt:∀p∈before,p.block<W.heap.size:=fun p hp=>hW.lt p hp
 have hold:∀p∈before,(fun b=>decide (b<W.heap.size)) p.block=true:=fun p hp=>by simpa using hlt p hp
 refine⟨ds,gs,before,[],pa,pv,hW,hres _ _ _,hargs _ hold,hvars _ hold,World.keptBut_mono (fun p hp=>⟨hp,?_⟩) (hb.frame (· ∈before)),fun _=>?_⟩
 ·rw [hps,List.mem_append] at hp
  exact Or.inr hp
 ·obtain⟨_,_,_,_,_,hz,hn⟩:=hW
  refine⟨hok,_,_,([]++pa)++pv,⟨[]++pa,pv,trodAll_append (hargs _ (fun _ _=>rfl)) (hres _ _ _),hvars _ (fun _ _=>rfl),rfl,?_,?_⟩,?_⟩
  ·intro b off hp
   have hin:MemPlace.cell b off∈before:=by rw [hps];simpa using hp
   rw [hb.frozen (hlt _ hin)]
   exact hz b off hin
  ·intro ha
   have:=hn ha
   rw [hps] at this
   simpa using this
  ·intro p hp _
   rw [hps]
   simpa using hp
theorem laid_out:laidOutB Try.prog=true:=by kernel_rfl
theorem maps_rowed:mapsRowed Try.prog=true:=by kernel_rfl
def sizedB (P:Program):Bool:=(List.range P.types.size).all fun t=>match P.underlying t with
 | some (.slice e)=>decide (0<P.cellsOf e)
 | _=>true
theorem sized_b:sizedB Try.prog=true:=by kernel_rfl
theorem sized {t e:TypeId}(ht:t<Try.prog.types.size) (hu:Try.prog.underlying t=some (.slice e)):0<Try.prog.cellsOf e:=by
 have:=List.all_eq_true.1 sized_b t (List.mem_range.2 ht)
 simpa [hu] using this
theorem stays {H:Type}{enc:TypeId×Value→H}{W W':World}{t:TypeId}{v:Value}{d:DataW H}{p:List MemPlace}(ht:t<Try.prog.types.size) (h:DataW.Trod enc Try.prog W 0 (fun _=>true) true t v d p)
  (he:Ext W W') (hp:∀q∈p,q.block<W.heap.size){sp:Nat→Bool}(hsp:∀q∈p,sp q.block=true):DataW.Trod enc Try.prog W' 0 sp true t v d p:=by
 obtain⟨n,hn⟩:=h
 exact⟨n,DataW.trod_stays (kids_rows laid_out maps_rowed) sized (fun h=>by cases h) ht hn (fun q hq=>he.below.same (hp q hq)) hsp⟩
theorem stays_all {H:Type}{enc:TypeId×Value→H}{W W':World}(he:Ext W W'){sp:Nat→Bool}:∀{ts:List TypeId}{vs:List Value}{ds:List (DataW H)}{p:List MemPlace},(∀t∈ts,t<Try.prog.types.size)→
  DataW.TrodAll enc Try.prog W 0 (fun _=>true) true ts vs ds p→(∀q∈p,q.block<W.heap.size)→(∀q∈p,sp q.block=true)→DataW.TrodAll enc Try.prog W' 0 sp true ts vs ds p:=by
 intro ts
 induction ts with
 | nil=>
  intro vs ds p _ h _ _
  obtain⟨rfl,rfl,rfl⟩:=trodAll_nil h
  exact trodAll_mk0
 | cons t ts ih=>
  intro vs ds p ht h hp hsp
  obtain⟨v,vs',d,ds',p1,p2,rfl,rfl,rfl,h1,h2⟩:=trodAll_cons h
  exact trodAll_cons_mk (stays (ht t (by simp)) h1 he (fun q hq=>hp q (by simp [hq])) (fun q hq=>hsp q (by simp [hq]))) (ih (fun t h=>ht t (by simp [h])) h2 (fun q hq=>hp q (by simp [hq])) (fun q hq=>hsp q (by simp [hq])))
end Go.Proofs.Ytgekkehpljbklaa

namespace Go.Proofs.Ytgekkehpljbklaa
open Go.RowKit
structure Zl (w:World) (A:Option Addr) (n cap:Nat) (zs:List Int) (ms:List Nat):Prop where
 len:zs.length=n
 mlen:ms.length=n
 le:n≤cap
 max:cap≤maxLen
 get:∀i,i<n→∃a s B c,A=some a∧w.cell? (a.add (i*2))=some (.bool s)∧w.cell? (a.add (i*2+1))=some (.slice B (ms.getD i 0) c)∧Zi w s B (ms.getD i 0) c (zs.getD i 0)
theorem Zl.ext {w w':World}{A:Option Addr}{n cap:Nat}{zs:List Int}{ms:List Nat}(h:Zl w A n cap zs ms) (e:Ext w w'):Zl w' A n cap zs ms:=
 ⟨h.len,h.mlen,h.le,h.max,fun i hi=>by
  obtain⟨a,s,B,c,h1,h2,h3,h4⟩:=h.get i hi
  exact⟨a,s,B,c,h1,e.cell h2,e.cell h3,h4.ext e⟩⟩
theorem getD_le_sum:∀(ms:List Nat) (i:Nat),ms.getD i 0≤ms.sum
 | [],i=>by simp
 | m::r,0=>by simp
 | m::r,i+1=>by
  have:=getD_le_sum r i
  simp only [List.getD_cons_succ,List.sum_cons]
  omega
end Go.Proofs.Ytgekkehpljbklaa

namespace Go.Proofs.Ytgekkehpljbklaa
open Go.ChangeShapes Go.WideShapes Go.ChangeAt Go.RowKit
theorem cells_int:Try.prog.cellsOf 34=2:=by kernel_rfl
theorem cells_words:Try.prog.cellsOf 32=1:=by kernel_rfl
theorem cells_bool:Try.prog.cellsOf 4=1:=by kernel_rfl
theorem fields_int:∃f0 f1:Field,Try.prog.underlying 34=some (.struct #[f0,f1])∧f0.type=4∧f0.offset=0∧f1.type=32∧f1.offset=1:=⟨_,_,Try.underlying34,rfl,rfl,rfl,rfl⟩
set_option maxRecDepth 20000 in
theorem open_wcell {H:Type}{enc:TypeId×Value→H}{W:World}{v:Value}{d:DataW H}{p:List MemPlace}{fuel:Nat}
  (hf:DataW.trod enc Try.prog W 0 (fun _=>true) true fuel 32 [v]=some (d,p)):
  ∃A n cap xs,v= .slice A n cap∧Rd W A n cap xs∧n≤Rows.uptoBulk d∧
   ∀W',Ext W W'→∀sp:Nat→Bool,(∀q∈p,sp q.block=true)→∃fuel',DataW.trod enc Try.prog W' 0 sp true fuel' 32 [v]=some (d,p):=by
 rcases open_ints Try.underlying32 Try.underlying57 cells_word hf with⟨hcs,hx⟩ | ⟨a,n',cap',zs,hcs,_,hl,hm,hz,hx,hcell,hwf⟩
 ·obtain rfl:=List.singleton_inj.1 hcs
  simp only [Prod.mk.injEq] at hx
  obtain⟨rfl,rfl⟩:=hx
  exact⟨none,0,0,[],rfl,Rd.nil W,Nat.zero_le _,fun W' _ sp _=>by obtain⟨fu,h⟩:=shut_slice_nil (enc:=enc) (w:=W') (base:=0) (spare:=sp) (held:=true) Try.underlying32;exact⟨fu,h⟩⟩
 ·obtain rfl:=List.singleton_inj.1 hcs
  simp only [Prod.mk.injEq] at hx
  obtain⟨rfl,rfl⟩:=hx
  simp only [if_true] at hz
  have hblk:0<cap'→a.block<W.heap.size:=fun hc=>World.block_lt_of_cell? W (a.add 0) (hcell 0 (by omega)) |> fun h=>by rwa [block_of_add] at h
  have hnn:∀z∈zs,((z.toNat:Nat):Int)=z:=fun z hz'=>Int.toNat_of_nonneg (wf_nat (hwf z hz')).1
  have hlen:(zs.take n').length=n':=by rw [List.length_take];omega
  refine⟨some a,n',cap',(zs.take n').map Int.toNat,rfl,⟨⟨by simp;omega,hl,hm,fun i hi=>⟨a,rfl,?_⟩,fun b hb hc=>by cases hb;exact hblk hc⟩,?_⟩,?_,?_⟩
  ·rw [hcell i (by omega)]
   have hi2:i<zs.length:=by omega
   have hmem:zs[i]∈zs:=List.getElem_mem hi2
   have e:(((zs.take n').map Int.toNat).map W64).getD i undef= .int .u64 ((zs[i].toNat:Nat):Int):=by
    simp [List.getD_eq_getElem?_getD,List.getElem?_map,show i<n' by omega,List.getElem?_eq_getElem hi2]
   rw [e,hnn _ hmem]
   simp [List.getD_eq_getElem?_getD,List.getElem?_eq_getElem hi2]
  ·intro x hx
   obtain⟨z,hz1,rfl⟩:=List.mem_map.1 hx
   have:=wf_nat (hwf z (List.mem_of_mem_take hz1))
   rw [WB_def];omega
  ·have:=bulk_slice (H:=H) (lits .u64 (zs.take n')) (lits .u64 (zs.drop n'))
   have e:(lits (H:=H) .u64 (zs.take n')).length=n':=by simp [lits];omega
   omega
  ·intro W' he sp hsp
   have hcell':∀i,i<zs.length→W'.cell? (a.add i)=some (.int .u64 (zs.getD i 0)):=fun i hi=>he.cell (hcell i hi)
   by_cases hz0:zs.length=0
   ·have hc0:cap'=0:=by omega
    have hl0:n'=0:=by omega
    subst hc0;subst hl0
    have t0:=shut_ints (enc:=enc) (w:=W') (base:=0) (spare:=sp) (held:=true) (a:=a) (len:=0) (cap:=0) (zs:=zs) 0 Try.underlying32 Try.underlying57 cells_word (Nat.zero_le _) (Nat.le_refl _) hm (by simp [hz0]) hcell' hwf
    exact⟨2,t0⟩
   ·have hspb:sp a.block=true:=hsp (.cell a.block a.off) (MemPlace.mem_row.2 ⟨0,by omega,by simp⟩)
    have t0:=shut_ints (enc:=enc) (w:=W') (base:=0) (spare:=sp) (held:=true) (a:=a) (len:=n') (cap:=cap') (zs:=zs) 0 Try.underlying32 Try.underlying57 cells_word (Nat.zero_le _) hl hm (by simp [hspb,hz]) hcell' hwf
    exact⟨2,t0⟩
set_option maxRecDepth 20000 in
theorem open_zcells {H:Type}{enc:TypeId×Value→H}{W:World}{c0 c1:Value}{x:DataW H×List MemPlace}{fuel:Nat}
  (h:DataW.trod enc Try.prog W 0 (fun _=>true) true fuel 34 [c0,c1]=some x):
  ∃s A n cap z,c0= .bool s∧c1= .slice A n cap∧Zi W s A n cap z∧n+1≤Rows.uptoBulk x.1∧
   ∀W',Ext W W'→∀sp:Nat→Bool,(∀q∈x.2,sp q.block=true)→∃fuel',DataW.trod enc Try.prog W' 0 sp true fuel' 34 [c0,c1]=some x:=by
 obtain⟨f0,f1,hu,t0,o0,t1,o1⟩:=fields_int
 obtain⟨y0,y1,n,rfl,hl,h0,h1⟩:=trod_struct2 hu h
 rw [t0,o0,cells_bool] at h0
 rw [t1,o1,cells_words] at h1
 have e0:(([c0,c1]:List Value).drop 0).take 1= [c0]:=rfl
 have e1:(([c0,c1]:List Value).drop 1).take 1= [c1]:=rfl
 rw [e0] at h0
 rw [e1] at h1
 obtain⟨s,hs,rfl⟩:=DataW.trod_bool Try.underlying4 h0
 obtain rfl:c0= .bool s:=by simpa using hs
 obtain⟨A,k,cap,xs,rfl,hx,hb,rx⟩:=open_wcell (d:=y1.1) (p:=y1.2) h1
 refine⟨s,A,k,cap,_,rfl,rfl,⟨xs,hx,rfl⟩,?_,?_⟩
 ·simp only [Rows.uptoBulk,Rows.uptoBulkAll];omega
 ·intro W' he sp hsp
  obtain⟨fu,hfu⟩:=rx W' he sp (fun q hq=>hsp q (by simp [hq]))
  refine⟨fu+1+1,trod_struct2_mk (y0:=(.lit (.bool s),[])) (y1:=y1) hu hl ?_ ?_⟩
  ·rw [t0,o0,cells_bool,e0]
   simp [DataW.trod,Try.underlying4]
  ·rw [t1,o1,cells_words,e1]
   exact DataW.trod_le (Nat.le_succ _) hfu
theorem sum_map_le {H:Type}(D:Nat→DataW H) (f:Nat→Nat) (n:Nat) (h:∀i,i<n→f i+1≤Rows.uptoBulk (D i)):((List.range n).map f).sum+n≤Rows.uptoBulkAll ((List.range n).map D):=by
 induction n with
 | zero=>simp [Rows.uptoBulkAll]
 | succ n ih=>
  have ih':=ih (fun i hi=>h i (by omega))
  have hn:=h n (by omega)
  rw [List.range_succ,List.map_append,List.map_append,List.sum_append,List.map_singleton,List.map_singleton]
  have e:∀(l:List (DataW H)) (x:DataW H),Rows.uptoBulkAll (l++ [x])=Rows.uptoBulkAll l+Rows.uptoBulk x:=by
   intro l x
   induction l with
   | nil=>simp [Rows.uptoBulkAll]
   | cons y r ihl=>simp only [List.cons_append,Rows.uptoBulkAll,ihl];omega
  rw [e]
  simp only [List.sum_singleton]
  omega
theorem elem_len {l:List Value}(h:l.length=2):∃a b,l= [a,b]:=by
 match l,h with
 | [a,b],_=>exact⟨a,b,rfl⟩
end Go.Proofs.Ytgekkehpljbklaa

namespace Go.Proofs.Ytgekkehpljbklaa
open Go.RowKit
theorem UpdO.of {w w':World}{A:Option Addr}(h:w.grownBy w' none):UpdO A w w':=⟨⟨h.os,h.tape,h.output,h.size,fun k hk _=>h.block k hk (by simp)⟩⟩
theorem Upd.updO {w w':World}{g:Nat}(h:Upd g w w'){o:Nat}{x:_}:UpdO (some ⟨g,o,x⟩) w w':=⟨h.by_⟩
theorem overl_take {cs us vs:List Value}{k:Nat}(hv:cs.take k=vs) (hk:k≤cs.length):(overl cs k us).take (k+us.length)=vs++us:=by
 unfold overl
 have e:(cs.take k++us).length=k+us.length:=by rw [List.length_append,List.length_take,Nat.min_eq_left hk]
 rw [←e,List.take_left',hv]
 rfl
def Kept (w:World) (A A':Option Addr):Prop:=∀a',A'=some a'→(∃a,A=some a∧a'.block=a.block)∨w.heap.size≤a'.block
section
variable {P:Program}
theorem run_app {t ty e:TypeId}{z:Value}{s bytes:Nat}(ht:P.underlying t=some (.slice e)) (hinfo:(P.info? e).map (fun i=>(i.zero,i.size,i.bytes))=some (some z,s,bytes)) (hzs:z.cells.size=s) (hsz:0<s) (hby:bytes≤64)
  {w:World}{base:Nat}{A:Option Addr}{n cap:Nat}{xs:List Value}(hown:Own w base e s A n cap xs) (hb:base≤w.heap.size){a:Addr}{m c:Nat}{news:List Value}(hl:news.length=m*s) (hnews:∀j u,news[j]?=some u→w.cell? (a.add j)=some u)
  (h1:news.all (·.oneCell')=true) (hm:n+m≤1099511627776):
  ∃A' cap' w',(Builtin.append_ #[t,t] ty #[.slice A n cap,.slice (some a) m c]).run P w= .ok (.slice A' (n+m) cap') w'∧Own w' base e s A' (n+m) cap' (xs++news)∧UpdO A w w'∧Kept w A A':=by
 obtain⟨i,hi,hz,hz1,hz2⟩:=info_parts hinfo
 have h1':∀u∈news,u.oneCell'=true:=by simpa [List.all_eq_true] using h1
 have h63:n+m≤maxLen:=by rw [len_maxLen];omega
 have hbytes:(n+m)*bytes≤140737488355328:=by
  have:(n+m)*bytes≤1099511627776*64:=Nat.mul_le_mul hm hby
  omega
 rcases hown with⟨rfl,rfl,rfl,rfl⟩ | ⟨g,cs,rfl,hg,hk,hn,hcm,hcl,hv⟩
 ·obtain⟨v',w',hr,h2,h3,_⟩:=run_append_own (P:=P) w w.heap.size t ty e i z s bytes ht hi hz hz1 hz2 hzs hsz (.slice none 0 0) 0 [] (World.ownsRow_nil w _ e s) a m c news hl hnews h1' h63 hbytes (Nat.le_refl _)
  obtain⟨A',cap',rfl,ho⟩:=Own.of_row h2
  exact⟨A',cap',w',hr,ho.mono hb,UpdO.of h3,fun a' ha=>Or.inr (ho.block a' ha).1⟩
 ·by_cases hroom:n+m≤cap
  ·have hfit:n*s+news.length≤cs.length:=by rw [hl,hcl,←Nat.add_mul];exact Nat.mul_le_mul_right s hroom
   obtain⟨w',hst,hb2,hu,hs⟩:=store_cells (P:=P) news 0 (n*s) w cs hk (by omega) h1'
   rw [Nat.add_zero] at hb2
   have hfc:=run_firstCells_some (P:=P) w i.size m a m c news (by rw [hz1];exact hl) hnews
   rw [hz1] at hfc
   refine⟨some ⟨g,0,none⟩,cap,w',?_,Or.inr ⟨g,_,rfl,hg,hb2,hroom,hcm,?_,?_⟩,hu.updO,fun a' ha=>Or.inl ⟨_,rfl,by cases ha;rfl⟩⟩
   ·simp [Builtin.append_,run_underlying ht,sizeOf,typeInfo,hi,Builtin.lenOf,hroom,hfc,Addr.add_lit,hz1,hst]
   ·unfold overl
    simp only [List.length_append,List.length_take,List.length_drop]
    omega
   ·rw [Nat.add_mul,←hl]
    exact overl_take hv (by omega)
  ·have hx:=hv
   obtain⟨v',w',hr,h2,h3⟩:=run_append_arg_grows (P:=P) w t ty e i z s bytes ht hi hz hz1 hz2 hzs hsz ⟨g,0,none⟩ n cap xs
    (by rw [←hv,List.length_take];have:=Nat.mul_le_mul_right s hn;omega)
    (fun j u hj=>by
     have hjl:=(List.getElem?_eq_some_iff.1 hj).1
     rw [add_lit0,Nat.zero_add,hk.cell (by rw [←hv,List.length_take] at hjl;omega)]
     rw [←hv,List.getElem?_take] at hj
     split at hj
     ·rw [List.getD_eq_getElem?_getD,hj];rfl
     ·cases hj) a m c news hl hnews (by omega) h63 hbytes
   obtain⟨A',cap',rfl,ho⟩:=Own.of_row h2
   exact⟨A',cap',w',hr,ho.mono hb,UpdO.of h3,fun a' ha=>Or.inr (ho.block a' ha).1⟩
variable {Q:Exit→Act→World→Prop}{n:Nat}{l:Fr}{w:World}{ops:Array Oper}{rest:List Oper}{d:Nat}{ty:TypeId}{pos:String}{af:Array Edge}{gd:Option (Nat×Bool)}
theorem wl_app {x y:Operand}{t e:TypeId}{z:Value}{s bytes k m c cap base:Nat}{A:Option Addr}{a:Addr}{xs:List Value}(hw:guardB ops l gd=some true) (hx:evo l x=some (.slice A k cap)) (hy:evo l y=some (.slice (some a) m c))
  (ht:P.underlying t=some (.slice e)) (hinfo:(P.info? e).map (fun i=>(i.zero,i.size,i.bytes))=some (some z,s,bytes)) (hzs:z.cells.size=s) (hsz:0<s) (hby:bytes≤64)
  (hown:Own w base e s A k cap xs) (hb:base≤w.heap.size) (news:List Value) (hl:news.length=m*s) (hnews:∀j u,news[j]?=some u→w.cell? (a.add j)=some u)
  (h1:news.all (·.oneCell')=true) (hm:k+m≤1099511627776) (hn:d<n)
  (h:∀A' cap' w',Own w' base e s A' (k+m) cap' (xs++news)→UpdO A w w'→Kept w A A'→wl P ops Q n rest ((d,.slice A' (k+m) cap')::l) w'):
  wl P ops Q n (⟨some d,.call {callee:= .builtin .append,args:= #[x,y],argTypes:= #[t,t]},ty,pos,af,gd⟩::rest) l w:=by
 obtain⟨A',cap',w',hr,h2,h3,h4⟩:=run_app (P:=P) (ty:=ty) ht hinfo hzs hsz hby hown hb hl hnews h1 hm
 refine wl_val hw hn (fun a' ha=>?_) (h A' cap' w' h2 h3 h4)
 unfold execOp
 simp only [resolve,invoke,builtin,Sem.run_bind,Sem.run_pure,Result.andThen_ok,List.map_toArray,List.map_cons,List.map_nil,ha.ev hx,ha.ev hy]
 rw [hr]
 rfl
end
theorem Own.updOT {w w':World}{b b':Nat}{t T:TypeId}{s s':Nat}{A B:Option Addr}{n cap m c:Nat}{vs us:List Value}(h:Own w b t s A n cap vs) (ho:Own w b' T s' B m c us) (hT:t≠T) (x:UpdO B w w'):Own w' b t s A n cap vs:=by
 refine h.updO x (fun p q hp hq hg=>?_)
 rcases ho with⟨h1,_⟩ | ⟨k,cs,hB,_,hk,_⟩
 ·rw [h1] at hp;cases hp
 ·rcases h with⟨h2,_⟩ | ⟨k',cs',hA,_,hk',_⟩
  ·rw [h2] at hq;cases hq
  ·rw [hB] at hp;rw [hA] at hq
   cases hp;cases hq
   simp only at hg
   subst hg
   unfold Bk at hk hk'
   rw [hk] at hk'
   injection hk' with hk'
   injection hk' with e1 e2
   exact hT e2.symm
theorem one_news3 {w:World}{g:Nat}{T:TypeId}(v:Value) (h:Bk w g T [v]):∀j u,[v][j]?=some u→w.cell? ((⟨g,0,none⟩:Addr).add j)=some u:=by
 intro j u hj
 have hjl:=(List.getElem?_eq_some_iff.1 hj).1
 rw [add_lit0,Nat.zero_add,h.cell hjl,List.getD_eq_getElem?_getD,hj];rfl
structure ZC where
 s:Bool
 A:Option Addr
 n:Nat
 c:Nat
theorem ln_w1 {x:Int}(h1: -18446744073709551615≤x) (h2:x≤18446744073709551615):ln x≤1:=len_wd_le (by rw [WB_def,Nat.pow_one];omega)
theorem elemI:Try.prog.underlying 22=some (.slice 34):=by kernel_rfl
theorem infoI:(Try.prog.info? 34).map (fun i=>(i.zero,i.size,i.bytes))=some (some (.agg #[.bool false,.slice none 0 0]),2,32):=by kernel_rfl
def ZC.zero:ZC:=⟨false,none,0,0⟩
def zcell (e:ZC):List Value:= [.bool e.s,.slice e.A e.n e.c]
def zcells:List ZC→List Value
 | []=> []
 | e::r=> .bool e.s:: .slice e.A e.n e.c::zcells r
theorem zcells_len:∀es:List ZC,(zcells es).length=es.length*2
 | []=>rfl
 | e::r=>by simp only [zcells,List.length_cons,zcells_len r];omega
theorem zcells_app:∀(es fs:List ZC),zcells (es++fs)=zcells es++zcells fs
 | [],fs=>rfl
 | e::r,fs=>by simp only [zcells,List.cons_append,zcells_app r fs]
theorem zcells_get0:∀(es:List ZC) (i:Nat),i<es.length→(zcells es)[i*2]?=some (.bool (es.getD i ZC.zero).s)
 | [],i,h=>by simp at h
 | e::r,0,h=>rfl
 | e::r,i+1,h=>by
  have:=zcells_get0 r i (by simpa using h)
  simpa [zcells,Nat.add_mul] using this
theorem zcells_get1:∀(es:List ZC) (i:Nat),i<es.length→(zcells es)[i*2+1]?=some (.slice (es.getD i ZC.zero).A (es.getD i ZC.zero).n (es.getD i ZC.zero).c)
 | [],i,h=>by simp at h
 | e::r,0,h=>rfl
 | e::r,i+1,h=>by
  have:=zcells_get1 r i (by simpa using h)
  simpa [zcells,Nat.add_mul] using this
theorem zcells_set:∀(es:List ZC) (i:Nat) (e:ZC),i<es.length→overl (zcells es) (i*2) (zcell e)=zcells (es.set i e)
 | [],i,e,h=>by simp at h
 | a::r,0,e,h=>by simp [zcells,overl,zcell]
 | a::r,i+1,e,h=>by
  have:=zcells_set r i e (by simpa using h)
  simp only [overl,zcell,List.length_cons,List.length_nil] at this⊢
  rw [show (i+1)*2=i*2+1+1 by omega,show i*2+1+1+(0+1+1)=i*2+(0+1+1)+1+1 by omega]
  simp only [zcells,List.take_succ_cons,List.drop_succ_cons,List.cons_append,List.set_cons_succ,this]
theorem Zl.at {w:World}{A:Option Addr}{n cap:Nat}{zs:List Int}{ms:List Nat}(h:Zl w A n cap zs ms){i:Nat}(hi:i<n):
  ∃p s B c,A.map (·.add (i*2))=some p∧(∀w',Ext w w'→∀(P:Program) (T:TypeId),AggT P T 2→(loadVar T p).run P w'= .ok (.agg #[.bool s,.slice B (ms.getD i 0) c]) w')∧Zi w s B (ms.getD i 0) c (zs.getD i 0):=by
 obtain⟨a,s,B,c,rfl,h1,h2,h3⟩:=h.get i hi
 refine⟨a.add (i*2),s,B,c,rfl,fun w' e P T hT=>load_at hT [.bool s,.slice B (ms.getD i 0) c] rfl (fun j hj=>?_),h3⟩
 rw [add_of_add]
 match j,hj with
 | 0,_=>exact e.cell h1
 | 1,_=>exact e.cell h2
theorem Zr.updOT {w w':World}{b b':Nat}{s:Bool}{A B:Option Addr}{n cap m c s':Nat}{z:Int}{T:TypeId}{us:List Value}(h:Zr w b s A n cap z) (ho:Own w b' T s' B m c us) (x:UpdO B w w') (hT:57≠T:=by decide):Zr w' b s A n cap z:=
 ⟨h.sgn,h.len,h.own.updOT ho hT x⟩
def Zo (w:World) (b:Nat) (s:Bool) (A:Option Addr) (n cap:Nat) (z:Int):Prop:=∃xs,Own w b 57 1 A n cap (xs.map W64)∧Wf xs∧sg s (nv xs)=z
section
variable {w w':World}{b:Nat}{s:Bool}{A:Option Addr}{n cap:Nat}{z:Int}
theorem Zo.zi (h:Zo w b s A n cap z):Zi w s A n cap z:=by obtain⟨xs,h1,h2,h3⟩:=h;exact⟨xs,h1.rd h2,h3⟩
theorem Zo.ext (h:Zo w b s A n cap z) (x:Ext w w'):Zo w' b s A n cap z:=by obtain⟨xs,h1,h2⟩:=h;exact⟨xs,h1.ext x,h2⟩
theorem Zo.mono {b':Nat}(h:Zo w b s A n cap z) (x:b'≤b):Zo w b' s A n cap z:=by obtain⟨xs,h1,h2⟩:=h;exact⟨xs,h1.mono x,h2⟩
theorem Zo.updT {g:Nat}{T:TypeId}{us:List Value}(h:Zo w b s A n cap z) (hb:Bk w g T us) (x:Upd g w w') (hT:57≠T:=by decide):Zo w' b s A n cap z:=by obtain⟨xs,h1,h2⟩:=h;exact⟨xs,h1.updT hb hT x,h2⟩
theorem Zo.updOT {b':Nat}{B:Option Addr}{m c s':Nat}{T:TypeId}{us:List Value}(h:Zo w b s A n cap z) (ho:Own w b' T s' B m c us) (x:UpdO B w w') (hT:57≠T:=by decide):Zo w' b s A n cap z:=by obtain⟨xs,h1,h2⟩:=h;exact⟨xs,h1.updOT ho hT x,h2⟩
end
def El (m:Option World) (b:Nat) (w:World) (e:ZC) (z:Int):Prop:=Zr w b e.s e.A e.n e.c z∨∃w0,m=some w0∧(Zi w0 e.s e.A e.n e.c z∨Zo w b e.s e.A e.n e.c z)
theorem El.ext {m:Option World}{b:Nat}{w w':World}{e:ZC}{z:Int}(h:El m b w e z) (x:Ext w w'):El m b w' e z:=h.imp (·.ext x) (fun⟨w0,h1,h2⟩=>⟨w0,h1,h2.imp id (·.ext x)⟩)
theorem El.updT {m:Option World}{b g:Nat}{w w':World}{e:ZC}{z:Int}{T:TypeId}{us:List Value}(h:El m b w e z) (hb:Bk w g T us) (x:Upd g w w') (hT:57≠T:=by decide):El m b w' e z:=h.imp (·.updT hb x hT) (fun⟨w0,h1,h2⟩=>⟨w0,h1,h2.imp id (·.updT hb x hT)⟩)
theorem El.mono {m:Option World}{b b':Nat}{w:World}{e:ZC}{z:Int}(h:El m b w e z) (x:b'≤b):El m b' w e z:=h.imp (·.mono x) (fun⟨w0,h1,h2⟩=>⟨w0,h1,h2.imp id (·.mono x)⟩)
theorem El.updOT {m:Option World}{b b':Nat}{w w':World}{e:ZC}{z:Int}{B:Option Addr}{n c s':Nat}{T:TypeId}{us:List Value}(h:El m b w e z) (ho:Own w b' T s' B n c us) (x:UpdO B w w') (hT:57≠T:=by decide):El m b w' e z:=h.imp (·.updOT ho x hT) (fun⟨w0,h1,h2⟩=>⟨w0,h1,h2.imp id (·.updOT ho x hT)⟩)
theorem El.zi {w0:World}{b:Nat}{w:World}{e:ZC}{z:Int}(h:El (some w0) b w e z) (x:Ext w0 w):Zi w e.s e.A e.n e.c z:=by
 rcases h with h | ⟨w1,h1,h2⟩
 ·exact h.zi
 ·cases h1;exact h2.elim (·.ext x) (·.zi)
theorem El.zr {b:Nat}{w:World}{e:ZC}{z:Int}(h:El none b w e z):Zr w b e.s e.A e.n e.c z:=by
 rcases h with h | ⟨w1,h1,h2⟩
 ·exact h
 ·cases h1
def Lz (m:Option World) (K b:Nat) (w:World) (lb:Nat) (A:Option Addr) (n cap:Nat) (zs:List Int):Prop:=
 ∃es,Own w lb 34 2 A n cap (zcells es)∧es.length=n∧zs.length=n∧∀i,i<n→(es.getD i ZC.zero).n≤K∧El m b w (es.getD i ZC.zero) (zs.getD i 0)
section
variable {m:Option World}{K b lb:Nat}{w w':World}{A:Option Addr}{n cap:Nat}{zs:List Int}
theorem Lz.own (h:Lz m K b w lb A n cap zs):∃vs,Own w lb 34 2 A n cap vs:=by obtain⟨es,h1,_⟩:=h;exact⟨_,h1⟩
theorem Lz.block (h:Lz m K b w lb A n cap zs):∀a,A=some a→lb≤a.block∧a.block<w.heap.size:=by obtain⟨vs,h⟩:=h.own;exact h.block
theorem Lz.len (h:Lz m K b w lb A n cap zs):zs.length=n:=by obtain⟨es,h1,h2,h3,h4⟩:=h;exact h3
theorem Lz.ext (h:Lz m K b w lb A n cap zs) (x:Ext w w'):Lz m K b w' lb A n cap zs:=by
 obtain⟨es,h1,h2,h3,h4⟩:=h
 exact⟨es,h1.ext x,h2,h3,fun i hi=>⟨(h4 i hi).1,(h4 i hi).2.ext x⟩⟩
theorem Lz.updT {g:Nat}{T:TypeId}{us:List Value}(h:Lz m K b w lb A n cap zs) (hb:Bk w g T us) (x:Upd g w w') (hne:∀p,A=some p→p.block≠g) (hT:57≠T:=by decide):Lz m K b w' lb A n cap zs:=by
 obtain⟨es,h1,h2,h3,h4⟩:=h
 exact⟨es,h1.upd x hne,h2,h3,fun i hi=>⟨(h4 i hi).1,(h4 i hi).2.updT hb x hT⟩⟩
theorem Lz.updO {B:Option Addr}{lb' c k:Nat}{us:List Value}(h:Lz m K b w lb A n cap zs) (ho:Own w lb' 34 2 B k c us) (x:UpdO B w w') (hne:∀p q,B=some p→A=some q→p.block≠q.block):Lz m K b w' lb A n cap zs:=by
 obtain⟨es,h1,h2,h3,h4⟩:=h
 exact⟨es,h1.updO x hne,h2,h3,fun i hi=>⟨(h4 i hi).1,(h4 i hi).2.updOT ho x⟩⟩
theorem Lz.mono {K' b' lb':Nat}(h:Lz m K b w lb A n cap zs) (hK:K≤K') (hb:b'≤b) (hl:lb'≤lb):Lz m K' b' w lb' A n cap zs:=by
 obtain⟨es,h1,h2,h3,h4⟩:=h
 exact⟨es,h1.mono hl,h2,h3,fun i hi=>⟨Nat.le_trans (h4 i hi).1 hK,(h4 i hi).2.mono hb⟩⟩
theorem Lz.at (h:Lz m K b w lb A n cap zs){i:Nat}(hi:i<n):
  ∃p s B k c,A.map (·.add (i*2))=some p∧(∀w',Ext w w'→∀(P:Program) (T:TypeId),AggT P T 2→(loadVar T p).run P w'= .ok (.agg #[.bool s,.slice B k c]) w')∧k≤K∧El m b w ⟨s,B,k,c⟩ (zs.getD i 0):=by
 obtain⟨es,h1,h2,h3,h4⟩:=h
 obtain⟨a,ha,hc⟩:=h1.rv.get (i*2) (by omega)
 obtain⟨a',ha',hc'⟩:=h1.rv.get (i*2+1) (by omega)
 rw [ha] at ha';cases ha'
 have g0:=zcells_get0 es i (by omega)
 have g1:=zcells_get1 es i (by omega)
 rw [List.getD_eq_getElem?_getD,g0] at hc
 rw [List.getD_eq_getElem?_getD,g1] at hc'
 refine⟨a.add (i*2),_,_,_,_,by rw [ha];rfl,fun w' e P T hT=>load_at hT [.bool (es.getD i ZC.zero).s,.slice (es.getD i ZC.zero).A (es.getD i ZC.zero).n (es.getD i ZC.zero).c] rfl (fun j hj=>?_),(h4 i hi).1,(h4 i hi).2⟩
 rw [add_of_add]
 match j,hj with
 | 0,_=>exact e.cell hc
 | 1,_=>exact e.cell hc'
theorem Lz.zl {w0:World}(h:Lz (some w0) K b w lb A n cap zs) (x:Ext w0 w):∃ms,Zl w A n cap zs ms∧∀i,ms.getD i 0≤K:=by
 obtain⟨es,h1,h2,h3,h4⟩:=h
 have hms:∀i,i<n→(es.map (·.n)).getD i 0=(es.getD i ZC.zero).n:=fun i hi=>by
  simp [List.getD_eq_getElem?_getD,List.getElem?_map,List.getElem?_eq_getElem (show i<es.length by omega)]
 refine⟨es.map (·.n),⟨h3,by rw [List.length_map,h2],h1.rv.le,h1.rv.max,fun i hi=>?_⟩,fun i=>?_⟩
 ·obtain⟨a,ha,hc⟩:=h1.rv.get (i*2) (by omega)
  obtain⟨a',ha',hc'⟩:=h1.rv.get (i*2+1) (by omega)
  rw [ha] at ha';cases ha'
  have g0:=zcells_get0 es i (by omega)
  have g1:=zcells_get1 es i (by omega)
  rw [List.getD_eq_getElem?_getD,g0] at hc
  rw [List.getD_eq_getElem?_getD,g1] at hc'
  rw [hms i hi]
  exact⟨a,_,_,_,ha,hc,hc',(h4 i hi).2.zi x⟩
 ·by_cases hi:i<n
  ·rw [hms i hi];exact (h4 i hi).1
  ·rw [List.getD_eq_getElem?_getD,List.getElem?_eq_none (by rw [List.length_map];omega)];exact Nat.zero_le _
theorem getD_app_l {α:Type}{l r:List α}{i:Nat}{d:α}(h:i<l.length):(l++r).getD i d=l.getD i d:=by
 rw [List.getD_eq_getElem?_getD,List.getD_eq_getElem?_getD,List.getElem?_append_left h]
theorem getD_app_m {α:Type}{l r:List α}{a d:α}:(l++a::r).getD l.length d=a:=by
 rw [List.getD_eq_getElem?_getD,List.getElem?_append_right (Nat.le_refl _),Nat.sub_self];rfl
end
theorem kept_ne {w:World}{A A':Option Addr}{g:Nat}(h:Kept w A A') (hg:g<w.heap.size) (hne:∀p,A=some p→p.block≠g):∀p,A'=some p→p.block≠g:=fun p hp=>by
 rcases h p hp with⟨a,ha,e⟩ | e
 ·rw [e];exact hne a ha
 ·omega
section
variable {Q:Exit→Act→World→Prop}{N:Nat}{l:Fr}{w:World}{ops:Array Oper}{rest:List Oper}{d:Nat}{ty:TypeId}{pos:String}{af:Array Edge}{gd:Option (Nat×Bool)}
theorem wl_appI {m:Option World}{K b lb:Nat}{A:Option Addr}{n cap:Nat}{zs:List Int}{x y:Operand}{g c:Nat}{e:ZC}{z:Int}(hw:guardB ops l gd=some true) (hx:evo l x=some (.slice A n cap)) (hy:evo l y=some (.slice (some ⟨g,0,none⟩) 1 c))
  (h:Lz m K b w lb A n cap zs) (hlb:lb≤w.heap.size) (hb:Bk w g 34 (zcell e)) (he:El m b w e z) (hK:e.n≤K) (hm:n≤1099511627775) (hd:d<N)
  (k:∀A' cap' w',Lz m K b w' lb A' (n+1) cap' (zs++ [z])→UpdO A w w'→Kept w A A'→wl Try.prog ops Q N rest ((d,.slice A' (n+1) cap')::l) w'):
  wl Try.prog ops Q N (⟨some d,.call {callee:= .builtin .append,args:= #[x,y],argTypes:= #[22,22]},ty,pos,af,gd⟩::rest) l w:=by
 obtain⟨es,h1,h2,h3,h4⟩:=h
 refine wl_app hw hx hy elemI infoI rfl (by decide) (by decide) h1 hlb (zcell e) rfl (fun j u hj=>?_) rfl (by omega) hd fun A' cap' w' ho hu hk=>k A' cap' w' ?_ hu hk
 ·have hjl:j<(zcell e).length:=(List.getElem?_eq_some_iff.1 hj).1
  rw [add_lit0,Nat.zero_add,hb.cell hjl,List.getD_eq_getElem?_getD,hj];rfl
 ·refine⟨es++ [e],by rw [zcells_app];exact ho,by simp [h2],by simp [h3],fun i hi=>?_⟩
  by_cases hin:i<n
  ·rw [getD_app_l (by omega),getD_app_l (by omega)]
   exact⟨(h4 i hin).1,(h4 i hin).2.updOT h1 hu⟩
  ·have e1:i=n:=by omega
   subst e1
   have e2:(es++ [e]).getD i ZC.zero=e:=by rw [←h2];exact getD_app_m
   have e3:(zs++ [z]).getD i 0=z:=by rw [←h3];exact getD_app_m
   rw [e2,e3]
   exact⟨hK,he.updOT h1 hu⟩
theorem wl_makeI {x y:Operand}{k:Nat}(m:Option World) (K b:Nat) (hw:guardB ops l gd=some true) (hx:evo l x=some (.int .i64 0)) (hy:evo l y=some (.int .i64 (k:Int))) (hk:k≤1099511627776) (hd:d<N)
  (h:∀g w',w.heap.size=g→Lz m K b w' g (some ⟨g,0,none⟩) 0 k []→Ext w w'→wl Try.prog ops Q N rest ((d,.slice (some ⟨g,0,none⟩) 0 k)::l) w'):wl Try.prog ops Q N (⟨some d,.makeSlice 22 x y,ty,pos,af,gd⟩::rest) l w:=by
 obtain⟨i,hi,hz0,hz1,hz2⟩:=info_parts infoI
 have hr:=run_make (P:=Try.prog) w 22 34 i _ elemI hi hz0 .i64 .i64 0 (k:Int) (by omega) (by omega) (by rw [hz2];omega) (by omega)
 rw [Int.toNat_natCast,show (0:Int).toNat=0 from rfl,hz1] at hr
 obtain⟨cs,hcs,hcl⟩:∃cs:List Value,madeCells (Value.agg #[.bool false,.slice none 0 0]).cells (k*2)=cs.toArray∧cs.length=k*2:=⟨(madeCells (Value.agg #[.bool false,.slice none 0 0]).cells (k*2)).toList,Array.toArray_toList.symm,by rw [Array.length_toList,size_madeCells]⟩
 rw [hcs] at hr
 refine wl_val hw hd (fun a' ha=>?_) (h _ (w.alloc (.cells cs.toArray 34)) rfl ⟨[],Or.inr ⟨w.heap.size,cs,rfl,Nat.le_refl _,Bk.new _ _ _,Nat.zero_le _,by rw [len_maxLen];omega,hcl,rfl⟩,rfl,rfl,fun i hi=>by omega⟩ ((Ext.refl w).alloc _))
 have e':(Instr.makeSlice 22 (a'.eval x) (a'.eval y)).run Try.prog w= .ok (.slice (some ⟨w.heap.size,0,none⟩) 0 k) (w.alloc (.cells cs.toArray 34)):=by rw [ha.ev hx,ha.ev hy];exact hr
 show ((Instr.makeSlice 22 (a'.eval x) (a'.eval y)>>=fun r=>pure (Next.value r):Sem Next)).run Try.prog w=_
 rw [Sem.run_bind,e'];rfl
theorem wl_setI {m:Option World}{K b lb:Nat}{A:Option Addr}{n cap i:Nat}{zs:List Int}{x y:Operand}{p:Addr}{e:ZC}{z:Int}(hw:guardB ops l gd=some true) (hx:evo l x=some (.pointer (some p))) (hy:evo l y=some (.agg #[.bool e.s,.slice e.A e.n e.c]))
  (hp:A.map (·.add (i*2))=some p) (hi:i<n) (h:Lz m K b w lb A n cap zs) (he:El m b w e z) (hK:e.n≤K)
  (k:∀w',Lz m K b w' lb A n cap (zs.set i z)→UpdO A w w'→wl Try.prog ops Q N rest l w'):
  wl Try.prog ops Q N (⟨none,.store 34 x y,ty,pos,af,gd⟩::rest) l w:=by
 obtain⟨es,h1,h2,h3,h4⟩:=h
 have h1':=h1
 rcases h1 with⟨rfl,_⟩ | ⟨g,cs,rfl,hg,hk,hn,hcm,hcl,hv⟩
 ·cases hp
 ·have hp':p=⟨g,i*2,none⟩:=by
   injection hp with hp
   rw [←hp]
   show (⟨g,0,none⟩:Addr).add (i*2)=_
   rw [add_lit0,Nat.zero_add]
  subst hp'
  have hle:=Nat.mul_le_mul_right 2 hn
  refine wl_stored hw hx (us:=zcell e) hy aggInt rfl hk (by omega) rfl _ rfl fun w' hb2 hu hs=>k w' ⟨es.set i e,Or.inr ⟨g,_,rfl,hg,hb2,hn,hcm,?_,?_⟩,by simp [h2],by simp [h3],fun j hj=>?_⟩ hu.updO
  ·unfold overl
   simp only [List.length_append,List.length_take,List.length_drop,zcell,List.length_cons,List.length_nil]
   omega
  ·rw [←zcells_set es i e (by omega),←hv]
   have hi2:i*2+2≤n*2:=by omega
   have hz:(zcell e).length=2:=rfl
   unfold overl
   rw [hz,List.take_append,List.take_append,List.take_take,List.take_take,List.length_append,List.length_take,Nat.min_eq_left (by omega:i*2≤cs.length),hz,Nat.min_eq_right (by omega),Nat.min_eq_left (by omega)]
   congr 1
   ·congr 1
    exact List.take_of_length_le (by rw [hz];omega)
   ·rw [List.drop_take]
  ·by_cases hji:j=i
   ·subst hji
    have e1:(es.set j e).getD j ZC.zero=e:=by simp [List.getD_eq_getElem?_getD,h2,hj]
    have e2:(zs.set j z).getD j 0=z:=by simp [List.getD_eq_getElem?_getD,h3,hj]
    rw [e1,e2]
    exact⟨hK,he.updOT h1' hu.updO⟩
   ·have e1:(es.set i e).getD j ZC.zero=es.getD j ZC.zero:=by simp [List.getD_eq_getElem?_getD,Ne.symm hji]
    have e2:(zs.set i z).getD j 0=zs.getD j 0:=by simp [List.getD_eq_getElem?_getD,Ne.symm hji]
    rw [e1,e2]
    exact⟨(h4 j hj).1,(h4 j hj).2.updOT h1' hu.updO⟩
end
section
variable {P:Program}
theorem run_app0 {t ty e:TypeId}{z:Value}{bytes:Nat}(ht:P.underlying t=some (.slice e)) (hinfo:(P.info? e).map (fun i=>(i.zero,i.size,i.bytes))=some (some z,1,bytes)) (hzs:z.cells.size=1) (hby:bytes≤64)
  {w:World}{base g:Nat}(hg:base≤g) (hb:base≤w.heap.size) (hk:Bk w g e []){S:Option Addr}{m c:Nat}{news:List Value}(hr:Rv w 1 S m c news) (_h1:∀u∈news,u.oneCell'=true) (hm:m≤1099511627776):
  ∃A' cap' w',(Builtin.append_ #[t,t] ty #[.slice (some ⟨g,0,none⟩) 0 0,.slice S m c]).run P w= .ok (.slice A' m cap') w'∧Own w' base e 1 A' m cap' news∧Ext w w':=by
 obtain⟨i,hi,hz,hz1,hz2⟩:=info_parts hinfo
 have own0:Own w base e 1 (some ⟨g,0,none⟩) 0 0 []:=Own.mk_ hg hk (Nat.le_refl _) (Nat.zero_le _) rfl rfl
 have hl:=hr.len
 have nil0:m=0→news= []:=fun h=>List.eq_nil_of_length_eq_zero (by rw [hl,h])
 cases S with
 | none=>
  have h0:m=0:=by
   rcases Nat.eq_zero_or_pos m with h0 | h0
   ·exact h0
   ·obtain⟨ad,h,_⟩:=hr.get 0 (by omega)
    cases h
  rw [nil0 h0,h0]
  exact⟨_,_,w,run_append_of_nil (P:=P) w base t ty e i 1 ht hi _ 0 [] own0.row c,own0,Ext.refl w⟩
 | some a=>
  by_cases h0:m=0
  ·rw [nil0 h0,h0]
   have hfc:=run_firstCells_some (P:=P) (w:=w) i.size 0 a 0 c [] (by simp) (by simp)
   exact⟨_,_,w,by simp [Builtin.append_,run_underlying ht,sizeOf,typeInfo,hi,Builtin.lenOf,hfc,storeCells],own0,Ext.refl w⟩
  ·obtain⟨v',w',hrun,h2,h3⟩:=run_append_arg_grows (P:=P) w t ty e i z 1 bytes ht hi hz hz1 hz2 hzs (by decide) ⟨g,0,none⟩ 0 0 [] rfl (fun j u hj=>by simp at hj) a m c news hl
    (fun j u hu=>by
     have hj:j<news.length:=(List.getElem?_eq_some_iff.1 hu).1
     obtain⟨a',ha',hc⟩:=hr.get j (by rw [←hl];exact hj)
     cases ha'
     rw [hc,←hu,List.getD_eq_getElem?_getD,List.getElem?_eq_getElem hj]
     rfl) (by omega) (by rw [len_maxLen];omega) (by
     have:(0+m)*bytes≤1099511627776*64:=Nat.mul_le_mul (by omega) hby
     omega)
   obtain⟨A',cap',rfl,ho⟩:=Own.of_row h2
   rw [Nat.zero_add,List.nil_append] at ho
   rw [Nat.zero_add] at hrun
   exact⟨A',cap',w',hrun,ho.mono hb,(UpdO.of (A:=none) h3).ext (Ext.refl w) (fun p hp=>by cases hp)⟩
variable {Q:Exit→Act→World→Prop}{n:Nat}{l:Fr}{w:World}{ops:Array Oper}{rest:List Oper}{d:Nat}{ty:TypeId}{pos:String}{af:Array Edge}{gd:Option (Nat×Bool)}
theorem wl_app0 {x y:Operand}{t e:TypeId}{z:Value}{bytes m c base g:Nat}{S:Option Addr}{news:List Value}(hw:guardB ops l gd=some true) (hx:evo l x=some (.slice (some ⟨g,0,none⟩) 0 0)) (hy:evo l y=some (.slice S m c))
  (ht:P.underlying t=some (.slice e)) (hinfo:(P.info? e).map (fun i=>(i.zero,i.size,i.bytes))=some (some z,1,bytes)) (hzs:z.cells.size=1) (hby:bytes≤64)
  (hg:base≤g) (hb:base≤w.heap.size) (hk:Bk w g e []) (hr:Rv w 1 S m c news) (h1:∀u∈news,u.oneCell'=true) (hm:m≤1099511627776) (hn:d<n)
  (h:∀A' cap' w',Own w' base e 1 A' m cap' news→Ext w w'→wl P ops Q n rest ((d,.slice A' m cap')::l) w'):
  wl P ops Q n (⟨some d,.call {callee:= .builtin .append,args:= #[x,y],argTypes:= #[t,t]},ty,pos,af,gd⟩::rest) l w:=by
 obtain⟨A',cap',w',hr,h2,h3⟩:=run_app0 (P:=P) (ty:=ty) ht hinfo hzs hby hg hb hk hr h1 hm
 refine wl_val hw hn (fun a' ha=>?_) (h A' cap' w' h2 h3)
 unfold execOp
 simp only [resolve,invoke,builtin,Sem.run_bind,Sem.run_pure,Result.andThen_ok,List.map_toArray,List.map_cons,List.map_nil,ha.ev hx,ha.ev hy]
 rw [hr]
 rfl
end
theorem made_zcells (k:Nat):(madeCells (Value.agg #[.bool false,.slice none 0 0]).cells (k*2)).toList=zcells (List.replicate k ZC.zero):=by
 refine List.ext_getElem ?_ fun j h1 h2=>?_
 ·rw [Array.length_toList,size_madeCells,zcells_len,List.length_replicate]
 ·have hj:j<k*2:=by simpa [size_madeCells] using h1
  have e1:(madeCells (Value.agg #[.bool false,.slice none 0 0]).cells (k*2)).toList[j]= #[Value.bool false,.slice none 0 0][j%2]!:=by
   simp [madeCells,Value.cells]
  rw [e1]
  have hjk:j/2<(List.replicate k ZC.zero).length:=by rw [List.length_replicate];omega
  have hz:(List.replicate k ZC.zero).getD (j/2) ZC.zero=ZC.zero:=by
   rw [List.getD_eq_getElem?_getD,List.getElem?_replicate];split <;> rfl
  rcases Nat.mod_two_eq_zero_or_one j with h | h
  ·have e2:=zcells_get0 (List.replicate k ZC.zero) (j/2) hjk
   rw [show j/2*2=j by omega,List.getElem?_eq_getElem h2,hz] at e2
   injection e2 with e2
   rw [e2,h];rfl
  ·have e2:=zcells_get1 (List.replicate k ZC.zero) (j/2) hjk
   rw [show j/2*2+1=j by omega,List.getElem?_eq_getElem h2,hz] at e2
   injection e2 with e2
   rw [e2,h];rfl
section
variable {Q:Exit→Act→World→Prop}{N:Nat}{l:Fr}{w:World}{ops:Array Oper}{rest:List Oper}{d:Nat}{ty:TypeId}{pos:String}{af:Array Edge}{gd:Option (Nat×Bool)}
theorem wl_makeL {x y:Operand}{k:Nat}(m:Option World) (K b:Nat) (hw:guardB ops l gd=some true) (hx:evo l x=some (.int .i64 (k:Int))) (hy:evo l y=some (.int .i64 (k:Int))) (hk:k≤1099511627776) (hd:d<N)
  (h:∀g w',w.heap.size=g→Lz m K b w' g (some ⟨g,0,none⟩) k k (List.replicate k 0)→Ext w w'→wl Try.prog ops Q N rest ((d,.slice (some ⟨g,0,none⟩) k k)::l) w'):wl Try.prog ops Q N (⟨some d,.makeSlice 22 x y,ty,pos,af,gd⟩::rest) l w:=by
 obtain⟨i,hi,hz0,hz1,hz2⟩:=info_parts infoI
 have hr:=run_make (P:=Try.prog) w 22 34 i _ elemI hi hz0 .i64 .i64 (k:Int) (k:Int) (by omega) (by omega) (by rw [hz2];omega) (by omega)
 rw [Int.toNat_natCast,hz1] at hr
 obtain⟨cs,hcs,hcl⟩:∃cs:List Value,madeCells (Value.agg #[.bool false,.slice none 0 0]).cells (k*2)=cs.toArray∧cs=zcells (List.replicate k ZC.zero):=⟨(madeCells (Value.agg #[.bool false,.slice none 0 0]).cells (k*2)).toList,Array.toArray_toList.symm,made_zcells k⟩
 rw [hcs] at hr
 have hlen:cs.length=k*2:=by rw [hcl,zcells_len,List.length_replicate]
 refine wl_val hw hd (fun a' ha=>?_) (h _ (w.alloc (.cells cs.toArray 34)) rfl ⟨List.replicate k ZC.zero,Or.inr ⟨w.heap.size,cs,rfl,Nat.le_refl _,Bk.new _ _ _,Nat.le_refl _,by rw [len_maxLen];omega,hlen,by rw [List.take_of_length_le (by omega)];exact hcl⟩,List.length_replicate ..,List.length_replicate ..,fun i hi=>?_⟩ ((Ext.refl w).alloc _))
 ·have e':(Instr.makeSlice 22 (a'.eval x) (a'.eval y)).run Try.prog w= .ok (.slice (some ⟨w.heap.size,0,none⟩) k k) (w.alloc (.cells cs.toArray 34)):=by rw [ha.ev hx,ha.ev hy];exact hr
  show ((Instr.makeSlice 22 (a'.eval x) (a'.eval y)>>=fun r=>pure (Next.value r):Sem Next)).run Try.prog w=_
  rw [Sem.run_bind,e'];rfl
 ·have e1:(List.replicate k ZC.zero).getD i ZC.zero=ZC.zero:=by rw [List.getD_eq_getElem?_getD,List.getElem?_replicate];split <;> rfl
  have e2:(List.replicate k (0:Int)).getD i 0=0:=by rw [List.getD_eq_getElem?_getD,List.getElem?_replicate];split <;> rfl
  rw [e1,e2]
  exact⟨Nat.zero_le _,Or.inl Zr.zero⟩
end
def upto5 (zs:List Int) (n k:Nat):List Int:=zs.take k++List.replicate (n-k) 0
theorem upto5_zero (zs:List Int) (n:Nat):List.replicate n 0=upto5 zs n 0:=by simp [upto5]
theorem upto5_full {zs:List Int}{n:Nat}(h:zs.length=n):upto5 zs n n=zs:=by simp [upto5,←h]
theorem upto5_succ {zs:List Int}{n k:Nat}(h:zs.length=n) (hk:k<n):(upto5 zs n k).set k (zs.getD k 0)=upto5 zs n (k+1):=by
 unfold upto5
 rw [List.set_append_right _ _ (by rw [List.length_take];omega),List.length_take,Nat.min_eq_left (by omega),Nat.sub_self,show n-k=(n-(k+1))+1 by omega,List.replicate_succ,List.set_cons_zero]
 rw [show zs.take (k+1)=zs.take k++ [zs.getD k 0] by rw [List.take_add_one,List.getD_eq_getElem?_getD,List.getElem?_eq_getElem (by omega)];rfl,List.append_assoc]
 rfl
def ZOR (b:Nat) (s:Bool) (n:Nat) (z:Int) (v:Value) (w:World):Prop:=∃A c,v= .agg #[.bool s,.slice A n c]∧Zo w b s A n c z
theorem ZOR.imp {b b':Nat}{s:Bool}{n:Nat}{z:Int}(h:b'≤b):∀v w,ZOR b s n z v w→ZOR b' s n z v w:=fun _ _ ⟨A,c,h1,h2⟩=>⟨A,c,h1,h2.mono h⟩
section
variable {P:Program}{Q:Exit→Act→World→Prop}{n:Nat}{l:Fr}{w:World}{ops:Array Oper}{rest:List Oper}{d:Nat}{op:Op}{ty:TypeId}{pos:String}{af:Array Edge}{gd:Option (Nat×Bool)}
theorem wl_pureE {v v':Value}(hw:guardB ops l gd=some true) (hk:known l op=true) (hn:d<n) (hr:(execOp (rho l) ⟨some d,op,ty,pos,af,gd⟩).run P w= .ok (.value v) w) (e:v=v')
  (h:wl P ops Q n rest ((d,v')::l) w):wl P ops Q n (⟨some d,op,ty,pos,af,gd⟩::rest) l w:=wl_pure hw hk hn hr (by rw [e];exact h)
end
end Go.Proofs.Ytgekkehpljbklaa

namespace Go.Proofs.Ytgekkehpljbklaa
def sm:Nat→(Nat→Int)→Int
 | 0,_=>0
 | n+1,f=>sm n f+f n
theorem sm_congr {n:Nat}{f g:Nat→Int}(h:∀i,i<n→f i=g i):sm n f=sm n g:=by
 induction n with
 | zero=>rfl
 | succ n ih=>simp only [sm];rw [ih (fun i hi=>h i (by omega)),h n (by omega)]
theorem sm_zero (n:Nat):sm n (fun _=>0)=0:=by
 induction n with
 | zero=>rfl
 | succ n ih=>simp only [sm,ih];rfl
theorem sm_add (n:Nat) (f g:Nat→Int):sm n (fun i=>f i+g i)=sm n f+sm n g:=by
 induction n with
 | zero=>rfl
 | succ n ih=>simp only [sm,ih];omega
theorem sm_mul (n:Nat) (c:Int) (f:Nat→Int):sm n (fun i=>c*f i)=c*sm n f:=by
 induction n with
 | zero=>simp [sm]
 | succ n ih=>simp only [sm,ih,Int.mul_add]
theorem sm_swap (n m:Nat) (f:Nat→Nat→Int):sm n (fun i=>sm m (fun j=>f i j))=sm m (fun j=>sm n (fun i=>f i j)):=by
 induction n with
 | zero=>simp only [sm,sm_zero]
 | succ n ih=>simp only [sm,ih,sm_add]
theorem sm_at {n i:Nat}(hi:i<n) (f:Nat→Int):sm n (fun j=>if j=i then f j else 0)=f i:=by
 induction n with
 | zero=>omega
 | succ n ih=>
  simp only [sm]
  by_cases h:i<n
  ·rw [ih h,if_neg (by omega)];omega
  ·have e:n=i:=by omega
   subst e
   rw [if_pos rfl,sm_congr (g:=fun _=>0) (fun j hj=>if_neg (by omega)),sm_zero];omega
theorem sm_front (n:Nat) (f:Nat→Int):sm (n+1) f=f 0+sm n (fun i=>f (i+1)):=by
 induction n with
 | zero=>simp [sm]
 | succ n ih=>rw [sm,ih];simp only [sm];omega
def cv:(Nat→Int)→(Nat→Int)→Nat→Int
 | f,g,0=>f 0*g 0
 | f,g,k+1=>f 0*g (k+1)+cv (fun i=>f (i+1)) g k
def c1:Nat→Int
 | 0=>1
 | _+1=>0
abbrev Mx:=Nat→Nat→Int
def mm (n:Nat) (A B:Mx):Mx:=fun i j=>sm n fun k=>A i k*B k j
def m1:Mx:=fun i j=>if i=j then 1 else 0
def mp (n:Nat) (A:Mx):Nat→Mx
 | 0=>m1
 | k+1=>mm n (mp n A k) A
theorem mm_congr {n:Nat}{A A' B B':Mx}{i j:Nat}(h:∀k,k<n→A i k=A' i k) (h':∀k,k<n→B k j=B' k j):mm n A B i j=mm n A' B' i j:=
 sm_congr fun k hk=>by rw [h k hk,h' k hk]
theorem m1_mm {n:Nat}(A:Mx){i:Nat}(j:Nat) (hi:i<n):mm n m1 A i j=A i j:=by
 have:mm n m1 A i j=sm n fun k=>if k=i then A k j else 0:=sm_congr fun k _=>by
  unfold m1
  by_cases h:k=i
  ·rw [if_pos h,if_pos h.symm];omega
  ·rw [if_neg h,if_neg (fun e=>h e.symm)];omega
 rw [this,sm_at hi (fun k=>A k j)]
section
variable (n:Nat) (A:Mx)
def rw_ (t j:Nat):Int:=sm n fun i=>A n i*mp n A t i j
def hh (t:Nat):Int:=sm n fun j=>rw_ n A t j*A j n
def ss:Nat→Int
 | 0=>1
 | 1=> -A n n
 | t+2=> -hh n A t
end
end Go.Proofs.Ytgekkehpljbklaa

namespace Go.Proofs.Ytgekkehpljbklaa
open Go.RowKit
theorem aggMat:AggT Try.prog 24 3:=⟨fun _=>by kernel_rfl,fun _=>by kernel_rfl⟩
theorem cellInt:∀w,(isAgg 3).run Try.prog w= .ok false w:=fun _=>by kernel_rfl
theorem cellInts:∀w,(isAgg 22).run Try.prog w= .ok false w:=fun _=>by kernel_rfl
theorem szInt:∀w,(sizeOf 3).run Try.prog w= .ok 1 w:=fun _=>by kernel_rfl
theorem szInts:∀w,(sizeOf 22).run Try.prog w= .ok 1 w:=fun _=>by kernel_rfl
theorem szBool:∀w,(sizeOf 4).run Try.prog w= .ok 1 w:=fun _=>by kernel_rfl
section
variable {P:Program}{Q:Exit→Act→World→Prop}{n:Nat}{l:Fr}{w:World}{ops:Array Oper}{rest:List Oper}{d:Nat}{ty:TypeId}{pos:String}{af:Array Edge}{gd:Option (Nat×Bool)}
theorem map_evo {a:Act}(ha:Rp n l a):∀(xs:List Operand) (vs:List Value),xs.map (evo l)=vs.map some→xs.map a.eval=vs
 | [],[],_=>rfl
 | [],_::_,h=>by cases h
 | _::_,[],h=>by cases h
 | x::xs,v::vs,h=>by
  simp only [List.map_cons,List.cons.injEq] at h
  rw [List.map_cons,ha.ev h.1,map_evo ha xs vs h.2]
theorem wl_callF {x:Operand}{xs:Array Operand}{ts:Array TypeId}{k:FuncId}{cs:List Value}(vs:List Value){R:Ending→World→Prop}(hw:guardB ops l gd=some true) (hx:evo l x=some (.func (.func k) #[] cs.toArray))
  (hxs:xs.toList.map (evo l)=vs.map some) (he:∀(args:Array Value) (w:World),(callFunc k args).run P w= .ok (.enter k args) w) (hn:d<n) (hc:Calls P k (vs++cs).toArray w R)
  (h:∀e w',R e w'→Ret (fun v=>wl P ops Q n rest ((d,v)::l) w') e):wl P ops Q n (⟨some d,.call {callee:= .value x,args:=xs,argTypes:=ts},ty,pos,af,gd⟩::rest) l w:=fun a ha=>by
 refine wl_plain hw ha fun K hK=>?_
 have e1:xs.map a.eval=vs.toArray:=by
  apply Array.ext'
  rw [Array.toList_map]
  exact map_evo ha _ _ hxs
 have e2:(execOp a.eval ⟨some d,.call {callee:= .value x,args:=xs,argTypes:=ts},ty,pos,af,gd⟩).run P w= .ok (.enter k (vs++cs).toArray) w:=by
  unfold execOp
  simp only [resolve,ha.ev hx,e1,Deferred.ofValue,Sem.run_bind,Sem.run_pure,Result.andThen_ok,invoke]
  simp only [List.append_toArray,List.nil_append,he]
 unfold Oper.wp
 rw [e2]
 refine hc.mono fun e w' hR=>?_
 have:=h e w' hR
 cases e with
 | returned v=>exact hK _ _ (this _ (ha.put hn v))
 | panicked c=>exact this.elim
 | outgrown=>exact this.elim
end
theorem ix_lt {r c i j:Nat}(hi:i<r) (hj:j<c):i*c+j<r*c:=by
 have:=Nat.mul_le_mul_right c (show i+1≤r by omega)
 rw [Nat.add_mul] at this;omega
theorem ix_64 {i c:Nat}(hi:i≤64) (hc:c≤64):i*c≤4096:=Nat.mul_le_mul hi hc
def LE (m:Option World) (K b lb n:Nat) (zs:List Int) (v:Value) (w:World):Prop:=∃A cap,v= .slice A n cap∧Lz m K b w lb A n cap zs
def LQ (m:Option World) (K b lb n:Nat) (p:List Int→Prop) (v:Value) (w:World):Prop:=∃A cap zs,v= .slice A n cap∧Lz m K b w lb A n cap zs∧p zs
def MQ (R C:Int) (L:Value→World→Prop) (v:Value) (w:World):Prop:=∃lv,v= .agg #[.int .i64 R,.int .i64 C,lv]∧L lv w
def En (r c:Nat) (f:Mx) (zs:List Int):Prop:=∀i j,i<r→j<c→zs.getD (i*c+j) 0=f i j
theorem En.cong {r c:Nat}{f g:Mx}(hfg:∀i j,i<r→j<c→f i j=g i j) (zs:List Int) (h:En r c f zs):En r c g zs:=fun i j hi hj=>(h i j hi hj).trans (hfg i j hi hj)
def ZF (w:World) (A:Option Addr) (n cap K:Nat) (zs:List Int):Prop:=∃ms,Zl w A n cap zs ms∧∀i,ms.getD i 0≤K
theorem ZF.mono {w:World}{A:Option Addr}{n cap K K':Nat}{zs:List Int}(h:ZF w A n cap K zs) (hK:K≤K'):ZF w A n cap K' zs:=by
 obtain⟨ms,h1,h2⟩:=h
 exact⟨ms,h1,fun i=>Nat.le_trans (h2 i) hK⟩
theorem El.som {b:Nat}{w w0:World}{e:ZC}{z:Int}(h:El none b w e z):El (some w0) b w e z:=by
 rcases h with h | ⟨w1,h1,h2⟩
 ·exact Or.inl h
 ·cases h1
theorem Lz.som {K b lb:Nat}{w w0:World}{A:Option Addr}{n cap:Nat}{zs:List Int}(h:Lz none K b w lb A n cap zs):Lz (some w0) K b w lb A n cap zs:=by
 obtain⟨es,h1,h2,h3,h4⟩:=h
 exact⟨es,h1,h2,h3,fun i hi=>⟨(h4 i hi).1,(h4 i hi).2.som⟩⟩
theorem Lz.zf {K b lb:Nat}{w w0:World}{A:Option Addr}{n cap:Nat}{zs:List Int}(h:Lz (some w0) K b w lb A n cap zs) (x:Ext w0 w):ZF w A n cap K zs:=h.zl x
theorem Lz.zf0 {K b lb:Nat}{w:World}{A:Option Addr}{n cap:Nat}{zs:List Int}(h:Lz none K b w lb A n cap zs):ZF w A n cap K zs:=(h.som (w0:=w)).zl (Ext.refl w)
theorem ZF.ln {w:World}{A:Option Addr}{n cap K:Nat}{zs:List Int}(h:ZF w A n cap K zs) (i:Nat):ln (zs.getD i 0)≤K:=by
 obtain⟨ms,h1,h2⟩:=h
 by_cases hi:i<n
 ·obtain⟨p,s,B,c,_,_,hz⟩:=h1.at hi
  exact Nat.le_trans hz.ln (h2 i)
 ·rw [List.getD_eq_getElem?_getD,List.getElem?_eq_none (by rw [h1.len];omega)];exact Nat.zero_le _
theorem ZF.ext {w w':World}{A:Option Addr}{n cap K:Nat}{zs:List Int}(h:ZF w A n cap K zs) (e:Ext w w'):ZF w' A n cap K zs:=by
 obtain⟨ms,h1,h2⟩:=h
 exact⟨ms,h1.ext e,h2⟩
theorem ln_eq_zero {x:Int}(h:ln x=0):x=0:=by
 have:=len_wd_zero.1 (show (wd x.natAbs).length=0 from h)
 omega
theorem ln_w64 {x:Nat}(h:x≤18446744073709551615):ln ((x:Nat):Int)≤1:=ln_w1 (by omega) (by omega)
theorem wd_topI {x:Int}(h:x≠0):(wd x.natAbs).getD (ln x-1) 0≠0:=by
 have h1:=db_top (b:=WB) (by decide) x.natAbs
 rw [←wd_db] at h1
 have h2:(wd x.natAbs).length≠0:=fun e=>h (ln_eq_zero e)
 rcases h1 with h1 | h1
 ·exact absurd h1 h2
 ·exact h1
theorem lz4 {w:World}{K b lb g:Nat}{s1 s2 s3 s4:Bool}{A1 A2 A3 A4:Option Addr}{n1 n2 n3 n4 c1 c2 c3 c4:Nat}{x1 x2 x3 x4:Int}(hl:lb≤g)
  (hb:Bk w g 34 [.bool s1,.slice A1 n1 c1,.bool s2,.slice A2 n2 c2,.bool s3,.slice A3 n3 c3,.bool s4,.slice A4 n4 c4]) (h1:Zr w b s1 A1 n1 c1 x1) (h2:Zr w b s2 A2 n2 c2 x2) (h3:Zr w b s3 A3 n3 c3 x3) (h4:Zr w b s4 A4 n4 c4 x4)
  (k1:n1≤K) (k2:n2≤K) (k3:n3≤K) (k4:n4≤K):Lz none K b w lb (some ⟨g,0,none⟩) 4 4 [x1,x2,x3,x4]:=
 ⟨[⟨s1,A1,n1,c1⟩,⟨s2,A2,n2,c2⟩,⟨s3,A3,n3,c3⟩,⟨s4,A4,n4,c4⟩],Own.mk_ hl hb (by decide) (by decide) rfl rfl,rfl,rfl,fun i hi=>by
  match i,hi with
  | 0,_=>exact⟨k1,Or.inl h1⟩
  | 1,_=>exact⟨k2,Or.inl h2⟩
  | 2,_=>exact⟨k3,Or.inl h3⟩
  | 3,_=>exact⟨k4,Or.inl h4⟩⟩
theorem ai_mulI {r c:Int}(hr:0≤r∧r≤64) (hc:0≤c∧c≤64):arB .mul .i64 r c=some (r*c):=by
 obtain⟨a,rfl⟩:∃a:Nat,r=a:=⟨r.toNat,by omega⟩
 obtain⟨d,rfl⟩:∃d:Nat,c=d:=⟨c.toNat,by omega⟩
 have h:=Nat.mul_le_mul (show a≤64 by omega) (show d≤64 by omega)
 rw [ai_mul (a:=a) (b:=d) rfl rfl (by omega),Int.natCast_mul]
theorem UO.refl (A:Option Addr) (w:World):UpdO A w w:=⟨World.grownBy.refl _ _⟩
theorem UO.ext {A:Option Addr}{a w w':World}(h:UpdO A a w) (e:Ext w w'):UpdO A a w':=
 ⟨⟨e.below.os.trans h.by_.os,e.below.tape.trans h.by_.tape,e.below.output.trans h.by_.output,Nat.le_trans h.by_.size e.size,fun k hk hne=>(e.below.block k (Nat.lt_of_lt_of_le hk h.by_.size)).trans (h.by_.block k hk hne)⟩⟩
theorem UO.trans {A:Option Addr}{a w w':World}(h:UpdO A a w) (u:UpdO A w w'):UpdO A a w':=
 ⟨⟨u.by_.os.trans h.by_.os,u.by_.tape.trans h.by_.tape,u.by_.output.trans h.by_.output,Nat.le_trans h.by_.size u.size,fun k hk hne=>(u.by_.block k (Nat.lt_of_lt_of_le hk h.by_.size) hne).trans (h.by_.block k hk hne)⟩⟩
def lf (X:Mx) (x:Int) (k:Nat):Mx:=fun i j=>if i=j∧i<k then X i j+x else X i j
theorem getD_set {α:Type}{l:List α}{i k:Nat}{a d:α}(hi:i<l.length):(l.set i a).getD k d=if k=i then a else l.getD k d:=by
 by_cases h:k=i
 ·subst h;rw [if_pos rfl,List.getD_eq_getElem?_getD,List.getElem?_set_self hi];rfl
 ·rw [if_neg h,List.getD_eq_getElem?_getD,List.getElem?_set_ne (fun e=>h e.symm),List.getD_eq_getElem?_getD]
def Snd (R C:Int) (n:Nat):Prop:=(0≤R∧R≤64)∧(0≤C∧C≤64)∧(n:Int)=R*C
theorem ci_le_t {a b:Int}(h:a≤b):cmpB .leq a b=some true:=by simp only [cmpB,decide_eq_true h]
theorem ci_le_f {a b:Int}(h:¬a≤b):cmpB .leq a b=some false:=by simp only [cmpB,decide_eq_false h]
theorem ci_lt_t {a b:Int}(h:a<b):cmpB .lss a b=some true:=by simp only [cmpB,decide_eq_true h]
theorem ci_lt_f {a b:Int}(h:¬a<b):cmpB .lss a b=some false:=by simp only [cmpB,decide_eq_false h]
theorem ci_ge_t {a b:Int}(h:a≥b):cmpB .geq a b=some true:=by simp only [cmpB,decide_eq_true h]
theorem ci_ge_f {a b:Int}(h:¬a≥b):cmpB .geq a b=some false:=by simp only [cmpB,decide_eq_false h]
theorem ci_eq_t {a b:Int}(h:a=b):cmpB .eql a b=some true:=by subst h;simp [cmpB]
theorem ci_eq_f {a b:Int}(h:a≠b):cmpB .eql a b=some false:=by simp [cmpB,h]
theorem ci_ne_t {a b:Int}(h:a≠b):cmpB .neq a b=some true:=by simp [cmpB,h]
theorem ci_ne_f {a b:Int}(h:a=b):cmpB .neq a b=some false:=by subst h;simp [cmpB]
def B1 (b:Nat) (z:Int) (v:Value) (w:World):Prop:=∃g s A n c,v= .slice (some ⟨g,0,none⟩) 1 1∧Bk w g 34 [.bool s,.slice A n c]∧Zr w b s A n c z
def Bld (c q:Nat) (f:Mx) (zs:List Int):Prop:=∀k,k<q→zs.getD k 0=f (k/c) (k%c)
theorem Bld.step {c i j q:Nat}{f:Mx}{zs:List Int}(h:Bld c q f zs) (hq:q=i*c+j) (hj:j<c) (hl:zs.length=q):Bld c (q+1) f (zs++ [f i j]):=fun k hk=>by
 by_cases h1:k<q
 ·rw [getD_app_l (by omega)];exact h k h1
 ·have e:k=zs.length:=by omega
  rw [e,getD_app_m,hl,hq,Nat.mul_comm,Nat.mul_add_div (by omega),Nat.div_eq_of_lt hj,Nat.mul_add_mod,Nat.mod_eq_of_lt hj,Nat.add_zero]
theorem Bld.en {r c q:Nat}{f:Mx}{zs:List Int}(h:Bld c q f zs) (hq:q=r*c):En r c f zs:=fun i j hi hj=>by
 have h1:=Nat.mul_le_mul_right c (show i+1≤r by omega)
 rw [Nat.add_mul] at h1
 rw [h (i*c+j) (by omega),Nat.mul_comm,Nat.mul_add_div (by omega),Nat.div_eq_of_lt hj,Nat.mul_add_mod,Nat.mod_eq_of_lt hj,Nat.add_zero]
theorem ln_sm {n K:Nat}{f:Nat→Int}(h:∀i,i<n→ln (f i)≤K):ln (sm n f)≤K+n:=by
 induction n with
 | zero=>exact Nat.zero_le _
 | succ n ih=>exact Nat.le_trans (ln_add (ih fun i hi=>h i (by omega)) (Nat.le_trans (h n (by omega)) (Nat.le_add_right K n))) (by omega)
theorem En.ln {r c:Nat}{f:Mx}{zs:List Int}{w:World}{A:Option Addr}{n cap K:Nat}(h:En r c f zs) (hz:ZF w A n cap K zs){i j:Nat}(hi:i<r) (hj:j<c):ln (f i j)≤K:=by
 rw [←h i j hi hj];exact hz.ln _
theorem ln_part {m k K L:Nat}{X Y:Mx}{i j:Nat}(hX:∀l,l<m→ln (X i l)≤K) (hY:∀l,l<m→ln (Y l j)≤L) (hk:k≤m):ln (sm k fun l=>X i l*Y l j)≤K+L+k:=ln_sm fun l hl=>ln_mul (hX l (by omega)) (hY l (by omega))
theorem ln_mm {n K L:Nat}{A B:Mx}{i j:Nat}(h:∀k,k<n→ln (A i k)≤K) (h':∀k,k<n→ln (B k j)≤L):ln (mm n A B i j)≤K+L+n:=ln_sm fun k hk=>ln_mul (h k hk) (h' k hk)
end Go.Proofs.Ytgekkehpljbklaa

namespace Go.Proofs.Ytgekkehpljbklaa
open Go.ChangeShapes Go.WideShapes Go.ChangeAt Go.RowKit
set_option maxRecDepth 20000 in
theorem open_zlcm {H:Type}{enc:TypeId×Value→H}{W:World}{v:Value}{d:DataW H}{p:List MemPlace}{fuel:Nat}
  (hf:DataW.trod enc Try.prog W 0 (fun _=>true) true fuel 22 [v]=some (d,p)):
  ∃A n cap zs ms,v= .slice A n cap∧Zl W A n cap zs ms∧n+ms.sum≤Rows.uptoBulk d:=by
 rcases Go.Deep.open_slice Try.underlying22 hf with⟨hcs,hx⟩ | ⟨a,n,cap,m,k,D,Pl,hcs,_,hl,hm,hmm,hx,hi⟩
 ·obtain rfl:=List.singleton_inj.1 hcs
  exact⟨none,0,0,[],[],rfl,⟨rfl,rfl,Nat.le_refl _,by decide,fun i hi=>by omega⟩,by simp⟩
 ·obtain rfl:=List.singleton_inj.1 hcs
  simp only [if_true] at hmm
  have hmm':=hmm.symm
  subst hmm'
  simp only [Prod.mk.injEq] at hx
  obtain⟨rfl,rfl⟩:=hx
  rw [cells_int] at hi
  have hel:∀i,i<cap→∃(q:Bool×Option Addr×Nat×Nat×Int),W.cell? (a.add (i*2))=some (.bool q.1)∧W.cell? (a.add (i*2+1))=some (.slice q.2.1 q.2.2.1 q.2.2.2.1)∧Zi W q.1 q.2.1 q.2.2.1 q.2.2.2.1 q.2.2.2.2∧q.2.2.1+1≤Rows.uptoBulk (D i):=by
   intro i him
   obtain⟨cs',hc,ht'⟩:=hi i him
   obtain⟨_,hcl,hat⟩:=World.cells?_some hc
   obtain⟨c0,c1,rfl⟩:=elem_len hcl
   have ht2:DataW.trod enc Try.prog W 0 (fun _=>true) true k 34 [c0,c1]=some (D i,Pl i):=ht'
   obtain⟨s,B,nb,c,z,rfl,rfl,hz,hb,rx⟩:=open_zcells ht2
   refine⟨(s,B,nb,c,z),?_,?_,hz,hb⟩
   ·have:=hat 0 (by simp)
    simpa [Go.Deep.add_add] using this
   ·have:=hat 1 (by simp)
    simpa [Go.Deep.add_add] using this
  obtain⟨Q,hQ⟩:=Go.Deep.choose_lt hel
  refine⟨some a,n,cap,(List.range n).map (fun i=>(Q i).2.2.2.2),(List.range n).map (fun i=>(Q i).2.2.1),rfl,⟨by simp,by simp,hl,hm,fun i hin=>?_⟩,?_⟩
  ·obtain⟨h1,h2,h3,_⟩:=hQ i (by omega)
   have e1:((List.range n).map (fun i=>(Q i).2.2.1)).getD i 0=(Q i).2.2.1:=by simp [List.getD_eq_getElem?_getD,hin]
   have e2:((List.range n).map (fun i=>(Q i).2.2.2.2)).getD i 0=(Q i).2.2.2.2:=by simp [List.getD_eq_getElem?_getD,hin]
   rw [e1,e2]
   exact⟨a,_,_,_,rfl,h1,h2,h3⟩
  ·have:=sum_map_le D (fun i=>(Q i).2.2.1) n (fun i hin=>(hQ i (by omega)).2.2.2)
   simp only [Rows.uptoBulk]
   omega
theorem three_m {α:Type}{l:List α}(h:l.length=3):∃a b c,l= [a,b,c]:=by
 match l,h with
 | [a,b,c],_=>exact⟨a,b,c,rfl⟩
theorem fields_mat:∃f0 f1 f2:Field,Try.prog.underlying 24=some (.struct #[f0,f1,f2])∧f0.type=3∧f0.offset=0∧f1.type=3∧f1.offset=1∧f2.type=22∧f2.offset=2:=
 ⟨_,_,_,Try.underlying24,rfl,rfl,rfl,rfl,rfl,rfl⟩
theorem cells_mat:Try.prog.cellsOf 24=3:=by kernel_rfl
theorem cells_im:Try.prog.cellsOf 3=1:=by kernel_rfl
theorem cells_lm:Try.prog.cellsOf 22=1:=by kernel_rfl
set_option maxRecDepth 20000 in
theorem open_mat {H:Type}{enc:TypeId×Value→H}{W:World}{base:Nat}{v:Value}{d:DataW H}{p:List MemPlace}
  (hval:Value.okWide Try.prog W .any base 24 v) (h:DataW.Trod enc Try.prog W 0 (fun _=>true) true 24 v d p):
  ∃(R C:Int) (A:Option Addr) (n c:Nat) (zs:List Int) (ms:List Nat),v= .agg #[.int .i64 R,.int .i64 C,.slice A n c]∧Zl W A n c zs ms∧n+ms.sum≤Rows.uptoBulk d:=by
 obtain⟨f0,f1,f2,hu,t0,o0,t1,o1,t2,o2⟩:=fields_mat
 obtain⟨fuel,hf0⟩:=h
 obtain⟨ys,n,_,hx,hcl,hyl,hf⟩:=DataW.trod_struct hu hf0
 rw [cells_mat] at hcl
 obtain⟨c0,c1,c2,hcs⟩:=three_m hcl
 obtain⟨y0,y1,y2,rfl⟩:=three_m (show ys.length=3 from hyl)
 obtain⟨vs,rfl⟩:∃vs:Array Value,v= .agg vs:=by
  obtain⟨cs,h1,_⟩:=okWide_struct hu hval
  exact⟨cs,h1⟩
 have hvs:vs.toList= [c0,c1,c2]:=hcs
 obtain rfl:vs= #[c0,c1,c2]:=by
  have:=congrArg List.toArray hvs
  simpa using this
 have g0:=hf 0 f0 rfl
 have g1:=hf 1 f1 rfl
 have g2:=hf 2 f2 rfl
 rw [t0,o0,cells_im] at g0
 rw [t1,o1,cells_im] at g1
 rw [t2,o2,cells_lm] at g2
 obtain⟨R,hR,_,_⟩:=DataW.trod_int Try.underlying3 (show DataW.trod enc Try.prog W 0 (fun _=>true) true n 3 [c0]=some y0 from g0)
 obtain⟨C,hC,_,_⟩:=DataW.trod_int Try.underlying3 (show DataW.trod enc Try.prog W 0 (fun _=>true) true n 3 [c1]=some y1 from g1)
 obtain⟨A,m,cap,zs,ms,rfl,hx2,hb2⟩:=open_zlcm (d:=y2.1) (p:=y2.2) (show DataW.trod enc Try.prog W 0 (fun _=>true) true n 22 [c2]=some y2 from g2)
 obtain rfl:=List.singleton_inj.1 hR
 obtain rfl:=List.singleton_inj.1 hC
 simp only [Prod.mk.injEq] at hx
 obtain⟨rfl,_⟩:=hx
 refine⟨R,C,A,m,cap,zs,ms,rfl,hx2,?_⟩
 simp only [Rows.uptoBulk,List.map_cons,Rows.uptoBulkAll]
 omega
theorem Zl.mat0 {w:World}{A:Option Addr}{n c:Nat}{zs:List Int}{ms:List Nat}(h:Zl w A n c zs ms):ZF w A n c ms.sum zs:=⟨ms,h,fun i=>getD_le_sum ms i⟩
end Go.Proofs.Ytgekkehpljbklaa

namespace Go.Proofs.Ytgekkehpljbklaa
open Go.RowKit
set_option maxHeartbeats 4000000 in
theorem g_mat_side_t {w:World}{R:Int}(hR:(0≤R∧R≤64)):
    Calls Try.prog 64 #[.int .i64 R] w (Gv w (Is (.bool true))):=by
 refine sx_enter Try.func64 rfl (n:=9) rfl (bq rfl) (args:= [.int .i64 R]) (cw_keep [(0,.int .i64 R)] ⟨rfl,trivial⟩ (sr (mv 1 rfl (ne_ (sr (mv 1 rfl (wl_cmp rfl rfl rfl true (ci_le_t hR.1) (by decide) (mv 2 rfl (wl_cmp rfl rfl rfl true (ci_le_t hR.2) (by decide) (pu (v:= .bool true) rfl (by kernel_rfl) (mv 1 rfl (ne_ (cw_ret ?_)))))))))))))
 refine eo_ret [.bool true] rfl ⟨rfl,trivial⟩ ?_
 exact⟨_,rfl,rfl,(Ext.refl w)⟩
set_option maxHeartbeats 4000000 in
theorem g_mat_side_f {w:World}{R:Int}(hR:¬(0≤R∧R≤64)):
    Calls Try.prog 64 #[.int .i64 R] w (Gv w (Is (.bool false))):=by
 refine sx_enter Try.func64 rfl (n:=9) rfl (bq rfl) (args:= [.int .i64 R]) (cw_keep [(0,.int .i64 R)] ⟨rfl,trivial⟩ (sr (mv 1 rfl (ne_ (cw_seq ?_)))))
 by_cases h1:0≤R
 · 
  have hR2:¬R≤64:=fun h=>hR ⟨h1,h⟩
  refine cw_region (mv 1 rfl (wl_cmp rfl rfl rfl true (ci_le_t h1) (by decide) (mv 2 rfl (wl_cmp rfl rfl rfl false (ci_le_f hR2) (by decide) (pu (v:= .bool false) rfl (by kernel_rfl) (mv 1 rfl (ne_ (cw_ret (eo_ret [F0] rfl ⟨rfl,trivial⟩ ?_)))))))))
  exact⟨_,rfl,rfl,(Ext.refl w)⟩
 · 
  refine cw_region (mv 1 rfl (wl_cmp rfl rfl rfl false (ci_le_f h1) (by decide) (mv 3 rfl (pu (v:= .bool false) rfl (by kernel_rfl) (mv 1 rfl (ne_ (cw_ret (eo_ret [F0] rfl ⟨rfl,trivial⟩ ?_))))))))
  exact⟨_,rfl,rfl,(Ext.refl w)⟩
set_option maxHeartbeats 4000000 in
theorem g_mat_Check_ok {w:World}{r c na capa:Nat}{Aa:Option Addr}(hr:r≤64) (hc:c≤64) (hn:na=r*c):
    Calls Try.prog 42 #[.agg #[.int .i64 ((r:Nat):Int),.int .i64 ((c:Nat):Int),.slice Aa na capa]] w (Gv w (Is (.int .i64 0))):=by
 have hrc:=ix_64 hr hc
 refine sx_enter Try.func42 rfl (n:=24) rfl (bq rfl) (args:= [.agg #[.int .i64 ((r:Nat):Int),.int .i64 ((c:Nat):Int),.slice Aa na capa]]) (cw_keep [(0,.agg #[.int .i64 ((r:Nat):Int),.int .i64 ((c:Nat):Int),.slice Aa na capa])] ⟨rfl,trivial⟩ (sr (bx [.int .i64 ((r:Nat):Int),.int .i64 ((c:Nat):Int),.slice Aa na capa] (Ext.refl w) rfl rfl rfl fun g1 v2 hb4 ge5 e3 hw1=>(mv 1 rfl (ne_ (cw_seq (sr (pf g1 0 rfl (by kernel_rfl) (wl_load rfl rfl (load_cell cellInt hb4 rfl) (by decide) (cl (vs:= [.int .i64 ((r:Nat):Int)]) hw1 (g_mat_side_t ⟨by omega,by omega⟩) rfl (by kernel_rfl) fun xr8 v6 r8 e7 hw2=>?_))))))))))
 obtain rfl:=r8
 refine pu (v:= .bool false) rfl (by kernel_rfl) (mv 1 rfl (pf g1 1 rfl (by kernel_rfl) (wl_load rfl rfl (load_cell cellInt (hb4.ext e7) rfl) (by decide) (cl (vs:= [.int .i64 ((c:Nat):Int)]) hw2 (g_mat_side_t ⟨by omega,by omega⟩) rfl (by kernel_rfl) fun xr11 v9 r11 e10 hw3=>?_))))
 obtain rfl:=r11
 refine pu (v:= .bool false) rfl (by kernel_rfl) (pu (v:= .bool false) rfl (by kernel_rfl) (mv 1 rfl (pf g1 2 rfl (by kernel_rfl) (wl_load rfl rfl (load_cell cellInts (hb4.ext (e7.trans e10)) rfl) (by decide) (pu (v:= .int .i64 ((na:Nat):Int)) rfl (by kernel_rfl) (pf g1 0 rfl (by kernel_rfl) (wl_load rfl rfl (load_cell cellInt (hb4.ext (e7.trans e10)) rfl) (by decide) (pf g1 1 rfl (by kernel_rfl) (wl_load rfl rfl (load_cell cellInt (hb4.ext (e7.trans e10)) rfl) (by decide) (wl_ar rfl rfl rfl ((r*c:Nat):Int) (ai_mul (a:=r) (b:=c) rfl rfl (by omega)) (by decide) (wl_cmp rfl rfl rfl false (cb_ne_f (a:=na) (b:=r*c) rfl rfl (by omega)) (by decide) (pu (v:= .bool false) rfl (by kernel_rfl) (wl_nil ?_)))))))))))))
 refine eo_then (cw_false rfl (cw_skip (eo_then (sr (mv 1 rfl (ne_ (cw_ret (eo_ret [I0] rfl ⟨rfl,trivial⟩ ?_))))))))
 exact⟨_,rfl,rfl,hw3⟩
set_option maxHeartbeats 4000000 in
theorem g_mat_Check_bad1 {w:World}{R C:Int}{na capa:Nat}{Aa:Option Addr}(hR:¬(0≤R∧R≤64)):
    Calls Try.prog 42 #[.agg #[.int .i64 R,.int .i64 C,.slice Aa na capa]] w (Gv w (Is (.int .i64 1))):=by
 refine sx_enter Try.func42 rfl (n:=24) rfl (bq rfl) (args:= [.agg #[.int .i64 R,.int .i64 C,.slice Aa na capa]]) (cw_keep [(0,.agg #[.int .i64 R,.int .i64 C,.slice Aa na capa])] ⟨rfl,trivial⟩ (sr (bx [.int .i64 R,.int .i64 C,.slice Aa na capa] (Ext.refl w) rfl rfl rfl fun g1 v2 hb4 ge5 e3 hw1=>(mv 1 rfl (ne_ (cw_seq (sr (pf g1 0 rfl (by kernel_rfl) (wl_load rfl rfl (load_cell cellInt hb4 rfl) (by decide) (cl (vs:= [.int .i64 R]) hw1 (g_mat_side_f hR) rfl (by kernel_rfl) fun xr8 v6 r8 e7 hw2=>?_))))))))))
 obtain rfl:=r8
 refine pu (v:= .bool true) rfl (by kernel_rfl) (mv 5 rfl (pu (v:= .bool true) rfl (by kernel_rfl) (mv 10 rfl (pu (v:= .bool true) rfl (by kernel_rfl) (ne_ (cw_true rfl (sr (mv 1 rfl (ne_ (cw_ret (eo_thenR (eo_ret [.int .i64 1] rfl ⟨rfl,trivial⟩ ?_))))))))))))
 exact⟨_,rfl,rfl,hw2⟩
set_option maxHeartbeats 4000000 in
theorem g_mat_Check_bad2 {w:World}{R C:Int}{na capa:Nat}{Aa:Option Addr}(hR:(0≤R∧R≤64)) (hC:¬(0≤C∧C≤64)):
    Calls Try.prog 42 #[.agg #[.int .i64 R,.int .i64 C,.slice Aa na capa]] w (Gv w (Is (.int .i64 1))):=by
 refine sx_enter Try.func42 rfl (n:=24) rfl (bq rfl) (args:= [.agg #[.int .i64 R,.int .i64 C,.slice Aa na capa]]) (cw_keep [(0,.agg #[.int .i64 R,.int .i64 C,.slice Aa na capa])] ⟨rfl,trivial⟩ (sr (bx [.int .i64 R,.int .i64 C,.slice Aa na capa] (Ext.refl w) rfl rfl rfl fun g1 v2 hb4 ge5 e3 hw1=>(mv 1 rfl (ne_ (cw_seq (sr (pf g1 0 rfl (by kernel_rfl) (wl_load rfl rfl (load_cell cellInt hb4 rfl) (by decide) (cl (vs:= [.int .i64 R]) hw1 (g_mat_side_t hR) rfl (by kernel_rfl) fun xr8 v6 r8 e7 hw2=>?_))))))))))
 obtain rfl:=r8
 refine pu (v:= .bool false) rfl (by kernel_rfl) (mv 1 rfl (pf g1 1 rfl (by kernel_rfl) (wl_load rfl rfl (load_cell cellInt (hb4.ext e7) rfl) (by decide) (cl (vs:= [.int .i64 C]) hw2 (g_mat_side_f hC) rfl (by kernel_rfl) fun xr11 v9 r11 e10 hw3=>?_))))
 obtain rfl:=r11
 refine pu (v:= .bool true) rfl (by kernel_rfl) (pu (v:= .bool true) rfl (by kernel_rfl) (mv 10 rfl (pu (v:= .bool true) rfl (by kernel_rfl) (ne_ (cw_true rfl (sr (mv 1 rfl (ne_ (cw_ret (eo_thenR (eo_ret [.int .i64 1] rfl ⟨rfl,trivial⟩ ?_)))))))))))
 exact⟨_,rfl,rfl,hw3⟩
set_option maxHeartbeats 4000000 in
theorem g_mat_Check_bad3 {w:World}{r c na capa:Nat}{Aa:Option Addr}(hr:r≤64) (hc:c≤64) (hn:na≠r*c):
    Calls Try.prog 42 #[.agg #[.int .i64 ((r:Nat):Int),.int .i64 ((c:Nat):Int),.slice Aa na capa]] w (Gv w (Is (.int .i64 1))):=by
 have hrc:=ix_64 hr hc
 refine sx_enter Try.func42 rfl (n:=24) rfl (bq rfl) (args:= [.agg #[.int .i64 ((r:Nat):Int),.int .i64 ((c:Nat):Int),.slice Aa na capa]]) (cw_keep [(0,.agg #[.int .i64 ((r:Nat):Int),.int .i64 ((c:Nat):Int),.slice Aa na capa])] ⟨rfl,trivial⟩ (sr (bx [.int .i64 ((r:Nat):Int),.int .i64 ((c:Nat):Int),.slice Aa na capa] (Ext.refl w) rfl rfl rfl fun g1 v2 hb4 ge5 e3 hw1=>(mv 1 rfl (ne_ (cw_seq (sr (pf g1 0 rfl (by kernel_rfl) (wl_load rfl rfl (load_cell cellInt hb4 rfl) (by decide) (cl (vs:= [.int .i64 ((r:Nat):Int)]) hw1 (g_mat_side_t ⟨by omega,by omega⟩) rfl (by kernel_rfl) fun xr8 v6 r8 e7 hw2=>?_))))))))))
 obtain rfl:=r8
 refine pu (v:= .bool false) rfl (by kernel_rfl) (mv 1 rfl (pf g1 1 rfl (by kernel_rfl) (wl_load rfl rfl (load_cell cellInt (hb4.ext e7) rfl) (by decide) (cl (vs:= [.int .i64 ((c:Nat):Int)]) hw2 (g_mat_side_t ⟨by omega,by omega⟩) rfl (by kernel_rfl) fun xr11 v9 r11 e10 hw3=>?_))))
 obtain rfl:=r11
 refine pu (v:= .bool false) rfl (by kernel_rfl) (pu (v:= .bool false) rfl (by kernel_rfl) (mv 1 rfl (pf g1 2 rfl (by kernel_rfl) (wl_load rfl rfl (load_cell cellInts (hb4.ext (e7.trans e10)) rfl) (by decide) (pu (v:= .int .i64 ((na:Nat):Int)) rfl (by kernel_rfl) (pf g1 0 rfl (by kernel_rfl) (wl_load rfl rfl (load_cell cellInt (hb4.ext (e7.trans e10)) rfl) (by decide) (pf g1 1 rfl (by kernel_rfl) (wl_load rfl rfl (load_cell cellInt (hb4.ext (e7.trans e10)) rfl) (by decide) (wl_ar rfl rfl rfl ((r*c:Nat):Int) (ai_mul (a:=r) (b:=c) rfl rfl (by omega)) (by decide) (wl_cmp rfl rfl rfl true (cb_ne_t (a:=na) (b:=r*c) rfl rfl (by omega)) (by decide) (pu (v:= .bool true) rfl (by kernel_rfl) (wl_nil ?_)))))))))))))
 refine eo_then (cw_true rfl (sr (mv 1 rfl (ne_ (cw_ret (eo_thenR (eo_ret [.int .i64 1] rfl ⟨rfl,trivial⟩ ?_)))))))
 exact⟨_,rfl,rfl,hw3⟩
theorem g_mat_Check_no {w:World}{R C:Int}{na capa:Nat}{Aa:Option Addr}(h:¬Snd R C na):Calls Try.prog 42 #[.agg #[.int .i64 R,.int .i64 C,.slice Aa na capa]] w (Gv w (Is (.int .i64 1))):=by
 by_cases hR:0≤R∧R≤64
 ·by_cases hC:0≤C∧C≤64
  ·obtain⟨r,rfl⟩:∃r:Nat,R=r:=⟨R.toNat,by omega⟩
   obtain⟨c,rfl⟩:∃c:Nat,C=c:=⟨C.toNat,by omega⟩
   exact g_mat_Check_bad3 (by omega) (by omega) (fun e=>h ⟨hR,hC,by rw [e];exact Int.natCast_mul r c⟩)
  ·exact g_mat_Check_bad2 hR hC
 ·exact g_mat_Check_bad1 hR
theorem g_mat_Check_yes {w:World}{R C:Int}{na capa:Nat}{Aa:Option Addr}(h:Snd R C na):Calls Try.prog 42 #[.agg #[.int .i64 R,.int .i64 C,.slice Aa na capa]] w (Gv w (Is (.int .i64 0))):=by
 obtain⟨h1,h2,h3⟩:=h
 obtain⟨r,rfl⟩:∃r:Nat,R=r:=⟨R.toNat,by omega⟩
 obtain⟨c,rfl⟩:∃c:Nat,C=c:=⟨C.toNat,by omega⟩
 exact g_mat_Check_ok (by omega) (by omega) (by rw [←Int.natCast_mul] at h3;omega)
theorem snd_mk {r c n:Nat}(hr:r≤64) (hc:c≤64) (hn:n=r*c):Snd (r:Int) (c:Int) n:=⟨⟨by omega,by omega⟩,⟨by omega,by omega⟩,by rw [hn];exact Int.natCast_mul r c⟩
set_option maxHeartbeats 4000000 in
theorem g_mat_build {w:World}{b lb K r c kf:Nat}{cs:List Value}{f:Mx}(hb:b≤w.heap.size) (hlb:lb≤w.heap.size) (hr:r≤64) (hc:c≤64) (hen:∀(args:Array Value) (w:World),(callFunc kf args).run Try.prog w= .ok (.enter kf args) w) (hK:∀i j,i<r→j<c→ln (f i j)≤K) (hf:∀(i j:Nat) w',i<r→j<c→Ext w w'→Calls Try.prog kf ([Value.int .i64 (i:Int),.int .i64 (j:Int)]++cs).toArray w' (Gv w' (ZR w.heap.size (f i j)))):
    Calls Try.prog 46 #[.int .i64 ((r:Nat):Int),.int .i64 ((c:Nat):Int),.func (.func kf) #[] cs.toArray] w (Gv w (MQ (r:Int) (c:Int) (LQ none K b lb (r*c) (En r c f)))):=by
 have hrc:=ix_64 hr hc
 refine sx_enter Try.func46 rfl (n:=37) rfl (bq rfl) (args:= [.int .i64 ((r:Nat):Int),.int .i64 ((c:Nat):Int),.func (.func kf) #[] cs.toArray]) (cw_keep [(0,.int .i64 ((r:Nat):Int)),(1,.int .i64 ((c:Nat):Int)),(2,.func (.func kf) #[] cs.toArray)] ⟨rfl,rfl,rfl,trivial⟩ (sr (al [I0,I0,S0] (Ext.refl w) (fun _=>by kernel_rfl) rfl fun g1 v2 hb4 ge5 e3 hw1=>(ne_ (sr (mv 4 rfl (wl_ar rfl rfl rfl ((r*c:Nat):Int) (ai_mul (a:=r) (b:=c) rfl rfl (by omega)) (by decide) (wl_makeI (k:=r*c) none K w.heap.size rfl rfl rfl (by omega) (by decide) fun g6 v7 hg8 lz9 e10=>?_))))))))
 have q11:g1<g6:=by rw [←hg8];exact hb4.lt
 have hlbg6:g6≤v7.heap.size:=by have:=(lz9.block _ rfl).2;exact Nat.le_of_lt this
 have hglg6:w.heap.size≤g6:=by rw [←hg8];exact hw1.size
 clear hg8
 have hw2:=hw1.trans e10
 have blk12:=lz9.block
 refine pu (v:= .agg #[.int .i64 ((r:Nat):Int),.int .i64 ((c:Nat):Int),.slice (some ⟨g6,0,none⟩) 0 (r*c)]) rfl (by kernel_rfl) (wl_alloc rfl (z:= .agg #[I0,I0,S0]) (vs:= [I0,I0,S0]) (fun _=>by kernel_rfl) rfl (by decide) fun g13 v14 nb=>?_)
 have hb16:=nb.bk
 have ge17:w.heap.size≤g13:=by rw [←nb.at_];exact hw2.size
 have q18:g1<g13:=by rw [←nb.at_];exact (hb4.ext e10).lt
 have ne19:∀p:Addr,(some ⟨g6,0,none⟩)=some p→p.block≠g13:=fun p hp=>by have:=(lz9).block p hp;have:=nb.at_;omega
 have e15:=nb.ext
 clear nb
 have hw3:=hw2.trans e15
 refine so aggMat hb16 [.int .i64 ((r:Nat):Int),.int .i64 ((c:Nat):Int),.slice (some ⟨g6,0,none⟩) 0 (r*c)] hw3 ge17 rfl rfl rfl rfl fun v20 hb22 u23 hw4=>(ne_ (cw_seq (sr (mv 2 rfl (ne_ (cw_block ?_))))))
 refine cw_loop (T:=World×Nat×Nat×Option Addr×Nat×List Int) (fun⟨wr,i,q,LA,lc,zs⟩=> [(0,.int .i64 ((r:Nat):Int)),(1,.int .i64 ((c:Nat):Int)),(2,.func (.func kf) #[] cs.toArray),(6,.pointer (some ⟨g1,0,none⟩)),(7,.pointer (some ⟨g13,0,none⟩)),(10,.int .i64 ((r:Nat):Int)),(11,.int .i64 ((c:Nat):Int)),(12,.int .i64 ((r:Nat):Int)),(13,.int .i64 ((c:Nat):Int)),(14,.int .i64 ((r*c:Nat):Int)),(15,.slice (some ⟨g6,0,none⟩) 0 (r*c)),(16,.agg #[.int .i64 ((r:Nat):Int),.int .i64 ((c:Nat):Int),.slice (some ⟨g6,0,none⟩) 0 (r*c)]),(17,.int .i64 ((r:Nat):Int)),(18,.int .i64 ((i:Nat):Int))]) (fun⟨wr,i,q,LA,lc,zs⟩=>wr) (fun⟨wr,i,q,LA,lc,zs⟩=>(Ext w wr)∧(i≤r)∧(Bk wr g1 24 [I0,I0,S0])∧(Bk wr g13 24 [.int .i64 ((r:Nat):Int),.int .i64 ((c:Nat):Int),.slice LA q lc])∧(g6≤wr.heap.size)∧(Lz none K w.heap.size wr g6 LA q lc zs)∧(∀p:Addr,LA=some p→p.block≠g1)∧(∀p:Addr,LA=some p→p.block≠g13)∧(q=i*c)∧(Bld c q f zs)) (fun⟨wr,i,q,LA,lc,zs⟩=>r-i)
  (⟨v20,0,0,(some ⟨g6,0,none⟩),(r*c),[]⟩:World×Nat×Nat×Option Addr×Nat×List Int) ⟨hw4,(by omega),((hb4.ext (e10.trans e15)).updN u23 (by omega)),hb22,(Nat.le_trans (Nat.le_trans hlbg6 e15.size) u23.by_.size),((lz9.ext e15).updT hb16 u23 ne19),(show∀p:Addr,(some ⟨g6,0,none⟩)=some p→p.block≠g1 from fun p hp=>by have:=blk12 p hp;omega),ne19,(Nat.zero_mul c).symm,(fun k h=>absurd h (Nat.not_lt_zero k))⟩ rfl ⟨rfl,rfl,rfl,rfl,rfl,rfl,rfl,rfl,rfl,rfl,rfl,rfl,rfl,rfl,trivial⟩ ?_
 rintro⟨wr,i,q,LA,lc,zs⟩ ⟨hw1,hi_i,b_g1,b_g13,l_LAb,l_LA,l_LA_g1,l_LA_g13,hq,hz⟩
 refine cw_re [(0,.int .i64 ((r:Nat):Int)),(1,.int .i64 ((c:Nat):Int)),(2,.func (.func kf) #[] cs.toArray),(6,.pointer (some ⟨g1,0,none⟩)),(7,.pointer (some ⟨g13,0,none⟩)),(10,.int .i64 ((r:Nat):Int)),(11,.int .i64 ((c:Nat):Int)),(12,.int .i64 ((r:Nat):Int)),(13,.int .i64 ((c:Nat):Int)),(14,.int .i64 ((r*c:Nat):Int)),(15,.slice (some ⟨g6,0,none⟩) 0 (r*c)),(16,.agg #[.int .i64 ((r:Nat):Int),.int .i64 ((c:Nat):Int),.slice (some ⟨g6,0,none⟩) 0 (r*c)]),(17,.int .i64 ((r:Nat):Int)),(18,.int .i64 ((i:Nat):Int))] wr rfl ⟨rfl,rfl,rfl,rfl,rfl,rfl,rfl,rfl,rfl,rfl,rfl,rfl,rfl,rfl,trivial⟩ ?_
 have blk25:=l_LA.block
 refine cw_seq ?_
 by_cases hir:i<r
 · 
  refine cw_region (wl_cmp rfl rfl rfl true (cb_lt_t (a:=i) (b:=r) rfl rfl (by omega)) (by decide) (ne_ (cw_seq (cw_true rfl (cw_skip (eo_then (cw_seq (cw_block (sr (mv 2 rfl (ne_ (sr (mv 1 rfl ?_)))))))))))))
  refine mv 1 rfl (ne_ (cw_block ?_))
  refine cw_loop (T:=World×Nat×Nat×Option Addr×Nat×List Int) (fun⟨wi,j,p,LB,ld,ys⟩=> [(0,.int .i64 ((r:Nat):Int)),(1,.int .i64 ((c:Nat):Int)),(2,.func (.func kf) #[] cs.toArray),(6,.pointer (some ⟨g1,0,none⟩)),(7,.pointer (some ⟨g13,0,none⟩)),(8,.int .i64 ((i:Nat):Int)),(10,.int .i64 ((r:Nat):Int)),(11,.int .i64 ((c:Nat):Int)),(12,.int .i64 ((r:Nat):Int)),(13,.int .i64 ((c:Nat):Int)),(14,.int .i64 ((r*c:Nat):Int)),(15,.slice (some ⟨g6,0,none⟩) 0 (r*c)),(16,.agg #[.int .i64 ((r:Nat):Int),.int .i64 ((c:Nat):Int),.slice (some ⟨g6,0,none⟩) 0 (r*c)]),(17,.int .i64 ((r:Nat):Int)),(18,.int .i64 ((i:Nat):Int)),(19,.bool true),(20,.int .i64 ((i:Nat):Int)),(21,.int .i64 ((c:Nat):Int)),(22,.int .i64 ((j:Nat):Int))]) (fun⟨wi,j,p,LB,ld,ys⟩=>wi) (fun⟨wi,j,p,LB,ld,ys⟩=>(Ext w wi)∧(j≤c)∧(Bk wi g1 24 [I0,I0,S0])∧(Bk wi g13 24 [.int .i64 ((r:Nat):Int),.int .i64 ((c:Nat):Int),.slice LB p ld])∧(g6≤wi.heap.size)∧(Lz none K w.heap.size wi g6 LB p ld ys)∧(∀p:Addr,LB=some p→p.block≠g1)∧(∀p:Addr,LB=some p→p.block≠g13)∧(p=i*c+j)∧(Bld c p f ys)) (fun⟨wi,j,p,LB,ld,ys⟩=>c-j)
   (⟨wr,0,q,LA,lc,zs⟩:World×Nat×Nat×Option Addr×Nat×List Int) ⟨hw1,(by omega),b_g1,b_g13,l_LAb,l_LA,l_LA_g1,l_LA_g13,(by omega),hz⟩ rfl ⟨rfl,rfl,rfl,rfl,rfl,rfl,rfl,rfl,rfl,rfl,rfl,rfl,rfl,rfl,rfl,rfl,rfl,rfl,rfl,trivial⟩ ?_
  rintro⟨wi,j,p,LB,ld,ys⟩ ⟨hw1,hi_j,b_g1,b_g13,l_LBb,l_LB,l_LB_g1,l_LB_g13,hq_,hz_⟩
  refine cw_re [(0,.int .i64 ((r:Nat):Int)),(1,.int .i64 ((c:Nat):Int)),(2,.func (.func kf) #[] cs.toArray),(6,.pointer (some ⟨g1,0,none⟩)),(7,.pointer (some ⟨g13,0,none⟩)),(8,.int .i64 ((i:Nat):Int)),(10,.int .i64 ((r:Nat):Int)),(11,.int .i64 ((c:Nat):Int)),(12,.int .i64 ((r:Nat):Int)),(13,.int .i64 ((c:Nat):Int)),(14,.int .i64 ((r*c:Nat):Int)),(15,.slice (some ⟨g6,0,none⟩) 0 (r*c)),(16,.agg #[.int .i64 ((r:Nat):Int),.int .i64 ((c:Nat):Int),.slice (some ⟨g6,0,none⟩) 0 (r*c)]),(17,.int .i64 ((r:Nat):Int)),(18,.int .i64 ((i:Nat):Int)),(19,.bool true),(20,.int .i64 ((i:Nat):Int)),(21,.int .i64 ((c:Nat):Int)),(22,.int .i64 ((j:Nat):Int))] wi rfl ⟨rfl,rfl,rfl,rfl,rfl,rfl,rfl,rfl,rfl,rfl,rfl,rfl,rfl,rfl,rfl,rfl,rfl,rfl,rfl,trivial⟩ ?_
  have blk26:=l_LB.block
  refine cw_seq ?_
  have hic:=ix_64 (show i≤64 by omega) hc
  by_cases hjc:j<c
  · 
   refine cw_region (wl_cmp rfl rfl rfl true (cb_lt_t (a:=j) (b:=c) rfl rfl (by omega)) (by decide) (ne_ (cw_seq (cw_true rfl (cw_skip (eo_then (cw_seq (cw_block (sr (mv 2 rfl (ne_ ?_)))))))))))
   refine cw_draw mix 7 [] [Is (.pointer (some ⟨g13,2,none⟩)),Is (.slice LB p ld),Is (.func (.func kf) #[] cs.toArray),Is (.int .i64 ((i:Nat):Int)),Is (.int .i64 ((j:Nat):Int)),ZR w.heap.size (f i j),B1 w.heap.size (f i j)] [[],[0],[],[],[],[2,3,4],[5]] [[],[0],[],[],[],[2,3,4],[2,3,4,5],[0,1,2,3,4,5,6],[0,1,2,3,4,5,6,7],[0,1,2,3,4,5,6,7,8]] rfl
    (obs_cons rfl rfl (hob rfl rfl ?_) (obs_cons rfl rfl (hob rfl rfl ?_) (obs_cons rfl rfl (hob rfl rfl ?_) (obs_cons rfl rfl (hob rfl rfl ?_) (obs_cons rfl rfl (hob rfl rfl ?_) (obs_cons rfl rfl (hob rfl rfl ?_) (obs_cons rfl rfl (hob rfl rfl ?_) obs_nil))))))) ?_
   · 
    exact fun _ _=>deps_nil (pf g13 2 rfl (by kernel_rfl) (pi_done rfl (Ext.refl _) rfl))
   · 
    exact fun _ e32=>dk rfl rfl (deps_nil (wl_load rfl rfl (load_cell cellInts (b_g13.ext e32) rfl) (by decide) (pi_done rfl (Ext.refl _) rfl)))
   · 
    exact fun _ _=>deps_nil (mv 1 rfl (pi_done rfl (Ext.refl _) rfl))
   · 
    exact fun _ _=>deps_nil (mv 1 rfl (pi_done rfl (Ext.refl _) rfl))
   · 
    exact fun _ _=>deps_nil (mv 1 rfl (pi_done rfl (Ext.refl _) rfl))
   · 
    intro v44 e45
    have hw2:=hw1.trans e45
    refine dk rfl rfl (dk rfl rfl (dk rfl rfl (deps_nil (wl_callF [.int .i64 ((i:Nat):Int),.int .i64 ((j:Nat):Int)] rfl rfl rfl hen (by decide) (hf i j _ (by omega) (by omega) hw2) ?_))))
    rintro _ v61 ⟨xr63,rfl,r63,e62⟩
    refine ret_intro ?_
    have hw3:=hw2.trans e62
    obtain⟨s64,A64,n64,c64,rfl,z64⟩:=r63
    exact pi_done rfl e62 ⟨_,_,_,_,rfl,z64⟩
   · 
    intro v65 e66
    have hw2:=hw1.trans e66
    refine deps_cons rfl rfl fun x67 y68 h69 e70 f71=>?_
    obtain⟨s72,A72,n72,c72,rfl,z72⟩:=h69
    have z72:=z72.ext f71
    refine deps_nil (wl_bslice rfl rfl (by decide) (k:=1) (e:=34) [.bool s72,.slice A72 n72 c72] (fun _=>by kernel_rfl) fun g73 v74 nb=>?_)
    have hb76:=nb.bk
    have ge77:w.heap.size≤g73:=by rw [←nb.at_];exact hw2.size
    have q78:g13<g73:=by rw [←nb.at_];exact (b_g13.ext e66).lt
    have ne79:∀p:Addr,LB=some p→p.block≠g73:=fun p hp=>by have:=((l_LB.ext e66)).block p hp;have:=nb.at_;omega
    have e75:=nb.ext
    clear nb
    have hw3:=hw2.trans e75
    exact pi_done rfl e75 ⟨_,_,_,_,_,rfl,hb76,(z72.ext e75)⟩
   · 
    intro v80 e81
    have hw2:=hw1.trans e81
    refine dk rfl rfl (dk rfl rfl (dk rfl rfl (dk rfl rfl (dk rfl rfl (deps_cons rfl rfl fun x107 y108 h109 e110 f111=>?_)))))
    obtain⟨s112,A112,n112,c112,rfl,z112⟩:=h109
    have z112:=z112.ext f111
    refine deps_cons rfl rfl fun x113 y114 h115 e116 f117=>?_
    obtain⟨gb118,s118,A118,n118,c118,rfl,hbs118,z118⟩:=h115
    have hbs118:=hbs118.ext f117
    have z118:=z118.ext f117
    refine deps_nil ?_
    have lt124:=(l_LB.ext e81)
    obtain⟨us122,own123⟩:=lt124.own
    refine wl_appI (e:=⟨s118,A118,n118,c118⟩) (z:=f i j) rfl rfl rfl lt124 (Nat.le_trans l_LBb e81.size) hbs118 (Or.inl z118) (z118.le (hK i j (by omega) (by omega))) (by omega) (by decide) fun A125 c126 v119 lz120 uo121 kp127=>?_
    have hw3:=uo121.ext hw2 (fun p hp=>by have:=blk26 p hp;omega)
    have hlblz120:g6≤v119.heap.size:=Nat.le_trans (Nat.le_trans l_LBb e81.size) uo121.size
    have ne128:=kept_ne kp127 (b_g1.ext e81).lt l_LB_g1
    have ne129:=kept_ne kp127 (b_g13.ext e81).lt l_LB_g13
    have blk130:=lz120.block
    refine pf g13 2 rfl (by kernel_rfl) ?_
    have hb132:=((b_g13.ext e81).updO uo121 l_LB_g13)
    refine wl_stored1 rfl rfl rfl szInts rfl hb132 (bq rfl) rfl [.int .i64 ((r:Nat):Int),.int .i64 ((c:Nat):Int),.slice A125 (p+1) c126] rfl fun v131 hb133 u134 hs135=>?_
    have hw4:=u134.ext hw3 ge17
    refine wl_nil (eo_np (eo_block_normal (eo_then (cw_region (wl_ar rfl rfl rfl ((j+1:Nat):Int) (ai_add (a:=j) (b:=1) rfl rfl (by omega)) (by decide) (mv 1 rfl (wl_nil (eo_round (⟨v131,j+1,p+1,A125,c126,ys++ [f i j]⟩:World×Nat×Nat×Option Addr×Nat×List Int) ⟨hw4,(by omega),(((b_g1.ext e81).updO uo121 l_LB_g1).updN u134 (by omega)),hb133,(Nat.le_trans hlblz120 u134.by_.size),(lz120.updT hb132 u134 ne129),ne128,ne129,(by omega),(hz_.step hq_ hjc l_LB.len)⟩ (show c-(j+1)<c-j by omega) rfl ⟨rfl,rfl,rfl,rfl,rfl,rfl,rfl,rfl,rfl,rfl,rfl,rfl,rfl,rfl,rfl,rfl,rfl,rfl,rfl,trivial⟩))))))))
  · 
   refine cw_region (wl_cmp rfl rfl rfl false (cb_lt_f (a:=j) (b:=c) rfl rfl (by omega)) (by decide) (ne_ (cw_seq (cw_false rfl (cw_exit (eo_thenX (eo_loopX (eo_block_here (eo_block_normal (eo_then (cw_region (wl_ar rfl rfl rfl ((i+1:Nat):Int) (ai_add (a:=i) (b:=1) rfl rfl (by omega)) (by decide) (mv 1 rfl ?_)))))))))))))
   refine wl_nil (eo_round (⟨wi,i+1,p,LB,ld,ys⟩:World×Nat×Nat×Option Addr×Nat×List Int) ⟨hw1,(by omega),b_g1,b_g13,l_LBb,l_LB,l_LB_g1,l_LB_g13,(show p=(i+1)*c by rw [Nat.succ_mul];omega),hz_⟩ (show r-(i+1)<r-i by omega) rfl ⟨rfl,rfl,rfl,rfl,rfl,rfl,rfl,rfl,rfl,rfl,rfl,rfl,rfl,rfl,trivial⟩)
 · 
  refine cw_region (wl_cmp rfl rfl rfl false (cb_lt_f (a:=i) (b:=r) rfl rfl (by omega)) (by decide) (ne_ (cw_seq (cw_false rfl (cw_exit (eo_thenX (eo_loopX (eo_block_here (eo_then (sr (lo aggMat b_g13 [.int .i64 ((r:Nat):Int),.int .i64 ((c:Nat):Int),.slice LA q lc] rfl rfl rfl ?_)))))))))))
  have hb137:=b_g1
  refine so aggMat hb137 [.int .i64 ((r:Nat):Int),.int .i64 ((c:Nat):Int),.slice LA q lc] hw1 ge5 rfl rfl rfl rfl fun v136 hb138 u139 hw2=>(ne_ (cw_ret (eo_ret [.agg #[.int .i64 ((r:Nat):Int),.int .i64 ((c:Nat):Int),.slice LA q lc]] rfl ⟨⟨_,rfl,load_agg aggMat hb138 [.int .i64 ((r:Nat):Int),.int .i64 ((c:Nat):Int),.slice LA q lc] rfl (bq rfl) rfl⟩,trivial⟩ ?_)))
  have hqr:q=r*c:=by rw [hq,show i=r by omega]
  subst hqr
  exact⟨_,rfl,⟨_,rfl,_,_,_,rfl,((l_LA.updT hb137 u139 l_LA_g1)).mono (Nat.le_refl K) hb (Nat.le_trans hlb hglg6),hz.en rfl⟩,hw2⟩
set_option maxHeartbeats 4000000 in
set_option maxRecDepth 20000 in
theorem g_mat_each {w:World}{b lb:Nat}(hb:b≤w.heap.size) (hlb:lb≤w.heap.size){Aa:Option Addr}{na capa K:Nat}{zs:List Int}(hxa:ZF w Aa na capa K zs) (hna:na≤1048576) (hKB:K≤17179869184):
    Calls Try.prog 87 #[.slice Aa na capa,.func (.func 45) #[] #[]] w (Gv w (LE none K b lb na zs)):=by
 obtain⟨msa,hla,hma⟩:=hxa
 refine sx_enter Try.func87 rfl (n:=26) rfl (bq rfl) (args:= [.slice Aa na capa,.func (.func 45) #[] #[]]) (cw_keep [(0,.slice Aa na capa),(1,.func (.func 45) #[] #[])] ⟨rfl,rfl,trivial⟩ (sr (mv 1 rfl (ne_ (sr (mv 1 rfl (pu (v:= .int .i64 ((na:Nat):Int)) rfl (by kernel_rfl) (wl_makeL (k:=na) none K w.heap.size rfl rfl rfl (by omega) (by decide) fun g1 v2 hg3 lz4 e5=>?_))))))))
 have hlbg1:g1≤v2.heap.size:=by have:=(lz4.block _ rfl).2;exact Nat.le_of_lt this
 have hglg1:w.heap.size≤g1:=by rw [←hg3];exact (Ext.refl w).size
 clear hg3
 have hw1:=(Ext.refl w).trans e5
 have blk6:=lz4.block
 refine mv 1 rfl (ne_ (cw_seq (sr (mv 1 rfl (pu (v:= .int .i64 ((na:Nat):Int)) rfl (by kernel_rfl) (mv 1 rfl (ne_ (cw_block ?_))))))))
 have hl8:=lz4
 rw [upto5_zero zs na] at hl8
 refine cw_loop (T:=World×Nat) (fun⟨wr,i⟩=> [(0,.slice Aa na capa),(1,.func (.func 45) #[] #[]),(4,.slice none 0 0),(5,.slice (some ⟨g1,0,none⟩) na na),(8,.slice Aa na capa),(9,.int .i64 ((na:Nat):Int)),(10,.slice (some ⟨g1,0,none⟩) na na),(11,.slice Aa na capa),(12,.int .i64 ((na:Nat):Int)),(13,.int .i64 ((i:Nat):Int))]) (fun⟨wr,i⟩=>wr) (fun⟨wr,i⟩=>(Ext w wr)∧(i≤na)∧(g1≤wr.heap.size)∧(Lz none K w.heap.size wr g1 (some ⟨g1,0,none⟩) na na (upto5 zs na i))) (fun⟨wr,i⟩=>na-i)
  (⟨v2,0⟩:World×Nat) ⟨hw1,(by omega),hlbg1,hl8⟩ rfl ⟨rfl,rfl,rfl,rfl,rfl,rfl,rfl,rfl,rfl,rfl,trivial⟩ ?_
 rintro⟨wr,i⟩ ⟨hw1,hi_i,l_someg10noneb,l_someg10none⟩
 refine cw_re [(0,.slice Aa na capa),(1,.func (.func 45) #[] #[]),(4,.slice none 0 0),(5,.slice (some ⟨g1,0,none⟩) na na),(8,.slice Aa na capa),(9,.int .i64 ((na:Nat):Int)),(10,.slice (some ⟨g1,0,none⟩) na na),(11,.slice Aa na capa),(12,.int .i64 ((na:Nat):Int)),(13,.int .i64 ((i:Nat):Int))] wr rfl ⟨rfl,rfl,rfl,rfl,rfl,rfl,rfl,rfl,rfl,rfl,trivial⟩ ?_
 have blk7:=l_someg10none.block
 refine cw_seq ?_
 by_cases hin:i<na
 · 
  refine cw_region (wl_cmp rfl rfl rfl true (cb_lt_t (a:=i) (b:=na) rfl rfl (by omega)) (by decide) (ne_ (cw_seq (cw_true rfl (cw_skip (eo_then (cw_seq (cw_block (sr (mv 1 rfl ?_))))))))))
  obtain⟨pz8,sz8,Bz8,cz8,hpz8,ldz8,ez8⟩:=hla.at (i:=i) (by omega)
  refine wl_idx rfl rfl rfl elemI aggInt.size i rfl (by omega) pz8 hpz8 (by decide) (wl_load rfl rfl (ldz8 _ hw1 _ _ aggInt) (by decide) (wl_alloc rfl (z:= .agg #[F0,S0]) (vs:= [F0,S0]) (fun _=>by kernel_rfl) rfl (by decide) fun g9 v10 nb=>?_))
  have hb12:=nb.bk
  have ge13:w.heap.size≤g9:=by rw [←nb.at_];exact hw1.size
  have ne14:∀p:Addr,(some ⟨g1,0,none⟩)=some p→p.block≠g9:=fun p hp=>by have:=(l_someg10none).block p hp;have:=nb.at_;omega
  have e11:=nb.ext
  clear nb
  have hw2:=hw1.trans e11
  refine mv 1 rfl (so aggInt hb12 [.bool sz8,.slice Bz8 (msa.getD i 0) cz8] hw2 ge13 rfl rfl rfl rfl fun v15 hb17 u18 hw3=>(ne_ (cw_region (mv 3 rfl (lo aggInt hb17 [.bool sz8,.slice Bz8 (msa.getD i 0) cz8] rfl rfl rfl (wl_callF [.agg #[.bool sz8,.slice Bz8 (msa.getD i 0) cz8]] rfl rfl rfl (enters_of Try.func45 (by kernel_rfl) rfl) (by decide) (g_zint_Least hw3.size (ez8.ext hw3) (Nat.le_trans (hma i) (lx_ hKB rfl))) ?_))))))
  rintro _ v20 ⟨xr22,rfl,r22,e21⟩
  refine ret_intro ?_
  have hw4:=hw3.trans e21
  obtain⟨s23,A23,n23,c23,rfl,z23⟩:=r22
  obtain⟨pz24,sz24,Bz24,nz24,cz24,hpz24,ldz24,hKz24,ez24⟩:=((((l_someg10none.ext e11).updT hb12 u18 ne14).ext e21)).at (i:=i) (by omega)
  have zz24:=ez24.zr
  have Lz24:ln ((upto5 zs na i).getD i 0)≤K:=zz24.ln_le hKz24
  refine wl_idx rfl rfl rfl elemI aggInt.size i rfl (by omega) pz24 hpz24 (by decide) ?_
  have lt30:=(((l_someg10none.ext e11).updT hb12 u18 ne14).ext e21)
  obtain⟨us28,own29⟩:=lt30.own
  refine wl_setI (e:=⟨s23,A23,n23,c23⟩) (z:=(zs.getD i 0)) rfl rfl rfl hpz24 (by omega) lt30 (Or.inl z23) (z23.le (Nat.le_trans ez8.ln (hma i))) fun v25 lz26 uo27=>?_
  have hw5:=uo27.ext hw4 (fun p hp=>by have:=blk7 p hp;omega)
  have hlblz26:g1≤v25.heap.size:=Nat.le_trans (Nat.le_trans (Nat.le_trans (Nat.le_trans l_someg10noneb e11.size) u18.by_.size) e21.size) uo27.size
  refine wl_nil (eo_block_normal (eo_then (cw_region (wl_ar rfl rfl rfl ((i+1:Nat):Int) (ai_add (a:=i) (b:=1) rfl rfl (by omega)) (by decide) (mv 1 rfl (wl_nil ?_))))))
  have hl9:=lz26
  rw [upto5_succ hla.len hin] at hl9
  refine eo_round (⟨v25,i+1⟩:World×Nat) ⟨hw5,(by omega),hlblz26,hl9⟩ (show na-(i+1)<na-i by omega) rfl ⟨rfl,rfl,rfl,rfl,rfl,rfl,rfl,rfl,rfl,rfl,trivial⟩
 · 
  refine cw_region (wl_cmp rfl rfl rfl false (cb_lt_f (a:=i) (b:=na) rfl rfl (by omega)) (by decide) (ne_ (cw_seq (cw_false rfl (cw_exit (eo_thenX (eo_loopX (eo_block_here (eo_then (sr (mv 2 rfl (ne_ (cw_ret ?_)))))))))))))
  refine eo_ret [.slice (some ⟨g1,0,none⟩) na na] rfl ⟨rfl,trivial⟩ ?_
  have hl7:=(l_someg10none).mono (Nat.le_refl _) hb (Nat.le_trans hlb hglg1)
  rw [show i=na by omega,upto5_full hla.len] at hl7
  exact⟨_,rfl,⟨_,_,rfl,hl7⟩,hw1⟩
set_option maxHeartbeats 4000000 in
set_option maxRecDepth 20000 in
theorem g_mat_Least {w:World}{b lb:Nat}(hb:b≤w.heap.size) (hlb:lb≤w.heap.size){r c K:Nat}{Aa:Option Addr}{na capa:Nat}{zs:List Int}(hxa:ZF w Aa na capa K zs) (hr:r≤64) (hc:c≤64) (hna:na=r*c) (hKB:K≤17179869184):
    Calls Try.prog 85 #[.agg #[.int .i64 ((r:Nat):Int),.int .i64 ((c:Nat):Int),.slice Aa na capa]] w (Gv w (T2 (MQ ((r:Nat):Int) ((c:Nat):Int) (LE none K b lb na zs)) (Is (.int .i64 0)))):=by
 have hxa0:=hxa
 obtain⟨msa,hla,hma⟩:=hxa
 have hrc:=ix_64 hr hc
 refine sx_enter Try.func85 rfl (n:=19) rfl (bq rfl) (args:= [.agg #[.int .i64 ((r:Nat):Int),.int .i64 ((c:Nat):Int),.slice Aa na capa]]) (cw_keep [(0,.agg #[.int .i64 ((r:Nat):Int),.int .i64 ((c:Nat):Int),.slice Aa na capa])] ⟨rfl,trivial⟩ (sr (bx [.int .i64 ((r:Nat):Int),.int .i64 ((c:Nat):Int),.slice Aa na capa] (Ext.refl w) rfl rfl rfl fun g1 v2 hb4 ge5 e3 hw1=>(alq [I0,I0,S0] hw1 hb4.lt (fun _=>by kernel_rfl) rfl fun g6 v7 hb9 ge10 q11 e8 hw2=>(mv 1 rfl (ne_ (cw_seq (sr (lo aggMat (hb4.ext e8) [.int .i64 ((r:Nat):Int),.int .i64 ((c:Nat):Int),.slice Aa na capa] rfl rfl rfl (cl (vs:= [.agg #[.int .i64 ((r:Nat):Int),.int .i64 ((c:Nat):Int),.slice Aa na capa]]) hw2 (g_mat_Check_ok (by omega) (by omega) hna) rfl (by kernel_rfl) fun xr14 v12 r14 e13 hw3=>?_))))))))))
 obtain rfl:=r14
 refine mv 1 rfl (ne_ (sr (mv 1 rfl (wl_cmp rfl rfl rfl false (by decide) (by decide) (ne_ (cw_false rfl (cw_skip (eo_then (cw_seq ?_)))))))))
 obtain⟨lb15,hlb15,hlelb15,hgl15,hq15_0,hq15_1⟩:∃lb,lb≤v12.heap.size∧v12.heap.size≤lb∧w.heap.size≤lb∧g1<lb∧g6<lb:=⟨v12.heap.size,Nat.le_refl _,Nat.le_refl _,hw3.size,(hb4.ext (e8.trans e13)).lt,(hb9.ext e13).lt⟩
 refine cw_draw mix 8 [] [Is (.pointer (some ⟨g1,0,none⟩)),Is (.int .i64 ((r:Nat):Int)),Is (.pointer (some ⟨g1,1,none⟩)),Is (.int .i64 ((c:Nat):Int)),Is (.pointer (some ⟨g1,2,none⟩)),Is (.slice Aa na capa),LE none K w.heap.size lb15 na zs,MQ ((r:Nat):Int) ((c:Nat):Int) (LE none K w.heap.size lb15 na zs)] [[],[0],[],[2],[],[4],[5],[1,3,6]] [[],[0],[],[2],[],[4],[4,5],[0,1,2,3,4,5,6],[0,1,2,3,4,5,6,7],[0,1,2,3,4,5,6,7,8]] rfl
  (obs_cons rfl rfl (hob rfl rfl ?_) (obs_cons rfl rfl (hob rfl rfl ?_) (obs_cons rfl rfl (hob rfl rfl ?_) (obs_cons rfl rfl (hob rfl rfl ?_) (obs_cons rfl rfl (hob rfl rfl ?_) (obs_cons rfl rfl (hob rfl rfl ?_) (obs_cons rfl rfl (hob rfl rfl ?_) (obs_cons rfl rfl (hob rfl rfl ?_) obs_nil)))))))) ?_
 · 
  exact fun _ _=>deps_nil (pf g1 0 rfl (by kernel_rfl) (pi_done rfl (Ext.refl _) rfl))
 · 
  exact fun _ e24=>dk rfl rfl (deps_nil (wl_load rfl rfl (load_cell cellInt (hb4.ext (e8.trans (e13.trans e24))) rfl) (by decide) (pi_done rfl (Ext.refl _) rfl)))
 · 
  exact fun _ _=>deps_nil (pf g1 1 rfl (by kernel_rfl) (pi_done rfl (Ext.refl _) rfl))
 · 
  exact fun _ e33=>dk rfl rfl (deps_nil (wl_load rfl rfl (load_cell cellInt (hb4.ext (e8.trans (e13.trans e33))) rfl) (by decide) (pi_done rfl (Ext.refl _) rfl)))
 · 
  exact fun _ _=>deps_nil (pf g1 2 rfl (by kernel_rfl) (pi_done rfl (Ext.refl _) rfl))
 · 
  exact fun _ e42=>dk rfl rfl (deps_nil (wl_load rfl rfl (load_cell cellInts (hb4.ext (e8.trans (e13.trans e42))) rfl) (by decide) (pi_done rfl (Ext.refl _) rfl)))
 · 
  intro v48 e49
  have hw4:=hw3.trans e49
  refine dk rfl rfl (deps_nil (cl (vs:= [.slice Aa na capa,.func (.func 45) #[] #[]]) hw4 (g_mat_each hw4.size (Nat.le_trans hlb15 e49.size) ((show ZF w _ _ _ _ _ from⟨msa,hla,hma⟩).ext hw4) (by omega) hKB) rfl (by kernel_rfl) fun xr57 v55 r57 e56 hw5=>?_))
  obtain⟨LA58,lc58,rfl,lz58⟩:=r57
  have blk59:=lz58.block
  exact pi_done rfl e56 ⟨_,_,rfl,lz58⟩
 · 
  intro v60 e61
  refine dk rfl rfl (dk rfl rfl (deps_cons rfl rfl fun x72 y73 h74 e75 f76=>?_))
  obtain⟨LA77,lc77,rfl,lz77⟩:=h74
  have blk78:=lz77.block
  have lz77:=lz77.ext f76
  refine deps_nil (pu (v:= .agg #[.int .i64 ((r:Nat):Int),.int .i64 ((c:Nat):Int),.slice LA77 na lc77]) rfl (by kernel_rfl) ?_)
  exact pi_done rfl (Ext.refl _) ⟨_,rfl,⟨_,_,rfl,lz77⟩⟩
 · 
  intro v79 e80
  have hw4:=hw3.trans e80
  refine dk rfl rfl (dk rfl rfl (dk rfl rfl (dk rfl rfl (dk rfl rfl (dk rfl rfl (deps_cons rfl rfl fun x111 y112 h113 e114 f115=>?_))))))
  obtain⟨LA116,lc116,rfl,lz116⟩:=h113
  have blk117:=lz116.block
  have lz116:=lz116.ext f115
  refine deps_cons rfl rfl fun x118 y119 h120 e121 f122=>?_
  obtain⟨lv123,rfl,⟨LA124,lc124,rfl,lz124⟩⟩:=h120
  have blk125:=lz124.block
  have lz124:=lz124.ext f122
  refine deps_nil ?_
  have hb127:=(hb9.ext (e13.trans e80))
  refine so aggMat hb127 [.int .i64 ((r:Nat):Int),.int .i64 ((c:Nat):Int),.slice LA124 na lc124] hw4 ge10 rfl rfl rfl rfl fun v126 hb128 u129 hw5=>(mv 1 rfl (wl_nil (eo_np (eo_then (cw_ret (eo_ret [.agg #[.int .i64 ((r:Nat):Int),.int .i64 ((c:Nat):Int),.slice LA124 na lc124],I0] rfl ⟨⟨_,rfl,load_agg aggMat hb128 [.int .i64 ((r:Nat):Int),.int .i64 ((c:Nat):Int),.slice LA124 na lc124] rfl (bq rfl) rfl⟩,rfl,trivial⟩ ?_))))))
  exact⟨_,rfl,⟨_,_,rfl,⟨_,rfl,⟨_,_,rfl,((lz124.updT hb127 u129 (show∀p:Addr,LA124=some p→p.block≠g6 from fun p hp=>by have:=blk125 p hp;omega))).mono (Nat.le_refl _) hb (Nat.le_trans hlb hgl15)⟩⟩,rfl⟩,hw5⟩
set_option maxHeartbeats 4000000 in
set_option maxRecDepth 20000 in
theorem g_mat_product1 {w:World}{b:Nat}(hb:b≤w.heap.size){r m c:Nat}{X Y:Mx}{Aa:Option Addr}{na capa:Nat}{xs:List Int}(hxa:ZF w Aa na capa 17179869184 xs){Ay:Option Addr}{ny capy:Nat}{ys:List Int}(hxy:ZF w Ay ny capy 17179869184 ys) (hna:na=r*m) (hny:ny=m*c) (hr:r≤64) (hm:m≤64) (hc:c≤64) (hX:En r m X xs) (hY:En m c Y ys){i j ga gy:Nat}(hi:i<r) (hj:j<c) (ha:Bk w ga 24 [.int .i64 ((r:Nat):Int),.int .i64 ((m:Nat):Int),.slice Aa na capa]) (hy:Bk w gy 24 [.int .i64 ((m:Nat):Int),.int .i64 ((c:Nat):Int),.slice Ay ny capy]):
    Calls Try.prog 74 #[.int .i64 ((i:Nat):Int),.int .i64 ((j:Nat):Int),.pointer (some ⟨ga,0,none⟩),.pointer (some ⟨gy,0,none⟩)] w (Gv w (ZR b (mm m X Y i j))):=by
 have hxa0:=hxa
 have hxy0:=hxy
 obtain⟨msa,hla,hma⟩:=hxa
 obtain⟨msy,hly,hmy⟩:=hxy
 have hS:∀k,k≤m→ln (sm k fun l=>X i l*Y l j)≤34359738496:=fun k hk=>Nat.le_trans (ln_part (fun l hl=>hX.ln hxa0 hi hl) (fun l hl=>hY.ln hxy0 hl hj) hk) (by omega)
 refine sx_enter Try.func74 rfl (n:=38) rfl (bq rfl) (args:= [.int .i64 ((i:Nat):Int),.int .i64 ((j:Nat):Int),.pointer (some ⟨ga,0,none⟩),.pointer (some ⟨gy,0,none⟩)]) ?_
 have hlt_ga:=ha.lt
 have hlt_gy:=hy.lt
 refine cw_keep [(0,.int .i64 ((i:Nat):Int)),(1,.int .i64 ((j:Nat):Int)),(2,.pointer (some ⟨ga,0,none⟩)),(3,.pointer (some ⟨gy,0,none⟩))] ⟨rfl,rfl,rfl,rfl,trivial⟩ (sr (alq [F0,S0] (Ext.refl w) hy.lt (fun _=>by kernel_rfl) rfl fun g1 v2 hb4 ge5 q6 e3 hw1=>(ne_ (sr (alq [F0,S0] hw1 hb4.lt (fun _=>by kernel_rfl) rfl fun g7 v8 hb10 ge11 q12 e9 hw2=>(ne_ (cw_seq (sr (pf ga 1 rfl (by kernel_rfl) (wl_load rfl rfl (load_cell cellInt (ha.ext (e3.trans e9)) rfl) (by decide) (mv 1 rfl (ne_ (cw_block ?_)))))))))))))
 refine cw_loop (T:=World×Nat×ZC) (fun⟨wr,k,sv⟩=> [(0,.int .i64 ((i:Nat):Int)),(1,.int .i64 ((j:Nat):Int)),(2,.pointer (some ⟨ga,0,none⟩)),(3,.pointer (some ⟨gy,0,none⟩)),(6,.pointer (some ⟨g1,0,none⟩)),(7,.pointer (some ⟨g7,0,none⟩)),(9,.pointer (some ⟨ga,1,none⟩)),(10,.int .i64 ((m:Nat):Int)),(11,.int .i64 ((k:Nat):Int))]) (fun⟨wr,k,sv⟩=>wr) (fun⟨wr,k,sv⟩=>(Ext w wr)∧(k≤m)∧(Bk wr g1 34 [F0,S0])∧(Bk wr g7 34 [.bool sv.s,.slice sv.A sv.n sv.c])∧(Zr wr w.heap.size sv.s sv.A sv.n sv.c (sm k (fun l=>X i l*Y l j)))) (fun⟨wr,k,sv⟩=>m-k)
  (⟨v8,0,⟨false,none,0,0⟩⟩:World×Nat×ZC) ⟨hw2,(by omega),(hb4.ext e9),hb10,(Zr.zero (w:=v8) (base:=w.heap.size))⟩ rfl ⟨rfl,rfl,rfl,rfl,rfl,rfl,rfl,rfl,rfl,trivial⟩ ?_
 rintro⟨wr,k,sv⟩ ⟨hw1,hi_k,b_g1,b_g7,z_g7⟩
 refine cw_re [(0,.int .i64 ((i:Nat):Int)),(1,.int .i64 ((j:Nat):Int)),(2,.pointer (some ⟨ga,0,none⟩)),(3,.pointer (some ⟨gy,0,none⟩)),(6,.pointer (some ⟨g1,0,none⟩)),(7,.pointer (some ⟨g7,0,none⟩)),(9,.pointer (some ⟨ga,1,none⟩)),(10,.int .i64 ((m:Nat):Int)),(11,.int .i64 ((k:Nat):Int))] wr rfl ⟨rfl,rfl,rfl,rfl,rfl,rfl,rfl,rfl,rfl,trivial⟩ (cw_seq ?_)
 by_cases hkm:k<m
 · 
  refine cw_region (wl_cmp rfl rfl rfl true (cb_lt_t (a:=k) (b:=m) rfl rfl (by omega)) (by decide) (ne_ (cw_seq (cw_true rfl (cw_skip (eo_then (cw_seq (cw_block (sr (mv 2 rfl (ne_ ?_)))))))))))
  have hx1:=ix_lt hi hkm
  have hx2:=ix_lt hkm hj
  have hx3:=ix_64 (show i≤64 by omega) hm
  have hx4:=ix_64 (show k≤64 by omega) hc
  obtain⟨pz13,sz13,Bz13,cz13,hpz13,ldz13,ez13⟩:=hla.at (i:=(i*m)+k) (by omega)
  obtain⟨pz14,sz14,Bz14,cz14,hpz14,ldz14,ez14⟩:=hly.at (i:=(k*c)+j) (by omega)
  have L15:ln ((xs.getD ((i*m)+k) 0)*(ys.getD ((k*c)+j) 0)+(sm k (fun l=>X i l*Y l j)))≤34359738497:=Nat.le_trans (ln_add (ln_mul (Nat.le_trans ez13.ln (hma ((i*m)+k))) (Nat.le_trans ez14.ln (hmy ((k*c)+j)))) (hS k (by omega))) (by decide)
  refine cw_draw mix 22 [] [Is (.pointer (some ⟨ga,2,none⟩)),Is (.slice Aa na capa),Is (.int .i64 ((i:Nat):Int)),Is (.pointer (some ⟨ga,1,none⟩)),Is (.int .i64 ((m:Nat):Int)),Is (.int .i64 ((i*m:Nat):Int)),Is (.int .i64 ((k:Nat):Int)),Is (.int .i64 (((i*m)+k:Nat):Int)),Is (.pointer (some pz13)),Is (.agg #[.bool sz13,.slice Bz13 (msa.getD ((i*m)+k) 0) cz13]),Is (.pointer (some ⟨gy,2,none⟩)),Is (.slice Ay ny capy),Is (.int .i64 ((k:Nat):Int)),Is (.pointer (some ⟨gy,1,none⟩)),Is (.int .i64 ((c:Nat):Int)),Is (.int .i64 ((k*c:Nat):Int)),Is (.int .i64 ((j:Nat):Int)),Is (.int .i64 (((k*c)+j:Nat):Int)),Is (.pointer (some pz14)),Is (.agg #[.bool sz14,.slice Bz14 (msy.getD ((k*c)+j) 0) cz14]),Is (.agg #[.bool sv.s,.slice sv.A sv.n sv.c]),ZR w.heap.size ((xs.getD ((i*m)+k) 0)*(ys.getD ((k*c)+j) 0)+(sm k (fun l=>X i l*Y l j)))] [[],[0],[],[],[3],[2,4],[],[5,6],[1,7],[8],[],[10],[],[],[13],[12,14],[],[15,16],[11,17],[18],[],[9,19,20]] [[],[0],[],[],[3],[2,3,4],[],[2,3,4,5,6],[0,1,2,3,4,5,6,7],[0,1,2,3,4,5,6,7,8],[],[10],[],[],[13],[12,13,14],[],[12,13,14,15,16],[10,11,12,13,14,15,16,17],[10,11,12,13,14,15,16,17,18],[],[0,1,2,3,4,5,6,7,8,9,10,11,12,13,14,15,16,17,18,19,20],[0,1,2,3,4,5,6,7,8,9,10,11,12,13,14,15,16,17,18,19,20,21]] rfl
   (obs_cons rfl rfl (hob rfl rfl ?_) (obs_cons rfl rfl (hob rfl rfl ?_) (obs_cons rfl rfl (hob rfl rfl ?_) (obs_cons rfl rfl (hob rfl rfl ?_) (obs_cons rfl rfl (hob rfl rfl ?_) (obs_cons rfl rfl (hob rfl rfl ?_) (obs_cons rfl rfl (hob rfl rfl ?_) (obs_cons rfl rfl (hob rfl rfl ?_) (obs_cons rfl rfl (hob rfl rfl ?_) (obs_cons rfl rfl (hob rfl rfl ?_) (obs_cons rfl rfl (hob rfl rfl ?_) (obs_cons rfl rfl (hob rfl rfl ?_) (obs_cons rfl rfl (hob rfl rfl ?_) (obs_cons rfl rfl (hob rfl rfl ?_) (obs_cons rfl rfl (hob rfl rfl ?_) (obs_cons rfl rfl (hob rfl rfl ?_) (obs_cons rfl rfl (hob rfl rfl ?_) (obs_cons rfl rfl (hob rfl rfl ?_) (obs_cons rfl rfl (hob rfl rfl ?_) (obs_cons rfl rfl (hob rfl rfl ?_) (obs_cons rfl rfl (hob rfl rfl ?_) (obs_cons rfl rfl (hob rfl rfl ?_) obs_nil)))))))))))))))))))))) ?_
  · 
   exact fun _ _=>deps_nil (pf ga 2 rfl (by kernel_rfl) (pi_done rfl (Ext.refl _) rfl))
  · 
   exact fun _ e20=>dk rfl rfl (deps_nil (wl_load rfl rfl (load_cell cellInts (ha.ext (hw1.trans e20)) rfl) (by decide) (pi_done rfl (Ext.refl _) rfl)))
  · 
   exact fun _ _=>deps_nil (mv 1 rfl (pi_done rfl (Ext.refl _) rfl))
  · 
   exact fun _ _=>deps_nil (pf ga 1 rfl (by kernel_rfl) (pi_done rfl (Ext.refl _) rfl))
  · 
   exact fun _ e31=>dk rfl rfl (deps_nil (wl_load rfl rfl (load_cell cellInt (ha.ext (hw1.trans e31)) rfl) (by decide) (pi_done rfl (Ext.refl _) rfl)))
  · 
   exact fun _ _=>dk rfl rfl (dk rfl rfl (deps_nil (wl_ar rfl rfl rfl ((i*m:Nat):Int) (ai_mul (a:=i) (b:=m) rfl rfl (by omega)) (by decide) (pi_done rfl (Ext.refl _) rfl))))
  · 
   exact fun _ _=>deps_nil (mv 1 rfl (pi_done rfl (Ext.refl _) rfl))
  · 
   exact fun _ _=>dk rfl rfl (dk rfl rfl (deps_nil (wl_ar rfl rfl rfl (((i*m)+k:Nat):Int) (ai_add (a:=i*m) (b:=k) rfl rfl (by omega)) (by decide) (pi_done rfl (Ext.refl _) rfl))))
  · 
   exact fun _ _=>dk rfl rfl (dk rfl rfl (deps_nil (wl_idx rfl rfl rfl elemI aggInt.size ((i*m)+k) rfl (by omega) pz13 hpz13 (by decide) (pi_done rfl (Ext.refl _) rfl))))
  · 
   intro v75 e76
   have hw2:=hw1.trans e76
   refine dk rfl rfl (deps_nil (wl_load rfl rfl (ldz13 _ hw2 _ _ aggInt) (by decide) ?_))
   exact pi_done rfl (Ext.refl _) rfl
  · 
   exact fun _ _=>deps_nil (pf gy 2 rfl (by kernel_rfl) (pi_done rfl (Ext.refl _) rfl))
  · 
   exact fun _ e85=>dk rfl rfl (deps_nil (wl_load rfl rfl (load_cell cellInts (hy.ext (hw1.trans e85)) rfl) (by decide) (pi_done rfl (Ext.refl _) rfl)))
  · 
   exact fun _ _=>deps_nil (mv 1 rfl (pi_done rfl (Ext.refl _) rfl))
  · 
   exact fun _ _=>deps_nil (pf gy 1 rfl (by kernel_rfl) (pi_done rfl (Ext.refl _) rfl))
  · 
   exact fun _ e96=>dk rfl rfl (deps_nil (wl_load rfl rfl (load_cell cellInt (hy.ext (hw1.trans e96)) rfl) (by decide) (pi_done rfl (Ext.refl _) rfl)))
  · 
   exact fun _ _=>dk rfl rfl (dk rfl rfl (deps_nil (wl_ar rfl rfl rfl ((k*c:Nat):Int) (ai_mul (a:=k) (b:=c) rfl rfl (by omega)) (by decide) (pi_done rfl (Ext.refl _) rfl))))
  · 
   exact fun _ _=>deps_nil (mv 1 rfl (pi_done rfl (Ext.refl _) rfl))
  · 
   exact fun _ _=>dk rfl rfl (dk rfl rfl (deps_nil (wl_ar rfl rfl rfl (((k*c)+j:Nat):Int) (ai_add (a:=k*c) (b:=j) rfl rfl (by omega)) (by decide) (pi_done rfl (Ext.refl _) rfl))))
  · 
   exact fun _ _=>dk rfl rfl (dk rfl rfl (deps_nil (wl_idx rfl rfl rfl elemI aggInt.size ((k*c)+j) rfl (by omega) pz14 hpz14 (by decide) (pi_done rfl (Ext.refl _) rfl))))
  · 
   intro v140 e141
   have hw2:=hw1.trans e141
   refine dk rfl rfl (deps_nil (wl_load rfl rfl (ldz14 _ hw2 _ _ aggInt) (by decide) ?_))
   exact pi_done rfl (Ext.refl _) rfl
  · 
   exact fun _ e148=>deps_nil (lo aggInt (b_g7.ext e148) [.bool sv.s,.slice sv.A sv.n sv.c] rfl rfl rfl (pi_done rfl (Ext.refl _) rfl))
  · 
   intro v149 e150
   have hw2:=hw1.trans e150
   refine dk rfl rfl (dk rfl rfl (dk rfl rfl (deps_nil ?_)))
   have L166:ln ((xs.getD ((i*m)+k) 0)*(ys.getD ((k*c)+j) 0)+(sm k (fun l=>X i l*Y l j)))≤34359738497:=Nat.le_trans (ln_add (ln_mul (Nat.le_trans ez13.ln (hma ((i*m)+k))) (Nat.le_trans ez14.ln (hmy ((k*c)+j)))) (hS k (by omega))) (by decide)
   refine cl (vs:= [.agg #[.bool sz13,.slice Bz13 (msa.getD ((i*m)+k) 0) cz13],.agg #[.bool sz14,.slice Bz14 (msy.getD ((k*c)+j) 0) cz14],.agg #[.bool sv.s,.slice sv.A sv.n sv.c]]) hw2 (g_zint_MulAdd hw2.size (ez13.ext hw2) (Nat.le_trans (hma ((i*m)+k)) (by decide)) (ez14.ext hw2) (Nat.le_trans (hmy ((k*c)+j)) (by decide)) (z_g7.ext e150).zi (z_g7.le (Nat.le_trans (hS k (by omega)) (by decide)))) rfl (by kernel_rfl) fun xr169 v167 r169 e168 hw3=>?_
   obtain⟨s170,A170,n170,c170,rfl,z170⟩:=r169
   exact pi_done rfl e168 ⟨_,_,_,_,rfl,z170⟩
  · 
   intro v171 e172
   have hw2:=hw1.trans e172
   refine dk rfl rfl (dk rfl rfl (dk rfl rfl (dk rfl rfl (dk rfl rfl (dk rfl rfl (dk rfl rfl (dk rfl rfl (dk rfl rfl (dk rfl rfl (dk rfl rfl (dk rfl rfl (dk rfl rfl (dk rfl rfl ?_)))))))))))))
   refine dk rfl rfl (dk rfl rfl (dk rfl rfl (dk rfl rfl (dk rfl rfl (dk rfl rfl (dk rfl rfl (deps_cons rfl rfl fun x278 y279 h280 e281 f282=>?_)))))))
   obtain⟨s283,A283,n283,c283,rfl,z283⟩:=h280
   have z283:=z283.ext f282
   refine deps_nil ?_
   have hb285:=(b_g7.ext e172)
   refine so aggInt hb285 [.bool s283,.slice A283 n283 c283] hw2 ge11 rfl rfl rfl rfl fun v284 hb286 u287 hw3=>(wl_nil (eo_np (eo_block_normal (eo_then (cw_region (wl_ar rfl rfl rfl ((k+1:Nat):Int) (ai_add (a:=k) (b:=1) rfl rfl (by omega)) (by decide) (mv 1 rfl (wl_nil ?_))))))))
   have zc289:=((z283.updT hb285 u287)).cast (show _=sm (k+1) (fun l=>X i l*Y l j) by rw [hX i k hi hkm,hY k j hkm hj];exact Int.add_comm _ _)
   refine eo_round (⟨v284,k+1,⟨s283,A283,n283,c283⟩⟩:World×Nat×ZC) ⟨hw3,(by omega),((b_g1.ext e172).updN u287 (by omega)),hb286,zc289⟩ (show m-(k+1)<m-k by omega) rfl ⟨rfl,rfl,rfl,rfl,rfl,rfl,rfl,rfl,rfl,trivial⟩
 · 
  refine cw_region (wl_cmp rfl rfl rfl false (cb_lt_f (a:=k) (b:=m) rfl rfl (by omega)) (by decide) (ne_ (cw_seq (cw_false rfl (cw_exit (eo_thenX (eo_loopX (eo_block_here (eo_then (sr (lo aggInt b_g7 [.bool sv.s,.slice sv.A sv.n sv.c] rfl rfl rfl ?_)))))))))))
  have hb291:=b_g1
  refine so aggInt hb291 [.bool sv.s,.slice sv.A sv.n sv.c] hw1 ge5 rfl rfl rfl rfl fun v290 hb292 u293 hw2=>(ne_ (cw_ret (eo_ret [.agg #[.bool sv.s,.slice sv.A sv.n sv.c]] rfl ⟨⟨_,rfl,load_agg aggInt hb292 [.bool sv.s,.slice sv.A sv.n sv.c] rfl (bq rfl) rfl⟩,trivial⟩ ?_)))
  exact⟨_,rfl,⟨_,_,_,_,rfl,(((z_g7.updT hb291 u293)).cast (show sm k _=mm m X Y i j by rw [show k=m by omega];rfl)).mono hb⟩,hw2⟩
set_option maxHeartbeats 4000000 in
set_option maxRecDepth 20000 in
theorem g_mat_product {w:World}{b lb:Nat}(hb:b≤w.heap.size) (hlb:lb≤w.heap.size){K:Nat}{r m c:Nat}{X Y:Mx}{Aa:Option Addr}{na capa:Nat}{xs:List Int}(hxa:ZF w Aa na capa 17179869184 xs){Ay:Option Addr}{ny capy:Nat}{ys:List Int}(hxy:ZF w Ay ny capy 17179869184 ys) (hna:na=r*m) (hny:ny=m*c) (hr:r≤64) (hm:m≤64) (hc:c≤64) (hX:En r m X xs) (hY:En m c Y ys) (hK:∀i j,i<r→j<c→ln (mm m X Y i j)≤K):
    Calls Try.prog 54 #[.agg #[.int .i64 ((r:Nat):Int),.int .i64 ((m:Nat):Int),.slice Aa na capa],.agg #[.int .i64 ((m:Nat):Int),.int .i64 ((c:Nat):Int),.slice Ay ny capy]] w (Gv w (MQ ((r:Nat):Int) ((c:Nat):Int) (LQ none K b lb (r*c) (En r c (mm m X Y))))):=by
 have hxa0:=hxa
 have hxy0:=hxy
 obtain⟨msa,hla,hma⟩:=hxa
 obtain⟨msy,hly,hmy⟩:=hxy
 refine sx_enter Try.func54 rfl (n:=11) rfl (bq rfl) (args:= [.agg #[.int .i64 ((r:Nat):Int),.int .i64 ((m:Nat):Int),.slice Aa na capa],.agg #[.int .i64 ((m:Nat):Int),.int .i64 ((c:Nat):Int),.slice Ay ny capy]]) (cw_keep [(0,.agg #[.int .i64 ((r:Nat):Int),.int .i64 ((m:Nat):Int),.slice Aa na capa]),(1,.agg #[.int .i64 ((m:Nat):Int),.int .i64 ((c:Nat):Int),.slice Ay ny capy])] ⟨rfl,rfl,trivial⟩ (sr (bx [.int .i64 ((r:Nat):Int),.int .i64 ((m:Nat):Int),.slice Aa na capa] (Ext.refl w) rfl rfl rfl fun g1 v2 hb4 ge5 e3 hw1=>(bxq [.int .i64 ((m:Nat):Int),.int .i64 ((c:Nat):Int),.slice Ay ny capy] hw1 hb4.lt rfl rfl rfl fun g6 v7 hb9 ge10 q11 e8 hw2=>(alq [I0,I0,S0] hw2 hb9.lt (fun _=>by kernel_rfl) rfl fun g12 v13 hb15 ge16 q17 e14 hw3=>(ne_ (sr (pf g1 0 rfl (by kernel_rfl) (wl_load rfl rfl (load_cell cellInt (hb4.ext (e8.trans e14)) rfl) (by decide) (pf g6 1 rfl (by kernel_rfl) (wl_load rfl rfl (load_cell cellInt (hb9.ext e14) rfl) (by decide) (pu (v:= .func (.func 74) #[] #[.pointer (some ⟨g1,0,none⟩),.pointer (some ⟨g6,0,none⟩)]) rfl (by kernel_rfl) ?_))))))))))))
 obtain⟨lb18,hlb18,hlelb18,hgl18,hq18_0,hq18_1,hq18_2⟩:∃lb,lb≤v13.heap.size∧v13.heap.size≤lb∧w.heap.size≤lb∧g1<lb∧g6<lb∧g12<lb:=⟨v13.heap.size,Nat.le_refl _,Nat.le_refl _,hw3.size,(hb4.ext (e8.trans e14)).lt,(hb9.ext e14).lt,hb15.lt⟩
 refine cl (vs:= [.int .i64 ((r:Nat):Int),.int .i64 ((c:Nat):Int),.func (.func 74) #[] #[.pointer (some ⟨g1,0,none⟩),.pointer (some ⟨g6,0,none⟩)]]) hw3 (g_mat_build (f:=mm m X Y) (cs:= [.pointer (some ⟨g1,0,none⟩),.pointer (some ⟨g6,0,none⟩)]) (K:=K) hw3.size hlb18 hr hc (enters_of Try.func74 (by kernel_rfl) rfl) hK (fun i j w' hi hj x=>(g_mat_product1 (Nat.le_trans (Ext.refl _).size x.size) ((hxa0.ext hw3).ext x) ((hxy0.ext hw3).ext x) hna hny hr hm hc hX hY hi hj ((hb4.ext (e8.trans e14)).ext x) ((hb9.ext e14).ext x)))) rfl (by kernel_rfl) fun xr21 v19 r21 e20 hw4=>?_
 obtain⟨lv22,rfl,⟨LA23,lc23,zs23,rfl,lz23,hz23⟩⟩:=r21
 have blk24:=lz23.block
 have hb26:=(hb15.ext e20)
 refine so aggMat hb26 [.int .i64 ((r:Nat):Int),.int .i64 ((c:Nat):Int),.slice LA23 (r*c) lc23] hw4 ge16 rfl rfl rfl rfl fun v25 hb27 u28 hw5=>(ne_ (cw_ret (eo_ret [.agg #[.int .i64 ((r:Nat):Int),.int .i64 ((c:Nat):Int),.slice LA23 (r*c) lc23]] rfl ⟨⟨_,rfl,load_agg aggMat hb27 [.int .i64 ((r:Nat):Int),.int .i64 ((c:Nat):Int),.slice LA23 (r*c) lc23] rfl (bq rfl) rfl⟩,trivial⟩ ?_)))
 exact⟨_,rfl,⟨_,rfl,⟨_,_,_,rfl,((lz23.updT hb26 u28 (show∀p:Addr,LA23=some p→p.block≠g12 from fun p hp=>by have:=blk24 p hp;omega))).mono (Nat.le_refl _) hb (Nat.le_trans hlb hgl18),hz23⟩⟩,hw5⟩
set_option maxHeartbeats 4000000 in
theorem g_mat_check2_ok {w:World}{gl na capa ny capy:Nat}{Ra Ca Ry Cy:Int}{Aa Ay:Option Addr}(hgl:Bk w gl 24 [.int .i64 Ra,.int .i64 Ca,.slice Aa na capa,.int .i64 Ry,.int .i64 Cy,.slice Ay ny capy]) (hsa:Snd Ra Ca na) (hsy:Snd Ry Cy ny):
    Calls Try.prog 53 #[.slice (some ⟨gl,0,none⟩) 2 2] w (Gv w (Is (.int .i64 0))):=by
 refine sx_enter Try.func53 rfl (n:=15) rfl (bq rfl) (args:= [.slice (some ⟨gl,0,none⟩) 2 2]) ?_
 have hlt_gl:=hgl.lt
 refine cw_keep [(0,.slice (some ⟨gl,0,none⟩) 2 2)] ⟨rfl,trivial⟩ (sr (mv 1 rfl (ne_ (cw_seq (sr (mv 1 rfl (pu (v:= .int .i64 ((2:Nat):Int)) rfl (by kernel_rfl) (mv 1 rfl (ne_ (cw_block ?_))))))))))
 refine cw_loop (T:=World×Nat) (fun⟨wr,k⟩=> [(0,.slice (some ⟨gl,0,none⟩) 2 2),(2,.int .i64 0),(5,.slice (some ⟨gl,0,none⟩) 2 2),(6,.int .i64 ((2:Nat):Int)),(7,.int .i64 ((k:Nat):Int))]) (fun⟨wr,k⟩=>wr) (fun⟨wr,k⟩=>(Ext w wr)∧(k≤2)) (fun⟨wr,k⟩=>2-k)
  (⟨w,0⟩:World×Nat) ⟨(Ext.refl w),(by omega)⟩ rfl ⟨rfl,rfl,rfl,rfl,rfl,trivial⟩ ?_
 rintro⟨wr,k⟩ ⟨hw1,hi_k⟩
 refine cw_re [(0,.slice (some ⟨gl,0,none⟩) 2 2),(2,.int .i64 0),(5,.slice (some ⟨gl,0,none⟩) 2 2),(6,.int .i64 ((2:Nat):Int)),(7,.int .i64 ((k:Nat):Int))] wr rfl ⟨rfl,rfl,rfl,rfl,rfl,trivial⟩ (cw_seq ?_)
 by_cases hk0:k=0
 · 
  refine cw_region (wl_cmp rfl rfl rfl true (cb_lt_t (a:=k) (b:=2) rfl rfl (by omega)) (by decide) (ne_ (cw_seq (cw_true rfl (cw_skip (eo_then (cw_seq (cw_block (sr (wl_idx rfl rfl rfl Try.underlying112 aggMat.size 0 (by omega) (by decide) ⟨gl,0,none⟩ rfl (by decide) (lo aggMat (hgl.ext hw1) [.int .i64 Ra,.int .i64 Ca,.slice Aa na capa] rfl rfl rfl (alq [I0,I0,S0] hw1 (hgl.ext hw1).lt (fun _=>by kernel_rfl) rfl fun g1 v2 hb4 ge5 q6 e3 hw2=>(so aggMat hb4 [.int .i64 Ra,.int .i64 Ca,.slice Aa na capa] hw2 ge5 rfl rfl rfl rfl fun v7 hb9 u10 hw3=>?_)))))))))))))
  refine ne_ (sr (lo aggMat hb9 [.int .i64 Ra,.int .i64 Ca,.slice Aa na capa] rfl rfl rfl (cl (vs:= [.agg #[.int .i64 Ra,.int .i64 Ca,.slice Aa na capa]]) hw3 (g_mat_Check_yes hsa) rfl (by kernel_rfl) fun xr14 v12 r14 e13 hw4=>?_)))
  obtain rfl:=r14
  refine wl_cmp rfl rfl rfl false (by decide) (by decide) (ne_ (cw_false rfl (cw_skip (eo_block_normal (eo_then (cw_region (wl_ar rfl rfl rfl ((k+1:Nat):Int) (ai_add (a:=k) (b:=1) rfl rfl (by omega)) (by decide) (mv 1 rfl (wl_nil (eo_round (⟨v12,k+1⟩:World×Nat) ⟨hw4,(by omega)⟩ (show 2-(k+1)<2-k by omega) rfl ⟨rfl,rfl,rfl,rfl,rfl,trivial⟩))))))))))
 · 
  by_cases hk1:k=1
  · 
   refine cw_region (wl_cmp rfl rfl rfl true (cb_lt_t (a:=k) (b:=2) rfl rfl (by omega)) (by decide) (ne_ (cw_seq (cw_true rfl (cw_skip (eo_then (cw_seq (cw_block (sr (wl_idx rfl rfl rfl Try.underlying112 aggMat.size 1 (by omega) (by decide) ⟨gl,3,none⟩ rfl (by decide) (lo aggMat (hgl.ext hw1) [.int .i64 Ry,.int .i64 Cy,.slice Ay ny capy] rfl rfl rfl (alq [I0,I0,S0] hw1 (hgl.ext hw1).lt (fun _=>by kernel_rfl) rfl fun g15 v16 hb18 ge19 q20 e17 hw2=>(so aggMat hb18 [.int .i64 Ry,.int .i64 Cy,.slice Ay ny capy] hw2 ge19 rfl rfl rfl rfl fun v21 hb23 u24 hw3=>?_)))))))))))))
   refine ne_ (sr (lo aggMat hb23 [.int .i64 Ry,.int .i64 Cy,.slice Ay ny capy] rfl rfl rfl (cl (vs:= [.agg #[.int .i64 Ry,.int .i64 Cy,.slice Ay ny capy]]) hw3 (g_mat_Check_yes hsy) rfl (by kernel_rfl) fun xr28 v26 r28 e27 hw4=>?_)))
   obtain rfl:=r28
   refine wl_cmp rfl rfl rfl false (by decide) (by decide) (ne_ (cw_false rfl (cw_skip (eo_block_normal (eo_then (cw_region (wl_ar rfl rfl rfl ((k+1:Nat):Int) (ai_add (a:=k) (b:=1) rfl rfl (by omega)) (by decide) (mv 1 rfl (wl_nil (eo_round (⟨v26,k+1⟩:World×Nat) ⟨hw4,(by omega)⟩ (show 2-(k+1)<2-k by omega) rfl ⟨rfl,rfl,rfl,rfl,rfl,trivial⟩))))))))))
  · 
   refine cw_region (wl_cmp rfl rfl rfl false (cb_lt_f (a:=k) (b:=2) rfl rfl (by omega)) (by decide) (ne_ (cw_seq (cw_false rfl (cw_exit (eo_thenX (eo_loopX (eo_block_here (eo_then (sr (mv 1 rfl (ne_ (cw_ret ?_)))))))))))))
   refine eo_ret [I0] rfl ⟨rfl,trivial⟩ ?_
   exact⟨_,rfl,rfl,hw1⟩
set_option maxHeartbeats 4000000 in
theorem g_mat_check2_bad2 {w:World}{gl na capa ny capy:Nat}{Ra Ca Ry Cy:Int}{Aa Ay:Option Addr}(hgl:Bk w gl 24 [.int .i64 Ra,.int .i64 Ca,.slice Aa na capa,.int .i64 Ry,.int .i64 Cy,.slice Ay ny capy]) (hsa:Snd Ra Ca na) (hsy:¬Snd Ry Cy ny):
    Calls Try.prog 53 #[.slice (some ⟨gl,0,none⟩) 2 2] w (Gv w (Is (.int .i64 1))):=by
 refine sx_enter Try.func53 rfl (n:=15) rfl (bq rfl) (args:= [.slice (some ⟨gl,0,none⟩) 2 2]) ?_
 have hlt_gl:=hgl.lt
 refine cw_keep [(0,.slice (some ⟨gl,0,none⟩) 2 2)] ⟨rfl,trivial⟩ (sr (mv 1 rfl (ne_ (cw_seq (sr (mv 1 rfl (pu (v:= .int .i64 ((2:Nat):Int)) rfl (by kernel_rfl) (mv 1 rfl (ne_ (cw_block ?_))))))))))
 refine cw_loop (T:=World×Nat) (fun⟨wr,k⟩=> [(0,.slice (some ⟨gl,0,none⟩) 2 2),(2,.int .i64 0),(5,.slice (some ⟨gl,0,none⟩) 2 2),(6,.int .i64 ((2:Nat):Int)),(7,.int .i64 ((k:Nat):Int))]) (fun⟨wr,k⟩=>wr) (fun⟨wr,k⟩=>(Ext w wr)∧(k≤1)) (fun⟨wr,k⟩=>1-k)
  (⟨w,0⟩:World×Nat) ⟨(Ext.refl w),(by omega)⟩ rfl ⟨rfl,rfl,rfl,rfl,rfl,trivial⟩ ?_
 rintro⟨wr,k⟩ ⟨hw1,hi_k⟩
 refine cw_re [(0,.slice (some ⟨gl,0,none⟩) 2 2),(2,.int .i64 0),(5,.slice (some ⟨gl,0,none⟩) 2 2),(6,.int .i64 ((2:Nat):Int)),(7,.int .i64 ((k:Nat):Int))] wr rfl ⟨rfl,rfl,rfl,rfl,rfl,trivial⟩ (cw_seq ?_)
 by_cases hk0:k=0
 · 
  refine cw_region (wl_cmp rfl rfl rfl true (cb_lt_t (a:=k) (b:=2) rfl rfl (by omega)) (by decide) (ne_ (cw_seq (cw_true rfl (cw_skip (eo_then (cw_seq (cw_block (sr (wl_idx rfl rfl rfl Try.underlying112 aggMat.size 0 (by omega) (by decide) ⟨gl,0,none⟩ rfl (by decide) (lo aggMat (hgl.ext hw1) [.int .i64 Ra,.int .i64 Ca,.slice Aa na capa] rfl rfl rfl (alq [I0,I0,S0] hw1 (hgl.ext hw1).lt (fun _=>by kernel_rfl) rfl fun g1 v2 hb4 ge5 q6 e3 hw2=>(so aggMat hb4 [.int .i64 Ra,.int .i64 Ca,.slice Aa na capa] hw2 ge5 rfl rfl rfl rfl fun v7 hb9 u10 hw3=>?_)))))))))))))
  refine ne_ (sr (lo aggMat hb9 [.int .i64 Ra,.int .i64 Ca,.slice Aa na capa] rfl rfl rfl (cl (vs:= [.agg #[.int .i64 Ra,.int .i64 Ca,.slice Aa na capa]]) hw3 (g_mat_Check_yes hsa) rfl (by kernel_rfl) fun xr14 v12 r14 e13 hw4=>?_)))
  obtain rfl:=r14
  refine wl_cmp rfl rfl rfl false (by decide) (by decide) (ne_ (cw_false rfl (cw_skip (eo_block_normal (eo_then (cw_region (wl_ar rfl rfl rfl ((k+1:Nat):Int) (ai_add (a:=k) (b:=1) rfl rfl (by omega)) (by decide) (mv 1 rfl (wl_nil (eo_round (⟨v12,k+1⟩:World×Nat) ⟨hw4,(by omega)⟩ (show 1-(k+1)<1-k by omega) rfl ⟨rfl,rfl,rfl,rfl,rfl,trivial⟩))))))))))
 · 
  refine cw_region (wl_cmp rfl rfl rfl true (cb_lt_t (a:=k) (b:=2) rfl rfl (by omega)) (by decide) (ne_ (cw_seq (cw_true rfl (cw_skip (eo_then (cw_seq (cw_block (sr (wl_idx rfl rfl rfl Try.underlying112 aggMat.size 1 (by omega) (by decide) ⟨gl,3,none⟩ rfl (by decide) (lo aggMat (hgl.ext hw1) [.int .i64 Ry,.int .i64 Cy,.slice Ay ny capy] rfl rfl rfl (alq [I0,I0,S0] hw1 (hgl.ext hw1).lt (fun _=>by kernel_rfl) rfl fun g15 v16 hb18 ge19 q20 e17 hw2=>(so aggMat hb18 [.int .i64 Ry,.int .i64 Cy,.slice Ay ny capy] hw2 ge19 rfl rfl rfl rfl fun v21 hb23 u24 hw3=>?_)))))))))))))
  refine ne_ (sr (lo aggMat hb23 [.int .i64 Ry,.int .i64 Cy,.slice Ay ny capy] rfl rfl rfl (cl (vs:= [.agg #[.int .i64 Ry,.int .i64 Cy,.slice Ay ny capy]]) hw3 (g_mat_Check_no hsy) rfl (by kernel_rfl) fun xr28 v26 r28 e27 hw4=>?_)))
  obtain rfl:=r28
  refine wl_cmp rfl rfl rfl true (by decide) (by decide) (ne_ (cw_true rfl (sr (mv 1 rfl (ne_ (cw_ret (eo_block_ret (eo_thenR (eo_loopR (eo_block_ret (eo_thenR (eo_ret [.int .i64 1] rfl ⟨rfl,trivial⟩ ?_))))))))))))
  exact⟨_,rfl,rfl,hw4⟩
set_option maxHeartbeats 4000000 in
set_option maxRecDepth 20000 in
theorem g_mat_Mul {w:World}{b lb:Nat}(hb:b≤w.heap.size) (hlb:lb≤w.heap.size){K:Nat}{r m c:Nat}{X Y:Mx}{Aa:Option Addr}{na capa:Nat}{xs:List Int}(hxa:ZF w Aa na capa 17179869184 xs){Ay:Option Addr}{ny capy:Nat}{ys:List Int}(hxy:ZF w Ay ny capy 17179869184 ys) (hna:na=r*m) (hny:ny=m*c) (hr:r≤64) (hm:m≤64) (hc:c≤64) (hX:En r m X xs) (hY:En m c Y ys) (hK:∀i j,i<r→j<c→ln (mm m X Y i j)≤K):
    Calls Try.prog 20 #[.agg #[.int .i64 ((r:Nat):Int),.int .i64 ((m:Nat):Int),.slice Aa na capa],.agg #[.int .i64 ((m:Nat):Int),.int .i64 ((c:Nat):Int),.slice Ay ny capy]] w (Gv w (T2 (MQ ((r:Nat):Int) ((c:Nat):Int) (LQ none K b lb (r*c) (En r c (mm m X Y)))) (Is (.int .i64 0)))):=by
 have hxa0:=hxa
 have hxy0:=hxy
 obtain⟨msa,hla,hma⟩:=hxa
 obtain⟨msy,hly,hmy⟩:=hxy
 refine sx_enter Try.func20 rfl (n:=24) rfl (bq rfl) (args:= [.agg #[.int .i64 ((r:Nat):Int),.int .i64 ((m:Nat):Int),.slice Aa na capa],.agg #[.int .i64 ((m:Nat):Int),.int .i64 ((c:Nat):Int),.slice Ay ny capy]]) (cw_keep [(0,.agg #[.int .i64 ((r:Nat):Int),.int .i64 ((m:Nat):Int),.slice Aa na capa]),(1,.agg #[.int .i64 ((m:Nat):Int),.int .i64 ((c:Nat):Int),.slice Ay ny capy])] ⟨rfl,rfl,trivial⟩ (sr (bx [.int .i64 ((r:Nat):Int),.int .i64 ((m:Nat):Int),.slice Aa na capa] (Ext.refl w) rfl rfl rfl fun g1 v2 hb4 ge5 e3 hw1=>(bxq [.int .i64 ((m:Nat):Int),.int .i64 ((c:Nat):Int),.slice Ay ny capy] hw1 hb4.lt rfl rfl rfl fun g6 v7 hb9 ge10 q11 e8 hw2=>(alq [I0,I0,S0] hw2 hb9.lt (fun _=>by kernel_rfl) rfl fun g12 v13 hb15 ge16 q17 e14 hw3=>(mv 1 rfl (ne_ (cw_seq (sr (lo aggMat (hb4.ext (e8.trans e14)) [.int .i64 ((r:Nat):Int),.int .i64 ((m:Nat):Int),.slice Aa na capa] rfl rfl rfl (lo aggMat (hb9.ext e14) [.int .i64 ((m:Nat):Int),.int .i64 ((c:Nat):Int),.slice Ay ny capy] rfl rfl rfl (wl_bslice rfl rfl (by decide) (k:=2) (e:=24) [.int .i64 ((r:Nat):Int),.int .i64 ((m:Nat):Int),.slice Aa na capa,.int .i64 ((m:Nat):Int),.int .i64 ((c:Nat):Int),.slice Ay ny capy] (fun _=>by kernel_rfl) fun g18 v19 nb=>?_))))))))))))
 have hb21:=nb.bk
 have ge22:w.heap.size≤g18:=by rw [←nb.at_];exact hw3.size
 have q23:g12<g18:=by rw [←nb.at_];exact hb15.lt
 have e20:=nb.ext
 clear nb
 have hw4:=hw3.trans e20
 refine cl (vs:= [.slice (some ⟨g18,0,none⟩) 2 2]) hw4 (g_mat_check2_ok hb21 (snd_mk hr hm hna) (snd_mk hm hc hny)) rfl (by kernel_rfl) fun xr26 v24 r26 e25 hw5=>?_
 obtain rfl:=r26
 refine mv 1 rfl (ne_ (sr (mv 1 rfl (wl_cmp rfl rfl rfl false (by decide) (by decide) (ne_ (cw_false rfl (cw_skip (eo_then (cw_seq (sr (pf g1 1 rfl (by kernel_rfl) (wl_load rfl rfl (load_cell cellInt (hb4.ext (e8.trans (e14.trans (e20.trans e25)))) rfl) (by decide) (pf g6 0 rfl (by kernel_rfl) ?_)))))))))))))
 refine wl_load rfl rfl (load_cell cellInt (hb9.ext (e14.trans (e20.trans e25))) rfl) (by decide) (wl_cmp rfl rfl rfl false (cb_ne_f (a:=m) (b:=m) rfl rfl (by omega)) (by decide) (ne_ (cw_false rfl (cw_skip (eo_then (sr (lo aggMat (hb4.ext (e8.trans (e14.trans (e20.trans e25)))) [.int .i64 ((r:Nat):Int),.int .i64 ((m:Nat):Int),.slice Aa na capa] rfl rfl rfl (lo aggMat (hb9.ext (e14.trans (e20.trans e25))) [.int .i64 ((m:Nat):Int),.int .i64 ((c:Nat):Int),.slice Ay ny capy] rfl rfl rfl ?_))))))))
 obtain⟨lb27,hlb27,hlelb27,hgl27,hq27_0,hq27_1,hq27_2,hq27_3⟩:∃lb,lb≤v24.heap.size∧v24.heap.size≤lb∧w.heap.size≤lb∧g1<lb∧g6<lb∧g12<lb∧g18<lb:=⟨v24.heap.size,Nat.le_refl _,Nat.le_refl _,hw5.size,(hb4.ext (e8.trans (e14.trans (e20.trans e25)))).lt,(hb9.ext (e14.trans (e20.trans e25))).lt,(hb15.ext (e20.trans e25)).lt,(hb21.ext e25).lt⟩
 refine cl (vs:= [.agg #[.int .i64 ((r:Nat):Int),.int .i64 ((m:Nat):Int),.slice Aa na capa],.agg #[.int .i64 ((m:Nat):Int),.int .i64 ((c:Nat):Int),.slice Ay ny capy]]) hw5 (g_mat_product hw5.size hlb27 (hxa0.ext hw5) (hxy0.ext hw5) hna hny hr hm hc hX hY hK) rfl (by kernel_rfl) fun xr30 v28 r30 e29 hw6=>?_
 obtain⟨lv31,rfl,⟨LA32,lc32,zs32,rfl,lz32,hz32⟩⟩:=r30
 have blk33:=lz32.block
 have hb35:=(hb15.ext (e20.trans (e25.trans e29)))
 refine so aggMat hb35 [.int .i64 ((r:Nat):Int),.int .i64 ((c:Nat):Int),.slice LA32 (r*c) lc32] hw6 ge16 rfl rfl rfl rfl fun v34 hb36 u37 hw7=>(mv 1 rfl (ne_ (cw_ret (eo_ret [.agg #[.int .i64 ((r:Nat):Int),.int .i64 ((c:Nat):Int),.slice LA32 (r*c) lc32],I0] rfl ⟨⟨_,rfl,load_agg aggMat hb36 [.int .i64 ((r:Nat):Int),.int .i64 ((c:Nat):Int),.slice LA32 (r*c) lc32] rfl (bq rfl) rfl⟩,rfl,trivial⟩ ?_))))
 exact⟨_,rfl,⟨_,_,rfl,⟨_,rfl,⟨_,_,_,rfl,((lz32.updT hb35 u37 (show∀p:Addr,LA32=some p→p.block≠g12 from fun p hp=>by have:=blk33 p hp;omega))).mono (Nat.le_refl _) hb (Nat.le_trans hlb hgl27),hz32⟩⟩,rfl⟩,hw7⟩
set_option maxHeartbeats 4000000 in
set_option maxRecDepth 20000 in
theorem g_mat_Mul_unfit {w:World}{na capa ny capy:Nat}{Ra Ca Ry Cy:Int}{Aa Ay:Option Addr}(hsa:Snd Ra Ca na) (hsy:Snd Ry Cy ny) (hne:Ca≠Ry):
    Calls Try.prog 20 #[.agg #[.int .i64 Ra,.int .i64 Ca,.slice Aa na capa],.agg #[.int .i64 Ry,.int .i64 Cy,.slice Ay ny capy]] w (Gv w (T2 (Is (.agg #[.int .i64 0,.int .i64 0,.slice none 0 0])) (Is (.int .i64 2)))):=by
 refine sx_enter Try.func20 rfl (n:=24) rfl (bq rfl) (args:= [.agg #[.int .i64 Ra,.int .i64 Ca,.slice Aa na capa],.agg #[.int .i64 Ry,.int .i64 Cy,.slice Ay ny capy]]) (cw_keep [(0,.agg #[.int .i64 Ra,.int .i64 Ca,.slice Aa na capa]),(1,.agg #[.int .i64 Ry,.int .i64 Cy,.slice Ay ny capy])] ⟨rfl,rfl,trivial⟩ (sr (bx [.int .i64 Ra,.int .i64 Ca,.slice Aa na capa] (Ext.refl w) rfl rfl rfl fun g1 v2 hb4 ge5 e3 hw1=>(bxq [.int .i64 Ry,.int .i64 Cy,.slice Ay ny capy] hw1 hb4.lt rfl rfl rfl fun g6 v7 hb9 ge10 q11 e8 hw2=>(alq [I0,I0,S0] hw2 hb9.lt (fun _=>by kernel_rfl) rfl fun g12 v13 hb15 ge16 q17 e14 hw3=>(mv 1 rfl (ne_ (cw_seq (sr (lo aggMat (hb4.ext (e8.trans e14)) [.int .i64 Ra,.int .i64 Ca,.slice Aa na capa] rfl rfl rfl (lo aggMat (hb9.ext e14) [.int .i64 Ry,.int .i64 Cy,.slice Ay ny capy] rfl rfl rfl (wl_bslice rfl rfl (by decide) (k:=2) (e:=24) [.int .i64 Ra,.int .i64 Ca,.slice Aa na capa,.int .i64 Ry,.int .i64 Cy,.slice Ay ny capy] (fun _=>by kernel_rfl) fun g18 v19 nb=>?_))))))))))))
 have hb21:=nb.bk
 have ge22:w.heap.size≤g18:=by rw [←nb.at_];exact hw3.size
 have q23:g12<g18:=by rw [←nb.at_];exact hb15.lt
 have e20:=nb.ext
 clear nb
 have hw4:=hw3.trans e20
 refine cl (vs:= [.slice (some ⟨g18,0,none⟩) 2 2]) hw4 (g_mat_check2_ok hb21 hsa hsy) rfl (by kernel_rfl) fun xr26 v24 r26 e25 hw5=>?_
 obtain rfl:=r26
 refine mv 1 rfl (ne_ (sr (mv 1 rfl (wl_cmp rfl rfl rfl false (by decide) (by decide) (ne_ (cw_false rfl (cw_skip (eo_then (cw_seq (sr (pf g1 1 rfl (by kernel_rfl) (wl_load rfl rfl (load_cell cellInt (hb4.ext (e8.trans (e14.trans (e20.trans e25)))) rfl) (by decide) (pf g6 0 rfl (by kernel_rfl) ?_)))))))))))))
 refine wl_load rfl rfl (load_cell cellInt (hb9.ext (e14.trans (e20.trans e25))) rfl) (by decide) (wl_cmp rfl rfl rfl true (ci_ne_t hne) (by decide) (ne_ (cw_true rfl (sr (pu (v:= .agg #[I0,I0,S0]) rfl (by kernel_rfl) ?_)))))
 have hb28:=(hb15.ext (e20.trans e25))
 refine so aggMat hb28 [I0,I0,S0] hw5 ge16 rfl rfl rfl rfl fun v27 hb29 u30 hw6=>(mv 1 rfl (ne_ (cw_ret (eo_thenR (eo_ret [.agg #[I0,I0,S0],.int .i64 2] rfl ⟨⟨_,rfl,load_agg aggMat hb29 [I0,I0,S0] rfl (bq rfl) rfl⟩,rfl,trivial⟩ ?_)))))
 exact⟨_,rfl,⟨_,_,rfl,rfl,rfl⟩,hw6⟩
set_option maxHeartbeats 4000000 in
set_option maxRecDepth 20000 in
theorem g_mat_Mul_bad2 {w:World}{na capa ny capy:Nat}{Ra Ca Ry Cy:Int}{Aa Ay:Option Addr}(hsa:Snd Ra Ca na) (hsy:¬Snd Ry Cy ny):
    Calls Try.prog 20 #[.agg #[.int .i64 Ra,.int .i64 Ca,.slice Aa na capa],.agg #[.int .i64 Ry,.int .i64 Cy,.slice Ay ny capy]] w (Gv w (T2 (Is (.agg #[.int .i64 0,.int .i64 0,.slice none 0 0])) (Is (.int .i64 1)))):=by
 refine sx_enter Try.func20 rfl (n:=24) rfl (bq rfl) (args:= [.agg #[.int .i64 Ra,.int .i64 Ca,.slice Aa na capa],.agg #[.int .i64 Ry,.int .i64 Cy,.slice Ay ny capy]]) (cw_keep [(0,.agg #[.int .i64 Ra,.int .i64 Ca,.slice Aa na capa]),(1,.agg #[.int .i64 Ry,.int .i64 Cy,.slice Ay ny capy])] ⟨rfl,rfl,trivial⟩ (sr (bx [.int .i64 Ra,.int .i64 Ca,.slice Aa na capa] (Ext.refl w) rfl rfl rfl fun g1 v2 hb4 ge5 e3 hw1=>(bxq [.int .i64 Ry,.int .i64 Cy,.slice Ay ny capy] hw1 hb4.lt rfl rfl rfl fun g6 v7 hb9 ge10 q11 e8 hw2=>(alq [I0,I0,S0] hw2 hb9.lt (fun _=>by kernel_rfl) rfl fun g12 v13 hb15 ge16 q17 e14 hw3=>(mv 1 rfl (ne_ (cw_seq (sr (lo aggMat (hb4.ext (e8.trans e14)) [.int .i64 Ra,.int .i64 Ca,.slice Aa na capa] rfl rfl rfl (lo aggMat (hb9.ext e14) [.int .i64 Ry,.int .i64 Cy,.slice Ay ny capy] rfl rfl rfl (wl_bslice rfl rfl (by decide) (k:=2) (e:=24) [.int .i64 Ra,.int .i64 Ca,.slice Aa na capa,.int .i64 Ry,.int .i64 Cy,.slice Ay ny capy] (fun _=>by kernel_rfl) fun g18 v19 nb=>?_))))))))))))
 have hb21:=nb.bk
 have ge22:w.heap.size≤g18:=by rw [←nb.at_];exact hw3.size
 have q23:g12<g18:=by rw [←nb.at_];exact hb15.lt
 have e20:=nb.ext
 clear nb
 have hw4:=hw3.trans e20
 refine cl (vs:= [.slice (some ⟨g18,0,none⟩) 2 2]) hw4 (g_mat_check2_bad2 hb21 hsa hsy) rfl (by kernel_rfl) fun xr26 v24 r26 e25 hw5=>?_
 obtain rfl:=r26
 refine mv 1 rfl (ne_ (sr (mv 1 rfl (wl_cmp rfl rfl rfl true (by decide) (by decide) (ne_ (cw_true rfl (sr (pu (v:= .agg #[I0,I0,S0]) rfl (by kernel_rfl) (mv 1 rfl ?_)))))))))
 have hb28:=(hb15.ext (e20.trans e25))
 refine so aggMat hb28 [I0,I0,S0] hw5 ge16 rfl rfl rfl rfl fun v27 hb29 u30 hw6=>(mv 1 rfl (ne_ (cw_ret (eo_thenR (eo_ret [.agg #[I0,I0,S0],.int .i64 1] rfl ⟨⟨_,rfl,load_agg aggMat hb29 [I0,I0,S0] rfl (bq rfl) rfl⟩,rfl,trivial⟩ ?_)))))
 exact⟨_,rfl,⟨_,_,rfl,rfl,rfl⟩,hw6⟩
set_option maxHeartbeats 4000000 in
theorem g_top_copyIntI {w:World}{sa:Bool}{Aa:Option Addr}{na ca:Nat}{x:Int}(hx:Zi w sa Aa na ca x) (la:na≤1048576):
    Calls Try.prog 67 #[.agg #[.bool sa,.slice Aa na ca]] w (Gv w (ZOR w.heap.size sa na x)):=by
 have hx0:=hx
 obtain⟨xs,hrx,hxe⟩:=hx0
 have Lx:ln x≤1048576:=Nat.le_trans hx.ln la
 refine sx_enter Try.func67 rfl (n:=10) rfl (bq rfl) (args:= [.agg #[.bool sa,.slice Aa na ca]]) (cw_keep [(0,.agg #[.bool sa,.slice Aa na ca])] ⟨rfl,trivial⟩ (sr (bx [.bool sa,.slice Aa na ca] (Ext.refl w) rfl rfl rfl fun g1 v2 hb4 ge5 e3 hw1=>(alq [F0,S0] hw1 hb4.lt (fun _=>by kernel_rfl) rfl fun g6 v7 hb9 ge10 q11 e8 hw2=>(ne_ (cw_seq ?_))))))
 refine cw_draw mix 7 [] [Is (.pointer (some ⟨g1,0,none⟩)),Is (.bool sa),fun v' w'=>∃g,v'= .slice (some ⟨g,0,none⟩) 0 0∧v7.heap.size≤g∧Bk w' g 57 [],Is (.pointer (some ⟨g1,1,none⟩)),Is (.slice Aa na ca),fun v' w'=>∃A c,v'= .slice A na c∧Own w' w.heap.size 57 1 A na c (xs.map W64),ZOR w.heap.size sa na x] [[],[0],[],[],[3],[2,4],[1,5]] [[],[0],[],[],[3],[2,3,4],[0,1,2,3,4,5],[0,1,2,3,4,5,6]] rfl
  (obs_cons rfl rfl (hob rfl rfl ?_) (obs_cons rfl rfl (hob rfl rfl ?_) (obs_cons rfl rfl (hob rfl rfl ?_) (obs_cons rfl rfl (hob rfl rfl ?_) (obs_cons rfl rfl (hob rfl rfl ?_) (obs_cons rfl rfl (hob rfl rfl ?_) (obs_cons rfl rfl (hob rfl rfl ?_) obs_nil))))))) ?_
 · 
  exact fun _ _=>deps_nil (pf g1 0 rfl (by kernel_rfl) (pi_done rfl (Ext.refl _) rfl))
 · 
  exact fun _ e18=>dk rfl rfl (deps_nil (wl_load rfl rfl (load_cell cellBool (hb4.ext (e8.trans e18)) rfl) (by decide) (pi_done rfl (Ext.refl _) rfl)))
 · 
  intro v24 e25
  have hw3:=hw2.trans e25
  refine deps_nil (wl_bslice rfl rfl (by decide) (k:=0) (e:=57) [] (fun _=>by kernel_rfl) fun g26 v27 nb=>?_)
  have hb29:=nb.bk
  have e28:=nb.ext
  have hg30:v7.heap.size≤g26:=by rw [←nb.at_];exact e25.size
  clear nb
  have hw4:=hw3.trans e28
  exact pi_done rfl e28 ⟨_,rfl,hg30,hb29⟩
 · 
  exact fun _ _=>deps_nil (pf g1 1 rfl (by kernel_rfl) (pi_done rfl (Ext.refl _) rfl))
 · 
  exact fun _ e34=>dk rfl rfl (deps_nil (wl_load rfl rfl (load_cell cellWords (hb4.ext (e8.trans e34)) rfl) (by decide) (pi_done rfl (Ext.refl _) rfl)))
 · 
  intro v40 e41
  have hw3:=hw2.trans e41
  refine deps_cons rfl rfl fun x42 y43 h44 e45 f46=>?_
  obtain⟨ge47,rfl,hge47,hbe47⟩:=h44
  have hbe47:=hbe47.ext f46
  refine dk rfl rfl (deps_nil (wl_app0 rfl rfl rfl Try.underlying32 info64 rfl (by decide) (Nat.le_trans hw2.size hge47) hw3.size hbe47 (hrx.ext hw3).rv (W64_oneCell xs) (by omega) (by decide) fun A53 c54 v55 ho56 e57=>?_))
  have hw4:=hw3.trans e57
  exact pi_done rfl e57 ⟨_,_,rfl,ho56⟩
 · 
  intro v58 e59
  refine dk rfl rfl (deps_cons rfl rfl fun x65 y66 h67 e68 f69=>?_)
  obtain⟨Ao70,co70,rfl,ox70⟩:=h67
  have ox70:=ox70.ext f69
  refine deps_nil (pu (v:= .agg #[.bool sa,.slice Ao70 na co70]) rfl (by kernel_rfl) ?_)
  exact pi_done rfl (Ext.refl _) ⟨_,_,rfl,(show Zo _ _ sa _ _ _ x from⟨xs,ox70,hrx.wf,hxe⟩)⟩
 · 
  intro v71 e72
  have hw3:=hw2.trans e72
  refine dk rfl rfl (dk rfl rfl (deps_cons rfl rfl fun x83 y84 h85 e86 f87=>?_))
  obtain⟨ge88,rfl,hge88,hbe88⟩:=h85
  have hbe88:=hbe88.ext f87
  refine dk rfl rfl (dk rfl rfl (deps_cons rfl rfl fun x99 y100 h101 e102 f103=>?_))
  obtain⟨Ao104,co104,rfl,ox104⟩:=h101
  have ox104:=ox104.ext f103
  refine deps_cons rfl rfl fun x105 y106 h107 e108 f109=>?_
  obtain⟨Az110,cz110,rfl,zo110⟩:=h107
  have zo110:=zo110.ext f109
  refine deps_nil ?_
  have hb112:=(hb9.ext e72)
  refine so aggInt hb112 [.bool sa,.slice Az110 na cz110] hw3 ge10 rfl rfl rfl rfl fun v111 hb113 u114 hw4=>(wl_nil (eo_np (eo_then (cw_ret (eo_ret [.agg #[.bool sa,.slice Az110 na cz110]] rfl ⟨⟨_,rfl,load_agg aggInt hb113 [.bool sa,.slice Az110 na cz110] rfl (bq rfl) rfl⟩,trivial⟩ ?_)))))
  exact⟨_,rfl,⟨_,_,rfl,(zo110.updT hb112 u114)⟩,hw4⟩
theorem g_top_copyInt {w:World}{b:Nat}(hb:b≤w.heap.size){sa:Bool}{Aa:Option Addr}{na ca:Nat}{x:Int}(hx:Zi w sa Aa na ca x) (la:na≤1048576):
  Calls Try.prog 67 #[.agg #[.bool sa,.slice Aa na ca]] w (Gv w (ZOR b sa na x)):=(g_top_copyIntI hx la).mono (Gv.imp (ZOR.imp hb))
set_option maxHeartbeats 4000000 in
set_option maxRecDepth 20000 in
theorem g_top_copyRow {w:World}{b lb:Nat}(hb:b≤w.heap.size) (hlb:lb≤w.heap.size){w0:World}(hw0:Ext w0 w){Aa:Option Addr}{na capa:Nat}{zs:List Int}(hxa:ZF w Aa na capa 1048576 zs) (hna:na≤1048576):
    Calls Try.prog 35 #[.slice Aa na capa] w (Gv w (LE (some w0) 1048576 b lb na zs)):=by
 obtain⟨msa,hla,hma⟩:=hxa
 refine sx_enter Try.func35 rfl (n:=23) rfl (bq rfl) (args:= [.slice Aa na capa]) (cw_keep [(0,.slice Aa na capa)] ⟨rfl,trivial⟩ (sr (mv 1 rfl (ne_ (sr (mv 1 rfl (pu (v:= .int .i64 ((na:Nat):Int)) rfl (by kernel_rfl) (wl_makeL (k:=na) (some w0) 1048576 w.heap.size rfl rfl rfl (by omega) (by decide) fun g1 v2 hg3 lz4 e5=>?_))))))))
 have hlbg1:g1≤v2.heap.size:=by have:=(lz4.block _ rfl).2;exact Nat.le_of_lt this
 have hglg1:w.heap.size≤g1:=by rw [←hg3];exact (Ext.refl w).size
 clear hg3
 have hw1:=(Ext.refl w).trans e5
 have blk6:=lz4.block
 refine mv 1 rfl (ne_ (cw_seq (sr (mv 1 rfl (ne_ (cw_block ?_))))))
 have hl8:=lz4
 rw [upto5_zero zs na] at hl8
 refine cw_loop (T:=World×Nat) (fun⟨wr,i⟩=> [(0,.slice Aa na capa),(2,.slice none 0 0),(3,.slice (some ⟨g1,0,none⟩) na na),(4,.int .i64 ((i:Nat):Int)),(5,.slice Aa na capa),(6,.int .i64 ((na:Nat):Int)),(7,.slice (some ⟨g1,0,none⟩) na na)]) (fun⟨wr,i⟩=>wr) (fun⟨wr,i⟩=>(Ext w wr)∧(i≤na)∧(g1≤wr.heap.size)∧(Lz (some w0) 1048576 w.heap.size wr g1 (some ⟨g1,0,none⟩) na na (upto5 zs na i))) (fun⟨wr,i⟩=>na-i)
  (⟨v2,0⟩:World×Nat) ⟨hw1,(by omega),hlbg1,hl8⟩ rfl ⟨rfl,rfl,rfl,rfl,rfl,rfl,rfl,trivial⟩ ?_
 rintro⟨wr,i⟩ ⟨hw1,hi_i,l_someg10noneb,l_someg10none⟩
 refine cw_re [(0,.slice Aa na capa),(2,.slice none 0 0),(3,.slice (some ⟨g1,0,none⟩) na na),(4,.int .i64 ((i:Nat):Int)),(5,.slice Aa na capa),(6,.int .i64 ((na:Nat):Int)),(7,.slice (some ⟨g1,0,none⟩) na na)] wr rfl ⟨rfl,rfl,rfl,rfl,rfl,rfl,rfl,trivial⟩ ?_
 have blk7:=l_someg10none.block
 refine cw_seq (cw_seq ?_)
 by_cases hin:i<na
 · 
  refine cw_region (mv 2 rfl (pu (v:= .int .i64 ((na:Nat):Int)) rfl (by kernel_rfl) (wl_cmp rfl rfl rfl true (cb_lt_t (a:=i) (b:=na) rfl rfl (by omega)) (by decide) (ne_ (cw_true rfl (cw_skip (eo_then (cw_seq (cw_block (cw_region (mv 4 rfl ?_)))))))))))
  obtain⟨pz8,sz8,Bz8,cz8,hpz8,ldz8,ez8⟩:=hla.at (i:=i) (by omega)
  refine wl_idx rfl rfl rfl elemI aggInt.size i rfl (by omega) pz8 hpz8 (by decide) (wl_load rfl rfl (ldz8 _ hw1 _ _ aggInt) (by decide) (cl (vs:= [.agg #[.bool sz8,.slice Bz8 (msa.getD i 0) cz8]]) hw1 (g_top_copyInt hw1.size (ez8.ext hw1) (Nat.le_trans (hma i) (by decide))) rfl (by kernel_rfl) fun xr11 v9 r11 e10 hw2=>?_))
  obtain⟨Az12,cz12,rfl,zo12⟩:=r11
  obtain⟨pz13,sz13,Bz13,nz13,cz13,hpz13,ldz13,hKz13,ez13⟩:=((l_someg10none.ext e10)).at (i:=i) (by omega)
  have Lz13:ln ((upto5 zs na i).getD i 0)≤1048576:=Nat.le_trans (ez13.zi (hw0.trans hw2)).ln hKz13
  refine wl_idx rfl rfl rfl elemI aggInt.size i rfl (by omega) pz13 hpz13 (by decide) ?_
  have lt19:=(l_someg10none.ext e10)
  obtain⟨us17,own18⟩:=lt19.own
  refine wl_setI (e:=⟨sz8,Az12,(msa.getD i 0),cz12⟩) (z:=zs.getD i 0) rfl rfl rfl hpz13 (by omega) lt19 (Or.inr ⟨_,rfl,Or.inr zo12⟩) (Nat.le_trans (hma i) (by decide)) fun v14 lz15 uo16=>?_
  have hw3:=uo16.ext hw2 (fun p hp=>by have:=blk7 p hp;omega)
  have hlblz15:g1≤v14.heap.size:=Nat.le_trans (Nat.le_trans l_someg10noneb e10.size) uo16.size
  refine wl_nil (eo_block_normal (eo_then (cw_region (mv 1 rfl (wl_ar rfl rfl rfl ((i+1:Nat):Int) (ai_add (a:=i) (b:=1) rfl rfl (by omega)) (by decide) (mv 1 rfl (wl_nil ?_)))))))
  have hl9:=lz15
  rw [upto5_succ hla.len hin] at hl9
  refine eo_round (⟨v14,i+1⟩:World×Nat) ⟨hw3,(by omega),hlblz15,hl9⟩ (show na-(i+1)<na-i by omega) rfl ⟨rfl,rfl,rfl,rfl,rfl,rfl,rfl,trivial⟩
 · 
  refine cw_region (mv 2 rfl (pu (v:= .int .i64 ((na:Nat):Int)) rfl (by kernel_rfl) (wl_cmp rfl rfl rfl false (cb_lt_f (a:=i) (b:=na) rfl rfl (by omega)) (by decide) (ne_ (cw_false rfl (cw_exit (eo_thenX (eo_loopX (eo_block_here (eo_then (sr (mv 2 rfl (wl_nil ?_)))))))))))))
  refine eo_then (cw_ret (eo_ret [.slice (some ⟨g1,0,none⟩) na na] rfl ⟨rfl,trivial⟩ ?_))
  have hl7:=(l_someg10none).mono (Nat.le_refl _) hb (Nat.le_trans hlb hglg1)
  rw [show i=na by omega,upto5_full hla.len] at hl7
  exact⟨_,rfl,⟨_,_,rfl,hl7⟩,hw1⟩
set_option maxHeartbeats 4000000 in
set_option maxRecDepth 20000 in
theorem g_top_copyMat {w:World}{b lb:Nat}(hb:b≤w.heap.size) (hlb:lb≤w.heap.size){w0:World}(hw0:Ext w0 w){R C:Int}{Aa:Option Addr}{na capa:Nat}{zs:List Int}(hxa:ZF w Aa na capa 1048576 zs) (hna:na≤1048576):
    Calls Try.prog 8 #[.agg #[.int .i64 R,.int .i64 C,.slice Aa na capa]] w (Gv w (MQ R C (LE (some w0) 1048576 b lb na zs))):=by
 obtain⟨msa,hla,hma⟩:=hxa
 refine sx_enter Try.func8 rfl (n:=11) rfl (bq rfl) (args:= [.agg #[.int .i64 R,.int .i64 C,.slice Aa na capa]]) (cw_keep [(0,.agg #[.int .i64 R,.int .i64 C,.slice Aa na capa])] ⟨rfl,trivial⟩ (sr (bx [.int .i64 R,.int .i64 C,.slice Aa na capa] (Ext.refl w) rfl rfl rfl fun g1 v2 hb4 ge5 e3 hw1=>(alq [I0,I0,S0] hw1 hb4.lt (fun _=>by kernel_rfl) rfl fun g6 v7 hb9 ge10 q11 e8 hw2=>(ne_ (cw_seq ?_))))))
 obtain⟨lb12,hlb12,hlelb12,hgl12,hq12_0,hq12_1⟩:∃lb,lb≤v7.heap.size∧v7.heap.size≤lb∧w.heap.size≤lb∧g1<lb∧g6<lb:=⟨v7.heap.size,Nat.le_refl _,Nat.le_refl _,hw2.size,(hb4.ext e8).lt,hb9.lt⟩
 refine cw_draw mix 8 [] [Is (.pointer (some ⟨g1,0,none⟩)),Is (.int .i64 R),Is (.pointer (some ⟨g1,1,none⟩)),Is (.int .i64 C),Is (.pointer (some ⟨g1,2,none⟩)),Is (.slice Aa na capa),LE (some w0) 1048576 w.heap.size lb12 na zs,MQ R C (LE (some w0) 1048576 w.heap.size lb12 na zs)] [[],[0],[],[2],[],[4],[5],[1,3,6]] [[],[0],[],[2],[],[4],[4,5],[0,1,2,3,4,5,6],[0,1,2,3,4,5,6,7]] rfl
  (obs_cons rfl rfl (hob rfl rfl ?_) (obs_cons rfl rfl (hob rfl rfl ?_) (obs_cons rfl rfl (hob rfl rfl ?_) (obs_cons rfl rfl (hob rfl rfl ?_) (obs_cons rfl rfl (hob rfl rfl ?_) (obs_cons rfl rfl (hob rfl rfl ?_) (obs_cons rfl rfl (hob rfl rfl ?_) (obs_cons rfl rfl (hob rfl rfl ?_) obs_nil)))))))) ?_
 · 
  exact fun _ _=>deps_nil (pf g1 0 rfl (by kernel_rfl) (pi_done rfl (Ext.refl _) rfl))
 · 
  exact fun _ e21=>dk rfl rfl (deps_nil (wl_load rfl rfl (load_cell cellInt (hb4.ext (e8.trans e21)) rfl) (by decide) (pi_done rfl (Ext.refl _) rfl)))
 · 
  exact fun _ _=>deps_nil (pf g1 1 rfl (by kernel_rfl) (pi_done rfl (Ext.refl _) rfl))
 · 
  exact fun _ e30=>dk rfl rfl (deps_nil (wl_load rfl rfl (load_cell cellInt (hb4.ext (e8.trans e30)) rfl) (by decide) (pi_done rfl (Ext.refl _) rfl)))
 · 
  exact fun _ _=>deps_nil (pf g1 2 rfl (by kernel_rfl) (pi_done rfl (Ext.refl _) rfl))
 · 
  exact fun _ e39=>dk rfl rfl (deps_nil (wl_load rfl rfl (load_cell cellInts (hb4.ext (e8.trans e39)) rfl) (by decide) (pi_done rfl (Ext.refl _) rfl)))
 · 
  intro v45 e46
  have hw3:=hw2.trans e46
  refine dk rfl rfl (deps_nil (cl (vs:= [.slice Aa na capa]) hw3 (g_top_copyRow (w0:=w0) hw3.size (Nat.le_trans hlb12 e46.size) (hw0.trans hw3) ((show ZF w _ _ _ _ _ from⟨msa,hla,hma⟩).ext hw3) (by omega)) rfl (by kernel_rfl) fun xr54 v52 r54 e53 hw4=>?_))
  obtain⟨LA55,lc55,rfl,lz55⟩:=r54
  have blk56:=lz55.block
  exact pi_done rfl e53 ⟨_,_,rfl,lz55⟩
 · 
  intro v57 e58
  refine dk rfl rfl (dk rfl rfl (deps_cons rfl rfl fun x69 y70 h71 e72 f73=>?_))
  obtain⟨LA74,lc74,rfl,lz74⟩:=h71
  have blk75:=lz74.block
  have lz74:=lz74.ext f73
  refine deps_nil (pu (v:= .agg #[.int .i64 R,.int .i64 C,.slice LA74 na lc74]) rfl (by kernel_rfl) ?_)
  exact pi_done rfl (Ext.refl _) ⟨_,rfl,⟨_,_,rfl,lz74⟩⟩
 · 
  intro v76 e77
  have hw3:=hw2.trans e77
  refine dk rfl rfl (dk rfl rfl (dk rfl rfl (dk rfl rfl (dk rfl rfl (dk rfl rfl (deps_cons rfl rfl fun x108 y109 h110 e111 f112=>?_))))))
  obtain⟨LA113,lc113,rfl,lz113⟩:=h110
  have blk114:=lz113.block
  have lz113:=lz113.ext f112
  refine deps_cons rfl rfl fun x115 y116 h117 e118 f119=>?_
  obtain⟨lv120,rfl,⟨LA121,lc121,rfl,lz121⟩⟩:=h117
  have blk122:=lz121.block
  have lz121:=lz121.ext f119
  refine deps_nil ?_
  have hb124:=(hb9.ext e77)
  refine so aggMat hb124 [.int .i64 R,.int .i64 C,.slice LA121 na lc121] hw3 ge10 rfl rfl rfl rfl fun v123 hb125 u126 hw4=>(wl_nil (eo_np (eo_then (cw_ret (eo_ret [.agg #[.int .i64 R,.int .i64 C,.slice LA121 na lc121]] rfl ⟨⟨_,rfl,load_agg aggMat hb125 [.int .i64 R,.int .i64 C,.slice LA121 na lc121] rfl (bq rfl) rfl⟩,trivial⟩ ?_)))))
  exact⟨_,rfl,⟨_,rfl,⟨_,_,rfl,((lz121.updT hb124 u126 (show∀p:Addr,LA121=some p→p.block≠g6 from fun p hp=>by have:=blk122 p hp;omega))).mono (Nat.le_refl _) hb (Nat.le_trans hlb hgl12)⟩⟩,hw4⟩
set_option maxHeartbeats 4000000 in
set_option maxRecDepth 20000 in
theorem g_top_word {w:World}{b:Nat}(hb:b≤w.heap.size){x:Nat}(hx:x≤18446744073709551615):
    Calls Try.prog 63 #[.int .u64 ((x:Nat):Int)] w (Gv w (ZR b (((x:Nat):Int)))):=by
 refine sx_enter Try.func63 rfl (n:=9) rfl (bq rfl) (args:= [.int .u64 ((x:Nat):Int)]) (cw_keep [(0,.int .u64 ((x:Nat):Int))] ⟨rfl,trivial⟩ (sr (al [F0,S0] (Ext.refl w) (fun _=>by kernel_rfl) rfl fun g1 v2 hb4 ge5 e3 hw1=>(ne_ (cw_seq (cw_seq ?_))))))
 by_cases hx0:x=0
 · 
  refine cw_region (mv 1 rfl (wl_cmp rfl rfl rfl true (cb_eq_t (a:=x) (b:=0) rfl rfl (by omega)) (by decide) (ne_ (cw_true rfl (sr (pu (v:= .agg #[F0,S0]) rfl (by kernel_rfl) (so aggInt hb4 [F0,S0] hw1 ge5 rfl rfl rfl rfl fun v6 hb8 u9 hw2=>(ne_ (cw_ret (eo_thenR (eo_ret [.agg #[F0,S0]] rfl ⟨⟨_,rfl,load_agg aggInt hb8 [F0,S0] rfl (bq rfl) rfl⟩,trivial⟩ ?_)))))))))))
  exact⟨_,rfl,⟨_,_,_,_,rfl,(((Zr.zero (w:=v6) (base:=w.heap.size))).cast (by rw [hx0];rfl)).mono hb⟩,hw2⟩
 · 
  refine cw_region (mv 1 rfl (wl_cmp rfl rfl rfl false (cb_eq_f (a:=x) (b:=0) rfl rfl (by omega)) (by decide) (ne_ (cw_false rfl (cw_skip (eo_then (sr (mv 1 rfl (wl_bslice rfl rfl (by decide) (k:=1) (e:=57) [.int .u64 ((x:Nat):Int)] (fun _=>by kernel_rfl) fun g11 v12 nb13=>?_)))))))))
  have o14:=O1.mk_ (x:=x) (b:=w.heap.size) nb13 hw1.size
  have e15:=nb13.ext
  have hw2:=hw1.trans e15
  have o17:=own1_wd o14 hx hx0
  have j16:=len1 hx hx0
  refine pu (v:= .agg #[F0,.slice (some ⟨g11,0,none⟩) 1 1]) rfl (by kernel_rfl) ?_
  have hb19:=(hb4.ext e15)
  refine so aggInt hb19 [F0,.slice (some ⟨g11,0,none⟩) 1 1] hw2 ge5 rfl rfl rfl rfl fun v18 hb20 u21 hw3=>(ne_ (cw_ret (eo_ret [.agg #[F0,.slice (some ⟨g11,0,none⟩) 1 1]] rfl ⟨⟨_,rfl,load_agg aggInt hb20 [F0,.slice (some ⟨g11,0,none⟩) 1 1] rfl (bq rfl) rfl⟩,trivial⟩ ?_)))
  exact⟨_,rfl,⟨_,_,_,_,rfl,((Zr_nat j16 o17).updT hb19 u21).mono hb⟩,hw3⟩
set_option maxHeartbeats 4000000 in
set_option maxRecDepth 20000 in
theorem g_top_minus {w:World}{b:Nat}(hb:b≤w.heap.size){x:Nat}(hx:x≤18446744073709551615) (hx0:x≠0):
    Calls Try.prog 30 #[.int .u64 ((x:Nat):Int)] w (Gv w (ZR b (-((x:Nat):Int)))):=by
 refine sx_enter Try.func30 rfl (n:=6) rfl (bq rfl) (args:= [.int .u64 ((x:Nat):Int)]) (cw_keep [(0,.int .u64 ((x:Nat):Int))] ⟨rfl,trivial⟩ (sr (al [F0,S0] (Ext.refl w) (fun _=>by kernel_rfl) rfl fun g1 v2 hb4 ge5 e3 hw1=>(ne_ (sr (mv 1 rfl (wl_bslice rfl rfl (by decide) (k:=1) (e:=57) [.int .u64 ((x:Nat):Int)] (fun _=>by kernel_rfl) fun g6 v7 nb8=>?_)))))))
 have o9:=O1.mk_ (x:=x) (b:=w.heap.size) nb8 hw1.size
 have e10:=nb8.ext
 have hw2:=hw1.trans e10
 have o12:=own1_wd o9 hx hx0
 have j11:=len1 hx hx0
 refine pu (v:= .agg #[.bool true,.slice (some ⟨g6,0,none⟩) 1 1]) rfl (by kernel_rfl) ?_
 have hb14:=(hb4.ext e10)
 refine so aggInt hb14 [.bool true,.slice (some ⟨g6,0,none⟩) 1 1] hw2 ge5 rfl rfl rfl rfl fun v13 hb15 u16 hw3=>(ne_ (cw_ret (eo_ret [.agg #[.bool true,.slice (some ⟨g6,0,none⟩) 1 1]] rfl ⟨⟨_,rfl,load_agg aggInt hb15 [.bool true,.slice (some ⟨g6,0,none⟩) 1 1] rfl (bq rfl) rfl⟩,trivial⟩ ?_)))
 exact⟨_,rfl,⟨_,_,_,_,rfl,((Zr_neg hx0 j11 o12).updT hb14 u16).mono hb⟩,hw3⟩
set_option maxHeartbeats 4000000 in
set_option maxRecDepth 20000 in
theorem g_top_two {w:World}{b lb:Nat}(hb:b≤w.heap.size) (hlb:lb≤w.heap.size):
    Calls Try.prog 29 #[] w (Gv w (MQ 2 2 (LE none 1 b lb 4 ([2,4,6,8])))):=by
 refine sx_enter Try.func29 rfl (n:=7) rfl (bq rfl) (args:= []) (cw_keep [] trivial (sr (al [I0,I0,S0] (Ext.refl w) (fun _=>by kernel_rfl) rfl fun g1 v2 hb4 ge5 e3 hw1=>(ne_ (sr (cl (vs:= [.int .u64 2]) hw1 ((g_top_word (x:=2) hw1.size (by decide))) rfl (by kernel_rfl) fun xr8 v6 r8 e7 hw2=>?_))))))
 obtain⟨s9,A9,n9,c9,rfl,z9⟩:=r8
 refine cl (vs:= [.int .u64 4]) hw2 ((g_top_word (x:=4) hw2.size (by decide))) rfl (by kernel_rfl) fun xr12 v10 r12 e11 hw3=>?_
 obtain⟨s13,A13,n13,c13,rfl,z13⟩:=r12
 refine cl (vs:= [.int .u64 6]) hw3 ((g_top_word (x:=6) hw3.size (by decide))) rfl (by kernel_rfl) fun xr16 v14 r16 e15 hw4=>?_
 obtain⟨s17,A17,n17,c17,rfl,z17⟩:=r16
 refine cl (vs:= [.int .u64 8]) hw4 ((g_top_word (x:=8) hw4.size (by decide))) rfl (by kernel_rfl) fun xr20 v18 r20 e19 hw5=>?_
 obtain⟨s21,A21,n21,c21,rfl,z21⟩:=r20
 refine wl_bslice rfl rfl (by decide) (k:=4) (e:=34) [.bool s9,.slice A9 n9 c9,.bool s13,.slice A13 n13 c13,.bool s17,.slice A17 n17 c17,.bool s21,.slice A21 n21 c21] (fun _=>by kernel_rfl) fun g22 v23 nb=>?_
 have hb25:=nb.bk
 have ge26:w.heap.size≤g22:=by rw [←nb.at_];exact hw5.size
 have q27:g1<g22:=by rw [←nb.at_];exact (hb4.ext (e7.trans (e11.trans (e15.trans e19)))).lt
 have e24:=nb.ext
 clear nb
 have hw6:=hw5.trans e24
 refine pu (v:= .agg #[.int .i64 2,.int .i64 2,.slice (some ⟨g22,0,none⟩) 4 4]) rfl (by kernel_rfl) ?_
 have hb29:=(hb4.ext (e7.trans (e11.trans (e15.trans (e19.trans e24)))))
 refine so aggMat hb29 [.int .i64 2,.int .i64 2,.slice (some ⟨g22,0,none⟩) 4 4] hw6 ge5 rfl rfl rfl rfl fun v28 hb30 u31 hw7=>(ne_ (cw_ret (eo_ret [.agg #[.int .i64 2,.int .i64 2,.slice (some ⟨g22,0,none⟩) 4 4]] rfl ⟨⟨_,rfl,load_agg aggMat hb30 [.int .i64 2,.int .i64 2,.slice (some ⟨g22,0,none⟩) 4 4] rfl (bq rfl) rfl⟩,trivial⟩ ?_)))
 exact⟨_,rfl,⟨_,rfl,⟨_,_,rfl,lz4 (Nat.le_trans hlb ge26) (hb25.updN u31 (by omega)) (((z9.ext (e11.trans (e15.trans (e19.trans e24)))).updT hb29 u31).mono hb) (((z13.ext (e15.trans (e19.trans e24))).updT hb29 u31).mono hb) (((z17.ext (e19.trans e24)).updT hb29 u31).mono hb) (((z21.ext e24).updT hb29 u31).mono hb) (z9.le (Nat.le_trans (show ln ((2:Nat):Int)≤1 from ln_w64 (by decide)) (by decide))) (z13.le (Nat.le_trans (show ln ((4:Nat):Int)≤1 from ln_w64 (by decide)) (by decide))) (z17.le (Nat.le_trans (show ln ((6:Nat):Int)≤1 from ln_w64 (by decide)) (by decide))) (z21.le (Nat.le_trans (show ln ((8:Nat):Int)≤1 from ln_w64 (by decide)) (by decide)))⟩⟩,hw7⟩
set_option maxHeartbeats 4000000 in
set_option maxRecDepth 20000 in
theorem g_top_least {w:World}{x:Int}{b_a:Nat}{sa:Bool}{Aa:Option Addr}{na ca:Nat}(ha:Zr w b_a sa Aa na ca x):
    Calls Try.prog 48 #[.agg #[.bool sa,.slice Aa na ca]] w (Gv w (Is (.bool true))):=by
 refine sx_enter Try.func48 rfl (n:=19) rfl (bq rfl) (args:= [.agg #[.bool sa,.slice Aa na ca]]) (cw_keep [(0,.agg #[.bool sa,.slice Aa na ca])] ⟨rfl,trivial⟩ (sr (bx [.bool sa,.slice Aa na ca] (Ext.refl w) rfl rfl rfl fun g1 v2 hb4 ge5 e3 hw1=>(mv 1 rfl (ne_ (cw_seq ?_))))))
 have hn:=ha.len
 have hle:=ha.rd.rv.le
 have hmx:=ha.rd.rv.max
 rw [len_maxLen] at hmx
 by_cases hx0:x=0
 · 
  have hn0:na=0:=by rw [hn,hx0];rfl
  obtain rfl:sa=false:=by rw [ha.sgn,hx0];rfl
  refine cw_region (pf g1 1 rfl (by kernel_rfl) (wl_load rfl rfl (load_cell cellWords hb4 rfl) (by decide) (pu (v:= .int .i64 ((na:Nat):Int)) rfl (by kernel_rfl) (mv 1 rfl (ne_ (cw_seq (sr (mv 1 rfl (wl_cmp rfl rfl rfl true (cb_eq_t (a:=na) (b:=0) rfl rfl (by omega)) (by decide) (ne_ (cw_true rfl (sr (pf g1 0 rfl (by kernel_rfl) ?_)))))))))))))
  refine wl_load rfl rfl (load_cell cellBool hb4 rfl) (by decide) (pu (v:= .bool true) rfl (by kernel_rfl) (mv 1 rfl (ne_ (cw_ret (eo_thenR (eo_ret [.bool true] rfl ⟨rfl,trivial⟩ ?_))))))
  exact⟨_,rfl,rfl,hw1⟩
 · 
  have hn0:na≠0:=fun e=>hx0 (ln_eq_zero (by rw [←hn,e]))
  have htop:=wd_topI hx0
  rw [←hn] at htop
  refine cw_region (pf g1 1 rfl (by kernel_rfl) (wl_load rfl rfl (load_cell cellWords hb4 rfl) (by decide) (pu (v:= .int .i64 ((na:Nat):Int)) rfl (by kernel_rfl) (mv 1 rfl (ne_ (cw_seq (sr (mv 1 rfl (wl_cmp rfl rfl rfl false (cb_eq_f (a:=na) (b:=0) rfl rfl (by omega)) (by decide) (ne_ (cw_false rfl (cw_skip (eo_then ?_)))))))))))))
  refine sr (pf g1 1 rfl (by kernel_rfl) (wl_load rfl rfl (load_cell cellWords hb4 rfl) (by decide) (mv 1 rfl (wl_ar rfl rfl rfl ((na-1:Nat):Int) (ai_sub (a:=na) (b:=1) rfl rfl (by omega) (by omega)) (by decide) ?_))))
  obtain⟨p6,hp6,hc6,hv6⟩:=((ha.ext e3)).rd.at (i:=na-1) (by omega)
  refine wl_idx rfl rfl rfl un_u64 sz_u64 (na-1) rfl (by omega) p6 hp6 (by decide) (wl_load rfl rfl (load_cell1 ag_u64 hc6) (by decide) (wl_cmp rfl rfl rfl true (cb_ne_t (a:=(wd (Int.natAbs x)).getD (na-1) 0) (b:=0) rfl rfl (by omega)) (by decide) (mv 1 rfl (ne_ (cw_ret (eo_ret [.bool true] rfl ⟨rfl,trivial⟩ ?_))))))
  exact⟨_,rfl,rfl,hw1⟩
set_option maxHeartbeats 4000000 in
set_option maxRecDepth 20000 in
theorem g_top_sameInt {w:World}{x:Int}{b_a:Nat}{sa:Bool}{Aa:Option Addr}{na ca:Nat}(ha:Zr w b_a sa Aa na ca x){b_y:Nat}{sy:Bool}{Ay:Option Addr}{ny cy:Nat}(hy:Zr w b_y sy Ay ny cy x):
    Calls Try.prog 17 #[.agg #[.bool sa,.slice Aa na ca],.agg #[.bool sy,.slice Ay ny cy]] w (Gv w (Is (.bool true))):=by
 obtain rfl:sa=sy:=by rw [hy.sgn,ha.sgn]
 have hna:=ha.len
 have hny:=hy.len
 have hle:=ha.rd.rv.le
 have hma:=ha.rd.rv.max
 have hmy:=hy.rd.rv.max
 rw [len_maxLen] at hma hmy
 refine sx_enter Try.func17 rfl (n:=48) rfl (bq rfl) (args:= [.agg #[.bool sa,.slice Aa na ca],.agg #[.bool sa,.slice Ay ny cy]]) (cw_keep [(0,.agg #[.bool sa,.slice Aa na ca]),(1,.agg #[.bool sa,.slice Ay ny cy])] ⟨rfl,rfl,trivial⟩ (sr (bx [.bool sa,.slice Aa na ca] (Ext.refl w) rfl rfl rfl fun g1 v2 hb4 ge5 e3 hw1=>(bxq [.bool sa,.slice Ay ny cy] hw1 hb4.lt rfl rfl rfl fun g6 v7 hb9 ge10 q11 e8 hw2=>(mv 1 rfl (ne_ (cw_seq (sr (pf g1 0 rfl (by kernel_rfl) (wl_load rfl rfl (load_cell cellBool (hb4.ext e8) rfl) (by decide) (pf g6 0 rfl (by kernel_rfl) (wl_load rfl rfl (load_cell cellBool hb9 rfl) (by decide) (wl_pureE rfl rfl (v:= .bool (!(sa==sa))) (v':= .bool false) (by decide) (by kernel_rfl) (by simp) ?_)))))))))))))
 refine mv 1 rfl (pf g1 1 rfl (by kernel_rfl) (wl_load rfl rfl (load_cell cellWords (hb4.ext e8) rfl) (by decide) (pu (v:= .int .i64 ((na:Nat):Int)) rfl (by kernel_rfl) (pf g6 1 rfl (by kernel_rfl) (wl_load rfl rfl (load_cell cellWords hb9 rfl) (by decide) (pu (v:= .int .i64 ((ny:Nat):Int)) rfl (by kernel_rfl) (wl_cmp rfl rfl rfl false (cb_ne_f (a:=na) (b:=ny) rfl rfl (by omega)) (by decide) (pu (v:= .bool false) rfl (by kernel_rfl) (mv 1 rfl (lo aggInt (hb4.ext e8) [.bool sa,.slice Aa na ca] rfl rfl rfl (cl (vs:= [.agg #[.bool sa,.slice Aa na ca]]) hw2 (g_top_least (ha.ext (e3.trans e8))) rfl (by kernel_rfl) fun xr14 v12 r14 e13 hw3=>?_)))))))))))
 obtain rfl:=r14
 refine pu (v:= .bool false) rfl (by kernel_rfl) (pu (v:= .bool false) rfl (by kernel_rfl) (mv 1 rfl (lo aggInt (hb9.ext e13) [.bool sa,.slice Ay ny cy] rfl rfl rfl (cl (vs:= [.agg #[.bool sa,.slice Ay ny cy]]) hw3 (g_top_least (hy.ext (e3.trans (e8.trans e13)))) rfl (by kernel_rfl) fun xr17 v15 r17 e16 hw4=>?_))))
 obtain rfl:=r17
 refine pu (v:= .bool false) rfl (by kernel_rfl) (pu (v:= .bool false) rfl (by kernel_rfl) (ne_ (cw_false rfl (cw_skip (eo_then (cw_seq (sr (mv 1 rfl (ne_ (cw_block ?_))))))))))
 refine cw_loop (T:=World×Nat) (fun⟨wr,i⟩=> [(0,.agg #[.bool sa,.slice Aa na ca]),(1,.agg #[.bool sa,.slice Ay ny cy]),(2,.pointer (some ⟨g1,0,none⟩)),(3,.pointer (some ⟨g6,0,none⟩)),(4,.bool false),(5,.int .i64 ((i:Nat):Int)),(6,.pointer (some ⟨g1,0,none⟩)),(7,.bool sa),(8,.pointer (some ⟨g6,0,none⟩)),(9,.bool sa),(10,.bool false),(11,.bool false),(12,.pointer (some ⟨g1,1,none⟩)),(13,.slice Aa na ca),(14,.int .i64 ((na:Nat):Int)),(15,.pointer (some ⟨g6,1,none⟩)),(16,.slice Ay ny cy),(17,.int .i64 ((ny:Nat):Int)),(18,.bool false),(19,.bool false),(20,.bool false),(21,.agg #[.bool sa,.slice Aa na ca]),(22,.bool true),(23,.bool false),(24,.bool false),(25,.bool false),(26,.agg #[.bool sa,.slice Ay ny cy]),(27,.bool true),(28,.bool false),(29,.bool false)]) (fun⟨wr,i⟩=>wr) (fun⟨wr,i⟩=>(Ext w wr)∧(i≤na)∧(Bk wr g1 34 [.bool sa,.slice Aa na ca])∧(Zr wr b_a sa Aa na ca (x))∧(Bk wr g6 34 [.bool sa,.slice Ay ny cy])∧(Zr wr b_y sa Ay ny cy (x))) (fun⟨wr,i⟩=>na-i)
  (⟨v15,0⟩:World×Nat) ⟨hw4,(by omega),(hb4.ext (e8.trans (e13.trans e16))),(ha.ext (e3.trans (e8.trans (e13.trans e16)))),(hb9.ext (e13.trans e16)),(hy.ext (e3.trans (e8.trans (e13.trans e16))))⟩ rfl ⟨rfl,rfl,rfl,rfl,rfl,rfl,rfl,rfl,rfl,rfl,rfl,rfl,rfl,rfl,rfl,rfl,rfl,rfl,rfl,rfl,rfl,rfl,rfl,rfl,rfl,rfl,rfl,rfl,rfl,rfl,trivial⟩ ?_
 rintro⟨wr,i⟩ ⟨hw1,hi_i,b_g1,z_g1,b_g6,z_g6⟩
 refine cw_re [(0,.agg #[.bool sa,.slice Aa na ca]),(1,.agg #[.bool sa,.slice Ay ny cy]),(2,.pointer (some ⟨g1,0,none⟩)),(3,.pointer (some ⟨g6,0,none⟩)),(4,.bool false),(5,.int .i64 ((i:Nat):Int)),(6,.pointer (some ⟨g1,0,none⟩)),(7,.bool sa),(8,.pointer (some ⟨g6,0,none⟩)),(9,.bool sa),(10,.bool false),(11,.bool false),(12,.pointer (some ⟨g1,1,none⟩)),(13,.slice Aa na ca),(14,.int .i64 ((na:Nat):Int)),(15,.pointer (some ⟨g6,1,none⟩)),(16,.slice Ay ny cy),(17,.int .i64 ((ny:Nat):Int)),(18,.bool false),(19,.bool false),(20,.bool false),(21,.agg #[.bool sa,.slice Aa na ca]),(22,.bool true),(23,.bool false),(24,.bool false),(25,.bool false),(26,.agg #[.bool sa,.slice Ay ny cy]),(27,.bool true),(28,.bool false),(29,.bool false)] wr rfl ⟨rfl,rfl,rfl,rfl,rfl,rfl,rfl,rfl,rfl,rfl,rfl,rfl,rfl,rfl,rfl,rfl,rfl,rfl,rfl,rfl,rfl,rfl,rfl,rfl,rfl,rfl,rfl,rfl,rfl,rfl,trivial⟩ (cw_seq (cw_seq ?_))
 by_cases hin:i<na
 · 
  refine cw_region (mv 1 rfl (pf g1 1 rfl (by kernel_rfl) (wl_load rfl rfl (load_cell cellWords b_g1 rfl) (by decide) (pu (v:= .int .i64 ((na:Nat):Int)) rfl (by kernel_rfl) (wl_cmp rfl rfl rfl true (cb_lt_t (a:=i) (b:=na) rfl rfl (by omega)) (by decide) (ne_ (cw_true rfl (cw_skip (eo_then (cw_seq (cw_block (cw_seq (cw_keep [(0,.agg #[.bool sa,.slice Aa na ca]),(1,.agg #[.bool sa,.slice Ay ny cy]),(2,.pointer (some ⟨g1,0,none⟩)),(3,.pointer (some ⟨g6,0,none⟩)),(4,.bool false),(5,.int .i64 ((i:Nat):Int)),(6,.pointer (some ⟨g1,0,none⟩)),(7,.bool sa),(8,.pointer (some ⟨g6,0,none⟩)),(9,.bool sa),(10,.bool false),(11,.bool false),(12,.pointer (some ⟨g1,1,none⟩)),(13,.slice Aa na ca),(14,.int .i64 ((na:Nat):Int)),(15,.pointer (some ⟨g6,1,none⟩)),(16,.slice Ay ny cy),(17,.int .i64 ((ny:Nat):Int)),(18,.bool false),(19,.bool false),(20,.bool false),(21,.agg #[.bool sa,.slice Aa na ca]),(22,.bool true),(23,.bool false),(24,.bool false),(25,.bool false),(26,.agg #[.bool sa,.slice Ay ny cy]),(27,.bool true),(28,.bool false),(29,.bool false),(30,.int .i64 ((i:Nat):Int)),(31,.pointer (some ⟨g1,1,none⟩)),(32,.slice Aa na ca),(33,.int .i64 ((na:Nat):Int)),(34,.bool true)] ⟨rfl,rfl,rfl,rfl,rfl,rfl,rfl,rfl,rfl,rfl,rfl,rfl,rfl,rfl,rfl,rfl,rfl,rfl,rfl,rfl,rfl,rfl,rfl,rfl,rfl,rfl,rfl,rfl,rfl,rfl,rfl,rfl,rfl,rfl,rfl,trivial⟩ ?_)))))))))))))
  obtain⟨v18,hv,e19⟩:∃v,v=wr.drew∧Ext wr v:=⟨_,rfl,(Ext.refl _).drew⟩
  have hw2:=hw1.trans e19
  obtain⟨p20,hp20,hc20,hv20⟩:=((z_g1.ext e19)).rd.at (i:=i) (by omega)
  obtain⟨p21,hp21,hc21,hv21⟩:=((z_g6.ext e19)).rd.at (i:=i) (by omega)
  refine cw_det mix (w:=v18) [.pointer (some ⟨g1,1,none⟩),.slice Aa na ca,.int .i64 ((i:Nat):Int),.pointer (some p20),.int .u64 (((wd (Int.natAbs x)).getD i 0:Nat):Int),.pointer (some ⟨g6,1,none⟩),.slice Ay ny cy,.int .i64 ((i:Nat):Int),.pointer (some p21),.int .u64 (((wd (Int.natAbs x)).getD i 0:Nat):Int),F0] [v18] [] [[],[0],[],[1,2],[3],[],[5],[],[6,7],[8],[4,9]] [[],[0],[],[0,1,2],[0,1,2,3],[],[5],[],[5,6,7],[5,6,7,8],[0,1,2,3,4,5,6,7,8,9]] [(0,0),(1,0),(2,0),(3,0),(4,0),(5,0),(6,0),(7,0),(8,0),(9,0),(10,0)] rfl hv ?_ ?_
  · 
   refine dobs_val _ rfl rfl rfl rfl rfl (rd_pure rfl (by kernel_rfl)) (dobs_val _ rfl rfl rfl rfl rfl (rd_load rfl (load_cell cellWords (b_g1.ext e19) rfl)) (dobs_val _ rfl rfl rfl rfl rfl (rd_move rfl) (dobs_val _ rfl rfl rfl rfl rfl (rd_idx rfl rfl un_u64 sz_u64 i rfl (by omega) p20 hp20) (dobs_val _ rfl rfl rfl rfl rfl (rd_load rfl (load_cell1 ag_u64 hc20)) (dobs_val _ rfl rfl rfl rfl rfl (rd_pure rfl (by kernel_rfl)) (dobs_val _ rfl rfl rfl rfl rfl (rd_load rfl (load_cell cellWords (b_g6.ext e19) rfl)) (dobs_val _ rfl rfl rfl rfl rfl (rd_move rfl) (dobs_val _ rfl rfl rfl rfl rfl (rd_idx rfl rfl un_u64 sz_u64 i rfl (by omega) p21 hp21) (dobs_val _ rfl rfl rfl rfl rfl (rd_load rfl (load_cell1 ag_u64 hc21)) (dobs_val _ rfl rfl rfl rfl rfl (rd_cmp rfl rfl false (cb_ne_f (a:=(wd (Int.natAbs x)).getD i 0) (b:=(wd (Int.natAbs x)).getD i 0) rfl rfl (by omega))) ?_))))))))))
   exact dobs_nil
  clear hv
  refine eo_keep [(0,.agg #[.bool sa,.slice Aa na ca]),(1,.agg #[.bool sa,.slice Ay ny cy]),(2,.pointer (some ⟨g1,0,none⟩)),(3,.pointer (some ⟨g6,0,none⟩)),(4,.bool false),(5,.int .i64 ((i:Nat):Int)),(6,.pointer (some ⟨g1,0,none⟩)),(7,.bool sa),(8,.pointer (some ⟨g6,0,none⟩)),(9,.bool sa),(10,.bool false),(11,.bool false),(12,.pointer (some ⟨g1,1,none⟩)),(13,.slice Aa na ca),(14,.int .i64 ((na:Nat):Int)),(15,.pointer (some ⟨g6,1,none⟩)),(16,.slice Ay ny cy),(17,.int .i64 ((ny:Nat):Int)),(18,.bool false),(19,.bool false),(20,.bool false),(21,.agg #[.bool sa,.slice Aa na ca]),(22,.bool true),(23,.bool false),(24,.bool false),(25,.bool false),(26,.agg #[.bool sa,.slice Ay ny cy]),(27,.bool true),(28,.bool false),(29,.bool false),(30,.int .i64 ((i:Nat):Int)),(31,.pointer (some ⟨g1,1,none⟩)),(32,.slice Aa na ca),(33,.int .i64 ((na:Nat):Int)),(34,.bool true),(37,.pointer (some ⟨g1,1,none⟩)),(38,.slice Aa na ca),(39,.int .i64 ((i:Nat):Int)),(40,.pointer (some p20)),(41,.int .u64 (((wd (Int.natAbs x)).getD i 0:Nat):Int)),(42,.pointer (some ⟨g6,1,none⟩)),(43,.slice Ay ny cy),(44,.int .i64 ((i:Nat):Int)),(45,.pointer (some p21)),(46,.int .u64 (((wd (Int.natAbs x)).getD i 0:Nat):Int)),(47,.bool false)] ⟨rfl,rfl,rfl,rfl,rfl,rfl,rfl,rfl,rfl,rfl,rfl,rfl,rfl,rfl,rfl,rfl,rfl,rfl,rfl,rfl,rfl,rfl,rfl,rfl,rfl,rfl,rfl,rfl,rfl,rfl,rfl,rfl,rfl,rfl,rfl,rfl,rfl,rfl,rfl,rfl,rfl,rfl,rfl,rfl,rfl,rfl,trivial⟩ (eo_then (cw_false rfl (cw_skip (eo_block_normal (eo_then (cw_region (mv 1 rfl (wl_ar rfl rfl rfl ((i+1:Nat):Int) (ai_add (a:=i) (b:=1) rfl rfl (by omega)) (by decide) (mv 1 rfl (wl_nil (eo_round (⟨v18,i+1⟩:World×Nat) ⟨hw2,(by omega),(b_g1.ext e19),(z_g1.ext e19),(b_g6.ext e19),(z_g6.ext e19)⟩ (show na-(i+1)<na-i by omega) rfl ⟨rfl,rfl,rfl,rfl,rfl,rfl,rfl,rfl,rfl,rfl,rfl,rfl,rfl,rfl,rfl,rfl,rfl,rfl,rfl,rfl,rfl,rfl,rfl,rfl,rfl,rfl,rfl,rfl,rfl,rfl,trivial⟩)))))))))))
 · 
  refine cw_region (mv 1 rfl (pf g1 1 rfl (by kernel_rfl) (wl_load rfl rfl (load_cell cellWords b_g1 rfl) (by decide) (pu (v:= .int .i64 ((na:Nat):Int)) rfl (by kernel_rfl) (wl_cmp rfl rfl rfl false (cb_lt_f (a:=i) (b:=na) rfl rfl (by omega)) (by decide) (ne_ (cw_false rfl (cw_exit (eo_thenX (eo_loopX (eo_block_here (eo_then (cw_seq ?_)))))))))))))
  refine cw_region (mv 1 rfl (ne_ (cw_ret (eo_ret [.bool true] rfl ⟨rfl,trivial⟩ ?_))))
  exact⟨_,rfl,rfl,hw1⟩
set_option maxHeartbeats 4000000 in
set_option maxRecDepth 20000 in
theorem g_top_sound_t {w:World}{R C:Int}{na capa:Nat}{Aa:Option Addr}(hs:Snd R C na):
    Calls Try.prog 9 #[.agg #[.int .i64 R,.int .i64 C,.slice Aa na capa]] w (Gv w (Is (.bool true))):=by
 refine sx_enter Try.func9 rfl (n:=32) rfl (bq rfl) (args:= [.agg #[.int .i64 R,.int .i64 C,.slice Aa na capa]]) (cw_keep [(0,.agg #[.int .i64 R,.int .i64 C,.slice Aa na capa])] ⟨rfl,trivial⟩ (sr (bx [.int .i64 R,.int .i64 C,.slice Aa na capa] (Ext.refl w) rfl rfl rfl fun g1 v2 hb4 ge5 e3 hw1=>(mv 1 rfl (ne_ (cw_seq ?_))))))
 have h1:=hs.1
 have h3:=hs.2.1
 refine cw_region (pf g1 0 rfl (by kernel_rfl) (wl_load rfl rfl (load_cell cellInt hb4 rfl) (by decide) (wl_cmp rfl rfl rfl true (ci_ge_t hs.1.1) (by decide) (mv 1 rfl (pf g1 0 rfl (by kernel_rfl) (wl_load rfl rfl (load_cell cellInt hb4 rfl) (by decide) (wl_cmp rfl rfl rfl true (ci_le_t hs.1.2) (by decide) (pu (v:= .bool true) rfl (by kernel_rfl) (mv 1 rfl (pf g1 1 rfl (by kernel_rfl) (wl_load rfl rfl (load_cell cellInt hb4 rfl) (by decide) (wl_cmp rfl rfl rfl true (ci_ge_t hs.2.1.1) (by decide) (pu (v:= .bool true) rfl (by kernel_rfl) ?_)))))))))))))
 refine mv 1 rfl (pf g1 1 rfl (by kernel_rfl) (wl_load rfl rfl (load_cell cellInt hb4 rfl) (by decide) (wl_cmp rfl rfl rfl true (ci_le_t hs.2.1.2) (by decide) (pu (v:= .bool true) rfl (by kernel_rfl) (mv 1 rfl (pf g1 2 rfl (by kernel_rfl) (wl_load rfl rfl (load_cell cellInts hb4 rfl) (by decide) (pu (v:= .int .i64 ((na:Nat):Int)) rfl (by kernel_rfl) (pf g1 0 rfl (by kernel_rfl) (wl_load rfl rfl (load_cell cellInt hb4 rfl) (by decide) (pf g1 1 rfl (by kernel_rfl) (wl_load rfl rfl (load_cell cellInt hb4 rfl) (by decide) (wl_ar rfl rfl rfl (R*C) (ai_mulI hs.1 hs.2.1) (by decide) ?_)))))))))))))
 refine wl_cmp rfl rfl rfl true (ci_eq_t hs.2.2) (by decide) (pu (v:= .bool true) rfl (by kernel_rfl) (mv 1 rfl (ne_ (cw_ret (eo_ret [.bool true] rfl ⟨rfl,trivial⟩ ?_)))))
 exact⟨_,rfl,rfl,hw1⟩
set_option maxHeartbeats 4000000 in
set_option maxRecDepth 20000 in
theorem g_top_sound_f {w:World}{R C:Int}{na capa:Nat}{Aa:Option Addr}(hs:¬Snd R C na):
    Calls Try.prog 9 #[.agg #[.int .i64 R,.int .i64 C,.slice Aa na capa]] w (Gv w (Is (.bool false))):=by
 refine sx_enter Try.func9 rfl (n:=32) rfl (bq rfl) (args:= [.agg #[.int .i64 R,.int .i64 C,.slice Aa na capa]]) (cw_keep [(0,.agg #[.int .i64 R,.int .i64 C,.slice Aa na capa])] ⟨rfl,trivial⟩ (sr (bx [.int .i64 R,.int .i64 C,.slice Aa na capa] (Ext.refl w) rfl rfl rfl fun g1 v2 hb4 ge5 e3 hw1=>(mv 1 rfl (ne_ (cw_seq ?_))))))
 by_cases h0:R≥0
 · 
  by_cases h1:R≤64
  · 
   by_cases h2:C≥0
   · 
    by_cases h3:C≤64
    · 
     have hne:((na:Nat):Int)≠R*C:=fun e=>hs ⟨⟨h0,h1⟩,⟨h2,h3⟩,e⟩
     refine cw_region (pf g1 0 rfl (by kernel_rfl) (wl_load rfl rfl (load_cell cellInt hb4 rfl) (by decide) (wl_cmp rfl rfl rfl true (ci_ge_t h0) (by decide) (mv 1 rfl (pf g1 0 rfl (by kernel_rfl) (wl_load rfl rfl (load_cell cellInt hb4 rfl) (by decide) (wl_cmp rfl rfl rfl true (ci_le_t h1) (by decide) (pu (v:= .bool true) rfl (by kernel_rfl) (mv 1 rfl (pf g1 1 rfl (by kernel_rfl) (wl_load rfl rfl (load_cell cellInt hb4 rfl) (by decide) (wl_cmp rfl rfl rfl true (ci_ge_t h2) (by decide) (pu (v:= .bool true) rfl (by kernel_rfl) ?_)))))))))))))
     refine mv 1 rfl (pf g1 1 rfl (by kernel_rfl) (wl_load rfl rfl (load_cell cellInt hb4 rfl) (by decide) (wl_cmp rfl rfl rfl true (ci_le_t h3) (by decide) (pu (v:= .bool true) rfl (by kernel_rfl) (mv 1 rfl (pf g1 2 rfl (by kernel_rfl) (wl_load rfl rfl (load_cell cellInts hb4 rfl) (by decide) (pu (v:= .int .i64 ((na:Nat):Int)) rfl (by kernel_rfl) (pf g1 0 rfl (by kernel_rfl) (wl_load rfl rfl (load_cell cellInt hb4 rfl) (by decide) (pf g1 1 rfl (by kernel_rfl) (wl_load rfl rfl (load_cell cellInt hb4 rfl) (by decide) (wl_ar rfl rfl rfl (R*C) (ai_mulI ⟨h0,h1⟩ ⟨h2,h3⟩) (by decide) ?_)))))))))))))
     refine wl_cmp rfl rfl rfl false (ci_eq_f hne) (by decide) (pu (v:= .bool false) rfl (by kernel_rfl) (mv 1 rfl (ne_ (cw_ret (eo_ret [F0] rfl ⟨rfl,trivial⟩ ?_)))))
     exact⟨_,rfl,rfl,hw1⟩
    · 
     refine cw_region (pf g1 0 rfl (by kernel_rfl) (wl_load rfl rfl (load_cell cellInt hb4 rfl) (by decide) (wl_cmp rfl rfl rfl true (ci_ge_t h0) (by decide) (mv 1 rfl (pf g1 0 rfl (by kernel_rfl) (wl_load rfl rfl (load_cell cellInt hb4 rfl) (by decide) (wl_cmp rfl rfl rfl true (ci_le_t h1) (by decide) (pu (v:= .bool true) rfl (by kernel_rfl) (mv 1 rfl (pf g1 1 rfl (by kernel_rfl) (wl_load rfl rfl (load_cell cellInt hb4 rfl) (by decide) (wl_cmp rfl rfl rfl true (ci_ge_t h2) (by decide) (pu (v:= .bool true) rfl (by kernel_rfl) ?_)))))))))))))
     refine mv 1 rfl (pf g1 1 rfl (by kernel_rfl) (wl_load rfl rfl (load_cell cellInt hb4 rfl) (by decide) (wl_cmp rfl rfl rfl false (ci_le_f h3) (by decide) (pu (v:= .bool false) rfl (by kernel_rfl) (mv 10 rfl (pu (v:= .bool false) rfl (by kernel_rfl) (mv 1 rfl (ne_ (cw_ret (eo_ret [F0] rfl ⟨rfl,trivial⟩ ?_))))))))))
     exact⟨_,rfl,rfl,hw1⟩
   · 
    refine cw_region (pf g1 0 rfl (by kernel_rfl) (wl_load rfl rfl (load_cell cellInt hb4 rfl) (by decide) (wl_cmp rfl rfl rfl true (ci_ge_t h0) (by decide) (mv 1 rfl (pf g1 0 rfl (by kernel_rfl) (wl_load rfl rfl (load_cell cellInt hb4 rfl) (by decide) (wl_cmp rfl rfl rfl true (ci_le_t h1) (by decide) (pu (v:= .bool true) rfl (by kernel_rfl) (mv 1 rfl (pf g1 1 rfl (by kernel_rfl) (wl_load rfl rfl (load_cell cellInt hb4 rfl) (by decide) (wl_cmp rfl rfl rfl false (ci_ge_f h2) (by decide) (pu (v:= .bool false) rfl (by kernel_rfl) ?_)))))))))))))
    refine mv 4 rfl (pu (v:= .bool false) rfl (by kernel_rfl) (mv 10 rfl (pu (v:= .bool false) rfl (by kernel_rfl) (mv 1 rfl (ne_ (cw_ret (eo_ret [F0] rfl ⟨rfl,trivial⟩ ?_)))))))
    exact⟨_,rfl,rfl,hw1⟩
  · 
   refine cw_region (pf g1 0 rfl (by kernel_rfl) (wl_load rfl rfl (load_cell cellInt hb4 rfl) (by decide) (wl_cmp rfl rfl rfl true (ci_ge_t h0) (by decide) (mv 1 rfl (pf g1 0 rfl (by kernel_rfl) (wl_load rfl rfl (load_cell cellInt hb4 rfl) (by decide) (wl_cmp rfl rfl rfl false (ci_le_f h1) (by decide) (pu (v:= .bool false) rfl (by kernel_rfl) (mv 4 rfl (pu (v:= .bool false) rfl (by kernel_rfl) (mv 4 rfl (pu (v:= .bool false) rfl (by kernel_rfl) (mv 1 rfl ?_)))))))))))))
   refine mv 9 rfl (pu (v:= .bool false) rfl (by kernel_rfl) (mv 1 rfl (ne_ (cw_ret (eo_ret [F0] rfl ⟨rfl,trivial⟩ ?_)))))
   exact⟨_,rfl,rfl,hw1⟩
 · 
  refine cw_region (pf g1 0 rfl (by kernel_rfl) (wl_load rfl rfl (load_cell cellInt hb4 rfl) (by decide) (wl_cmp rfl rfl rfl false (ci_ge_f h0) (by decide) (mv 4 rfl (pu (v:= .bool false) rfl (by kernel_rfl) (mv 4 rfl (pu (v:= .bool false) rfl (by kernel_rfl) (mv 4 rfl (pu (v:= .bool false) rfl (by kernel_rfl) (mv 10 rfl (pu (v:= .bool false) rfl (by kernel_rfl) (mv 1 rfl (wl_nil ?_)))))))))))))
  refine eo_then (cw_ret (eo_ret [F0] rfl ⟨rfl,trivial⟩ ?_))
  exact⟨_,rfl,rfl,hw1⟩
theorem cellRows:∀w,(isAgg 72).run Try.prog w= .ok false w:=fun _=>by kernel_rfl
theorem cellNums:∀w,(isAgg 73).run Try.prog w= .ok false w:=fun _=>by kernel_rfl
theorem unRows:Try.prog.underlying 72=some (.slice 22):=Try.underlying72
structure Bl (lb:Nat) (w w':World):Prop where
 b:Below lb w w'
 l:lb≤w.heap.size
theorem Bl.size {lb:Nat}{w w':World}(h:Bl lb w w'):w.heap.size≤w'.heap.size:=h.b.size
theorem Bl.refl {lb:Nat}{w:World}(h:lb≤w.heap.size):Bl lb w w:=⟨Below.refl _ _,h⟩
theorem Bl.ext {lb:Nat}{a w w':World}(h:Bl lb a w) (e:Ext w w'):Bl lb a w':=⟨h.b.trans (e.below.mono (Nat.le_trans h.l h.b.size)),h.l⟩
theorem Bl.upd {lb g:Nat}{a w w':World}(h:Bl lb a w) (u:Upd g w w') (hg:lb≤g):Bl lb a w':=⟨h.b.grown u.by_ (Nat.le_trans h.l h.b.size) (fun k e=>by cases e;exact hg),h.l⟩
theorem Bl.updO {lb:Nat}{A:Option Addr}{a w w':World}(h:Bl lb a w) (u:UpdO A w w') (hg:∀p,A=some p→lb≤p.block):Bl lb a w':=
 ⟨h.b.grown u.by_ (Nat.le_trans h.l h.b.size) (fun k e=>by cases A with | none=>cases e | some p=>cases e;exact hg p rfl),h.l⟩
theorem Bl.toExt {lb:Nat}{a w w':World}(h:Bl lb w w') (e:Ext a w) (hl:a.heap.size≤lb):Ext a w':=⟨e.below.trans (h.b.mono hl)⟩
theorem Bk.bl {lb:Nat}{w w':World}{g:Nat}{t:TypeId}{vs:List Value}(h:Bk w g t vs) (e:Bl lb w w') (hg:g<lb):Bk w' g t vs:=(e.b.block g hg).trans h
section
variable {P:Program}{w w':World}{lb:Nat}{t:TypeId}{A:Option Addr}{n cap:Nat}{vs:List Value}
theorem Own.cellAt (h:Own w lb t 1 A n cap vs){i:Nat}(hi:i<n):∃p,A.map (·.add (i*1))=some p∧w.cell? p=some (vs.getD i undef):=by
 obtain⟨a,ha,hc⟩:=h.rv.get i (by omega)
 exact⟨a.add i,by rw [ha,Nat.mul_one];rfl,hc⟩
theorem Own.tailAt (h:Own w lb t 1 A n cap vs){lo i:Nat}(hi:lo+i<n):∃p,(if cap=lo then A else A.map (·.add (lo*1))).map (·.add (i*1))=some p∧w.cell? p=some (vs.getD (lo+i) undef):=by
 obtain⟨a,ha,hc⟩:=h.rv.get (lo+i) (by omega)
 have:=h.rv.le
 rw [if_neg (by omega),ha]
 exact⟨a.add (lo+i),by simp [add_of_add],hc⟩
theorem run_setO (h:Own w lb t 1 A n cap vs){T:TypeId}(hT:∀w,(sizeOf T).run P w= .ok 1 w){i:Nat}(hi:i<n){p:Addr}(hp:A.map (·.add (i*1))=some p){v:Value}(hv:v.cells= #[v]) (h1:v.oneCell'=true):
  ∃w',(storeVar T p v).run P w= .ok () w'∧Own w' lb t 1 A n cap (vs.set i v)∧UpdO A w w':=by
 rcases h with⟨rfl,_⟩ | ⟨g,cs,rfl,hg,hk,hn,hcm,hcl,hv2⟩
 ·cases hp
 ·have hp':p=⟨g,i,none⟩:=by
   injection hp with hp
   rw [←hp,Nat.mul_one]
   show (⟨g,0,none⟩:Addr).add i=_
   rw [add_lit0,Nat.zero_add]
  subst hp'
  obtain⟨w',hr,hb2,hu,hs⟩:=run_store1v (P:=P) hT hv hk (show i<cs.length by omega) h1 _ rfl
  refine⟨w',hr,Or.inr ⟨g,_,rfl,hg,hb2,hn,hcm,by rw [List.length_set];exact hcl,?_⟩,hu.updO⟩
  rw [←hv2,List.take_set]
end
def rwv (ra:Nat→Option Addr) (rc:Nat→Nat) (m r:Nat):Value:= .slice (ra r) m (rc r)
theorem getD_map_lt {α:Type}{ps:List α}{f:α→Value}{i:Nat}{d:α}(hi:i<ps.length):(ps.map f).getD i undef=f (ps.getD i d):=by
 simp [List.getD_eq_getElem?_getD,List.getElem?_map,List.getElem?_eq_getElem hi]
section
variable {w:World}{lb:Nat}{t:TypeId}{A:Option Addr}{n cap m:Nat}{ra:Nat→Option Addr}{rc:Nat→Nat}{ps:List Nat}{ns:List Int}
theorem Own.rowAt (h:Own w lb t 1 A n cap (ps.map (rwv ra rc m))){i:Nat}(hi:i<n):∃p,A.map (·.add (i*1))=some p∧w.cell? p=some (.slice (ra (ps.getD i 0)) m (rc (ps.getD i 0))):=by
 obtain⟨p,hp,hc⟩:=h.cellAt hi
 have hl:ps.length=n:=by simpa using h.rv.len
 rw [getD_map_lt (d:=0) (by omega)] at hc
 exact⟨p,hp,hc⟩
theorem Own.rowTail (h:Own w lb t 1 A n cap (ps.map (rwv ra rc m))){lo i:Nat}(hi:lo+i<n):∃p,(if cap=lo then A else A.map (·.add (lo*1))).map (·.add (i*1))=some p∧w.cell? p=some (.slice (ra (ps.getD (lo+i) 0)) m (rc (ps.getD (lo+i) 0))):=by
 obtain⟨p,hp,hc⟩:=h.tailAt hi
 have hl:ps.length=n:=by simpa using h.rv.len
 rw [getD_map_lt (d:=0) (by omega)] at hc
 exact⟨p,hp,hc⟩
theorem Own.numAt (h:Own w lb t 1 A n cap (ns.map I64)){i:Nat}(hi:i<n):∃p,A.map (·.add (i*1))=some p∧w.cell? p=some (.int .i64 (ns.getD i 0)):=by
 obtain⟨p,hp,hc⟩:=h.cellAt hi
 have hl:ns.length=n:=by simpa using h.rv.len
 rw [getD_map_lt (d:=0) (by omega)] at hc
 exact⟨p,hp,hc⟩
end
section
variable {P:Program}{w:World}{lb:Nat}{A:Option Addr}{n cap m:Nat}{ra:Nat→Option Addr}{rc:Nat→Nat}{ps:List Nat}{ns:List Int}{p:Addr}
theorem run_setRow (h:Own w lb 22 1 A n cap (ps.map (rwv ra rc m))){i:Nat}(hi:i<n) (hp:A.map (·.add (i*1))=some p) (x:Nat):
  ∃w',(storeVar 22 p (.slice (ra x) m (rc x))).run Try.prog w= .ok () w'∧Own w' lb 22 1 A n cap ((ps.set i x).map (rwv ra rc m))∧UpdO A w w':=by
 obtain⟨w',h1,h2,h3⟩:=run_setO (P:=Try.prog) h szInts hi hp (v:=rwv ra rc m x) rfl rfl
 rw [←List.map_set] at h2
 exact⟨w',h1,h2,h3⟩
theorem run_setNum (h:Own w lb 3 1 A n cap (ns.map I64)){i:Nat}(hi:i<n) (hp:A.map (·.add (i*1))=some p) (x:Int):
  ∃w',(storeVar 3 p (.int .i64 x)).run Try.prog w= .ok () w'∧Own w' lb 3 1 A n cap ((ns.set i x).map I64)∧UpdO A w w':=by
 obtain⟨w',h1,h2,h3⟩:=run_setO (P:=Try.prog) h szInt hi hp (v:=I64 x) rfl rfl
 rw [←List.map_set] at h2
 exact⟨w',h1,h2,h3⟩
end
def ent (Z:Mx) (r j:Nat) (x:Int):Mx:=fun a b=>if a=r∧b=j then x else Z a b
structure Rcs (K lb n m:Nat) (ra:Nat→Option Addr) (rc:Nat→Nat) (w:World) (Z:Mx):Prop where
 row:∀r,r<n→∃zs,Lz none K 0 w lb (ra r) m (rc r) zs∧∀j,j<m→zs.getD j 0=Z r j
 dis:∀r s,r<n→s<n→r≠s→∀p q,ra r=some p→ra s=some q→p.block≠q.block
section
variable {K lb n m:Nat}{ra:Nat→Option Addr}{rc:Nat→Nat}{w w':World}{Z:Mx}
theorem Rcs.ext (h:Rcs K lb n m ra rc w Z) (x:Ext w w'):Rcs K lb n m ra rc w' Z:=⟨fun r hr=>by obtain⟨zs,h1,h2⟩:=h.row r hr;exact⟨zs,h1.ext x,h2⟩,h.dis⟩
theorem Rcs.updT {g:Nat}{T:TypeId}{us:List Value}(h:Rcs K lb n m ra rc w Z) (hb:Bk w g T us) (x:Upd g w w') (hne:∀r,r<n→∀p,ra r=some p→p.block≠g) (hT:57≠T:=by decide):Rcs K lb n m ra rc w' Z:=
 ⟨fun r hr=>by obtain⟨zs,h1,h2⟩:=h.row r hr;exact⟨zs,h1.updT hb x (hne r hr) hT,h2⟩,h.dis⟩
theorem Lz.updQ {m:Option World}{K b lb:Nat}{w w':World}{A:Option Addr}{n cap:Nat}{zs:List Int}{B:Option Addr}{lb' c k s:Nat}{T:TypeId}{us:List Value}(h:Lz m K b w lb A n cap zs) (ho:Own w lb' T s B k c us) (x:UpdO B w w') (hne:∀p q,B=some p→A=some q→p.block≠q.block) (hT:57≠T:=by decide):Lz m K b w' lb A n cap zs:=by
 obtain⟨es,h1,h2,h3,h4⟩:=h
 exact⟨es,h1.updO x hne,h2,h3,fun i hi=>⟨(h4 i hi).1,(h4 i hi).2.updOT ho x hT⟩⟩
theorem Rcs.updQ {B:Option Addr}{lb' c k s:Nat}{T:TypeId}{us:List Value}(h:Rcs K lb n m ra rc w Z) (ho:Own w lb' T s B k c us) (x:UpdO B w w') (hne:∀r,r<n→∀p q,B=some p→ra r=some q→p.block≠q.block) (hT:57≠T:=by decide):Rcs K lb n m ra rc w' Z:=
 ⟨fun r hr=>by obtain⟨zs,h1,h2⟩:=h.row r hr;exact⟨zs,h1.updQ ho x (hne r hr) hT,h2⟩,h.dis⟩
theorem Rcs.lt (h:Rcs K lb n m ra rc w Z):∀r,r<n→∀p,ra r=some p→lb≤p.block∧p.block<w.heap.size:=fun r hr p hp=>by
 obtain⟨zs,h1,_⟩:=h.row r hr
 exact h1.block p hp
theorem Rcs.own (h:Rcs K lb n m ra rc w Z){r:Nat}(hr:r<n):∃us,Own w lb 34 2 (ra r) m (rc r) us:=by
 obtain⟨zs,h1,_⟩:=h.row r hr
 exact h1.own
theorem Rcs.at (h:Rcs K lb n m ra rc w Z){r j:Nat}(hr:r<n) (hj:j<m):
  ∃p s B k c,(ra r).map (·.add (j*2))=some p∧(∀w',Ext w w'→∀(P:Program) (T:TypeId),AggT P T 2→(loadVar T p).run P w'= .ok (.agg #[.bool s,.slice B k c]) w')∧k≤K∧Zr w 0 s B k c (Z r j):=by
 obtain⟨zs,h1,h2⟩:=h.row r hr
 obtain⟨p,s,B,k,c,hp,ld,hk,he⟩:=h1.at hj
 exact⟨p,s,B,k,c,hp,ld,hk,by rw [←h2 j hj];exact he.zr⟩
end
section
variable {Q:Exit→Act→World→Prop}{N:Nat}{l:Fr}{w:World}{ops:Array Oper}{rest:List Oper}{ty:TypeId}{pos:String}{af:Array Edge}{gd:Option (Nat×Bool)}
theorem wl_setR {K lb n m:Nat}{ra:Nat→Option Addr}{rc:Nat→Nat}{Z:Mx}{r j:Nat}{x y:Operand}{p:Addr}{e:ZC}{z:Int}(hw:guardB ops l gd=some true) (hx:evo l x=some (.pointer (some p))) (hy:evo l y=some (.agg #[.bool e.s,.slice e.A e.n e.c]))
  (h:Rcs K lb n m ra rc w Z) (hr:r<n) (hj:j<m) (hp:(ra r).map (·.add (j*2))=some p) (he:Zr w 0 e.s e.A e.n e.c z) (hK:e.n≤K)
  (k:∀w',Rcs K lb n m ra rc w' (ent Z r j z)→UpdO (ra r) w w'→wl Try.prog ops Q N rest l w'):
  wl Try.prog ops Q N (⟨none,.store 34 x y,ty,pos,af,gd⟩::rest) l w:=by
 obtain⟨zs,h1,h2⟩:=h.row r hr
 obtain⟨us,ho⟩:=h1.own
 refine wl_setI (e:=e) (z:=z) hw hx hy hp hj h1 (Or.inl he) hK fun w' h3 hu=>k w' ⟨fun s hs=>?_,h.dis⟩ hu
 by_cases e1:s=r
 ·subst e1
  refine⟨_,h3,fun b hb=>?_⟩
  rw [getD_set (by rw [h1.len];exact hj)]
  unfold ent
  by_cases e2:b=j
  ·rw [if_pos e2,if_pos ⟨rfl,e2⟩]
  ·rw [if_neg e2,if_neg (fun q=>e2 q.2)];exact h2 b hb
 ·obtain⟨ys,h4,h5⟩:=h.row s hs
  refine⟨ys,h4.updO ho hu (h.dis r s hr hs (fun q=>e1 q.symm)),fun b hb=>?_⟩
  unfold ent
  rw [if_neg (fun q=>e1 q.1)];exact h5 b hb
end
structure Apt (lb n g:Nat) (RA NA:Option Addr) (ra:Nat→Option Addr):Prop where
 lg:lb≤g
 Rg:∀p,RA=some p→p.block≠g
 Ng:∀p,NA=some p→p.block≠g
 rg:∀r,r<n→∀p,ra r=some p→p.block≠g
 RN:∀p q,RA=some p→NA=some q→p.block≠q.block
 Rr:∀r,r<n→∀p q,RA=some p→ra r=some q→p.block≠q.block
 Nr:∀r,r<n→∀p q,NA=some p→ra r=some q→p.block≠q.block
def Fld (lb n g:Nat) (RA NA:Option Addr) (rcap ncap:Nat) (ra:Nat→Option Addr) (rc:Nat→Nat) (ps:List Nat) (Z:Mx) (tu:Bool) (z:Int) (t:Nat) (w:World):Prop:=
 ∃sl Al nl cl,∃ns:List Int,Bk w g 75 [.slice RA n rcap,.slice NA n ncap,.bool tu,.bool sl,.slice Al nl cl,.int .i64 (t:Int)]∧Zr w 0 sl Al nl cl z∧
  Own w lb 22 1 RA n rcap (ps.map (rwv ra rc n))∧Own w lb 3 1 NA n ncap (ns.map I64)∧Rcs 17179869184 lb n n ra rc w Z
end Go.Proofs.Ytgekkehpljbklaa
