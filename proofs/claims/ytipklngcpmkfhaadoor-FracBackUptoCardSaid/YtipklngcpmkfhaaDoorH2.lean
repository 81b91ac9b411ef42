/- Parts LongB, DivC, Gcd, Int, Same, Sxz, Sxl, Sxw, IntB, IntC, IntD, IntE, IntF, Pop, Small, Zg, Sxb, Ab, Upto, Stays, Zs, UptoZ, Cont, Near, Frac, App, Sxk, Sxf, Rx, Bo, Rxa, Zh, Bz, Li, Rxb, Rxc, Law5d, joined. -/
import Derived.Test.YtipklngcpmkfhaaDoorH1
import Derived.IntWalk
import Derived.KernelRfl
import Derived.Test.YtipklngcpmkfhaaDoorRows
import Derived.WalkKit
import Derived.ProofKit
import Derived.OpenShut
import Derived.JoinedCond
import Derived.ChangeSame
import Derived.ChangeSlices
import Derived.ChangeStays
import Derived.Deep.Slices
import Derived.DataShut
import Derived.ArgAppend
import Derived.WalkSmall
import Derived.Laws.BytesString
import Derived.Laws.Concat

namespace Go.Proofs.YtipklngcpmkfhaaDoor
open Go.RowKit
theorem guess_quiet {u2 u1 u0 v1 v0 D:Nat}(h2:u2≤v1) (h1:u1≤18446744073709551615) (h0:u0≤18446744073709551615) (hv1:v1≤18446744073709551615) (hv0:v0≤18446744073709551615) (hpos:0<v1)
  (k1:D≤18446744073709551615) (k2:D*(v1*WB+v0)≤(u2*WB+u1)*WB+u0) (k3:D=18446744073709551615∨(u2*WB+u1)*WB+u0<(D+1)*(v1*WB+v0)) (w:World) (n:Nat):
  Calls Tryd.prog 117 #[.int .u64 (u2:Int),.int .u64 (u1:Int),.int .u64 (u0:Int),.int .u64 (v1:Int),.int .u64 (v0:Int)] (w.drewN n) (fun e w''=>e= .returned (.int .u64 (D:Int))∧∃m,w''=w.drewN m):=by
 refine Calls.quiet_of ((divnat_guess h2 h1 h0 hv1 hv0 hpos (w.drewN n)).mono ?_)
 rintro e w' ⟨d,rfl,a,b,c,m,rfl⟩
 rw [guess_only a b.out c.out k1 k2 k3]
 exact⟨rfl,m,rfl⟩
theorem lt_of_drop {l l1:List Nat}{K:Nat}(hl:K≤l.length) (hl1:K≤l1.length) (hw:Wf l1) (hd:l1.drop K=l.drop K) (h:nv l<WB^K):nv l1<WB^K:=by
 have e1:=nv_split l K hl
 have e2:=nv_split l1 K hl1
 have h3:=nv_take_lt hw K
 rw [hd] at e2
 rcases Nat.eq_zero_or_pos (nv (l.drop K)) with h0 | h0
 ·rw [h0,Nat.mul_zero] at e2;omega
 ·have:=Nat.le_mul_of_pos_right (WB^K) h0
  omega
set_option maxRecDepth 10000 in
set_option maxHeartbeats 8000000 in
theorem divnat_longA {w:World}{A B:Option Addr}{N cap n cap':Nat}{xs ys:List Nat}(hx:Rd w A N cap xs) (hN:N≤274877906944) (hy:Rd w B n cap' ys) (hn:2≤n) (hnN:n≤N) (htop:ys.getD (n-1) 0≠0):
  Calls Tryd.prog 104 #[.slice A N cap,.slice B n cap'] w (RetQRA w (nv xs/nv ys) (nv xs%nv ys)):=by
 obtain⟨b,y,rfl,hyk,hyb,hcy⟩:=hy.get (i:=n-1) (by omega)
 have hlx:=Lib.hid hx.len
 have hly:=Lib.hid hy.len
 have hyp:(0:Int)<(n:Int):=by omega
 go_enter Tryd.func104,Tryd.ntmps104
 go_wp2_with fail
 refine (bits_LeadingZeros64 y hyb _).mono ?_
 rintro e w' ⟨s,hs,hs64',rfl,rfl⟩
 have hstart:=long_start hx.wf hy.wf hlx.out hly.out (by omega) hnN hyk.out (by rw [←hyk.out];exact htop) hyb hs.out
 obtain⟨hs64,hVfit,hUfit,hVpos,hVlow,hUV⟩:=hstart
 have HVfit:=Lib.hid hVfit
 have HUfit:=Lib.hid hUfit
 have HVpos:=Lib.hid hVpos
 have HVlow:=Lib.hid hVlow
 have HUV:=Lib.hid hUV
 clear hVfit hUfit hVpos hVlow hUV htop
 go_wp2_with fail
 refine (divnat_shifted hy (by omega) hs64 (by omega) (Nat.le_refl _) HVfit.out).mono ?_
 rintro e w1 ⟨gv,vs,rfl,hgv,hbv,hwv,hlv,hvv,hx1⟩
 go_wp2_with fail
 refine (divnat_shifted (n:=N+1) (hx.ext hx1) (by omega) hs64 (by omega) (by omega) HUfit.out).mono ?_
 rintro e w2 ⟨gu,us,rfl,hgu,hbu,hwu,hlu,hvu,hx2⟩
 obtain⟨M,hM1,hM2⟩:∃M,M+n≤N+1∧N+1≤M+n:=⟨N+1-n,by omega,by omega⟩
 have hmk:=run_make1 (P:=Tryd.prog) Tryd.underlying22 info64 rfl (by decide) ((N:Int)-(n:Int)+1) (by omega) (by omega)
 have et:((N:Int)-(n:Int)+1).toNat=M:=by omega
 rw [et] at hmk
 clear et
 go_wp2_with fail
 clear hmk
 have hbv2:=hbv.ext hx2
 have hguv:gv<gu:=Nat.lt_of_lt_of_le hbv.lt hgu
 obtain⟨gq,hgq⟩:∃gq,w2.heap.size=gq:=⟨_,rfl⟩
 rw [hgq]
 have hguq:gu<gq:=by rw [←hgq];exact hbu.lt
 obtain⟨wa,hwa⟩:∃wa,w2.alloc (.cells (zc (.int .u64 0) M) 50)=wa:=⟨_,rfl⟩
 rw [hwa]
 have hbq:Bk wa gq 50 ((List.replicate M 0).map W64):=by
  rw [←hwa,←hgq,←replicate_W64];exact Bk.new' _ _ _
 have hea:Ext w2 wa:=by rw [←hwa];exact (Ext.refl w2).alloc _
 have hgw:w.heap.size≤gv:=hgv
 have hgw2:w.heap.size≤gu:=by omega
 have hgw3:w.heap.size≤gq:=by omega
 have hbva:=hbv2.ext hea
 have hbua:=hbu.ext hea
 have hexa:Ext w wa:=(hx1.trans hx2).trans hea
 clear hgq hwa hbv hbu hbv2 hea hcy
 have hL0:Hid (Lg (nv ys*2^s) (nv xs*2^s) M us (List.replicate M 0)):=by
  refine⟨?_,?_⟩
  ·rw [List.drop_of_length_le (by rw [List.length_replicate];exact Nat.le_refl _),hvu.out];simp [nv]
  ·rw [hvu.out,show M=N+1-n from by omega];exact HUV.out
 have hv1:Hid (0<vs.getD (n-1) 0):=by
  refine Nat.pos_of_ne_zero (fun h0=>?_)
  have e1:=nv_take_zero vs (n-1) (by rw [hlv.out];omega) h0
  rw [Nat.sub_add_cancel (by omega),List.take_of_length_le (by rw [hlv.out];exact Nat.le_refl _),hvv.out] at e1
  have e2:=nv_take_lt hwv (n-1)
  have:=HVlow.out
  omega
 go_loopw [11] (fun u wr=>∃(k:Nat) (l ql:List Nat),k≤M∧u= .int .i64 ((k:Int)-1)∧Hid (l.length=N+1)∧Wf l∧Hid (ql.length=M)∧Wf ql∧Bk wr gv 50 (vs.map W64)∧Bk wr gu 50 (l.map W64)∧Bk wr gq 50 (ql.map W64)∧
  Hid (Lg (nv ys*2^s) (nv xs*2^s) k l ql)∧Ext w wr) (fun u wr=>(intOf u+1).toNat)
 case atStart=>exact⟨M,us,_,Nat.le_refl _,val_int (by omega),hlu,hwu,List.length_replicate,Wf_zeros _,hbva,hbua,hbq,hL0,hexa⟩
 case round=>
  obtain⟨k,l,ql,hk,rfl,hll,hwl,hlq,hwq,hbv,hbu,hbq',hL,hr⟩:=hrel
  clear hbva hbua hbq hexa hL0 hlu hvu
  by_cases hk0:0<k
  ·obtain⟨j,rfl⟩:∃j,k=j+1:=⟨k-1,by omega⟩
   have ek:((j+1:Nat):Int)-1=(j:Int):=by omega
   rw [ek]
   obtain⟨u2,hu2k,hu2b,hcu2⟩:=hbu.word hwl (i:=j+n) (by rw [hll.out];omega)
   obtain⟨u1,hu1k,hu1b,hcu1⟩:=hbu.word hwl (i:=j+n-1) (by rw [hll.out];omega)
   obtain⟨u0,hu0k,hu0b,hcu0⟩:=hbu.word hwl (i:=j+n-2) (by rw [hll.out];omega)
   obtain⟨v1,hv1k,hv1b,hcv1⟩:=hbv.word hwv (i:=n-1) (by rw [hlv.out];omega)
   obtain⟨v0,hv0k,hv0b,hcv0⟩:=hbv.word hwv (i:=n-2) (by rw [hlv.out];omega)
   have hgs:=fun d=>long_guess (d:=d) hL.out hn (by rw [hll.out];omega) hwl hlv.out hwv hvv.out hv1.out
   rw [hu2k.out,hu1k.out,hu0k.out,hv1k.out,hv0k.out] at hgs
   have hu2v:u2≤v1:=(hgs 0).2.1
   have hv1p:0<v1:=by rw [←hv1k.out];exact hv1.out
   have HGS:=Lib.hid hgs
   clear hgs
   have hfin:∀(q:Nat) (l2:List Nat) (wr2:World),q=nv l/(WB^j*(nv ys*2^s))→nv l2=nv l%(WB^j*(nv ys*2^s))→q≤18446744073709551615→l2.length=N+1→Wf l2→Bk wr2 gv 50 (vs.map W64)→Bk wr2 gu 50 (l2.map W64)→Bk wr2 gq 50 ((ql.set j q).map W64)→Ext w wr2→
     ∃(k:Nat) (l ql:List Nat),k≤M∧Value.int .i64 ((j:Int)-1)= .int .i64 ((k:Int)-1)∧Hid (l.length=N+1)∧Wf l∧Hid (ql.length=M)∧Wf ql∧Bk wr2 gv 50 (vs.map W64)∧Bk wr2 gu 50 (l.map W64)∧Bk wr2 gq 50 (ql.map W64)∧
      Hid (Lg (nv ys*2^s) (nv xs*2^s) k l ql)∧Ext w wr2:=by
    intro q l2 wr2 h1 h2 h3 h4 h5 h6 h7 h8 h9
    exact⟨j,l2,ql.set j q,by omega,rfl,h4,h5,(show _=_ by rw [List.length_set];exact hlq.out),Wf_set hwq j (by rw [WB_def];omega),h6,h7,h8,hL.out.step (by rw [hlq.out];omega) HVpos.out h1 h2,h9⟩
   have FIN:=Lib.hid hfin
   clear hfin
   go_upto_region 9 with (fail)
   obtain⟨d,hdb,hd1,hd2⟩:=guess_is ((u2*WB+u1)*WB+u0) (v1*WB+v0) (by rw [WB_def];omega)
   have hdd:=Lib.hid ((HGS.out d).2.2 hdb hd1 hd2)
   have HLT:=Lib.hid (HGS.out d).1
   have HD1:=Lib.hid hd1
   have HD2:=Lib.hid hd2
   clear hd1 hd2 HGS
   have w1e:IntKind.i64.wrap ((j:Int)+(n:Int))=(j:Int)+(n:Int):=IntWalk.i64_in _ (by omega)
   have w2e:IntKind.i64.wrap ((j:Int)+(n:Int)-1)=(j:Int)+(n:Int)-1:=IntWalk.i64_in _ (by omega)
   have w3e:IntKind.i64.wrap ((j:Int)+(n:Int)-2)=(j:Int)+(n:Int)-2:=IntWalk.i64_in _ (by omega)
   have w4e:IntKind.i64.wrap ((n:Int)-1)=(n:Int)-1:=IntWalk.i64_in _ (by omega)
   have w5e:IntKind.i64.wrap ((n:Int)-2)=(n:Int)-2:=IntWalk.i64_in _ (by omega)
   have t1:((j:Int)+(n:Int)).toNat=j+n:=by omega
   have t2:((j:Int)+(n:Int)-1).toNat=j+n-1:=by omega
   have t3:((j:Int)+(n:Int)-2).toNat=j+n-2:=by omega
   have t4:((n:Int)-1).toNat=n-1:=by omega
   have t5:((n:Int)-2).toNat=n-2:=by omega
   have b1:0≤(j:Int)+(n:Int):=by omega
   have b2:0≤(j:Int)+(n:Int)-1:=by omega
   have b3:0≤(j:Int)+(n:Int)-2:=by omega
   have b4:0≤(n:Int)-1:=by omega
   have b5:0≤(n:Int)-2:=by omega
   have c1:(j:Int)+(n:Int)<(N:Int)+1:=by omega
   have c2:(j:Int)+(n:Int)-1<(N:Int)+1:=by omega
   have c3:(j:Int)+(n:Int)-2<(N:Int)+1:=by omega
   have c4:(n:Int)-1<(n:Int):=by omega
   have c5:(n:Int)-2<(n:Int):=by omega
   go_quiet (exact guess_quiet hu2v hu1b hu0b hv1b hv0b hv1p hdb HD1.out HD2.out _ _)
   clear w1e w2e w3e w4e w5e t1 t2 t3 t4 t5 b1 b2 b3 b4 b5 c1 c2 c3 c4 c5
   obtain⟨wd,hwd⟩:∃wd,wr.drewN nq=wd:=⟨_,rfl⟩
   rw [hwd]
   have hbu1:Bk wd gu 50 (l.map W64):=by rw [←hwd];exact hbu.drewN nq
   have hbv1:Bk wd gv 50 (vs.map W64):=by rw [←hwd];exact hbv.drewN nq
   have hbq1:Bk wd gq 50 (ql.map W64):=by rw [←hwd];exact hbq'.drewN nq
   have hr1:Ext w wd:=by rw [←hwd];exact hr.drewN nq
   clear hwd hcu2 hcu1 hcu0 hcv1 hcv0
   have hvrd:=hbv1.rd hwv (o:=0) (n:=n) (cap:=n) (Nat.le_refl _) (by rw [hlv.out];omega) (by rw [len_maxLen];omega)
   rw [List.drop_zero,List.take_of_length_le (by rw [hlv.out];exact Nat.le_refl _)] at hvrd
   go_wp2_with fail
   rw [show j+n+1-j=n+1 from by omega]
   refine (divnat_take (o:=j) (m:=n) hbu1 hwl hvrd (fun a ha=>by cases ha;show gv≠gu;omega) (by rw [hll.out];omega) (by omega) (by omega) hdb).mono ?_
   rintro e w4 ⟨bb,rfl,l1,c,hb4,hw4,hll4,hdr4,hc4,hP4,hu4⟩
   have hll4':Hid (l1.length=N+1):=(show _=_ by rw [hll4.out,hll.out])
   have hL1:Hid (nv l1<WB^(j+n+1)):=lt_of_drop (by rw [hll.out];omega) (by rw [hll4'.out];omega) hw4 hdr4.out HLT.out
   have hcase:=long_case (D:=WB^j*(nv ys*2^s)) (Nat.mul_pos (Nat.pow_pos WB_pos) HVpos.out) hdd.out.1 hdd.out.2 HLT.out hL1.out (by
    have h:=hP4.out.2
    rw [hvv.out,Nat.mul_left_comm] at h
    exact h) hc4
   have hbc:=hP4.out.1
   have hbv4:=hbv1.upd hu4 (by omega)
   have hbq4:=hbq1.upd hu4 (by omega)
   have hr4:=hu4.ext hr1 hgw2
   have hbb:bb=false∧c=0∨bb=true∧c=1:=by
    rcases bb with _ | _
    ·left;refine⟨rfl,?_⟩;simp at hbc;omega
    ·right;exact⟨rfl,hbc.1 rfl⟩
   clear hP4 hbc hc4 hbv hbu hbq' hbu1 hbv1 hbq1 hr hr1 hvrd
   rcases hbb with⟨rfl,hc⟩ | ⟨rfl,hc⟩
   ·have h0:=Lib.hid (hcase.1 hc)
    clear hcase hc
    obtain⟨z,hz,_,hcz⟩:=hbq4.word hwq (i:=j) (by rw [hlq.out];omega)
    have hfz:=hbq4.frozen j
    have hjM:(j:Int)<(M:Int):=by omega
    go_wp2_with fail
    go_roundw
    case rel=>exact FIN.out d l1 _ h0.out.1 h0.out.2 hdb hll4'.out hw4 (hbv4.far (by show gv≠gq;omega) _) (hb4.far (by show gu≠gq;omega) _) (by rw [←map_W64_set];exact hbq4.set _ _) (hr4.setCell hgw3 _)
    case measure=>simp [intOf]
   ·have h0:=Lib.hid (hcase.2 hc)
    clear hcase hc
    obtain⟨q,rfl⟩:∃q,d=q+1:=⟨_,h0.out.1⟩
    have hq:Hid (q=nv l/(WB^j*(nv ys*2^s))):=(show _=_ from Nat.succ.inj h0.out.1)
    have hvrd:=hbv4.rd hwv (o:=0) (n:=n) (cap:=n) (Nat.le_refl _) (by rw [hlv.out];omega) (by rw [len_maxLen];omega)
    rw [List.drop_zero,List.take_of_length_le (by rw [hlv.out];exact Nat.le_refl _)] at hvrd
    go_wp2_with fail
    rw [show j+n+1-j=n+1 from by omega]
    refine (divnat_give (o:=j) (m:=n) hb4 hw4 hvrd (fun a ha=>by cases ha;show gv≠gu;omega) (by rw [hll4'.out];omega) (by omega) (by omega)).mono ?_
    rintro e w5 ⟨rfl,l2,c2,hb5,hw5,hll5,hdr5,hc5,hP5,hu5⟩
    have hll5':Hid (l2.length=N+1):=(show _=_ by rw [hll5.out,hll4'.out])
    have hL2:Hid (nv l2<WB^(j+n+1)):=lt_of_drop (by rw [hll4'.out];omega) (by rw [hll5'.out];omega) hw5 hdr5.out hL1.out
    have hfin2:Hid (nv l2=nv l%(WB^j*(nv ys*2^s))):=h0.out.2 (nv l2) c2 hc5 hL2.out (by have h:=hP5.out;rw [hvv.out] at h;exact h)
    have hbv5:=hbv4.upd hu5 (by omega)
    have hbq5:=hbq4.upd hu5 (by omega)
    have hr5:=hu5.ext hr4 hgw2
    clear hP5 hc5 hbv4 hbq4 hr4 hb4 hvrd h0
    obtain⟨z,hz,_,hcz⟩:=hbq5.word hwq (i:=j) (by rw [hlq.out];omega)
    have hfz:=hbq5.frozen j
    have hjM:(j:Int)<(M:Int):=by omega
    go_wp2_with fail
    go_roundw
    case rel=>exact FIN.out q l2 _ hq.out hfin2.out (by omega) hll5'.out hw5 (hbv5.far (by show gv≠gq;omega) _) (hb5.far (by show gu≠gq;omega) _) (by rw [←map_W64_set];exact hbq5.set _ _) (hr5.setCell hgw3 _)
    case measure=>simp [intOf]
  ·obtain rfl:k=0:=by omega
   have ek:((0:Nat):Int)-1= -1:=rfl
   rw [ek]
   have hLv:Hid (nv l<nv ys*2^s):=by
    have:=hL.out.lt
    rw [Nat.pow_zero,Nat.mul_one] at this
    exact this
   have hQ:=long_end (X:=nv xs) (Y:=nv ys) (s:=s) (Q:=nv ql) (L:=nv l) (Nat.pos_of_mul_pos_right HVpos.out) (by have:=hL.out.eq;simpa using this) hLv.out
   have hln:Hid (nv (l.take n)=nv l):=by
    show _=_
    have e1:=nv_split l n (by rw [hll.out];omega)
    rcases Nat.eq_zero_or_pos (nv (l.drop n)) with h0 | h0
    ·rw [h0,Nat.mul_zero,Nat.add_zero] at e1;exact e1.symm
    ·have:=Nat.le_mul_of_pos_right (WB^n) h0
     have h2:=hLv.out
     have h3:=HVfit.out
     omega
   have HQ:=Lib.hid hQ
   clear hQ
   have hurd:=hbu.rd hwl (o:=0) (n:=n) (cap:=N+1) (by omega) (by rw [hll.out];omega) (by rw [len_maxLen];omega)
   rw [List.drop_zero] at hurd
   go_wp2_with fail
   refine (nat_Shr hurd (by omega) (by omega)).mono ?_
   rintro e w6 ⟨A6,n6,c6,rfl,hn6,hr6,ho6,hx6⟩
   rw [hln.out,HQ.out.2] at hn6 hr6 ho6
   have hqrd:=(hbq'.ext hx6).rd hwq (o:=0) (n:=M) (cap:=M) (Nat.le_refl _) (by rw [hlq.out];omega) (by rw [len_maxLen];omega)
   rw [List.drop_zero,List.take_of_length_le (by rw [hlq.out];exact Nat.le_refl _)] at hqrd
   go_wp2_with fail
   refine (nat_Least hqrd (by omega)).mono ?_
   rintro e w7 ⟨A7,n7,c7,rfl,hn7,hr7,ho7,hx7⟩
   rw [HQ.out.1] at hn7 hr7 ho7
   go_wp2_with fail
   go_ret2
   exact⟨A7,n7,c7,A6,n6,c6,rfl,hn7,hr7,ho7.mono (hr.trans hx6).size,hn6,hr6.ext hx7,(ho6.mono hr.size).ext hx7,(hr.trans hx6).trans hx7,fun p p' hp hp'=>by have h1:=ho7.block p hp;have h2:=ho6.block p' hp';omega⟩
def RetQRE (w:World) (q r:Nat) (er:Int) (e:Ending) (w':World):Prop:=
 ∃A n cap B m cap',e= .returned (.tuple #[.slice A n cap,.slice B m cap',.int .i64 er])∧Hid (n=(wd q).length)∧Rd w' A n cap (wd q)∧Own w' w.heap.size 50 1 A n cap ((wd q).map W64)∧
  Hid (m=(wd r).length)∧Rd w' B m cap' (wd r)∧Own w' w.heap.size 50 1 B m cap' ((wd r).map W64)∧Ext w w'
def RetQREA (w:World) (q r:Nat) (er:Int) (e:Ending) (w':World):Prop:=
 ∃A n cap B m cap',e= .returned (.tuple #[.slice A n cap,.slice B m cap',.int .i64 er])∧Hid (n=(wd q).length)∧Rd w' A n cap (wd q)∧Own w' w.heap.size 50 1 A n cap ((wd q).map W64)∧
  Hid (m=(wd r).length)∧Rd w' B m cap' (wd r)∧Own w' w.heap.size 50 1 B m cap' ((wd r).map W64)∧Ext w w'∧∀p p',A=some p→B=some p'→p.block≠p'.block
theorem RetQREA.old {w:World}{q r:Nat}{er:Int}{e:Ending}{w':World}(h:RetQREA w q r er e w'):RetQRE w q r er e w':=by
 obtain⟨A,n,cap,B,m,cap',h1,h2,h3,h4,h5,h6,h7,h8,_⟩:=h
 exact⟨A,n,cap,B,m,cap',h1,h2,h3,h4,h5,h6,h7,h8⟩
theorem wd_top {m:Nat}(h:m≠0):(wd m).getD ((wd m).length-1) 0≠0:=by
 intro h0
 have hl:0<(wd m).length:=Nat.pos_of_ne_zero (fun e=>h (len_wd_zero.1 e))
 have e1:=nv_take_zero (wd m) ((wd m).length-1) (by omega) h0
 rw [Nat.sub_add_cancel (by omega),List.take_of_length_le (Nat.le_refl _),nv_wd] at e1
 have h2:=nv_take_lt (Wf_wd m) ((wd m).length-1)
 have h3:=pow_len_le h
 omega
theorem wd_len_one {m v:Nat}(h:1=(wd m).length) (hv:(wd m).getD 0 0=v):m=v:=by
 have e1:=nv_take_snoc (wd m) 0 (by omega)
 rw [List.take_of_length_le (by omega),nv_wd,hv] at e1
 simpa [nv] using e1
theorem divnat_DivModA {w:World}{A B:Option Addr}{n cap n' cap':Nat}{xs ys:List Nat}(hx:Rd w A n cap xs) (hl:n≤274877906944) (hy:Rd w B n' cap' ys) (hl':n'≤274877906944) (h0:nv ys≠0):
  Calls Tryd.prog 84 #[.slice A n cap,.slice B n' cap'] w (RetQREA w (nv xs/nv ys) (nv xs%nv ys) 0):=by
 go_enter Tryd.func84,Tryd.ntmps84
 go_wp2_with fail
 refine (nat_Least hy (by omega)).mono ?_
 rintro e w1 ⟨A1,n1,c1,rfl,hn1,hr1,ho1,hx1⟩
 have hn1p:0<n1:=by
  rw [hn1.out];exact Nat.pos_of_ne_zero (fun e=>h0 (len_wd_zero.1 e))
 have hn1b:n1≤n':=by
  have:=len_wd_nv hy.wf
  rw [hn1.out,←hy.len];exact this
 have b0:((n1:Int)==0)=false:=by simp;omega
 by_cases h1:n1=1
 ·subst h1
  obtain⟨a,v,rfl,hvk,hvb,hcv⟩:=hr1.get (i:=0) (by omega)
  have hv:Hid (nv ys=v):=wd_len_one hn1.out hvk.out
  have hcv0:w1.cell? a=some (.int .u64 (v:Int)):=by simpa [Addr.add] using hcv
  go_wp2_with fail
  refine (divnat_Word (hx.ext hx1) (by omega) (v:=v) (by rw [←hv.out];exact h0) hvb).mono ?_
  rintro e w2 ⟨A2,n2,c2,r,rfl,hr,hrb,hn2,hr2,ho2,hx2⟩
  go_wp2_with fail
  have hone:=Rd.one w2 hrb
  refine (nat_Least hone (by omega)).mono ?_
  rintro e w3 ⟨A3,n3,c3,rfl,hn3,hr3,ho3,hx3⟩
  rw [nv_one,hr.out,←hv.out] at hn3 hr3 ho3
  rw [←hv.out] at hn2 hr2 ho2
  have hal:Ext w2 w3:=((Ext.refl w2).alloc _).trans hx3
  go_wp2_with fail
  go_ret3
  exact⟨A2,n2,c2,A3,n3,c3,rfl,hn2,hr2.ext hal,(ho2.mono hx1.size).ext hal,hn3,hr3,ho3.mono (Nat.le_trans (hx1.trans hx2).size (by simp)),(hx1.trans hx2).trans hal,fun p p' hp hp'=>by have h1:=ho2.block p hp;have h2:=ho3.block p' hp';simp only [World.alloc,Array.size_push] at h2;omega⟩
 ·have b1:((n1:Int)==1)=false:=by simp;omega
  go_wp2_with fail
  refine (nat_Least (hx.ext hx1) (by omega)).mono ?_
  rintro e w2 ⟨A2,n2,c2,rfl,hn2,hr2,ho2,hx2⟩
  have hn2b:n2≤n:=by
   have:=len_wd_nv hx.wf
   rw [hn2.out,←hx.len];exact this
  go_wp2_with fail
  refine (nat_Cmp hr2 (by omega) (hr1.ext hx2) (by omega)).mono ?_
  rintro e w3 ⟨c,hc,hcl,hch,rfl,hx3⟩
  rw [nv_wd,nv_wd] at hc
  by_cases hlt:nv xs<nv ys
  ·have hneg:c<0:=by rw [hc.out];exact cmp3_neg.2 hlt
   go_wp2_with fail
   go_ret3
   rw [Nat.div_eq_of_lt hlt,Nat.mod_eq_of_lt hlt]
   exact⟨none,0,0,A2,n2,c2,rfl,rfl,Rd.nil _,Own.nil _ _ _ _,hn2,hr2.ext hx3,(ho2.mono hx1.size).ext hx3,(hx1.trans hx2).trans hx3,fun p p' hp=>by cases hp⟩
  ·have hneg:¬c<0:=by rw [hc.out,cmp3_neg];exact hlt
   have HL:=Lib.hid hlt
   have hn12:n1≤n2:=by rw [hn1.out,hn2.out];exact len_wd_mono (by omega)
   clear hlt
   go_wp2_with fail
   refine (divnat_longA (hr2.ext hx3) (by omega) ((hr1.ext hx2).ext hx3) (by omega) hn12 (by rw [hn1.out];exact wd_top h0)).mono ?_
   rintro e w4 ⟨A4,n4,c4,A5,n5,c5,rfl,hn4,hr4,ho4,hn5,hr5,ho5,hx4,hap⟩
   rw [nv_wd,nv_wd] at hn4 hr4 ho4 hn5 hr5 ho5
   go_wp2_with fail
   go_ret3
   have hs:=((hx1.trans hx2).trans hx3)
   exact⟨A4,n4,c4,A5,n5,c5,rfl,hn4,hr4,ho4.mono hs.size,hn5,hr5,ho5.mono hs.size,hs.trans hx4,hap⟩
theorem divnat_DivMod {w:World}{A B:Option Addr}{n cap n' cap':Nat}{xs ys:List Nat}(hx:Rd w A n cap xs) (hl:n≤274877906944) (hy:Rd w B n' cap' ys) (hl':n'≤274877906944) (h0:nv ys≠0):
  Calls Tryd.prog 84 #[.slice A n cap,.slice B n' cap'] w (RetQRE w (nv xs/nv ys) (nv xs%nv ys) 0):=(divnat_DivModA hx hl hy hl' h0).mono fun e w' h=>h.old
theorem divnat_Exact {w:World}{A B:Option Addr}{n cap n' cap':Nat}{xs ys:List Nat}(hx:Rd w A n cap xs) (hl:n≤274877906944) (hy:Rd w B n' cap' ys) (hl':n'≤274877906944) (h0:nv ys≠0) (h1:nv xs%nv ys=0):
  Calls Tryd.prog 90 #[.slice A n cap,.slice B n' cap'] w (RetWE w (nv xs/nv ys) 0):=by
 go_enter Tryd.func90,Tryd.ntmps90
 have H1:=Lib.hid h1
 clear h1
 go_wp2_with fail
 refine (divnat_DivMod hx hl hy hl' h0).mono ?_
 rintro e w1 ⟨A4,n4,c4,A5,n5,c5,rfl,hn4,hr4,ho4,hn5,hr5,ho5,hx4⟩
 obtain rfl:n5=0:=by rw [hn5.out,H1.out];rfl
 go_wp2_with fail
 go_ret2
 exact⟨A4,n4,c4,rfl,hn4,hr4,ho4,hx4⟩
def wordOf:Option Value→Nat
 | some (.int _ z)=>z.toNat
 | _=>0
def numAt (w:World):Value→Nat
 | .slice (some a) n _=>nv ((List.range n).map fun i=>wordOf (w.cell? (a.add i)))
 | _=>0
theorem Rd.numAt {w:World}{A:Option Addr}{n cap:Nat}{xs:List Nat}(h:Rd w A n cap xs):Go.Proofs.YtipklngcpmkfhaaDoor.numAt w (.slice A n cap)=nv xs:=by
 have hlen:=h.len
 cases A with
 | none=>
  have hn:n=0:=by
   rcases Nat.eq_zero_or_pos n with h0 | h0
   ·exact h0
   ·obtain⟨a,ha,_⟩:=h.rv.get 0 (by omega)
    cases ha
  have:xs= []:=List.eq_nil_of_length_eq_zero (by omega)
  subst this
  rfl
 | some a=>
  show nv _=_
  congr 1
  apply List.ext_getElem
  ·simp [hlen]
  ·intro i h1 h2
   obtain⟨a',x,ha,hx,hxb,hc⟩:=h.get (i:=i) (by omega)
   cases ha
   have e:xs[i]=x:=by
    have:=hx.out
    simpa [List.getD_eq_getElem?_getD,List.getElem?_eq_getElem h2] using this
   simp [hc,wordOf,e]
theorem gcd_step (a b:Nat):Nat.gcd a b=Nat.gcd b (a%b):=by
 rw [Nat.gcd_comm a b,Nat.gcd_rec b a,Nat.gcd_comm]
def OneP (w:World) (x:Nat) (e:Ending) (w':World):Prop:=
 ∃g,e= .returned (.slice (some ⟨g,0,none⟩) 1 1)∧w.heap.size≤g∧Bk w' g 50 ([x].map W64)∧x≤18446744073709551615∧Ext w w'
theorem divnat_words {x y:Nat}(hx:x≤18446744073709551615) (hy:y≤18446744073709551615) (w:World):
  Calls Tryd.prog 105 #[.int .u64 (x:Int),.int .u64 (y:Int)] w (OneP w (Nat.gcd x y)):=by
 go_enter Tryd.func105,Tryd.ntmps105
 go_wp2_with fail
 go_loopw [0,1] (fun u v wr=>∃a b:Nat,u= .int .u64 (a:Int)∧v= .int .u64 (b:Int)∧a≤18446744073709551615∧b≤18446744073709551615∧Hid (Nat.gcd a b=Nat.gcd x y)∧Ext w wr) (fun u v wr=>(intOf v).toNat)
 case atStart=>exact⟨x,y,rfl,rfl,hx,hy,rfl,Ext.refl w⟩
 case round=>
  obtain⟨a,b,rfl,rfl,ha,hb,hg,hr⟩:=hrel
  by_cases h0:b=0
  ·subst h0
   have b0:((0:Int) != 0)=false:=rfl
   go_wp2_with fail
   go_ret
   have e:Nat.gcd x y=a:=by rw [←hg.out,Nat.gcd_zero_right]
   rw [e]
   exact⟨wr.heap.size,rfl,hr.size,Bk.new wr 50 [.int .u64 (a:Int)],ha,hr.alloc _⟩
  ·have b0:((b:Int) != 0)=true:=by simp;omega
   have b1:((b:Int)==0)=false:=by simp;omega
   have h2:¬(b:Int)≤0:=by omega
   have h5:=Int.emod_nonneg (a:Int) (b:=(b:Int)) (by omega)
   have h6:=Int.emod_lt_of_pos (a:Int) (b:=(b:Int)) (by omega)
   have HM:=Lib.hid (Nat.mod_lt a (show 0<b by omega))
   go_wp2_with fail
   go_quiet (fail)
   go_wp2_with fail
   go_roundw
   case rel=>exact⟨b,a%b,rfl,val_int (by simp),hb,by have:=HM.out;omega,(show _=_ by rw [←hg.out,←gcd_step]),hr.drewN _⟩
   case measure=>have:=HM.out;simp [intOf];omega
set_option maxHeartbeats 2000000 in
theorem divnat_Gcd {w:World}{A B:Option Addr}{n cap n' cap':Nat}{xs ys:List Nat}(hx:Rd w A n cap xs) (hl:n≤274877906944) (hy:Rd w B n' cap' ys) (hl':n'≤274877906944):
  Calls Tryd.prog 89 #[.slice A n cap,.slice B n' cap'] w (RetW w (Nat.gcd (nv xs) (nv ys))):=by
 go_enter Tryd.func89,Tryd.ntmps89
 go_wp2_with fail
 refine (nat_Least hx (by omega)).mono ?_
 rintro e w1 ⟨A1,n1,c1,rfl,hn1,hr1,ho1,hx1⟩
 have hn1b:n1≤274877906944:=by rw [hn1.out];exact Nat.le_trans (by have:=len_wd_nv hx.wf;rw [hx.len] at this;exact this) hl
 go_wp2_with fail
 refine (nat_Least (hy.ext hx1) (by omega)).mono ?_
 rintro e w2 ⟨A2,n2,c2,rfl,hn2,hr2,ho2,hx2⟩
 have hn2b:n2≤274877906944:=by rw [hn2.out];exact Nat.le_trans (by have:=len_wd_nv hy.wf;rw [hy.len] at this;exact this) hl'
 go_wp2_with fail
 go_loopw [5,6] (fun u v wr=>∃(A B:Option Addr) (n cap m cap' a b:Nat),u= .slice A n cap∧v= .slice B m cap'∧n≤274877906944∧m≤274877906944∧Hid (n=(wd a).length)∧Hid (m=(wd b).length)∧Rd wr A n cap (wd a)∧Own wr w.heap.size 50 1 A n cap ((wd a).map W64)∧
  Rd wr B m cap' (wd b)∧Own wr w.heap.size 50 1 B m cap' ((wd b).map W64)∧Hid (Nat.gcd a b=Nat.gcd (nv xs) (nv ys))∧Ext w wr) (fun u v wr=>numAt wr v)
 case atStart=>exact⟨A1,A2,n1,c1,n2,c2,nv xs,nv ys,rfl,rfl,hn1b,hn2b,hn1,hn2,hr1.ext hx2,ho1.ext hx2,hr2,ho2.mono hx1.size,rfl,hx1.trans hx2⟩
 case round=>
  obtain⟨A,B,n,cap,m,cap',a,b,rfl,rfl,hnb,hmb,hn,hm,hra,hoa,hrb,hob,hg,hr⟩:=hrel
  clear hr1 hr2 ho1 ho2 hx hy hn1 hn2
  by_cases hm0:0<m
  ·have hb0:b≠0:=fun h=>by rw [hm.out,h] at hm0;simp [wd_zero] at hm0
   have HB:=Lib.hid hb0
   clear hb0
   by_cases hcase:n=1∧m=1
   ·obtain⟨rfl,rfl⟩:=hcase
    obtain⟨p,x,rfl,hxk,hxb,hcx⟩:=hra.get (i:=0) (by omega)
    obtain⟨q,y,rfl,hyk,hyb,hcy⟩:=hrb.get (i:=0) (by omega)
    have ea:Hid (a=x):=wd_len_one hn.out hxk.out
    have eb:Hid (b=y):=wd_len_one hm.out hyk.out
    have hcx0:wr.cell? p=some (.int .u64 (x:Int)):=by simpa [Addr.add] using hcx
    have hcy0:wr.cell? q=some (.int .u64 (y:Int)):=by simpa [Addr.add] using hcy
    clear hcx hcy
    go_wp2_with fail
    go_region_with (first
     | (go_at_call 105;refine (divnat_words hxb hyb _).mono ?_;rintro er w5 ⟨g5,rfl,hg5,hb5,hx5b,hx5⟩))
    all_goals
     go_wp2_with fail
     go_ret
     have h5:Ext w w5:=hr.trans (Ext.trans (by repeat (first | exact Ext.refl _ | assumption | apply Ext.drewN | apply Ext.drew | apply Ext.alloc)) hx5)
     have hgs:wr.heap.size≤g5:=hg5
     have hne:Nat.gcd x y≠0:=by
      have:=Nat.gcd_pos_of_pos_right x (n:=y) (Nat.pos_of_ne_zero (by rw [←eb.out];exact HB.out))
      omega
     have e6:Nat.gcd (nv xs) (nv ys)=Nat.gcd x y:=by rw [←hg.out,ea.out,eb.out]
     rw [e6]
     exact RetW_mk (ys:= [Nat.gcd x y]) (Nat.le_trans hr.size hgs) hb5 rfl (Nat.le_refl _) (by rw [len_maxLen];omega) (by rw [wd_small (by rw [WB_def];omega) hne];rfl) h5
   ·have hd:decide ((n:Int)=1)=false∨decide ((m:Int)=1)=false:=by
     by_cases h:n=1
     ·right;simp;omega
     ·left;simp;omega
    have key:∀(Q' R':Option Addr) (nq cq nr cr:Nat) (w5:World),Hid (nr=(wd (a%b)).length)→Rd w5 R' nr cr (wd (a%b))→Own w5 wr.heap.size 50 1 R' nr cr ((wd (a%b)).map W64)→Ext wr w5→
      (∃(A B':Option Addr) (n cap m' cap'' a b:Nat),Value.slice B m cap'= .slice A n cap∧Value.slice R' nr cr= .slice B' m' cap''∧n≤274877906944∧m'≤274877906944∧Hid (n=(wd a).length)∧Hid (m'=(wd b).length)∧Rd w5 A n cap (wd a)∧Own w5 w.heap.size 50 1 A n cap ((wd a).map W64)∧
       Rd w5 B' m' cap'' (wd b)∧Own w5 w.heap.size 50 1 B' m' cap'' ((wd b).map W64)∧Hid (Nat.gcd a b=Nat.gcd (nv xs) (nv ys))∧Ext w w5)∧numAt w5 (.slice R' nr cr)<numAt wr (.slice B m cap'):=by
     intro Q' R' nq cq nr cr w5 h1 h2 h3 h4
     have hmod:a%b<b:=Nat.mod_lt a (Nat.pos_of_ne_zero HB.out)
     refine⟨⟨B,R',m,cap',nr,cr,b,a%b,rfl,rfl,hmb,?_,hm,h1,hrb.ext h4,hob.ext h4,h2,h3.mono hr.size,(show _=_ by rw [←hg.out,←gcd_step]),hr.trans h4⟩,?_⟩
     ·rw [h1.out]
      refine Nat.le_trans (len_wd_mono (Nat.le_of_lt hmod)) ?_
      rw [←hm.out];exact hmb
     ·rw [h2.numAt,hrb.numAt,nv_wd,nv_wd];exact hmod
    have KEY:=Lib.hid key
    clear key
    by_cases hn1':n=1
    ·have hm1:((m:Int)==1)=false:=by
      have:¬m=1:=fun h=>hcase ⟨hn1',h⟩
      simp;omega
     have bn1:((n:Int)==1)=true:=by simp;omega
     clear hcase hd hn1'
     go_wp2_with fail
     refine (divnat_DivMod hra (by omega) hrb (by omega) (by rw [nv_wd];exact HB.out)).mono ?_
     rintro e w5 ⟨Aq,nq,cq,Ar,nr,cr,rfl,hnq,hrq,hoq,hnr,hrr,hor,hx5⟩
     rw [nv_wd,nv_wd] at hnr hrr hor
     go_wp2_with fail
     go_roundw
     case rel=>exact (KEY.out Aq Ar nq cq nr cr w5 hnr hrr hor hx5).1
     case measure=>exact (KEY.out Aq Ar nq cq nr cr w5 hnr hrr hor hx5).2
    ·have bn1:((n:Int)==1)=false:=by simp;omega
     clear hcase hd hn1'
     go_wp2_with fail
     refine (divnat_DivMod hra (by omega) hrb (by omega) (by rw [nv_wd];exact HB.out)).mono ?_
     rintro e w5 ⟨Aq,nq,cq,Ar,nr,cr,rfl,hnq,hrq,hoq,hnr,hrr,hor,hx5⟩
     rw [nv_wd,nv_wd] at hnr hrr hor
     go_wp2_with fail
     go_roundw
     case rel=>exact (KEY.out Aq Ar nq cq nr cr w5 hnr hrr hor hx5).1
     case measure=>exact (KEY.out Aq Ar nq cq nr cr w5 hnr hrr hor hx5).2
  ·have hb0:b=0:=len_wd_zero.1 (by rw [←hm.out];omega)
   have e:Nat.gcd (nv xs) (nv ys)=a:=by rw [←hg.out,hb0,Nat.gcd_zero_right]
   have HE:=Lib.hid e
   clear e hb0
   go_wp2_with fail
   go_ret
   rw [HE.out]
   exact⟨A,n,cap,rfl,hn,hra,hoa,hr⟩
def sg (s:Bool) (m:Nat):Int:=if s then-(m:Int) else m
theorem sg_false (m:Nat):sg false m=m:=rfl
theorem sg_true (m:Nat):sg true m= -(m:Int):=rfl
theorem sg_abs (s:Bool) (m:Nat):(sg s m).natAbs=m:=by cases s <;> simp [sg]
theorem sg_self (z:Int):sg (decide (z<0)) z.natAbs=z:=by
 by_cases h:z<0
 ·rw [decide_eq_true h,sg_true];omega
 ·rw [decide_eq_false h,sg_false];omega
theorem sg_zero (s:Bool):sg s 0=0:=by cases s <;> rfl
theorem sg_eq_zero {s:Bool}{m:Nat}:sg s m=0↔m=0:=by cases s <;> simp [sg]
theorem sg_not (s:Bool) (m:Nat):sg (!s) m= -sg s m:=by cases s <;> simp [sg]
theorem sg_lt (s:Bool) (m:Nat):decide (sg s m<0)=(s&&decide (0<m)):=by
 cases s
 ·simp [sg]
 ·by_cases h:0<m
  ·simp [sg,h]
  ·have:m=0:=by omega
   subst this
   simp [sg]
theorem sg_add (s:Bool) (m k:Nat):sg s (m+k)=sg s m+sg s k:=by cases s <;> simp [sg] <;> omega
theorem sg_sub {s:Bool}{m k:Nat}(h:k≤m):sg s (m-k)=sg s m+sg (!s) k:=by cases s <;> simp [sg] <;> omega
theorem sg_mul (s t:Bool) (m k:Nat):sg (s != t) (m*k)=sg s m*sg t k:=by
 cases s <;> cases t <;> simp [sg,Int.mul_neg,Int.neg_mul]
theorem sg_tdiv (s t:Bool) (m k:Nat):sg (s != t) (m/k)=(sg s m).tdiv (sg t k):=by
 cases s <;> cases t <;> simp [sg,Int.tdiv_neg,Int.neg_tdiv]
theorem sg_tmod (s t:Bool) (m k:Nat):sg s (m%k)=(sg s m).tmod (sg t k):=by
 cases s <;> cases t <;> simp [sg,Int.tmod_neg,Int.neg_tmod] <;> rfl
def ln (z:Int):Nat:=(wd z.natAbs).length
theorem ln_mono {x y:Int}(h:x.natAbs≤y.natAbs):ln x≤ln y:=len_wd_mono h
theorem ln_neg (x:Int):ln (-x)=ln x:=by unfold ln;rw [Int.natAbs_neg]
theorem ln_add {x y:Int}{a b:Nat}(hx:ln x≤a) (hy:ln y≤b):ln (x+y)≤max a b+1:=by
 have h1:=len_wd_mono (Int.natAbs_add_le x y)
 have h2:=len_wd_add x.natAbs y.natAbs
 unfold ln at*
 omega
theorem ln_mul {x y:Int}{a b:Nat}(hx:ln x≤a) (hy:ln y≤b):ln (x*y)≤a+b:=by
 have h2:=len_wd_mul x.natAbs y.natAbs
 unfold ln at*
 rw [Int.natAbs_mul]
 omega
theorem ln_nat (m:Nat):ln (m:Int)=(wd m).length:=by unfold ln;rw [Int.natAbs_natCast]
def Zi (w:World) (s:Bool) (A:Option Addr) (n cap:Nat) (z:Int):Prop:=∃xs,Rd w A n cap xs∧sg s (nv xs)=z
theorem Zi.ext {w w':World}{s:Bool}{A:Option Addr}{n cap:Nat}{z:Int}(h:Zi w s A n cap z) (e:Ext w w'):Zi w' s A n cap z:=by
 obtain⟨xs,h1,h2⟩:=h
 exact⟨xs,h1.ext e,h2⟩
theorem Zi.ln {w:World}{s:Bool}{A:Option Addr}{n cap:Nat}{z:Int}(h:Zi w s A n cap z):Go.Proofs.YtipklngcpmkfhaaDoor.ln z≤n:=by
 obtain⟨xs,h1,rfl⟩:=h
 have:=len_wd_nv h1.wf
 rw [h1.len] at this
 unfold Go.Proofs.YtipklngcpmkfhaaDoor.ln
 rw [sg_abs]
 exact this
theorem Zi.not {w:World}{s:Bool}{A:Option Addr}{n cap:Nat}{z:Int}(h:Zi w s A n cap z):Zi w (!s) A n cap (-z):=by
 obtain⟨xs,h1,rfl⟩:=h
 exact⟨xs,h1,sg_not _ _⟩
structure Zr (w:World) (base:Nat) (s:Bool) (A:Option Addr) (n cap:Nat) (z:Int):Prop where
 sgn:s=decide (z<0)
 len:n=ln z
 own:Own w base 50 1 A n cap ((wd z.natAbs).map W64)
theorem Zr.rd {w:World}{base:Nat}{s:Bool}{A:Option Addr}{n cap:Nat}{z:Int}(h:Zr w base s A n cap z):Rd w A n cap (wd z.natAbs):=h.own.rd (Wf_wd _)
theorem Zr.ext {w w':World}{base:Nat}{s:Bool}{A:Option Addr}{n cap:Nat}{z:Int}(h:Zr w base s A n cap z) (e:Ext w w'):Zr w' base s A n cap z:=⟨h.sgn,h.len,h.own.ext e⟩
theorem Zr.mono {w:World}{base base':Nat}{s:Bool}{A:Option Addr}{n cap:Nat}{z:Int}(h:Zr w base s A n cap z) (e:base'≤base):Zr w base' s A n cap z:=⟨h.sgn,h.len,h.own.mono e⟩
theorem Zr.zi {w:World}{base:Nat}{s:Bool}{A:Option Addr}{n cap:Nat}{z:Int}(h:Zr w base s A n cap z):Zi w s A n cap z:=⟨_,h.rd,by rw [nv_wd,h.sgn,sg_self]⟩
theorem Zr.upd {w w':World}{base g:Nat}{s:Bool}{A:Option Addr}{n cap:Nat}{z:Int}(h:Zr w base s A n cap z) (hg:g<base) (e:Upd g w w'):Zr w' base s A n cap z:=
 ⟨h.sgn,h.len,h.own.upd e (fun a ha=>by have:=(h.own.block a ha).1;omega)⟩
theorem Zr.cast {w:World}{base:Nat}{s:Bool}{A:Option Addr}{n cap:Nat}{z z':Int}(h:Zr w base s A n cap z) (e:z=z'):Zr w base s A n cap z':=e▸h
theorem Zr.le {w:World}{base:Nat}{s:Bool}{A:Option Addr}{n cap:Nat}{z:Int}(h:Zr w base s A n cap z){b:Nat}(hb:ln z≤b):n≤b:=by rw [h.len];exact hb
theorem Zr.ln_le {w:World}{base:Nat}{s:Bool}{A:Option Addr}{n cap:Nat}{z:Int}(h:Zr w base s A n cap z){b:Nat}(hb:n≤b):ln z≤b:=by rw [←h.len];exact hb
theorem Zr.zero {w:World}{base:Nat}:Zr w base false none 0 0 0:=⟨by decide,rfl,Own.nil _ _ _ _⟩
def RetZ (w:World) (z:Int) (e:Ending) (w':World):Prop:=
 ∃s A n cap,e= .returned (.agg #[.bool s,.slice A n cap])∧Zr w' w.heap.size s A n cap z∧Ext w w'
def RetZE (w:World) (z:Int) (er:Int) (e:Ending) (w':World):Prop:=
 ∃s A n cap,e= .returned (.tuple #[.agg #[.bool s,.slice A n cap],.int .i64 er])∧Zr w' w.heap.size s A n cap z∧Ext w w'
def RetZZE (w:World) (q r:Int) (er:Int) (e:Ending) (w':World):Prop:=
 ∃s A n cap s' B m cap',e= .returned (.tuple #[.agg #[.bool s,.slice A n cap],.agg #[.bool s',.slice B m cap'],.int .i64 er])∧Zr w' w.heap.size s A n cap q∧Zr w' w.heap.size s' B m cap' r∧Ext w w'
theorem Zr_of {w:World}{base:Nat}{s s':Bool}{A:Option Addr}{n cap m:Nat}{z:Int}(h:s'=decide (sg s m<0)) (hn:n=(wd m).length) (ho:Own w base 50 1 A n cap ((wd m).map W64)) (hz:sg s m=z):Zr w base s' A n cap z:=by
 have e:z.natAbs=m:=by rw [←hz,sg_abs]
 rw [hz] at h
 exact⟨h,by unfold ln;rw [e];exact hn,by rw [e];exact ho⟩
theorem Bk.two {w:World}{g:Nat}{t:TypeId}{a b:Value}(h:Bk w g t [a,b]):w.cell? ⟨g,0,none⟩=some a∧w.cell? ⟨g,1,none⟩=some b∧w.frozen? ⟨g,0,none⟩=false∧w.frozen? ⟨g,1,none⟩=false:=
 ⟨h.cell (i:=0) (by simp),h.cell (i:=1) (by simp),h.frozen 0,h.frozen 1⟩
theorem Bk.two_set {w:World}{g:Nat}{t:TypeId}{a b:Value}(h:Bk w g t [a,b]) (u v:Value):Bk ((w.setCell ⟨g,0,none⟩ u).setCell ⟨g,1,none⟩ v) g t [u,v]:=(h.set 0 u).set 1 v
theorem Upd.two {w:World}{g:Nat}(u v:Value):Upd g w ((w.setCell ⟨g,0,none⟩ u).setCell ⟨g,1,none⟩ v):=((Upd.refl g w).setCell 0 u).setCell 1 v
theorem Bk.sec {w:World}{t t':TypeId}{l:Array Value}{a b:Value}:Bk ((w.alloc (.cells l t')).alloc (.cells #[a,b] t)) (w.heap.size+1) t [a,b]:=by
 have:=Bk.new (w.alloc (.cells l t')) t [a,b]
 simpa using this
theorem Bk.thi {w:World}{t t' t'':TypeId}{l l':Array Value}{a b:Value}:Bk (((w.alloc (.cells l t')).alloc (.cells l' t'')).alloc (.cells #[a,b] t)) (w.heap.size+2) t [a,b]:=by
 have:=Bk.new ((w.alloc (.cells l t')).alloc (.cells l' t'')) t [a,b]
 simpa using this
theorem Bk.fou {w:World}{t t' t'' t''':TypeId}{l l' l'':Array Value}{a b:Value}:Bk ((((w.alloc (.cells l t')).alloc (.cells l' t'')).alloc (.cells l'' t''')).alloc (.cells #[a,b] t)) (w.heap.size+3) t [a,b]:=by
 have:=Bk.new (((w.alloc (.cells l t')).alloc (.cells l' t'')).alloc (.cells l'' t''')) t [a,b]
 simpa using this
theorem boxes2 (w:World) (t t':TypeId) (a b c d:Value):∃g g2 wa,w.heap.size+1=g2∧w.heap.size=g∧(w.alloc (.cells #[a,b] t)).alloc (.cells #[c,d] t')=wa∧Bk wa g t [a,b]∧Bk wa g2 t' [c,d]∧Ext w wa∧g<g2∧g2<wa.heap.size∧g≠g2∧g2≠g:=
 ⟨_,_,_,rfl,rfl,rfl,(Bk.new w t [a,b]).alloc _,Bk.sec,((Ext.refl w).alloc _).alloc _,by omega,by simp,by omega,by omega⟩
theorem boxes3 (w:World) (t t' t'':TypeId) (a b c d e f:Value):∃g g2 g3 wa,w.heap.size+1+1=g3∧w.heap.size+1=g2∧w.heap.size=g∧((w.alloc (.cells #[a,b] t)).alloc (.cells #[c,d] t')).alloc (.cells #[e,f] t'')=wa∧Bk wa g t [a,b]∧Bk wa g2 t' [c,d]∧Bk wa g3 t'' [e,f]∧Ext w wa∧g<g2∧g2<g3∧g3<wa.heap.size∧g≠g2∧g2≠g∧g≠g3∧g3≠g∧g2≠g3∧g3≠g2:=
 ⟨_,_,_,_,rfl,rfl,rfl,rfl,((Bk.new w t [a,b]).alloc _).alloc _,Bk.sec.alloc _,Bk.thi,(((Ext.refl w).alloc _).alloc _).alloc _,by omega,by omega,by simp,by omega,by omega,by omega,by omega,by omega,by omega⟩
theorem boxes4 (w:World) (t t' t'' t''':TypeId) (a b c d e f i j:Value):∃g g2 g3 g4 wa,w.heap.size+1+1+1=g4∧w.heap.size+1+1=g3∧w.heap.size+1=g2∧w.heap.size=g∧(((w.alloc (.cells #[a,b] t)).alloc (.cells #[c,d] t')).alloc (.cells #[e,f] t'')).alloc (.cells #[i,j] t''')=wa∧Bk wa g t [a,b]∧Bk wa g2 t' [c,d]∧Bk wa g3 t'' [e,f]∧Bk wa g4 t''' [i,j]∧Ext w wa∧g<g2∧g2<g3∧g3<g4∧g4<wa.heap.size∧g≠g2∧g2≠g∧g≠g3∧g3≠g∧g2≠g3∧g3≠g2∧g≠g4∧g4≠g∧g2≠g4∧g4≠g2∧g3≠g4∧g4≠g3:=
 ⟨_,_,_,_,_,rfl,rfl,rfl,rfl,rfl,(((Bk.new w t [a,b]).alloc _).alloc _).alloc _,(Bk.sec.alloc _).alloc _,Bk.thi.alloc _,Bk.fou,((((Ext.refl w).alloc _).alloc _).alloc _).alloc _,by omega,by omega,by omega,by simp,by omega,by omega,by omega,by omega,by omega,by omega,by omega,by omega,by omega,by omega,by omega,by omega⟩
theorem fin_int {w w2:World}{g base:Nat}{T:TypeId}{x y:Value}{s:Bool}{A:Option Addr}{n cap:Nat}{z:Int}(_hb:Bk w2 g T [x,y]) (hz:Zr w2 base s A n cap z) (hg:g<base) (hw:w.heap.size≤g) (he:Ext w w2):
  RetZ w z (.returned (.agg #[.bool s,.slice A n cap])) ((w2.setCell ⟨g,0,none⟩ (.bool s)).setCell ⟨g,1,none⟩ (.slice A n cap)):=
 ⟨s,A,n,cap,rfl,(hz.upd hg (Upd.two _ _)).mono (by omega),(Upd.two _ _).ext he hw⟩
theorem res_int {w:World}{g:Nat}{t:TypeId}{a b:Value}{fn:Func}{s:Tmp}(hf:fn.results= #[.cell s 24]){tmps:Array Value}(hs:tmps.getD s undef= .pointer (some ⟨g,0,none⟩)) (h:Bk w g t [a,b]):(results fn tmps).run Tryd.prog w= .ok (.agg #[a,b]) w:=by
 obtain⟨h1,h2,_,_⟩:=h.two
 have hs2:tmps[s]?.getD undef= .pointer (some ⟨g,0,none⟩):=by simpa using hs
 simp [results,hf,hs2,loadVar,loadCells,loadCellsFrom,go_sem,h1,h2]
def scmp (x y:Int):Int:=if x<y then-1 else if x=y then 0 else 1
theorem scmp_neg {x y:Int}:scmp x y<0↔x<y:=by unfold scmp;split <;> (try split) <;> omega
theorem scmp_zero {x y:Int}:scmp x y=0↔x=y:=by unfold scmp;split <;> (try split) <;> omega
theorem scmp_pos {x y:Int}:0<scmp x y↔y<x:=by unfold scmp;split <;> (try split) <;> omega
def SgnP (v:Int) (w:World) (e:Ending) (w':World):Prop:=∃c:Int,Hid (c=v)∧ -1≤c∧c≤1∧e= .returned (.int .i64 c)∧Ext w w'
theorem zint_of {w:World}{s:Bool}{A:Option Addr}{n cap m:Nat}(hn:n=(wd m).length):
  Calls Tryd.prog 45 #[.bool s,.slice A n cap] w fun e w'=>∃s',e= .returned (.agg #[.bool s',.slice A n cap])∧Hid (s'=decide (sg s m<0))∧Ext w w':=by
 have hm:decide (0<m)=decide (0<n):=by
  by_cases h:m=0
  ·rw [h] at hn⊢;rw [hn];rfl
  ·have:n≠0:=fun e=>h (len_wd_zero.1 (by rw [←hn,e]))
   rw [decide_eq_true (show 0<m by omega),decide_eq_true (show 0<n by omega)]
 have HM:Hid (decide (sg s m<0)=(s&&decide (0<n))):=(show _=_ by rw [sg_lt,hm])
 clear hm hn
 go_enter Tryd.func45,Tryd.ntmps45
 cases s
 ·go_wp2_with fail
  refine bodyPost_ret (v:= .agg #[.bool false,.slice A n cap]) (by simp [results,Tryd.results45,go_sem]) rfl ?_
  exact⟨_,rfl,(show _=_ by rw [HM.out];rfl),(Ext.refl w).alloc _⟩
 ·by_cases h:n=0
  ·subst h
   go_wp2_with fail
   refine bodyPost_ret (v:= .agg #[.bool false,.slice A 0 cap]) (by simp [results,Tryd.results45,go_sem]) rfl ?_
   exact⟨_,rfl,(show _=_ by rw [HM.out];rfl),(Ext.refl w).alloc _⟩
  ·have h0:0<n:=by omega
   have hd:decide (0<n)=true:=decide_eq_true h0
   have hi:0<(n:Int):=by omega
   go_wp2_with fail
   refine bodyPost_ret (v:= .agg #[.bool true,.slice A n cap]) (by simp [results,Tryd.results45,go_sem]) rfl ?_
   exact⟨_,rfl,(show _=_ by rw [HM.out,hd];rfl),(Ext.refl w).alloc _⟩
theorem zint_Neg {w:World}{s:Bool}{A:Option Addr}{n cap:Nat}{x:Int}(hx:Zi w s A n cap x) (hl:n≤68719476736):
  Calls Tryd.prog 41 #[.agg #[.bool s,.slice A n cap]] w (RetZ w (-x)):=by
 obtain⟨xs,hr,rfl⟩:=hx
 go_enter Tryd.func41,Tryd.ntmps41
 go_upto_region 1 with (fail)
 obtain⟨g,g2,wa,hg2,hg,hwa,hb1,hb2,hea,l12,l2,n12,n21⟩:=boxes2 w 24 24 (.bool s) (.slice A n cap) (.bool false) (.slice none 0 0)
 rw [hg2,hg,hwa]
 have hgw:w.heap.size≤g:=Nat.le_of_eq hg
 clear hwa hg hg2
 obtain⟨f1,f2,f3,f4⟩:=hb1.two
 obtain⟨k1,k2,k3,k4⟩:=hb2.two
 go_region_held3 (fun w'=>w'.cell? ⟨g,0,none⟩=some (.bool s)∧w'.cell? ⟨g,1,none⟩=some (.slice A n cap)) (go_keep)
  (first
  | (go_at_call 46;refine (nat_Least (hr.ext (by repeat (first | exact Ext.refl _ | assumption | apply Ext.drewN | apply Ext.drew | apply Ext.alloc))) (by omega)).mono ?_;rintro e w1 ⟨A1,n1,c1,rfl,hn1,hr1,ho1,hx1⟩;have he1:Ext wa w1:=Ext.trans (by repeat (first | exact Ext.refl _ | assumption | apply Ext.drewN | apply Ext.drew | apply Ext.alloc)) hx1;have hc1:=hb1.ext he1;have hc2:=hb2.ext he1;obtain⟨f1',f2',f3',f4'⟩:=hc1.two;obtain⟨k1',k2',k3',k4'⟩:=hc2.two)
  | (go_at_call 45;refine (zint_of hn1.out).mono ?_;rintro e w2 ⟨s',rfl,hs',hx2⟩;have hd1:=hc1.ext hx2;have hd2:=hc2.ext hx2;obtain⟨f1'',f2'',f3'',f4''⟩:=hd1.two;obtain⟨k1'',k2'',k3'',k4''⟩:=hd2.two))
 go_wp2_with fail
 refine bodyPost_ret (res_int rfl rfl (hd2.two_set _ _)) rfl ?_
 exact fin_int hd2 ((Zr_of hs'.out hn1.out ho1 (sg_not _ _)).ext hx2) (by first | omega | (simp;omega)) (by omega) (hea.trans (he1.trans hx2))
theorem zint_Least {w:World}{s:Bool}{A:Option Addr}{n cap:Nat}{x:Int}(hx:Zi w s A n cap x) (hl:n≤68719476736):
  Calls Tryd.prog 65 #[.agg #[.bool s,.slice A n cap]] w (RetZ w (x)):=by
 obtain⟨xs,hr,rfl⟩:=hx
 go_enter Tryd.func65,Tryd.ntmps65
 go_upto_region 1 with (fail)
 obtain⟨g,g2,wa,hg2,hg,hwa,hb1,hb2,hea,l12,l2,n12,n21⟩:=boxes2 w 24 24 (.bool s) (.slice A n cap) (.bool false) (.slice none 0 0)
 rw [hg2,hg,hwa]
 have hgw:w.heap.size≤g:=Nat.le_of_eq hg
 clear hwa hg hg2
 obtain⟨f1,f2,f3,f4⟩:=hb1.two
 obtain⟨k1,k2,k3,k4⟩:=hb2.two
 go_region_held3 (fun w'=>w'.cell? ⟨g,0,none⟩=some (.bool s)∧w'.cell? ⟨g,1,none⟩=some (.slice A n cap)) (go_keep)
  (first
  | (go_at_call 46;refine (nat_Least (hr.ext (by repeat (first | exact Ext.refl _ | assumption | apply Ext.drewN | apply Ext.drew | apply Ext.alloc))) (by omega)).mono ?_;rintro e w1 ⟨A1,n1,c1,rfl,hn1,hr1,ho1,hx1⟩;have he1:Ext wa w1:=Ext.trans (by repeat (first | exact Ext.refl _ | assumption | apply Ext.drewN | apply Ext.drew | apply Ext.alloc)) hx1;have hc1:=hb1.ext he1;have hc2:=hb2.ext he1;obtain⟨f1',f2',f3',f4'⟩:=hc1.two;obtain⟨k1',k2',k3',k4'⟩:=hc2.two)
  | (go_at_call 45;refine (zint_of hn1.out).mono ?_;rintro e w2 ⟨s',rfl,hs',hx2⟩;have hd1:=hc1.ext hx2;have hd2:=hc2.ext hx2;obtain⟨f1'',f2'',f3'',f4''⟩:=hd1.two;obtain⟨k1'',k2'',k3'',k4''⟩:=hd2.two))
 go_wp2_with fail
 refine bodyPost_ret (res_int rfl rfl (hd2.two_set _ _)) rfl ?_
 exact fin_int hd2 ((Zr_of hs'.out hn1.out ho1 rfl).ext hx2) (by first | omega | (simp;omega)) (by omega) (hea.trans (he1.trans hx2))
theorem zint_Mul {w:World}{s t:Bool}{A B:Option Addr}{n cap m cap':Nat}{x y:Int}(hx:Zi w s A n cap x) (hl:n≤68719476736) (hy:Zi w t B m cap' y) (hl':m≤68719476736):
  Calls Tryd.prog 23 #[.agg #[.bool s,.slice A n cap],.agg #[.bool t,.slice B m cap']] w (RetZ w (x*y)):=by
 obtain⟨xs,hr,rfl⟩:=hx
 obtain⟨ys,hq,rfl⟩:=hy
 go_enter Tryd.func23,Tryd.ntmps23
 go_upto_region 1 with (fail)
 obtain⟨g,g2,g3,wa,hg3,hg2,hg,hwa,hb1,hb2,hb3,hea,l12,l23,l3,n12,n21,n13,n31,n23,n32⟩:=boxes3 w 24 24 24 (.bool s) (.slice A n cap) (.bool t) (.slice B m cap') (.bool false) (.slice none 0 0)
 rw [hg3,hg2,hg,hwa]
 have hgw:w.heap.size≤g:=Nat.le_of_eq hg
 clear hwa hg hg2 hg3
 obtain⟨f1,f2,f3,f4⟩:=hb1.two
 obtain⟨h1,h2,h3,h4⟩:=hb2.two
 obtain⟨k1,k2,k3,k4⟩:=hb3.two
 go_region_held3 (fun w'=>w'.cell? ⟨g,0,none⟩=some (.bool s)∧w'.cell? ⟨g,1,none⟩=some (.slice A n cap)∧w'.cell? ⟨g2,0,none⟩=some (.bool t)∧w'.cell? ⟨g2,1,none⟩=some (.slice B m cap')) (go_keep)
  (first
  | (go_at_call 53;refine (mulnat_Mul (hr.ext (by repeat (first | exact Ext.refl _ | assumption | apply Ext.drewN | apply Ext.drew | apply Ext.alloc))) (hq.ext (by repeat (first | exact Ext.refl _ | assumption | apply Ext.drewN | apply Ext.drew | apply Ext.alloc))) (by omega)).mono ?_;rintro e w1 ⟨A1,n1,c1,rfl,hn1,hr1,ho1,hx1⟩;have he1:Ext wa w1:=Ext.trans (by repeat (first | exact Ext.refl _ | assumption | apply Ext.drewN | apply Ext.drew | apply Ext.alloc)) hx1;have hc1:=hb1.ext he1;have hc2:=hb2.ext he1;have hc3:=hb3.ext he1;obtain⟨f1',f2',f3',f4'⟩:=hc1.two;obtain⟨h1',h2',h3',h4'⟩:=hc2.two;obtain⟨k1',k2',k3',k4'⟩:=hc3.two)
  | (go_at_call 45;refine (zint_of hn1.out).mono ?_;rintro e w2 ⟨s',rfl,hs',hx2⟩;have hd1:=hc1.ext hx2;have hd2:=hc2.ext hx2;have hd3:=hc3.ext hx2;obtain⟨f1'',f2'',f3'',f4''⟩:=hd1.two;obtain⟨h1'',h2'',h3'',h4''⟩:=hd2.two;obtain⟨k1'',k2'',k3'',k4''⟩:=hd3.two))
 go_wp2_with fail
 refine bodyPost_ret (res_int rfl rfl (hd3.two_set _ _)) rfl ?_
 exact fin_int hd3 ((Zr_of hs'.out hn1.out ho1 (sg_mul _ _ _ _)).ext hx2) (by first | omega | (simp;omega)) (by omega) (hea.trans (he1.trans hx2))
theorem zint_Sign {w:World}{s:Bool}{A:Option Addr}{n cap:Nat}{x:Int}(hx:Zi w s A n cap x) (hl:n≤68719476736):
  Calls Tryd.prog 11 #[.agg #[.bool s,.slice A n cap]] w (SgnP (scmp x 0) w):=by
 obtain⟨xs,hr,rfl⟩:=hx
 go_enter Tryd.func11,Tryd.ntmps11
 go_upto_region 1 with (fail)
 have hb1:=Bk.new w 24 [.bool s,.slice A n cap]
 obtain⟨wa,hwa⟩:∃wa,w.alloc (.cells #[.bool s,.slice A n cap] 24)=wa:=⟨_,rfl⟩
 rw [hwa]
 obtain⟨g,hg⟩:∃g,w.heap.size=g:=⟨_,rfl⟩
 rw [hg] at hb1⊢
 have hb1':Bk wa g 24 [.bool s,.slice A n cap]:=by rw [←hwa];exact hb1
 have hea:Ext w wa:=by rw [←hwa];exact (Ext.refl w).alloc _
 clear hwa hg hb1
 obtain⟨f1,f2,f3,f4⟩:=hb1'.two
 go_wp2_with fail
 refine (nat_BitLen (hr.ext hea) (by omega)).mono ?_
 rintro e w1 ⟨b,hb,rfl,hx1'⟩
 have hx1:=hea.trans hx1'
 obtain⟨f1',f2',f3',f4'⟩:=(hb1'.ext hx1').two
 by_cases h0:b=0
 ·subst h0
  have hz:nv xs=0:=blen_eq_zero.1 hb.out.symm
  have HZ:=Lib.hid hz
  clear hz
  go_wp2_with fail
  go_ret
  exact⟨0,(show _=_ by rw [HZ.out,sg_zero];rfl),by omega,by omega,rfl,hx1⟩
 ·have bb:((b:Int)==0)=false:=by simp;omega
  have hz:0<nv xs:=Nat.pos_of_ne_zero (fun e=>h0 (by rw [hb.out,e];rfl))
  have HZ:=Lib.hid hz
  clear hz h0
  cases s
  ·go_wp2_with fail
   go_ret
   refine⟨1,?_,by omega,by omega,rfl,hx1⟩
   show _=_
   rw [sg_false,scmp,if_neg (by omega),if_neg (by have:=HZ.out;omega)]
  ·go_wp2_with fail
   go_ret
   refine⟨-1,?_,by omega,by omega,rfl,hx1⟩
   show _=_
   rw [sg_true,scmp,if_pos (by have:=HZ.out;omega)]
def BoolP (b:Bool) (w:World) (e:Ending) (w':World):Prop:=e= .returned (.bool b)∧Ext w w'
theorem ref1_Same {w:World}{A B:Option Addr}{n cap n' cap':Nat}{xs ys:List Nat}(hx:Rd w A n cap xs) (hl:n≤1099511627776) (hy:Rd w B n' cap' ys) (hl':n'≤1099511627776):
  Calls Tryd.prog 48 #[.slice A n cap,.slice B n' cap'] w (BoolP (decide (xs=ys)) w):=by
 have hlx:=Lib.hid hx.len
 have hly:=Lib.hid hy.len
 by_cases hn:n=n'
 ·subst hn
  have h1:((n:Int) != (n:Int))=false:=by simp
  go_enter Tryd.func48,Tryd.ntmps48
  go_wp2_with fail
  go_loopw [5] (fun u wr=>∃i:Nat,i≤n∧u= .int .i64 (i:Int)∧Hid (xs.take i=ys.take i)∧Ext w wr) (fun u wr=>n-(intOf u).toNat)
  case atStart=>exact⟨0,Nat.zero_le _,rfl,rfl,Ext.refl w⟩
  case round=>
   obtain⟨i,hi,rfl,hv,hext⟩:=hrel
   by_cases h0:i<n
   ·obtain⟨a,p,rfl,hxk,hxb,hc⟩:=(hx.ext hext).get (i:=i) (by omega)
    obtain⟨b,q,rfl,hyk,hyb,hd⟩:=(hy.ext hext).get (i:=i) (by omega)
    by_cases hpq:p=q
    ·subst hpq
     have h2:((p:Int) != (p:Int))=false:=by simp
     go_wp2_with fail
     go_quiet (fail)
     go_wp2_with fail
     go_roundw
     case rel=>
      refine⟨i+1,by omega,by go_num,?_,(by repeat (first | exact Ext.refl _ | assumption | apply Ext.drewN | apply Ext.drew | apply Ext.alloc))⟩
      show _=_
      rw [take_snoc xs i (by rw [hlx.out];omega) 0,take_snoc ys i (by rw [hly.out];omega) 0,hv.out,hxk.out,hyk.out]
     case measure=>simp [intOf];omega
    ·have h2:((p:Int) != (q:Int))=true:=by simp;omega
     go_wp2_with fail
     go_quiet (fail)
     go_wp2_with fail
     go_ret
     have hne:decide (xs=ys)=false:=by
      refine decide_eq_false (fun e=>hpq ?_)
      rw [←hxk.out,←hyk.out,e]
     rw [hne]
     exact⟨rfl,(by repeat (first | exact Ext.refl _ | assumption | apply Ext.drewN | apply Ext.drew | apply Ext.alloc))⟩
   ·go_wp2_with fail
    go_ret
    have he:decide (xs=ys)=true:=by
     refine decide_eq_true ?_
     have h:=hv.out
     rwa [List.take_of_length_le (by rw [hlx.out];omega),List.take_of_length_le (by rw [hly.out];omega)] at h
    rw [he]
    exact⟨rfl,hext⟩
 ·have h1:((n:Int) != (n':Int))=true:=by simp;omega
  go_enter Tryd.func48,Tryd.ntmps48
  go_wp2_with fail
  go_ret
  have hne:decide (xs=ys)=false:=decide_eq_false (fun e=>hn (by rw [←hlx.out,←hly.out,e]))
  rw [hne]
  exact⟨rfl,Ext.refl w⟩
theorem Own.updT {w w':World}{base:Nat}{t T:TypeId}{s:Nat}{A:Option Addr}{n cap:Nat}{vs us:List Value}{g:Nat}(h:Own w base t s A n cap vs) (hb:Bk w g T us) (hT:t≠T) (e:Upd g w w'):Own w' base t s A n cap vs:=by
 refine h.upd e (fun a ha hg=>?_)
 rcases h with⟨h,_⟩ | ⟨k,cs,hA,_,hk,_⟩
 ·rw [h] at ha;cases ha
 ·rw [hA] at ha
  cases ha
  simp only at hg
  subst hg
  unfold Bk at hk hb
  rw [hk] at hb
  injection hb with hb
  injection hb with h1 h2
  exact hT h2
theorem Zr.updT {w w':World}{base:Nat}{s:Bool}{A:Option Addr}{n cap:Nat}{z:Int}{g:Nat}{T:TypeId}{us:List Value}(h:Zr w base s A n cap z) (hb:Bk w g T us) (e:Upd g w w') (hT:50≠T:=by decide):Zr w' base s A n cap z:=
 ⟨h.sgn,h.len,h.own.updT hb hT e⟩
theorem Bk.updN {w w':World}{g g':Nat}{T:TypeId}{vs:List Value}(h:Bk w g T vs) (e:Upd g' w w') (hne:g≠g'):Bk w' g T vs:=h.upd e hne
theorem ln_abs (x:Int):ln (x.natAbs:Int)=ln x:=by unfold ln;rw [Int.natAbs_natCast]
theorem scmp_eq_t {x y:Int}(h:x=y):cmpB .eql (scmp x y) 0=some true:=by
 have e:scmp x y=0:=scmp_zero.2 h
 rw [e];rfl
theorem scmp_eq_f {x y:Int}(h:x≠y):cmpB .eql (scmp x y) 0=some false:=by
 have e:¬scmp x y=0:=fun e=>h (scmp_zero.1 e)
 simp only [cmpB,Option.some.injEq,beq_eq_false_iff_ne,ne_eq];exact e
theorem scmp_ne_t {x y:Int}(h:x≠y):cmpB .neq (scmp x y) 0=some true:=by
 have e:¬scmp x y=0:=fun e=>h (scmp_zero.1 e)
 simp only [cmpB,Option.some.injEq,bne_iff_ne,ne_eq];exact e
theorem scmp_ne_f {x y:Int}(h:x=y):cmpB .neq (scmp x y) 0=some false:=by
 have e:scmp x y=0:=scmp_zero.2 h
 rw [e];rfl
theorem scmp_lt_t {x y:Int}(h:x<y):cmpB .lss (scmp x y) 0=some true:=by
 have e:=scmp_neg.2 h
 simp only [cmpB,Option.some.injEq,decide_eq_true_eq];exact e
theorem scmp_lt_f {x y:Int}(h:y≤x):cmpB .lss (scmp x y) 0=some false:=by
 have e:¬scmp x y<0:=fun e=>by have:=scmp_neg.1 e;omega
 simp only [cmpB,Option.some.injEq,decide_eq_false_iff_not];exact e
theorem scmp_le_f {x y:Int}(h:y<x):cmpB .leq (scmp x y) 0=some false:=by
 have e:=scmp_pos.2 h
 simp only [cmpB,Option.some.injEq,decide_eq_false_iff_not];omega
structure AggT (P:Program) (T:TypeId) (k:Nat):Prop where
 agg:∀w,(isAgg T).run P w= .ok true w
 size:∀w,(sizeOf T).run P w= .ok k w
theorem run_load1 {P:Program}{w:World}{p:Addr}{v:Value}(h:w.cell? p=some v):(load p).run P w= .ok v w:=by
 simp only [load,Sem.run,h]
theorem run_store1 {P:Program}{w:World}{p:Addr}{u v:Value}(h:w.cell? p=some u) (hf:w.frozen? p=false) (h1:v.oneCell'=true):(store p v).run P w= .ok () (w.setCell p v):=by
 rw [run_store P w p v .plain h1,h,hf];rfl
theorem run_loadCells {P:Program}{w:World}{p:Addr}:∀(vs:List Value) (i:Nat) (acc:Array Value),(∀j,j<vs.length→w.cell? (p.add (i+j))=some (vs.getD j undef))→
  (loadCellsFrom p i vs.length acc).run P w= .ok (acc++vs.toArray) w
 | [],i,acc,_=>by simp [loadCellsFrom]
 | v::vs,i,acc,h=>by
  have h0:=h 0 (by simp)
  simp only [Nat.add_zero,List.getD_cons_zero] at h0
  have ih:=run_loadCells (P:=P) (p:=p) vs (i+1) (acc.push v) (fun j hj=>by
   have:=h (j+1) (by simpa using hj)
   rw [show i+1+j=i+(j+1) by omega]
   simpa using this)
  show ((load (p.add i)>>=fun v=>loadCellsFrom p (i+1) vs.length (acc.push v):Sem (Array Value))).run P w=_
  have e:(load (p.add i)).run P w= .ok v w:=run_load1 h0
  rw [Sem.run_bind,e]
  simp only [Result.andThen_ok,ih]
  simp
theorem load_agg {P:Program}{w:World}{T T':TypeId}{k off g:Nat}{vs:List Value}(hT:AggT P T k) (hb:Bk w g T' vs) (us:List Value) (hu:us.length=k) (hle:off+k≤vs.length) (he:(vs.drop off).take k=us):
  (loadVar T ⟨g,off,none⟩).run P w= .ok (.agg us.toArray) w:=by
 subst hu
 have h1:=run_loadCells (P:=P) (w:=w) (p:=⟨g,off,none⟩) us 0 #[] (fun j hj=>by
  rw [Nat.zero_add,add_lit0,hb.cell (by omega)]
  congr 1
  rw [←he]
  simp only [List.getD_eq_getElem?_getD,List.getElem?_take,List.getElem?_drop]
  rw [if_pos hj])
 unfold loadVar loadCells
 rw [Sem.run_bind,hT.agg w]
 simp only [Result.andThen_ok,if_true,Sem.run_bind,hT.size w,h1]
 simp
theorem load_cell {P:Program}{w:World}{T T':TypeId}{g i:Nat}{vs:List Value}{v:Value}(hT:∀w,(isAgg T).run P w= .ok false w) (hb:Bk w g T' vs) (hv:vs[i]?=some v):(loadVar T ⟨g,i,none⟩).run P w= .ok v w:=by
 have hi:i<vs.length:=(List.getElem?_eq_some_iff.1 hv).1
 have hc:=hb.cell hi
 rw [List.getD_eq_getElem?_getD,hv] at hc
 unfold loadVar
 rw [Sem.run_bind,hT w]
 simp only [Result.andThen_ok,Bool.false_eq_true,if_false]
 exact run_load1 hc
def overl (vs:List Value) (off:Nat) (us:List Value):List Value:=vs.take off++us++vs.drop (off+us.length)
theorem store_cells {P:Program}{g:Nat}{T:TypeId}:∀(us:List Value) (i off:Nat) (w:World) (vs:List Value),Bk w g T vs→off+i+us.length≤vs.length→(∀u∈us,u.oneCell'=true)→
  ∃w',(storeCells ⟨g,off,none⟩ us i).run P w= .ok () w'∧Bk w' g T (overl vs (off+i) us)∧Upd g w w'∧w'.heap.size=w.heap.size
 | [],i,off,w,vs,hb,_,_=>⟨w,rfl,by simpa [overl] using hb,Upd.refl g w,rfl⟩
 | u::us,i,off,w,vs,hb,hle,h1=>by
  have hi:off+i<vs.length:=by simp at hle;omega
  have hc:=hb.cell hi
  have hf:=hb.frozen (off+i)
  have hb1:=hb.set (off+i) u
  obtain⟨w',hr,hb2,hu,hs⟩:=store_cells (P:=P) us (i+1) off (w.setCell ⟨g,off+i,none⟩ u) (vs.set (off+i) u) hb1 (by simp at hle⊢;omega) (fun x hx=>h1 x (by simp [hx]))
  refine⟨w',?_,?_,((Upd.refl g w).setCell (off+i) u).trans hu,by rw [hs];simp [World.setCell]⟩
  ·show ((store ((⟨g,off,none⟩:Addr).add i) u>>=fun _=>storeCells ⟨g,off,none⟩ us (i+1):Sem Unit)).run P w=_
   rw [add_lit0,Sem.run_bind,run_store1 hc hf (h1 u (by simp))]
   exact hr
  ·have e:overl (vs.set (off+i) u) (off+(i+1)) us=overl vs (off+i) (u::us):=by
    unfold overl
    have e1:(vs.set (off+i) u).take (off+(i+1))=vs.take (off+i)++ [u]:=by
     rw [show off+(i+1)=off+i+1 by omega,take_snoc _ _ (by simpa using hi) undef,List.take_set_of_le (Nat.le_refl _)]
     congr 2
     rw [List.getD_eq_getElem?_getD,List.getElem?_set_self hi];rfl
    rw [e1,List.drop_set_of_lt (by omega)]
    simp only [List.length_cons,List.append_assoc,List.cons_append,List.nil_append]
    rw [show off+(i+1)+us.length=off+i+(us.length+1) by omega]
   rw [←e];exact hb2
theorem run_stored {P:Program}{w:World}{T T':TypeId}{k g off:Nat}{vs us:List Value}(hT:AggT P T k) (hk:us.length=k)
  (hb:Bk w g T' vs) (hle:off+k≤vs.length) (h1:us.all (·.oneCell')=true) (us':List Value) (he:overl vs off us=us'):
  ∃w',(storeVar T ⟨g,off,none⟩ (.agg us.toArray)).run P w= .ok () w'∧Bk w' g T' us'∧Upd g w w'∧w'.heap.size=w.heap.size:=by
 subst hk
 obtain⟨w',hr,hb2,hu,hs⟩:=store_cells (P:=P) us 0 off w vs hb (by omega) (by simpa [List.all_eq_true] using h1)
 rw [Nat.add_zero,he] at hb2
 refine⟨w',?_,hb2,hu,hs⟩
 unfold storeVar
 rw [Sem.run_bind]
 show ((sizeOf T).run P w).andThen _=_
 rw [hT.size w]
 have e:(Value.agg us.toArray).cells=us.toArray:=rfl
 simp only [Result.andThen_ok,e,List.size_toArray,ne_eq,not_true,if_false]
 exact hr
theorem wl_stored {P:Program}{Q:Exit→Act→World→Prop}{n:Nat}{l:Fr}{w:World}{ops:Array Oper}{rest:List Oper}{ty:TypeId}{pos:String}{af:Array Edge}{gd:Option (Nat×Bool)}
  (hw:guardB ops l gd=some true){x y:Operand}{T T':TypeId}{k g off:Nat}{vs us:List Value}(hx:evo l x=some (.pointer (some ⟨g,off,none⟩))) (hy:evo l y=some (.agg us.toArray)) (hT:AggT P T k) (hk:us.length=k)
  (hb:Bk w g T' vs) (hle:off+k≤vs.length) (h1:us.all (·.oneCell')=true) (us':List Value) (he:overl vs off us=us')
  (h:∀w',Bk w' g T' us'→Upd g w w'→w'.heap.size=w.heap.size→wl P ops Q n rest l w'):wl P ops Q n (⟨none,.store T x y,ty,pos,af,gd⟩::rest) l w:=by
 obtain⟨w',hr,hb2,hu,hs⟩:=run_stored (P:=P) hT hk hb hle h1 us' he
 exact wl_store hw (p:=⟨g,off,none⟩) hx hy (w':=w') hr (h w' hb2 hu hs)
theorem wl_stored1 {P:Program}{Q:Exit→Act→World→Prop}{n:Nat}{l:Fr}{w:World}{ops:Array Oper}{rest:List Oper}{ty:TypeId}{pos:String}{af:Array Edge}{gd:Option (Nat×Bool)}
  (hw:guardB ops l gd=some true){x y:Operand}{T T':TypeId}{g off:Nat}{vs:List Value}{v:Value}(hx:evo l x=some (.pointer (some ⟨g,off,none⟩))) (hy:evo l y=some v) (hT:∀w,(sizeOf T).run P w= .ok 1 w) (hv:v.cells= #[v])
  (hb:Bk w g T' vs) (hle:off<vs.length) (h1:v.oneCell'=true) (us':List Value) (he:vs.set off v=us')
  (h:∀w',Bk w' g T' us'→Upd g w w'→w'.heap.size=w.heap.size→wl P ops Q n rest l w'):wl P ops Q n (⟨none,.store T x y,ty,pos,af,gd⟩::rest) l w:=by
 have hb2:=hb.set off v
 rw [he] at hb2
 refine wl_store hw (p:=⟨g,off,none⟩) hx hy (w':=w.setCell ⟨g,off,none⟩ v) ?_ (h _ hb2 ((Upd.refl g w).setCell off v) (by simp [World.setCell]))
 unfold storeVar
 rw [Sem.run_bind]
 show ((sizeOf T).run P w).andThen _=_
 rw [hT w]
 simp only [Result.andThen_ok,hv,List.size_toArray,List.length_cons,List.length_nil,ne_eq,not_true,Nat.zero_add,if_false]
 show ((store ((⟨g,off,none⟩:Addr).add 0) v>>=fun _=>storeCells ⟨g,off,none⟩ [] (0+1):Sem Unit)).run P w=_
 rw [add_lit0,Nat.add_zero,Sem.run_bind,run_store1 (hb.cell hle) (hb.frozen off) h1]
 rfl
section
variable {P:Program}{Q:Exit→Act→World→Prop}{n:Nat}{l:Fr}{w:World}{ops:Array Oper}{rest:List Oper}{d:Nat}{ty:TypeId}{pos:String}{af:Array Edge}{gd:Option (Nat×Bool)}
theorem run_index {t e:TypeId}{s m c:Nat}{a:Addr}{k:IntKind}{i:Int}(hT:P.underlying t=some (.slice e)) (hs:∀w,(sizeOf e).run P w= .ok s w) (h0:0≤i) (h1:i<m):
  (Instr.indexAt t (.slice (some a) m c) (.int k i)).run P w= .ok (.pointer (some (a.add (i.toNat*s)))) w:=by
 have hu:(underlying t).run P w= .ok (.slice e) w:=run_underlying hT w
 unfold Instr.indexAt
 simp only [asIntOf,Sem.run_bind,Sem.run_pure,Result.andThen_ok,hu]
 rw [if_pos ⟨h0,h1⟩]
 simp only [Sem.run_bind,hs w,Result.andThen_ok,Sem.run_pure]
theorem wl_index (hw:guardB ops l gd=some true){x y:Operand}{t e:TypeId}{s m c:Nat}{a:Addr}{k:IntKind}{i:Int}(hx:evo l x=some (.slice (some a) m c)) (hy:evo l y=some (.int k i)) (hT:P.underlying t=some (.slice e)) (hs:∀w,(sizeOf e).run P w= .ok s w)
  (h0:0≤i) (h1:i<m) (p:Addr) (hp:a.add (i.toNat*s)=p) (hn:d<n) (h:wl P ops Q n rest ((d,.pointer (some p))::l) w):wl P ops Q n (⟨some d,.indexAddr t x y,ty,pos,af,gd⟩::rest) l w:=
 wl_val hw hn (fun a' ha=>by
  have e:(Instr.indexAt t (a'.eval x) (a'.eval y)).run P w= .ok (.pointer (some p)) w:=by rw [ha.ev hx,ha.ev hy,←hp];exact run_index hT hs h0 h1
  show ((Instr.indexAt t (a'.eval x) (a'.eval y)>>=fun r=>pure (Next.value r):Sem Next)).run P w=_
  rw [Sem.run_bind,e];rfl) h
def optIs (v:Option Value) (k:Nat) (dflt:Nat):Prop:=(v=none∧k=dflt)∨v=some (.int .i64 (k:Int))
theorem run_bound {i cap:Nat}{k:BoundsCode}(h:i≤cap):(Instr.sliceBound (.int .i64 (i:Int)) cap k).run P w= .ok i w:=by
 unfold Instr.sliceBound
 simp only [asIntOf,Sem.run_bind,Sem.run_pure,Result.andThen_ok]
 rw [if_pos ⟨by omega,by omega⟩]
 rfl
theorem run_slice {t e:TypeId}{s m c lo hi:Nat}{A:Option Addr}{low high:Option Value}(hT:P.underlying t=some (.slice e)) (hs:∀w,(sizeOf e).run P w= .ok s w) (h1:optIs low lo 0) (h2:optIs high hi m) (h3:lo≤hi) (h4:hi≤c):
  (Instr.sliceAt t (.slice A m c) low high none).run P w= .ok (.slice (if c=lo then A else A.map (·.add (lo*s))) (hi-lo) (c-lo)) w:=by
 have hu:(underlying t).run P w= .ok (.slice e) w:=run_underlying hT w
 have hb:(Instr.sliceBounds true m c low high none).run P w= .ok (lo,hi,c) w:=by
  unfold Instr.sliceBounds
  rcases h1 with⟨rfl,rfl⟩ | rfl <;> rcases h2 with⟨rfl,rfl⟩ | rfl
  ·simp only [Sem.run_bind,Sem.run_pure,Result.andThen_ok]
  ·simp only [Sem.run_bind,Sem.run_pure,Result.andThen_ok,run_bound h4,if_true]
  ·simp only [Sem.run_bind,Sem.run_pure,Result.andThen_ok,Option.isSome,run_bound h3]
  ·simp only [Sem.run_bind,Sem.run_pure,Result.andThen_ok,Option.isSome,run_bound h4,run_bound h3,if_true]
 unfold Instr.sliceAt
 simp only [Sem.run_bind,hu,Result.andThen_ok]
 unfold Instr.slice
 simp only [Sem.run_bind,hu,Result.andThen_ok,hb,hs w,Sem.run_pure]
theorem wl_slice (hw:guardB ops l gd=some true){x:Operand}{lo' hi':Option Operand}{t e:TypeId}{s m c lo hi:Nat}{A:Option Addr}(hx:evo l x=some (.slice A m c)) (hT:P.underlying t=some (.slice e)) (hs:∀w,(sizeOf e).run P w= .ok s w)
  (h1:match lo' with | none=>lo=0 | some y=>evo l y=some (.int .i64 (lo:Int))) (h2:match hi' with | none=>hi=m | some y=>evo l y=some (.int .i64 (hi:Int))) (h3:lo≤hi) (h4:hi≤c)
  {v:Value}(hv:Value.slice (if c=lo then A else A.map (·.add (lo*s))) (hi-lo) (c-lo)=v) (hn:d<n) (h:wl P ops Q n rest ((d,v)::l) w):wl P ops Q n (⟨some d,.slice t x lo' hi' none,ty,pos,af,gd⟩::rest) l w:=
 wl_val hw hn (fun a' ha=>by
  have e:(Instr.sliceAt t (a'.eval x) (lo'.map a'.eval) (hi'.map a'.eval) (Option.map a'.eval none)).run P w= .ok v w:=by
   rw [ha.ev hx,←hv]
   refine run_slice hT hs ?_ ?_ h3 h4
   ·cases lo' with
    | none=>exact Or.inl ⟨rfl,h1⟩
    | some y=>exact Or.inr (by show some (a'.eval y)=_;rw [ha.ev h1])
   ·cases hi' with
    | none=>exact Or.inl ⟨rfl,h2⟩
    | some y=>exact Or.inr (by show some (a'.eval y)=_;rw [ha.ev h2])
  show ((Instr.sliceAt t (a'.eval x) (lo'.map a'.eval) (hi'.map a'.eval) (Option.map a'.eval none)>>=fun r=>pure (Next.value r):Sem Next)).run P w=_
  rw [Sem.run_bind,e];rfl) h
theorem load_at {T:TypeId}{k:Nat}{p:Addr}(hT:AggT P T k) (us:List Value) (hu:us.length=k) (hc:∀j,j<us.length→w.cell? (p.add j)=some (us.getD j undef)):(loadVar T p).run P w= .ok (.agg us.toArray) w:=by
 subst hu
 have h1:=run_loadCells (P:=P) (w:=w) (p:=p) us 0 #[] (fun j hj=>by rw [Nat.zero_add];exact hc j hj)
 unfold loadVar loadCells
 rw [Sem.run_bind,hT.agg w]
 simp only [Result.andThen_ok,if_true,Sem.run_bind,hT.size w,h1]
 simp
theorem load_cell1 {T:TypeId}{p:Addr}{v:Value}(hT:∀w,(isAgg T).run P w= .ok false w) (hc:w.cell? p=some v):(loadVar T p).run P w= .ok v w:=by
 unfold loadVar
 rw [Sem.run_bind,hT w]
 simp only [Result.andThen_ok,Bool.false_eq_true,if_false]
 exact run_load1 hc
end
theorem lt_nat_t {i n:Nat}(h:i<n):cmpB .lss (i:Int) (n:Int)=some true:=by simp only [cmpB,Option.some.injEq,decide_eq_true_eq];omega
theorem lt_nat_f {i n:Nat}(h:n≤i):cmpB .lss (i:Int) (n:Int)=some false:=by simp only [cmpB,Option.some.injEq,decide_eq_false_iff_not];omega
theorem ge_t {a b:Int}(h:b≤a):cmpB .geq a b=some true:=by simp only [cmpB,Option.some.injEq,decide_eq_true_eq];omega
theorem ge_f {a b:Int}(h:a<b):cmpB .geq a b=some false:=by simp only [cmpB,Option.some.injEq,decide_eq_false_iff_not];omega
theorem lt_t {a b:Int}(h:a<b):cmpB .lss a b=some true:=by simp only [cmpB,Option.some.injEq,decide_eq_true_eq];omega
theorem lt_f {a b:Int}(h:b≤a):cmpB .lss a b=some false:=by simp only [cmpB,Option.some.injEq,decide_eq_false_iff_not];omega
theorem gt_t {a b:Int}(h:b<a):cmpB .gtr a b=some true:=by simp only [cmpB,Option.some.injEq,decide_eq_true_eq];omega
theorem gt_f {a b:Int}(h:a≤b):cmpB .gtr a b=some false:=by simp only [cmpB,Option.some.injEq,decide_eq_false_iff_not];omega
theorem le_t {a b:Int}(h:a≤b):cmpB .leq a b=some true:=by simp only [cmpB,Option.some.injEq,decide_eq_true_eq];omega
theorem le_f {a b:Int}(h:b<a):cmpB .leq a b=some false:=by simp only [cmpB,Option.some.injEq,decide_eq_false_iff_not];omega
theorem eq_t {a b:Int}(h:a=b):cmpB .eql a b=some true:=by subst h;simp [cmpB]
theorem eq_f {a b:Int}(h:a≠b):cmpB .eql a b=some false:=by simp only [cmpB,Option.some.injEq,beq_eq_false_iff_ne,ne_eq];exact h
theorem ne_t {a b:Int}(h:a≠b):cmpB .neq a b=some true:=by simp only [cmpB,Option.some.injEq,bne_iff_ne,ne_eq];exact h
theorem ne_f {a b:Int}(h:a=b):cmpB .neq a b=some false:=by subst h;simp [cmpB]
theorem ar_i64 {a b c:Int}(h:a+b=c) (h1: -9223372036854775808≤c) (h2:c≤9223372036854775807):arB .add .i64 a b=some c:=by
 simp only [arB,Option.some.injEq];rw [h];exact IntWalk.i64_in _ ⟨h1,h2⟩
theorem ar_i64s {a b c:Int}(h:a-b=c) (h1: -9223372036854775808≤c) (h2:c≤9223372036854775807):arB .sub .i64 a b=some c:=by
 simp only [arB,Option.some.injEq];rw [h];exact IntWalk.i64_in _ ⟨h1,h2⟩
theorem ar_i64m {a b c:Int}(h:a*b=c) (h1: -9223372036854775808≤c) (h2:c≤9223372036854775807):arB .mul .i64 a b=some c:=by
 simp only [arB,Option.some.injEq];rw [h];exact IntWalk.i64_in _ ⟨h1,h2⟩
theorem ar_i64q {a b c:Int}(hb:b≠0) (h:a.tdiv b=c) (h1: -9223372036854775808≤c) (h2:c≤9223372036854775807):arB .quo .i64 a b=some c:=by
 simp only [arB];rw [if_neg hb,h,Option.some.injEq];exact IntWalk.i64_in _ ⟨h1,h2⟩
theorem Rd.at {w:World}{A:Option Addr}{n c:Nat}{xs:List Nat}(h:Rd w A n c xs){i:Nat}(hi:i<n):
  ∃p,A.map (·.add (i*1))=some p∧w.cell? p=some (.int .u64 ((xs.getD i 0:Nat):Int))∧xs.getD i 0≤18446744073709551615:=by
 obtain⟨a,x,rfl,hk,hb,hc⟩:=h.get hi
 refine⟨a.add i,by rw [Nat.mul_one];rfl,?_,by rw [hk.out];exact hb⟩
 rw [hk.out];exact hc
section
variable {P:Program}{Q:Exit→Act→World→Prop}{n:Nat}{l:Fr}{w:World}{ops:Array Oper}{rest:List Oper}{d:Nat}{op:Op}{ty:TypeId}{pos:String}{af:Array Edge}{gd:Option (Nat×Bool)}
theorem run_idx {t e:TypeId}{s m c:Nat}{A:Option Addr}{k:IntKind}{i:Int}{j:Nat}{p:Addr}(hT:P.underlying t=some (.slice e)) (hs:∀w,(sizeOf e).run P w= .ok s w) (hi:i=(j:Int)) (hj:j<m) (hp:A.map (·.add (j*s))=some p):
  (Instr.indexAt t (.slice A m c) (.int k i)).run P w= .ok (.pointer (some p)) w:=by
 subst hi
 cases A with
 | none=>cases hp
 | some a=>
  have h:=run_index (P:=P) (w:=w) (t:=t) (e:=e) (s:=s) (m:=m) (c:=c) (a:=a) (k:=k) (i:=(j:Int)) hT hs (by omega) (by omega)
  rw [h]
  rw [Int.toNat_natCast]
  injection hp with hp
  rw [←hp]
theorem wl_idx (hw:guardB ops l gd=some true){x y:Operand}{t e:TypeId}{s m c:Nat}{A:Option Addr}{k:IntKind}{i:Int}(hx:evo l x=some (.slice A m c)) (hy:evo l y=some (.int k i)) (hT:P.underlying t=some (.slice e)) (hs:∀w,(sizeOf e).run P w= .ok s w)
  (j:Nat) (hi:i=(j:Int)) (hj:j<m) (p:Addr) (hp:A.map (·.add (j*s))=some p) (hn:d<n) (h:wl P ops Q n rest ((d,.pointer (some p))::l) w):wl P ops Q n (⟨some d,.indexAddr t x y,ty,pos,af,gd⟩::rest) l w:=
 wl_val hw hn (fun a' ha=>by
  have e:(Instr.indexAt t (a'.eval x) (a'.eval y)).run P w= .ok (.pointer (some p)) w:=by rw [ha.ev hx,ha.ev hy];exact run_idx hT hs hi hj hp
  show ((Instr.indexAt t (a'.eval x) (a'.eval y)>>=fun r=>pure (Next.value r):Sem Next)).run P w=_
  rw [Sem.run_bind,e];rfl) h
theorem run_store1v {w:World}{T T':TypeId}{g off:Nat}{vs:List Value}{v:Value}(hT:∀w,(sizeOf T).run P w= .ok 1 w) (hv:v.cells= #[v]) (hb:Bk w g T' vs) (hle:off<vs.length) (h1:v.oneCell'=true) (us':List Value) (he:vs.set off v=us'):
  ∃w',(storeVar T ⟨g,off,none⟩ v).run P w= .ok () w'∧Bk w' g T' us'∧Upd g w w'∧w'.heap.size=w.heap.size:=by
 have hb2:=hb.set off v
 rw [he] at hb2
 refine⟨w.setCell ⟨g,off,none⟩ v,?_,hb2,(Upd.refl g w).setCell off v,by simp [World.setCell]⟩
 unfold storeVar
 rw [Sem.run_bind]
 show ((sizeOf T).run P w).andThen _=_
 rw [hT w]
 simp only [Result.andThen_ok,hv,List.size_toArray,List.length_cons,List.length_nil,ne_eq,not_true,Nat.zero_add,if_false]
 show ((store ((⟨g,off,none⟩:Addr).add 0) v>>=fun _=>storeCells ⟨g,off,none⟩ [] (0+1):Sem Unit)).run P w=_
 rw [add_lit0,Nat.add_zero,Sem.run_bind,run_store1 (hb.cell hle) (hb.frozen off) h1]
 rfl
end
theorem len_map {f:Nat→Value}{l:List Nat}{i:Nat}(h:i<l.length):i<(l.map f).length:=by rw [List.length_map];exact h
theorem cb_lt_t {A B:Int}{a b:Nat}(ha:A=(a:Int)) (hb:B=(b:Int)) (h:a<b):cmpB .lss A B=some true:=by subst ha hb;exact lt_t (by omega)
theorem cb_lt_f {A B:Int}{a b:Nat}(ha:A=(a:Int)) (hb:B=(b:Int)) (h:b≤a):cmpB .lss A B=some false:=by subst ha hb;exact lt_f (by omega)
theorem cb_le_t {A B:Int}{a b:Nat}(ha:A=(a:Int)) (hb:B=(b:Int)) (h:a≤b):cmpB .leq A B=some true:=by subst ha hb;exact le_t (by omega)
theorem cb_le_f {A B:Int}{a b:Nat}(ha:A=(a:Int)) (hb:B=(b:Int)) (h:b<a):cmpB .leq A B=some false:=by subst ha hb;exact le_f (by omega)
theorem cb_gt_t {A B:Int}{a b:Nat}(ha:A=(a:Int)) (hb:B=(b:Int)) (h:b<a):cmpB .gtr A B=some true:=by subst ha hb;exact gt_t (by omega)
theorem cb_gt_f {A B:Int}{a b:Nat}(ha:A=(a:Int)) (hb:B=(b:Int)) (h:a≤b):cmpB .gtr A B=some false:=by subst ha hb;exact gt_f (by omega)
theorem cb_ge_t {A B:Int}{a b:Nat}(ha:A=(a:Int)) (hb:B=(b:Int)) (h:b≤a):cmpB .geq A B=some true:=by subst ha hb;exact ge_t (by omega)
theorem cb_ge_f {A B:Int}{a b:Nat}(ha:A=(a:Int)) (hb:B=(b:Int)) (h:a<b):cmpB .geq A B=some false:=by subst ha hb;exact ge_f (by omega)
theorem cb_eq_t {A B:Int}{a b:Nat}(ha:A=(a:Int)) (hb:B=(b:Int)) (h:a=b):cmpB .eql A B=some true:=by subst ha hb;exact eq_t (by omega)
theorem cb_eq_f {A B:Int}{a b:Nat}(ha:A=(a:Int)) (hb:B=(b:Int)) (h:a≠b):cmpB .eql A B=some false:=by subst ha hb;exact eq_f (by omega)
theorem au_add {A B:Int}{a b:Nat}(ha:A=(a:Int)) (hb:B=(b:Int)) (h:a+b≤18446744073709551615):arB .add .u64 A B=some ((a+b:Nat):Int):=by
 subst ha hb;simp only [arB,Option.some.injEq];rw [←Int.natCast_add];exact IntWalk.u64_in _ ⟨by omega,by omega⟩
theorem au_mul {A B:Int}{a b:Nat}(ha:A=(a:Int)) (hb:B=(b:Int)) (h:a*b≤18446744073709551615):arB .mul .u64 A B=some ((a*b:Nat):Int):=by
 subst ha hb;simp only [arB,Option.some.injEq];rw [←Int.natCast_mul];exact IntWalk.u64_in _ ⟨by omega,by omega⟩
theorem au_quo {A B:Int}{a b:Nat}(ha:A=(a:Int)) (hb:B=(b:Int)) (h:b≠0) (h2:a≤18446744073709551615):arB .quo .u64 A B=some ((a/b:Nat):Int):=by
 subst ha hb
 have e:((a:Int)).tdiv (b:Int)=((a/b:Nat):Int):=rfl
 have h3:a/b≤a:=Nat.div_le_self a b
 have h4:(0:Int)≤((a/b:Nat):Int):=Int.natCast_nonneg _
 have h5:((a/b:Nat):Int)≤(a:Int):=Int.ofNat_le.2 h3
 simp only [arB];rw [if_neg (by omega),e,Option.some.injEq]
 generalize ((a/b:Nat):Int)=q at h4 h5
 exact IntWalk.u64_in _ ⟨by omega,by omega⟩
theorem au_rem {k:IntKind}{A B:Int}{a b:Nat}(ha:A=(a:Int)) (hb:B=(b:Int)) (h:b≠0):arB .rem k A B=some ((a%b:Nat):Int):=by
 subst ha hb
 have e:((a:Int)).tmod (b:Int)=((a%b:Nat):Int):=rfl
 simp only [arB];rw [if_neg (by omega),e]
theorem ai_add {A B:Int}{a b:Nat}(ha:A=(a:Int)) (hb:B=(b:Int)) (h:a+b≤9223372036854775807):arB .add .i64 A B=some ((a+b:Nat):Int):=by
 subst ha hb;exact ar_i64 (by omega) (by omega) (by omega)
theorem ai_sub {A B:Int}{a b:Nat}(ha:A=(a:Int)) (hb:B=(b:Int)) (h:b≤a) (h2:a≤9223372036854775807):arB .sub .i64 A B=some ((a-b:Nat):Int):=by
 subst ha hb;exact ar_i64s (by omega) (by omega) (by omega)
theorem ai_mul {A B:Int}{a b:Nat}(ha:A=(a:Int)) (hb:B=(b:Int)) (h:a*b≤9223372036854775807):arB .mul .i64 A B=some ((a*b:Nat):Int):=by
 subst ha hb;exact ar_i64m (by rw [←Int.natCast_mul]) (by omega) (by omega)
theorem ai_quo {A B:Int}{a b:Nat}(ha:A=(a:Int)) (hb:B=(b:Int)) (h:b≠0) (h2:a≤9223372036854775807):arB .quo .i64 A B=some ((a/b:Nat):Int):=by
 subst ha hb
 have h3:a/b≤a:=Nat.div_le_self a b
 have h4:(0:Int)≤((a/b:Nat):Int):=Int.natCast_nonneg _
 have h5:((a/b:Nat):Int)≤(a:Int):=Int.ofNat_le.2 h3
 refine ar_i64q (by omega) rfl ?_ ?_
 ·show _≤((a/b:Nat):Int)
  generalize ((a/b:Nat):Int)=q at h4 h5
  omega
 ·show ((a/b:Nat):Int)≤_
  generalize ((a/b:Nat):Int)=q at h4 h5
  omega
theorem sz_u64 (w:World):(sizeOf 50).run Tryd.prog w= .ok 1 w:=by kernel_rfl
theorem ag_u64 (w:World):(isAgg 50).run Tryd.prog w= .ok false w:=by kernel_rfl
theorem un_u64:Tryd.prog.underlying 22=some (.slice 50):=Tryd.underlying22
theorem res_ie {w:World}{g:Nat}{t:TypeId}{a b:Value}{fn:Func}{s u:Tmp}(hf:fn.results= #[.cell s 24,.tmp u]){tmps:Array Value}(hs:tmps.getD s undef= .pointer (some ⟨g,0,none⟩)){v:Value}(hu:tmps.getD u undef=v) (h:Bk w g t [a,b]):
  (results fn tmps).run Tryd.prog w= .ok (.tuple #[.agg #[a,b],v]) w:=by
 obtain⟨h1,h2,_,_⟩:=h.two
 have hs2:tmps[s]?.getD undef= .pointer (some ⟨g,0,none⟩):=by simpa using hs
 have hu2:tmps[u]?.getD undef=v:=by simpa using hu
 simp [results,hf,hs2,hu2,loadVar,loadCells,loadCellsFrom,go_sem,h1,h2]
theorem res_iie {w:World}{g g':Nat}{t t':TypeId}{a b c d:Value}{fn:Func}{s s' u:Tmp}(hf:fn.results= #[.cell s 24,.cell s' 24,.tmp u]){tmps:Array Value}(hs:tmps.getD s undef= .pointer (some ⟨g,0,none⟩)) (hs':tmps.getD s' undef= .pointer (some ⟨g',0,none⟩)){v:Value}(hu:tmps.getD u undef=v) (h:Bk w g t [a,b]) (h':Bk w g' t' [c,d]):
  (results fn tmps).run Tryd.prog w= .ok (.tuple #[.agg #[a,b],.agg #[c,d],v]) w:=by
 obtain⟨h1,h2,_,_⟩:=h.two
 obtain⟨h3,h4,_,_⟩:=h'.two
 have hs2:tmps[s]?.getD undef= .pointer (some ⟨g,0,none⟩):=by simpa using hs
 have hs3:tmps[s']?.getD undef= .pointer (some ⟨g',0,none⟩):=by simpa using hs'
 have hu2:tmps[u]?.getD undef=v:=by simpa using hu
 simp [results,hf,hs2,hs3,hu2,loadVar,loadCells,loadCellsFrom,go_sem,h1,h2,h3,h4]
theorem Bk.two_far {w:World}{g g':Nat}{t:TypeId}{l:List Value}(h:Bk w g t l) (hne:g≠g') (u v:Value):Bk ((w.setCell ⟨g',0,none⟩ u).setCell ⟨g',1,none⟩ v) g t l:=(h.far (p:=⟨g',0,none⟩) hne u).far (p:=⟨g',1,none⟩) hne v
set_option maxHeartbeats 1000000 in
theorem zint_Add {w:World}{s t:Bool}{A B:Option Addr}{n cap m cap':Nat}{x y:Int}(hx:Zi w s A n cap x) (hl:n≤274877906944) (hy:Zi w t B m cap' y) (hl':m≤274877906944):
  Calls Tryd.prog 54 #[.agg #[.bool s,.slice A n cap],.agg #[.bool t,.slice B m cap']] w (RetZ w (x+y)):=by
 obtain⟨xs,hr,rfl⟩:=hx
 obtain⟨ys,hq,rfl⟩:=hy
 go_enter Tryd.func54,Tryd.ntmps54
 go_upto_region 1 with (fail)
 obtain⟨g,g2,g3,wa,hg3,hg2,hg,hwa,hb1,hb2,hb3,hea,l12,l23,l3,n12,n21,n13,n31,n23,n32⟩:=boxes3 w 24 24 24 (.bool s) (.slice A n cap) (.bool t) (.slice B m cap') (.bool false) (.slice none 0 0)
 rw [hg3,hg2,hg,hwa]
 have hgw:w.heap.size≤g:=Nat.le_of_eq hg
 clear hwa hg hg2 hg3
 obtain⟨f1,f2,f3,f4⟩:=hb1.two
 obtain⟨h1,h2,h3,h4⟩:=hb2.two
 obtain⟨k1,k2,k3,k4⟩:=hb3.two
 by_cases hst:s=t
 ·have bs:(s==t)=true:=by rw [hst];cases t <;> rfl
  go_upto_region 2 with (fail)
  go_region_held3 (fun w'=>w'.cell? ⟨g,0,none⟩=some (.bool s)∧w'.cell? ⟨g,1,none⟩=some (.slice A n cap)∧w'.cell? ⟨g2,0,none⟩=some (.bool t)∧w'.cell? ⟨g2,1,none⟩=some (.slice B m cap')) (go_keep)
   (first
   | (go_at_call 78;refine (nat_Add (hr.ext (by repeat (first | exact Ext.refl _ | assumption | apply Ext.drewN | apply Ext.drew | apply Ext.alloc))) (by omega) (hq.ext (by repeat (first | exact Ext.refl _ | assumption | apply Ext.drewN | apply Ext.drew | apply Ext.alloc))) (by omega)).mono ?_;rintro e w1 ⟨A1,n1,c1,rfl,hn1,hr1,ho1,hx1⟩;have he1:Ext wa w1:=Ext.trans (by repeat (first | exact Ext.refl _ | assumption | apply Ext.drewN | apply Ext.drew | apply Ext.alloc)) hx1;have hb1:=hb1.ext he1;have hb2:=hb2.ext he1;have hb3:=hb3.ext he1;obtain⟨f1,f2,f3,f4⟩:=hb1.two;obtain⟨h1,h2,h3,h4⟩:=hb2.two;obtain⟨k1,k2,k3,k4⟩:=hb3.two)
   | (go_at_call 45;refine (zint_of hn1.out).mono ?_;rintro e w2 ⟨s',rfl,hs',hx2⟩;have hd1:=hb1.ext hx2;have hd2:=hb2.ext hx2;have hd3:=hb3.ext hx2;obtain⟨f1,f2,f3,f4⟩:=hd1.two;obtain⟨h1,h2,h3,h4⟩:=hd2.two;obtain⟨k1,k2,k3,k4⟩:=hd3.two))
  go_wp2_with fail
  refine bodyPost_ret (res_int rfl rfl (hd3.two_set _ _)) rfl ?_
  exact fin_int hd3 ((Zr_of hs'.out hn1.out ho1 (by rw [sg_add,hst])).ext hx2) (by first | omega | (simp;omega)) (by omega) (hea.trans (he1.trans hx2))
 ·have bs:(s==t)=false:=by cases s <;> cases t <;> simp_all
  have ht:Hid (t= !s):=by show _=_;cases s <;> cases t <;> simp_all
  clear hst
  go_wp2_with fail
  refine (nat_Cmp (hr.ext hea) (by omega) (hq.ext hea) (by omega)).mono ?_
  rintro e w1 ⟨c,hc,hcl,hch,rfl,hx1⟩
  have hb1:=hb1.ext hx1
  have hb2:=hb2.ext hx1
  have hb3:=hb3.ext hx1
  have he1:=hea.trans hx1
  have hsz:=hx1.size
  clear f1 f2 f3 f4 h1 h2 h3 h4 k1 k2 k3 k4
  obtain⟨f1,f2,f3,f4⟩:=hb1.two
  obtain⟨h1,h2,h3,h4⟩:=hb2.two
  by_cases hlt:c<0
  ·have hle:nv xs≤nv ys:=by rw [hc.out] at hlt;exact Nat.le_of_lt (cmp3_neg.1 hlt)
   have HLE:=Lib.hid hle
   clear hle
   go_upto_region 5 with (fail)
   obtain⟨wb,hwb⟩:∃wb,(((w1.setCell ⟨g,0,none⟩ (.bool t)).setCell ⟨g,1,none⟩ (.slice B m cap')).setCell ⟨g2,0,none⟩ (.bool s)).setCell ⟨g2,1,none⟩ (.slice A n cap)=wb:=⟨_,rfl⟩
   rw [hwb]
   have hd1:Bk wb g 24 [.bool t,.slice B m cap']:=by rw [←hwb];exact (hb1.two_set _ _).two_far n12 _ _
   have hd2:Bk wb g2 24 [.bool s,.slice A n cap]:=by rw [←hwb];exact (hb2.two_far n21 _ _).two_set _ _
   have hd3:Bk wb g3 24 [.bool false,.slice none 0 0]:=by rw [←hwb];exact (hb3.two_far n31 _ _).two_far n32 _ _
   have heb:Ext w wb:=by
    rw [←hwb]
    exact (Upd.two _ _).ext ((Upd.two _ _).ext he1 hgw) (by omega)
   have hszb:wb.heap.size=w1.heap.size:=by rw [←hwb];simp [World.setCell]
   clear hwb f1 f2 f3 f4 h1 h2 h3 h4
   obtain⟨f1,f2,f3,f4⟩:=hd1.two
   obtain⟨h1,h2,h3,h4⟩:=hd2.two
   go_wp2_with fail
   refine (nat_Sub (hq.ext heb) (by omega) (hr.ext heb) (by omega) HLE.out).mono ?_
   rintro e w2 ⟨A2,n2,c2,rfl,hn2,hr2,ho2,hx2⟩
   obtain⟨f1,f2,f3,f4⟩:=(hd1.ext hx2).two
   have hd3:=hd3.ext hx2
   go_wp2_with fail
   refine (zint_of hn2.out).mono ?_
   rintro e w3 ⟨s',rfl,hs',hx3⟩
   have hd3:=hd3.ext hx3
   obtain⟨k1,k2,k3,k4⟩:=hd3.two
   go_wp2_with fail
   refine bodyPost_ret (res_int rfl rfl (hd3.two_set _ _)) rfl ?_
   exact fin_int hd3 ((Zr_of hs'.out hn2.out ho2 (by rw [sg_sub HLE.out,ht.out,Bool.not_not,Int.add_comm])).ext hx3) (by omega) (by omega) (heb.trans (hx2.trans hx3))
  ·have hle:nv ys≤nv xs:=by rw [hc.out] at hlt;exact Nat.le_of_not_lt (fun h=>hlt (cmp3_neg.2 h))
   have HLE:=Lib.hid hle
   clear hle
   go_wp2_with fail
   refine (nat_Sub (hr.ext he1) (by omega) (hq.ext he1) (by omega) HLE.out).mono ?_
   rintro e w2 ⟨A2,n2,c2,rfl,hn2,hr2,ho2,hx2⟩
   obtain⟨f1,f2,f3,f4⟩:=(hb1.ext hx2).two
   have hd3:=hb3.ext hx2
   go_wp2_with fail
   refine (zint_of hn2.out).mono ?_
   rintro e w3 ⟨s',rfl,hs',hx3⟩
   have hd3:=hd3.ext hx3
   obtain⟨k1,k2,k3,k4⟩:=hd3.two
   go_wp2_with fail
   refine bodyPost_ret (res_int rfl rfl (hd3.two_set _ _)) rfl ?_
   exact fin_int hd3 ((Zr_of hs'.out hn2.out ho2 (by rw [sg_sub HLE.out,ht.out])).ext hx3) (by omega) (by omega) (he1.trans (hx2.trans hx3))
theorem zint_Sub {w:World}{s t:Bool}{A B:Option Addr}{n cap m cap':Nat}{x y:Int}(hx:Zi w s A n cap x) (hl:n≤274877906944) (hy:Zi w t B m cap' y) (hl':m≤274877906944):
  Calls Tryd.prog 27 #[.agg #[.bool s,.slice A n cap],.agg #[.bool t,.slice B m cap']] w (RetZ w (x-y)):=by
 go_enter Tryd.func27,Tryd.ntmps27
 go_upto_region 1 with (fail)
 obtain⟨g,g2,g3,wa,hg3,hg2,hg,hwa,hb1,hb2,hb3,hea,l12,l23,l3,n12,n21,n13,n31,n23,n32⟩:=boxes3 w 24 24 24 (.bool s) (.slice A n cap) (.bool t) (.slice B m cap') (.bool false) (.slice none 0 0)
 rw [hg3,hg2,hg,hwa]
 have hgw:w.heap.size≤g:=Nat.le_of_eq hg
 clear hwa hg hg2 hg3
 obtain⟨f1,f2,f3,f4⟩:=hb1.two
 obtain⟨h1,h2,h3,h4⟩:=hb2.two
 obtain⟨k1,k2,k3,k4⟩:=hb3.two
 go_wp2_with fail
 refine (zint_Add (hx.ext hea) hl (hy.not.ext hea) hl').mono ?_
 rintro e w1 ⟨s1,A1,n1,c1,rfl,z1,hx1⟩
 have hd3:=hb3.ext hx1
 clear f1 f2 f3 f4 h1 h2 h3 h4 k1 k2 k3 k4
 obtain⟨k1,k2,k3,k4⟩:=hd3.two
 go_wp2_with fail
 refine bodyPost_ret (res_int rfl rfl (hd3.two_set _ _)) rfl ?_
 exact fin_int hd3 (z1.cast Int.sub_eq_add_neg.symm) (by omega) (by omega) (hea.trans hx1)
theorem zint_MulAdd {w:World}{s t u:Bool}{A B C:Option Addr}{n cap m cap' k cap'':Nat}{x y z:Int}(hx:Zi w s A n cap x) (hl:n≤68719476736) (hy:Zi w t B m cap' y) (hl':m≤68719476736) (hz:Zi w u C k cap'' z) (hl'':k≤68719476736):
  Calls Tryd.prog 47 #[.agg #[.bool s,.slice A n cap],.agg #[.bool t,.slice B m cap'],.agg #[.bool u,.slice C k cap'']] w (RetZ w (x*y+z)):=by
 have lx:=Nat.le_trans hx.ln hl
 have ly:=Nat.le_trans hy.ln hl'
 go_enter Tryd.func47,Tryd.ntmps47
 go_upto_region 1 with (fail)
 obtain⟨g,g2,g3,g4,wa,hg4,hg3,hg2,hg,hwa,hb1,hb2,hb3,hb4,hea,l12,l23,l34,l4,n12,n21,n13,n31,n23,n32,n14,n41,n24,n42,n34,n43⟩:=boxes4 w 24 24 24 24 (.bool s) (.slice A n cap) (.bool t) (.slice B m cap') (.bool u) (.slice C k cap'') (.bool false) (.slice none 0 0)
 rw [hg4,hg3,hg2,hg,hwa]
 have hgw:w.heap.size≤g:=Nat.le_of_eq hg
 clear hwa hg hg2 hg3 hg4
 obtain⟨f1,f2,f3,f4⟩:=hb1.two
 obtain⟨h1,h2,h3,h4⟩:=hb2.two
 obtain⟨i1,i2,i3,i4⟩:=hb3.two
 obtain⟨k1,k2,k3,k4⟩:=hb4.two
 go_region_held3 (fun w'=>w'.cell? ⟨g,0,none⟩=some (.bool s)∧w'.cell? ⟨g,1,none⟩=some (.slice A n cap)∧w'.cell? ⟨g2,0,none⟩=some (.bool t)∧w'.cell? ⟨g2,1,none⟩=some (.slice B m cap')∧w'.cell? ⟨g3,0,none⟩=some (.bool u)∧w'.cell? ⟨g3,1,none⟩=some (.slice C k cap'')) (go_keep)
  (first
  | (go_at_call 23;refine (zint_Mul (hx.ext (by repeat (first | exact Ext.refl _ | assumption | apply Ext.drewN | apply Ext.drew | apply Ext.alloc))) hl (hy.ext (by repeat (first | exact Ext.refl _ | assumption | apply Ext.drewN | apply Ext.drew | apply Ext.alloc))) hl').mono ?_;rintro e w1 ⟨s1,A1,n1,c1,rfl,z1,hx1⟩;have q1:n1≤274877906944:=(Nat.le_trans (z1.le (ln_mul lx ly)) (by omega));have he1:Ext wa w1:=Ext.trans (by repeat (first | exact Ext.refl _ | assumption | apply Ext.drewN | apply Ext.drew | apply Ext.alloc)) hx1;have hb1:=hb1.ext he1;have hb2:=hb2.ext he1;have hb3:=hb3.ext he1;have hb4:=hb4.ext he1;obtain⟨f1,f2,f3,f4⟩:=hb1.two;obtain⟨h1,h2,h3,h4⟩:=hb2.two;obtain⟨i1,i2,i3,i4⟩:=hb3.two;obtain⟨k1,k2,k3,k4⟩:=hb4.two)
  | (go_at_call 54;refine (zint_Add z1.zi q1 (hz.ext (hea.trans he1)) (by omega)).mono ?_;rintro e w2 ⟨s2,A2,n2,c2,rfl,z2,hx2⟩;have hb1:=hb1.ext hx2;have hb2:=hb2.ext hx2;have hb3:=hb3.ext hx2;have hb4:=hb4.ext hx2;obtain⟨f1,f2,f3,f4⟩:=hb1.two;obtain⟨h1,h2,h3,h4⟩:=hb2.two;obtain⟨i1,i2,i3,i4⟩:=hb3.two;obtain⟨k1,k2,k3,k4⟩:=hb4.two))
 go_wp2_with fail
 have hsz:=he1.size
 refine bodyPost_ret (res_int rfl rfl (hb4.two_set _ _)) rfl ?_
 exact fin_int hb4 z2 (by omega) (by omega) (hea.trans (he1.trans hx2))
set_option maxHeartbeats 1000000 in
theorem zint_Cmp {w:World}{s t:Bool}{A B:Option Addr}{n cap m cap':Nat}{x y:Int}(hx:Zi w s A n cap x) (hl:n≤68719476736) (hy:Zi w t B m cap' y) (hl':m≤68719476736):
  Calls Tryd.prog 12 #[.agg #[.bool s,.slice A n cap],.agg #[.bool t,.slice B m cap']] w (SgnP (scmp x y) w):=by
 go_enter Tryd.func12,Tryd.ntmps12
 go_upto_region 1 with (fail)
 obtain⟨g,g2,wa,hg2,hg,hwa,hb1,hb2,hea,l12,l2,n12,n21⟩:=boxes2 w 24 24 (.bool s) (.slice A n cap) (.bool t) (.slice B m cap')
 rw [hg2,hg,hwa]
 have hgw:w.heap.size≤g:=Nat.le_of_eq hg
 clear hwa hg hg2
 obtain⟨f1,f2,f3,f4⟩:=hb1.two
 obtain⟨h1,h2,h3,h4⟩:=hb2.two
 go_region_held3 (fun w'=>w'.cell? ⟨g,0,none⟩=some (.bool s)∧w'.cell? ⟨g,1,none⟩=some (.slice A n cap)∧w'.cell? ⟨g2,0,none⟩=some (.bool t)∧w'.cell? ⟨g2,1,none⟩=some (.slice B m cap')) (go_keep)
  (first
  | (go_at_call 11;(with_reducible refine (zint_Sign (hx.ext (hea.trans (by repeat (first | exact Ext.refl _ | assumption | apply Ext.drewN | apply Ext.drew | apply Ext.alloc)))) hl).mono ?_);rintro e w2 ⟨c,hc,hcl,hch,rfl,hx2⟩;have he2:Ext wa w2:=Ext.trans (by repeat (first | exact Ext.refl _ | assumption | apply Ext.drewN | apply Ext.drew | apply Ext.alloc)) hx2;obtain⟨f1,f2,f3,f4⟩:=(hb1.ext he2).two;obtain⟨h1,h2,h3,h4⟩:=(hb2.ext he2).two)
  | (go_at_call 11;(with_reducible refine (zint_Sign (hy.ext (hea.trans (by repeat (first | exact Ext.refl _ | assumption | apply Ext.drewN | apply Ext.drew | apply Ext.alloc)))) hl').mono ?_);rintro e w2 ⟨d,hd,hdl,hdh,rfl,hx2⟩;have he2:Ext wa w2:=Ext.trans (by repeat (first | exact Ext.refl _ | assumption | apply Ext.drewN | apply Ext.drew | apply Ext.alloc)) hx2;obtain⟨f1,f2,f3,f4⟩:=(hb1.ext he2).two;obtain⟨h1,h2,h3,h4⟩:=(hb2.ext he2).two))
 all_goals
  have e2:=hea.trans he2
  clear hx2
  have p1:c<0↔x<0:=by rw [hc.out];exact scmp_neg
  have p2:c=0↔x=0:=by rw [hc.out];exact scmp_zero
  have p3:d<0↔y<0:=by rw [hd.out];exact scmp_neg
  have p4:d=0↔y=0:=by rw [hd.out];exact scmp_zero
  have hlt:c<d→x<y:=by omega
  have hgt:d<c→y<x:=by omega
  have H1:=Lib.hid p1
  have H2:=Lib.hid p2
  have H3:=Lib.hid p3
  have H4:=Lib.hid p4
  clear p1 p2 p3 p4
  rcases Int.lt_trichotomy c d with h | h | h
  ·have bn:(c != d)=true:=by simp;omega
   have HL:=Lib.hid (hlt h)
   clear hlt hgt
   go_wp2_with fail
   go_ret
   exact⟨-1,(show _=_ by rw [scmp,if_pos HL.out]),by omega,by omega,rfl,e2⟩
  ·subst h
   have bn:(c != c)=false:=by simp
   clear hlt hgt
   obtain⟨xs,hr,hxv⟩:=hx
   obtain⟨ys,hq,hyv⟩:=hy
   have HX:=Lib.hid hxv
   have HY:=Lib.hid hyv
   clear hxv hyv
   go_wp2_with fail
   refine (nat_Cmp (hr.ext e2) (by omega) (hq.ext e2) (by omega)).mono ?_
   rintro e w3 ⟨k,hk,hkl,hkh,rfl,hx3⟩
   have fin:c*k=scmp x y:=by
    have ax:x.natAbs=nv xs:=by rw [←HX.out,sg_abs]
    have ay:y.natAbs=nv ys:=by rw [←HY.out,sg_abs]
    have k1:k<0↔nv xs<nv ys:=by rw [hk.out];exact cmp3_neg
    have k2:0<k↔nv ys<nv xs:=by rw [hk.out];exact cmp3_pos
    have p1:=H1.out
    have p2:=H2.out
    have p3:=H3.out
    have p4:=H4.out
    have hc3:c= -1∨c=0∨c=1:=by omega
    have hk3:k= -1∨k=0∨k=1:=by omega
    rcases hc3 with rfl | rfl | rfl
    ·rcases hk3 with rfl | rfl | rfl <;> (unfold scmp;split <;> (try split) <;> omega)
    ·unfold scmp;split <;> (try split) <;> omega
    ·rcases hk3 with rfl | rfl | rfl <;> (unfold scmp;split <;> (try split) <;> omega)
   have FIN:=Lib.hid fin
   clear fin
   have hc3:c= -1∨c=0∨c=1:=by omega
   rcases hc3 with rfl | rfl | rfl
   ·go_wp2_with fail
    go_ret
    exact⟨-k,(show _=_ by rw [←FIN.out];omega),by omega,by omega,rfl,e2.trans hx3⟩
   ·go_wp2_with fail
    go_ret
    exact⟨0,(show _=_ by rw [←FIN.out];omega),by omega,by omega,rfl,e2.trans hx3⟩
   ·go_wp2_with fail
    go_ret
    exact⟨k,(show _=_ by rw [←FIN.out];omega),by omega,by omega,rfl,e2.trans hx3⟩
  ·have bn:(c != d)=true:=by simp;omega
   have hnl:¬c<d:=by omega
   have HG:=Lib.hid (hgt h)
   clear hlt hgt
   go_wp2_with fail
   go_ret
   exact⟨1,(show _=_ by have:=HG.out;rw [scmp,if_neg (by omega),if_neg (by omega)]),by omega,by omega,rfl,e2⟩
theorem zint_Exact {w:World}{s t:Bool}{A B:Option Addr}{n cap m cap':Nat}{x y:Int}(hx:Zi w s A n cap x) (hl:n≤68719476736) (hy:Zi w t B m cap' y) (hl':m≤68719476736) (h0:y≠0) (h1:y∣x):
  Calls Tryd.prog 69 #[.agg #[.bool s,.slice A n cap],.agg #[.bool t,.slice B m cap']] w (RetZE w (x.tdiv y) 0):=by
 obtain⟨xs,hr,rfl⟩:=hx
 obtain⟨ys,hq,rfl⟩:=hy
 have hz:nv ys≠0:=fun e=>h0 (sg_eq_zero.2 e)
 have hd:nv xs%nv ys=0:=by
  have:=Int.natAbs_dvd_natAbs.2 h1
  rw [sg_abs,sg_abs] at this
  exact Nat.mod_eq_zero_of_dvd this
 have HZ:=Lib.hid hz
 have HD:=Lib.hid hd
 clear hz h0 hd h1
 go_enter Tryd.func69,Tryd.ntmps69
 go_upto_region 1 with (fail)
 obtain⟨g,g2,g3,wa,hg3,hg2,hg,hwa,hb1,hb2,hb3,hea,l12,l23,l3,n12,n21,n13,n31,n23,n32⟩:=boxes3 w 24 24 24 (.bool s) (.slice A n cap) (.bool t) (.slice B m cap') (.bool false) (.slice none 0 0)
 rw [hg3,hg2,hg,hwa]
 have hgw:w.heap.size≤g:=Nat.le_of_eq hg
 clear hwa hg hg2 hg3
 obtain⟨f1,f2,f3,f4⟩:=hb1.two
 obtain⟨h1,h2,h3,h4⟩:=hb2.two
 obtain⟨k1,k2,k3,k4⟩:=hb3.two
 go_wp2_with fail
 refine (divnat_Exact (hr.ext hea) (by omega) (hq.ext hea) (by omega) HZ.out HD.out).mono ?_
 rintro e w1 ⟨A1,n1,c1,rfl,hn1,hr1,ho1,hx1⟩
 have hb1:=hb1.ext hx1
 have hb2:=hb2.ext hx1
 have hb3:=hb3.ext hx1
 have he1:=hea.trans hx1
 have hsz:=hx1.size
 clear f1 f2 f3 f4 h1 h2 h3 h4 k1 k2 k3 k4
 obtain⟨f1,f2,f3,f4⟩:=hb1.two
 obtain⟨h1,h2,h3,h4⟩:=hb2.two
 obtain⟨k1,k2,k3,k4⟩:=hb3.two
 go_wp2_with fail
 refine (zint_of hn1.out).mono ?_
 rintro e w2 ⟨s',rfl,hs',hx2⟩
 have hd3:=hb3.ext hx2
 clear f1 f2 f3 f4 h1 h2 h3 h4 k1 k2 k3 k4
 obtain⟨k1,k2,k3,k4⟩:=hd3.two
 go_wp2_with fail
 refine bodyPost_ret (res_ie rfl rfl rfl (hd3.two_set _ _)) rfl ?_
 obtain⟨s4,A4,n4,c4,he,hz,hx⟩:=fin_int (w:=w) hd3 ((Zr_of hs'.out hn1.out ho1 (sg_tdiv _ _ _ _)).ext hx2) (by omega) (by omega) (he1.trans hx2)
 cases he
 exact⟨_,_,_,_,rfl,hz,hx⟩
theorem bezout_Gcd {w:World}{s t:Bool}{A B:Option Addr}{n cap m cap':Nat}{x y:Int}(hx:Zi w s A n cap x) (hl:n≤68719476736) (hy:Zi w t B m cap' y) (hl':m≤68719476736):
  Calls Tryd.prog 68 #[.agg #[.bool s,.slice A n cap],.agg #[.bool t,.slice B m cap']] w (RetZ w (Int.gcd x y:Int)):=by
 obtain⟨xs,hr,rfl⟩:=hx
 obtain⟨ys,hq,rfl⟩:=hy
 go_enter Tryd.func68,Tryd.ntmps68
 go_upto_region 1 with (fail)
 obtain⟨g,g2,g3,wa,hg3,hg2,hg,hwa,hb1,hb2,hb3,hea,l12,l23,l3,n12,n21,n13,n31,n23,n32⟩:=boxes3 w 24 24 24 (.bool s) (.slice A n cap) (.bool t) (.slice B m cap') (.bool false) (.slice none 0 0)
 rw [hg3,hg2,hg,hwa]
 have hgw:w.heap.size≤g:=Nat.le_of_eq hg
 clear hwa hg hg2 hg3
 obtain⟨f1,f2,f3,f4⟩:=hb1.two
 obtain⟨h1,h2,h3,h4⟩:=hb2.two
 obtain⟨k1,k2,k3,k4⟩:=hb3.two
 go_wp2_with fail
 refine (divnat_Gcd (hr.ext hea) (by omega) (hq.ext hea) (by omega)).mono ?_
 rintro e w1 ⟨A1,n1,c1,rfl,hn1,hr1,ho1,hx1⟩
 have hd3:=hb3.ext hx1
 clear f1 f2 f3 f4 h1 h2 h3 h4 k1 k2 k3 k4
 obtain⟨k1,k2,k3,k4⟩:=hd3.two
 go_wp2_with fail
 refine bodyPost_ret (res_int rfl rfl (hd3.two_set _ _)) rfl ?_
 refine fin_int hd3 (Zr_of (s:=false) (m:=Nat.gcd (nv xs) (nv ys)) ?_ hn1.out ho1 ?_) (by omega) (by omega) (hea.trans hx1)
 ·rw [sg_false];simp
 ·rw [sg_false,Int.gcd,sg_abs,sg_abs]
theorem zint_Of {w:World}{v:Nat}(hv:v≤9223372036854775807):
  Calls Tryd.prog 13 #[.int .i64 (v:Int)] w (RetZ w ((v:Int))):=by
 have hn:¬(v:Int)<0:=by omega
 go_enter Tryd.func13,Tryd.ntmps13
 go_upto_region 3 with (fail)
 obtain⟨g,hg⟩:∃g,w.heap.size=g:=⟨_,rfl⟩
 obtain⟨wa,hwa⟩:∃wa,w.alloc (.cells #[.bool false,.slice none 0 0] 24)=wa:=⟨_,rfl⟩
 rw [hg,hwa]
 have hb:Bk wa g 24 [.bool false,.slice none 0 0]:=by rw [←hwa,←hg];exact Bk.new w 24 [.bool false,.slice none 0 0]
 have hea:Ext w wa:=by rw [←hwa];exact (Ext.refl w).alloc _
 have hga:w.heap.size≤g:=Nat.le_of_eq hg
 have hgl:g<wa.heap.size:=hb.lt
 clear hwa hg
 obtain⟨k1,k2,k3,k4⟩:=hb.two
 have h1:Rd (wa.alloc (.cells #[.int .u64 (v:Int)] 50)) (some ⟨wa.heap.size,0,none⟩) 1 1 [v]:=Rd.one wa (by omega)
 go_wp2_with fail
 refine (nat_Least (h1.ext (by repeat (first | exact Ext.refl _ | assumption | apply Ext.drewN | apply Ext.drew | apply Ext.alloc))) (by omega)).mono ?_
 rintro e w1 ⟨A1,n1,c1,rfl,hn1,hr1,ho1,hx1⟩
 rw [nv_one] at hn1 ho1
 have hx1':Ext wa w1:=Ext.trans (by repeat (first | exact Ext.refl _ | assumption | apply Ext.drewN | apply Ext.drew | apply Ext.alloc)) hx1
 have hd:=hb.ext hx1'
 have hsz:=hx1'.size
 go_wp2_with fail
 refine (zint_of hn1.out).mono ?_
 rintro e w2 ⟨s',rfl,hs',hx2⟩
 have hd:=hd.ext hx2
 clear k1 k2 k3 k4
 obtain⟨k1,k2,k3,k4⟩:=hd.two
 go_wp2_with fail
 refine bodyPost_ret (res_int rfl rfl (hd.two_set _ _)) rfl ?_
 exact fin_int hd ((Zr_of hs'.out hn1.out ho1 (sg_false _)).ext hx2) (by simp;omega) (by omega) (hea.trans (hx1'.trans hx2))
set_option maxHeartbeats 4000000 in
theorem zint_Trunc {w : World} {s t : Bool} {A B : Option Addr} {n cap m cap' : Nat} {x y : Int} (hx : Zi w s A n cap x) (hl : n ≤ 68719476736) (hy : Zi w t B m cap' y) (hl' : m ≤ 68719476736) (h0 : y ≠ 0) :
    Calls Tryd.prog 71 #[.agg #[.bool s, .slice A n cap], .agg #[.bool t, .slice B m cap']] w (RetZZE w (x.tdiv y) (x.tmod y) 0) := by
  obtain ⟨xs, hr, rfl⟩ := hx
  obtain ⟨ys, hq, rfl⟩ := hy
  have hz : nv ys ≠ 0 := fun e => h0 (sg_eq_zero.2 e)
  have HZ := Lib.hid hz
  clear hz h0
  go_enter Tryd.func71, Tryd.ntmps71
  go_upto_region 1 with (fail)
  obtain ⟨g, g2, g3, g4, wa, hg4, hg3, hg2, hg, hwa, hb1, hb2, hb3, hb4, hea, l12, l23, l34, l4, n12, n21, n13, n31, n23, n32, n14, n41, n24, n42, n34, n43⟩ := boxes4 w 24 24 24 24 (.bool s) (.slice A n cap) (.bool t) (.slice B m cap') (.bool false) (.slice none 0 0) (.bool false) (.slice none 0 0)
  rw [hg4, hg3, hg2, hg, hwa]
  have hgw : w.heap.size ≤ g := Nat.le_of_eq hg
  clear hwa hg hg2 hg3 hg4
  obtain ⟨f1, f2, f3, f4⟩ := hb1.two
  obtain ⟨h1, h2, h3, h4⟩ := hb2.two
  go_wp2_with fail
  refine (divnat_DivMod (hr.ext hea) (by omega) (hq.ext hea) (by omega) HZ.out).mono ?_
  rintro e w1 ⟨Aq, nq, cq, Ar, nr, cr, rfl, hnq, hrq, hoq, hnr, hrr, hor, hx1⟩
  clear f1 f2 f3 f4 h1 h2 h3 h4
  have hb1 := hb1.ext hx1
  have hb2 := hb2.ext hx1
  have hb3 := hb3.ext hx1
  have hb4 := hb4.ext hx1
  have hsz := hx1.size
  have e1 := hea.trans hx1
  go_upto_region 4 with (fail)
  obtain ⟨f1, f2, f3, f4⟩ := hb1.two
  obtain ⟨h1, h2, h3, h4⟩ := hb2.two
  obtain ⟨i1, i2, i3, i4⟩ := hb3.two
  obtain ⟨k1, k2, k3, k4⟩ := hb4.two
  go_region_held3 (fun w' => w'.cell? ⟨g, 0, none⟩ = some (.bool s) ∧ w'.cell? ⟨g, 1, none⟩ = some (.slice A n cap) ∧ w'.cell? ⟨g2, 0, none⟩ = some (.bool t) ∧ w'.cell? ⟨g2, 1, none⟩ = some (.slice B m cap')) (go_keep)
    (first
    | (go_at_call 45; (with_reducible refine (zint_of hnq.out).mono ?_); rintro e w5 ⟨s5, rfl, hs5, hx5⟩; have he5 : Ext w1 w5 := Ext.trans (by repeat (first | exact Ext.refl _ | assumption | apply Ext.drewN | apply Ext.drew | apply Ext.alloc)) hx5; clear f1 f2 f3 f4 h1 h2 h3 h4 i1 i2 i3 i4 k1 k2 k3 k4; obtain ⟨f1, f2, f3, f4⟩ := (hb1.ext he5).two; obtain ⟨h1, h2, h3, h4⟩ := (hb2.ext he5).two; obtain ⟨i1, i2, i3, i4⟩ := (hb3.ext he5).two; obtain ⟨k1, k2, k3, k4⟩ := (hb4.ext he5).two)
    | (go_at_call 45; (with_reducible refine (zint_of hnr.out).mono ?_); rintro e w6 ⟨s6, rfl, hs6, hx6⟩; have he6 : Ext w1 w6 := Ext.trans (by repeat (first | exact Ext.refl _ | assumption | apply Ext.drewN | apply Ext.drew | apply Ext.alloc)) hx6; clear f1 f2 f3 f4 h1 h2 h3 h4 i1 i2 i3 i4 k1 k2 k3 k4; obtain ⟨f1, f2, f3, f4⟩ := (hb1.ext he6).two; obtain ⟨h1, h2, h3, h4⟩ := (hb2.ext he6).two; obtain ⟨i1, i2, i3, i4⟩ := (hb3.ext he6).two; obtain ⟨k1, k2, k3, k4⟩ := (hb4.ext he6).two))
  all_goals
    clear f1 f2 f3 f4 h1 h2 h3 h4 i1 i2 i3 i4 k1 k2 k3 k4
    first
    | (obtain ⟨wb, hwb⟩ : ∃ wb, (((w6.setCell ⟨g3, 0, none⟩ (.bool s5)).setCell ⟨g3, 1, none⟩ (.slice Aq nq cq)).setCell ⟨g4, 0, none⟩ (.bool s6)).setCell ⟨g4, 1, none⟩ (.slice Ar nr cr) = wb := ⟨_, rfl⟩
       rw [hwb]
       have hL := he6)
    | (obtain ⟨wb, hwb⟩ : ∃ wb, (((w5.setCell ⟨g3, 0, none⟩ (.bool s5)).setCell ⟨g3, 1, none⟩ (.slice Aq nq cq)).setCell ⟨g4, 0, none⟩ (.bool s6)).setCell ⟨g4, 1, none⟩ (.slice Ar nr cr) = wb := ⟨_, rfl⟩
       rw [hwb]
       have hL := he5)
    have q3 : Bk wb g3 24 [.bool s5, .slice Aq nq cq] := by rw [← hwb]; exact ((hb3.ext hL).two_set _ _).two_far n34 _ _
    have q4 : Bk wb g4 24 [.bool s6, .slice Ar nr cr] := by rw [← hwb]; exact ((hb4.ext hL).two_far n43 _ _).two_set _ _
    have r5 : Zr wb w.heap.size s5 Aq nq cq ((sg s (nv xs)).tdiv (sg t (nv ys))) := by
      rw [← hwb]
      exact (((((Zr_of hs5.out hnq.out hoq (sg_tdiv _ _ _ _)).ext hL).upd (by omega) (Upd.two _ _)).upd (by omega) (Upd.two _ _)).mono (by omega))
    have r6 : Zr wb w.heap.size s6 Ar nr cr ((sg s (nv xs)).tmod (sg t (nv ys))) := by
      rw [← hwb]
      exact (((((Zr_of hs6.out hnr.out hor (sg_tmod _ _ _ _)).ext hL).upd (by omega) (Upd.two _ _)).upd (by omega) (Upd.two _ _)).mono (by omega))
    have eb : Ext w wb := by rw [← hwb]; exact (Upd.two _ _).ext ((Upd.two _ _).ext (e1.trans hL) (by omega)) (by omega)
    clear hwb
    go_wp2_with fail
    refine bodyPost_ret (res_iie rfl rfl rfl rfl q3 q4) rfl ?_
    exact ⟨s5, Aq, nq, cq, s6, Ar, nr, cr, rfl, r5, r6, eb⟩
structure Flo (q r x y:Int):Prop where
 eq:q*y+r=x
 pos:0<y→0≤r∧r<y
 neg:y<0→y<r∧r≤0
theorem tmod_abs {x y:Int}(h:y≠0):(x.tmod y).natAbs<y.natAbs:=by
 rw [Int.natAbs_tmod]
 exact Nat.mod_lt _ (by omega)
theorem flo_same {x y:Int}(h0:y≠0) (h:x.tmod y=0∨(decide (x.tmod y<0)=decide (y<0))):Flo (x.tdiv y) (x.tmod y) x y:=by
 have h1:=tmod_abs (x:=x) h0
 refine⟨by rw [Int.mul_comm];exact Int.mul_tdiv_add_tmod x y,fun hp=>?_,fun hn=>?_⟩
 ·rcases h with h | h
  ·omega
  ·have hd:¬y<0:=by omega
   rw [decide_eq_false hd] at h
   have:=of_decide_eq_false h
   omega
 ·rcases h with h | h
  ·omega
  ·rw [decide_eq_true hn] at h
   have:=of_decide_eq_true h
   omega
theorem flo_other {x y:Int}(h0:y≠0) (h:x.tmod y≠0) (h2:decide (x.tmod y<0)≠decide (y<0)):Flo (x.tdiv y-1) (x.tmod y+y) x y:=by
 have h1:=tmod_abs (x:=x) h0
 refine⟨?_,fun hp=>?_,fun hn=>?_⟩
 ·have:=Int.mul_tdiv_add_tmod x y
  rw [Int.sub_mul,Int.one_mul,Int.mul_comm]
  omega
 ·have hd:¬y<0:=by omega
  rw [decide_eq_false hd] at h2
  have:x.tmod y<0:=by
   refine Int.lt_of_not_ge (fun hge=>h2 (decide_eq_false (by omega)))
  omega
 ·rw [decide_eq_true hn] at h2
  have:¬x.tmod y<0:=fun hlt=>h2 (decide_eq_true hlt)
  omega
theorem Zi.sgn {w:World}{s:Bool}{A:Option Addr}{n cap:Nat}{z:Int}(h:Zi w s A n cap z) (h0:z≠0):s=decide (z<0):=by
 obtain⟨xs,_,rfl⟩:=h
 have hm:nv xs≠0:=fun e=>h0 (sg_eq_zero.2 e)
 rw [sg_lt,decide_eq_true (show 0<nv xs by omega),Bool.and_true]
theorem boxN2 (w:World) (t t':TypeId) (l l':List Value):∃g g2 wa,w.heap.size+1=g2∧w.heap.size=g∧(w.alloc (.cells l.toArray t)).alloc (.cells l'.toArray t')=wa∧Bk wa g t l∧Bk wa g2 t' l'∧Ext w wa∧g<g2∧g2<wa.heap.size∧g≠g2∧g2≠g:=by
 refine⟨_,_,_,rfl,rfl,rfl,(Bk.new w t l).alloc _,?_,((Ext.refl w).alloc _).alloc _,by omega,by simp,by omega,by omega⟩
 have:=Bk.new (w.alloc (.cells l.toArray t)) t' l'
 simpa using this
theorem Zr.upd_hi {w0 w w':World}{base base' g:Nat}{s:Bool}{A:Option Addr}{n cap:Nat}{z z':Int}(h0:Zr w0 base' s A n cap z') (hw:w0.heap.size≤g) (h:Zr w base s A n cap z) (e:Upd g w w'):Zr w' base s A n cap z:=
 ⟨h.sgn,h.len,h.own.upd e (fun a ha=>by have:=(h0.own.block a ha).2;omega)⟩
def FloP (w:World) (x y:Int) (e:Ending) (w':World):Prop:=∃q r,Hid (Flo q r x y)∧RetZZE w q r 0 e w'
set_option maxHeartbeats 8000000 in
theorem zint_Floor {w : World} {s t : Bool} {A B : Option Addr} {n cap m cap' : Nat} {x y : Int} (hx : Zi w s A n cap x) (hl : n ≤ 68719476736) (hy : Zi w t B m cap' y) (hl' : m ≤ 68719476736) (h0 : y ≠ 0) :
    Calls Tryd.prog 42 #[.agg #[.bool s, .slice A n cap], .agg #[.bool t, .slice B m cap']] w (FloP w x y) := by
  have HT := Lib.hid (hy.sgn h0)
  have H0 := Lib.hid h0
  have LX := Lib.hid (Nat.le_trans hx.ln hl)
  have LY := Lib.hid (Nat.le_trans hy.ln hl')
  clear h0
  go_enter Tryd.func42, Tryd.ntmps42
  go_upto_region 1 with (fail)
  obtain ⟨g, g2, g3, g4, wa, hg4, hg3, hg2, hg, hwa, hb1, hb2, hb3, hb4, hea, l12, l23, l34, l4, n12, n21, n13, n31, n23, n32, n14, n41, n24, n42, n34, n43⟩ := boxes4 w 24 24 24 24 (.bool s) (.slice A n cap) (.bool t) (.slice B m cap') (.bool false) (.slice none 0 0) (.bool false) (.slice none 0 0)
  rw [hg4, hg3, hg2, hg, hwa]
  have hgw : w.heap.size ≤ g := Nat.le_of_eq hg
  clear hwa hg hg2 hg3 hg4
  obtain ⟨f1, f2, f3, f4⟩ := hb1.two
  obtain ⟨h1, h2, h3, h4⟩ := hb2.two
  go_wp2_with fail
  refine (zint_Trunc (hx.ext hea) hl (hy.ext hea) hl' H0.out).mono ?_
  rintro e w1 ⟨sq, Aq, nq, cq, sr, Ar, nr, cr, rfl, zq, zr, hx1⟩
  clear f1 f2 f3 f4 h1 h2 h3 h4
  have bq : nq ≤ 68719476736 := zq.le (Nat.le_trans (ln_mono (by rw [Int.natAbs_tdiv]; exact Nat.div_le_self _ _)) LX.out)
  have br : nr ≤ 68719476736 := zr.le (Nat.le_trans (ln_mono (Nat.le_of_lt (tmod_abs H0.out))) LY.out)
  go_upto_region 2 with (fail)
  obtain ⟨g7, g8, v1, hg8, hg7, hv1, hb7, hb8, he, l78, l8, n78, n87⟩ := boxN2 w1 24 24 [.bool sq, .slice Aq nq cq] [.bool sr, .slice Ar nr cr]
  rw [hg8, hg7, hv1]
  have hs7 : w1.heap.size ≤ g7 := Nat.le_of_eq hg7
  have zr1 := zr
  have zq := zq.ext he
  have zr := zr.ext he
  have x1 := hx1.trans he
  have hb2 := hb2.ext x1
  have hb3 := hb3.ext x1
  have hb4 := hb4.ext x1
  have e1 := hea.trans x1
  have sz1 := hx1.size
  clear hg8 hg7 hv1 he hb1 hx1
  obtain ⟨f1, f2, f3, f4⟩ := hb7.two
  obtain ⟨h1, h2, h3, h4⟩ := hb8.two
  obtain ⟨i1, i2, i3, i4⟩ := hb2.two
  have hn37 : g3 ≠ g7 := by omega
  have hn38 : g3 ≠ g8 := by omega
  have hn47 : g4 ≠ g7 := by omega
  have hn48 : g4 ≠ g8 := by omega
  have hn27 : g2 ≠ g7 := by omega
  have hn28 : g2 ≠ g8 := by omega
  have hn73 := hn37.symm
  have hn83 := hn38.symm
  have hn74 := hn47.symm
  have hn84 := hn48.symm
  by_cases hr0 : x.tmod y = 0
  · obtain rfl : nr = 0 := by rw [zr.len, hr0]; rfl
    have HF : Hid (Flo (x.tdiv y) (x.tmod y) x y) := flo_same H0.out (Or.inl hr0)
    clear hr0
    go_upto_region 5 with (fail)
    clear f1 f2 f3 f4 h1 h2 h3 h4 i1 i2 i3 i4
    obtain ⟨f1, f2, f3, f4⟩ := hb7.two
    obtain ⟨h1, h2, h3, h4⟩ := hb8.two
    obtain ⟨i1, i2, i3, i4⟩ := hb3.two
    obtain ⟨k1, k2, k3, k4⟩ := hb4.two
    go_region_held3 (fun w' => w'.cell? ⟨g7, 0, none⟩ = some (.bool sq) ∧ w'.cell? ⟨g7, 1, none⟩ = some (.slice Aq nq cq) ∧ w'.cell? ⟨g8, 0, none⟩ = some (.bool sr) ∧ w'.cell? ⟨g8, 1, none⟩ = some (.slice Ar 0 cr)) (go_keep) (fail)
    all_goals
      go_wp2_with fail
      first
      | (refine bodyPost_ret (res_iie rfl rfl rfl rfl (((hb3.drew).two_set _ _).two_far n34 _ _) (((hb4.drew).two_far n43 _ _).two_set _ _)) rfl ?_
         exact ⟨x.tdiv y, x.tmod y, HF, _, _, _, _, _, _, _, _, rfl, (((zq.ext (Ext.refl _).drew).upd (by omega) (Upd.two _ _)).upd (by omega) (Upd.two _ _)).mono (by omega), (((zr.ext (Ext.refl _).drew).upd (by omega) (Upd.two _ _)).upd (by omega) (Upd.two _ _)).mono (by omega), (Upd.two _ _).ext ((Upd.two _ _).ext e1.drew (by omega)) (by omega)⟩)
      | (refine bodyPost_ret (res_iie rfl rfl rfl rfl (((hb3.drew).two_far n34 _ _).two_set _ _) (((hb4.drew).two_set _ _).two_far n43 _ _)) rfl ?_
         exact ⟨x.tdiv y, x.tmod y, HF, _, _, _, _, _, _, _, _, rfl, (((zq.ext (Ext.refl _).drew).upd (by omega) (Upd.two _ _)).upd (by omega) (Upd.two _ _)).mono (by omega), (((zr.ext (Ext.refl _).drew).upd (by omega) (Upd.two _ _)).upd (by omega) (Upd.two _ _)).mono (by omega), (Upd.two _ _).ext ((Upd.two _ _).ext e1.drew (by omega)) (by omega)⟩)
  · have hnn : 0 < nr := by
      have : nr ≠ 0 := fun e => hr0 (by have h := zr.len; rw [e] at h; have := len_wd_zero.1 h.symm; omega)
      omega
    have hn : 0 < (nr : Int) := by omega
    by_cases hss : sr = t
    · have bs : (sr == t) = true := by rw [hss]; cases t <;> rfl
      have HF : Hid (Flo (x.tdiv y) (x.tmod y) x y) := flo_same H0.out (Or.inr (by rw [← zr.sgn, ← HT.out, hss]))
      clear hr0 hss
      go_upto_region 5 with (fail)
      clear f1 f2 f3 f4 h1 h2 h3 h4 i1 i2 i3 i4
      obtain ⟨f1, f2, f3, f4⟩ := hb7.two
      obtain ⟨h1, h2, h3, h4⟩ := hb8.two
      obtain ⟨i1, i2, i3, i4⟩ := hb3.two
      obtain ⟨k1, k2, k3, k4⟩ := hb4.two
      go_region_held3 (fun w' => w'.cell? ⟨g7, 0, none⟩ = some (.bool sq) ∧ w'.cell? ⟨g7, 1, none⟩ = some (.slice Aq nq cq) ∧ w'.cell? ⟨g8, 0, none⟩ = some (.bool sr) ∧ w'.cell? ⟨g8, 1, none⟩ = some (.slice Ar nr cr)) (go_keep) (fail)
      all_goals
        go_wp2_with fail
        first
        | (refine bodyPost_ret (res_iie rfl rfl rfl rfl (((hb3.drew).two_set _ _).two_far n34 _ _) (((hb4.drew).two_far n43 _ _).two_set _ _)) rfl ?_
           exact ⟨x.tdiv y, x.tmod y, HF, _, _, _, _, _, _, _, _, rfl, (((zq.ext (Ext.refl _).drew).upd (by omega) (Upd.two _ _)).upd (by omega) (Upd.two _ _)).mono (by omega), (((zr.ext (Ext.refl _).drew).upd (by omega) (Upd.two _ _)).upd (by omega) (Upd.two _ _)).mono (by omega), (Upd.two _ _).ext ((Upd.two _ _).ext e1.drew (by omega)) (by omega)⟩)
        | (refine bodyPost_ret (res_iie rfl rfl rfl rfl (((hb3.drew).two_far n34 _ _).two_set _ _) (((hb4.drew).two_set _ _).two_far n43 _ _)) rfl ?_
           exact ⟨x.tdiv y, x.tmod y, HF, _, _, _, _, _, _, _, _, rfl, (((zq.ext (Ext.refl _).drew).upd (by omega) (Upd.two _ _)).upd (by omega) (Upd.two _ _)).mono (by omega), (((zr.ext (Ext.refl _).drew).upd (by omega) (Upd.two _ _)).upd (by omega) (Upd.two _ _)).mono (by omega), (Upd.two _ _).ext ((Upd.two _ _).ext e1.drew (by omega)) (by omega)⟩)
    · have bs : (sr == t) = false := by cases sr <;> cases t <;> simp_all
      have HF : Hid (Flo (x.tdiv y - 1) (x.tmod y + y) x y) := flo_other H0.out hr0 (by rw [← zr.sgn, ← HT.out]; exact hss)
      clear hr0 hss
      go_upto_region 3 with (fail)
      go_region_with (first
        | (go_at_call 13; refine (zint_Of (v := 1) (by omega)).mono ?_; rintro e w5 ⟨s5, A5, n5, c5, rfl, z5, hx5⟩; have b5 : n5 ≤ 1 := z5.le (by decide +kernel); have he5 : Ext v1 w5 := Ext.trans (by repeat (first | exact Ext.refl _ | assumption | apply Ext.drewN | apply Ext.drew | apply Ext.alloc)) hx5; clear f1 f2 f3 f4 h1 h2 h3 h4 i1 i2 i3 i4; obtain ⟨f1, f2, f3, f4⟩ := (hb7.ext he5).two)
        | (go_at_call 27; refine (zint_Sub (zq.zi.ext (by repeat (first | exact Ext.refl _ | assumption | apply Ext.drewN | apply Ext.drew | apply Ext.alloc))) (by omega) z5.zi (by omega)).mono ?_; rintro e w6 ⟨s6, A6, n6, c6, rfl, z6, hx6⟩; have he6 : Ext v1 w6 := he5.trans hx6; clear f1 f2 f3 f4; obtain ⟨f1, f2, f3, f4⟩ := (hb7.ext he6).two))
      all_goals
        clear f1 f2 f3 f4
        obtain ⟨wb, hwb⟩ : ∃ wb, (w6.setCell ⟨g7, 0, none⟩ (.bool s6)).setCell ⟨g7, 1, none⟩ (.slice A6 n6 c6) = wb := ⟨_, rfl⟩
        rw [hwb]
        have sz5 := he5.size
        have q7 : Bk wb g7 24 [.bool s6, .slice A6 n6 c6] := by rw [← hwb]; exact (hb7.ext he6).two_set _ _
        have q8 : Bk wb g8 24 [.bool sr, .slice Ar nr cr] := by rw [← hwb]; exact (hb8.ext he6).two_far n87 _ _
        have q2 : Bk wb g2 24 [.bool t, .slice B m cap'] := by rw [← hwb]; exact (hb2.ext he6).two_far hn27 _ _
        have q3 : Bk wb g3 24 [.bool false, .slice none 0 0] := by rw [← hwb]; exact (hb3.ext he6).two_far hn37 _ _
        have q4 : Bk wb g4 24 [.bool false, .slice none 0 0] := by rw [← hwb]; exact (hb4.ext he6).two_far hn47 _ _
        have y6 : Zr wb w5.heap.size s6 A6 n6 c6 (x.tdiv y - 1) := by rw [← hwb]; exact z6.upd (by omega) (Upd.two _ _)
        have yr : Zr wb wa.heap.size sr Ar nr cr (x.tmod y) := by rw [← hwb]; exact Zr.upd_hi zr1 hs7 (zr.ext he6) (Upd.two _ _)
        have eb : Ext w wb := by rw [← hwb]; exact (Upd.two _ _).ext (e1.trans he6) (by omega)
        have szb : w6.heap.size ≤ wb.heap.size := by rw [← hwb]; simp [World.setCell]
        have sz6 := hx6.size
        clear hwb
        obtain ⟨h1, h2, h3, h4⟩ := q8.two
        obtain ⟨i1, i2, i3, i4⟩ := q2.two
        go_wp2_with fail
        refine (zint_Add yr.zi (by omega) (hy.ext eb) (by omega)).mono ?_
        rintro e w7 ⟨s9, A9, n9, c9, rfl, z9, hx7⟩
        clear h1 h2 h3 h4 i1 i2 i3 i4
        obtain ⟨h1, h2, h3, h4⟩ := (q8.ext hx7).two
        go_upto_region 5 with (fail)
        clear h1 h2 h3 h4
        obtain ⟨wc, hwc⟩ : ∃ wc, (w7.setCell ⟨g8, 0, none⟩ (.bool s9)).setCell ⟨g8, 1, none⟩ (.slice A9 n9 c9) = wc := ⟨_, rfl⟩
        rw [hwc]
        have u7 : Bk wc g7 24 [.bool s6, .slice A6 n6 c6] := by rw [← hwc]; exact (q7.ext hx7).two_far n78 _ _
        have u8 : Bk wc g8 24 [.bool s9, .slice A9 n9 c9] := by rw [← hwc]; exact (q8.ext hx7).two_set _ _
        have u3 : Bk wc g3 24 [.bool false, .slice none 0 0] := by rw [← hwc]; exact (q3.ext hx7).two_far hn38 _ _
        have u4 : Bk wc g4 24 [.bool false, .slice none 0 0] := by rw [← hwc]; exact (q4.ext hx7).two_far hn48 _ _
        have t6 : Zr wc w5.heap.size s6 A6 n6 c6 (x.tdiv y - 1) := by rw [← hwc]; exact (y6.ext hx7).upd (by omega) (Upd.two _ _)
        have t9 : Zr wc wb.heap.size s9 A9 n9 c9 (x.tmod y + y) := by rw [← hwc]; exact z9.upd (by omega) (Upd.two _ _)
        have ec : Ext w wc := by rw [← hwc]; exact (Upd.two _ _).ext (eb.trans hx7) (by omega)
        clear hwc q7 q8 q2 q3 q4
        obtain ⟨f1, f2, f3, f4⟩ := u7.two
        obtain ⟨h1, h2, h3, h4⟩ := u8.two
        obtain ⟨i1, i2, i3, i4⟩ := u3.two
        obtain ⟨k1, k2, k3, k4⟩ := u4.two
        go_region_held3 (fun w' => w'.cell? ⟨g7, 0, none⟩ = some (.bool s6) ∧ w'.cell? ⟨g7, 1, none⟩ = some (.slice A6 n6 c6) ∧ w'.cell? ⟨g8, 0, none⟩ = some (.bool s9) ∧ w'.cell? ⟨g8, 1, none⟩ = some (.slice A9 n9 c9)) (go_keep) (fail)
        all_goals
          go_wp2_with fail
          first
          | (refine bodyPost_ret (res_iie rfl rfl rfl rfl (((u3.drew).two_set _ _).two_far n34 _ _) (((u4.drew).two_far n43 _ _).two_set _ _)) rfl ?_
             exact ⟨x.tdiv y - 1, x.tmod y + y, HF, _, _, _, _, _, _, _, _, rfl, (((t6.ext (Ext.refl _).drew).upd (by omega) (Upd.two _ _)).upd (by omega) (Upd.two _ _)).mono (by omega), (((t9.ext (Ext.refl _).drew).upd (by omega) (Upd.two _ _)).upd (by omega) (Upd.two _ _)).mono (by omega), (Upd.two _ _).ext ((Upd.two _ _).ext ec.drew (by omega)) (by omega)⟩)
          | (refine bodyPost_ret (res_iie rfl rfl rfl rfl (((u3.drew).two_far n34 _ _).two_set _ _) (((u4.drew).two_set _ _).two_far n43 _ _)) rfl ?_
             exact ⟨x.tdiv y - 1, x.tmod y + y, HF, _, _, _, _, _, _, _, _, rfl, (((t6.ext (Ext.refl _).drew).upd (by omega) (Upd.two _ _)).upd (by omega) (Upd.two _ _)).mono (by omega), (((t9.ext (Ext.refl _).drew).upd (by omega) (Upd.two _ _)).upd (by omega) (Upd.two _ _)).mono (by omega), (Upd.two _ _).ext ((Upd.two _ _).ext ec.drew (by omega)) (by omega)⟩)
structure Euc (q r x y:Int):Prop where
 eq:q*y+r=x
 lo:0≤r
 hi:r<y
end Go.Proofs.YtipklngcpmkfhaaDoor

namespace Go.Proofs.YtipklngcpmkfhaaDoor.Pop
def mk (m:Nat):Nat→Nat
 | 0=>0
 | k+1=>m+256*mk m k
theorem and_byte (a A m M:Nat) (ha:a<256) (hm:m<256):(a+256*A)&&& (m+256*M)=(a&&& m)+256*(A&&& M):=by
 have h1:((a+256*A)&&& (m+256*M))%2^8=a&&& m:=by
  rw [Nat.and_mod_two_pow]
  congr 1 <;> omega
 have h2:((a+256*A)&&& (m+256*M))/2^8=A&&& M:=by
  rw [Nat.and_div_two_pow]
  congr 1 <;> omega
 have h3:=Nat.mod_add_div ((a+256*A)&&& (m+256*M)) (2^8)
 rw [h1,h2] at h3
 exact h3.symm
def f1 (k x:Nat):Nat:=(x/2&&& mk 85 k)+(x&&& mk 85 k)
def f2 (k x:Nat):Nat:=(x/4&&& mk 51 k)+(x&&& mk 51 k)
def f3 (k x:Nat):Nat:=(x/16+x)&&& mk 15 k
def d1 (b:Nat):Nat:=(b/2&&& 85)+(b&&& 85)
def d2 (b:Nat):Nat:=(b/4&&& 51)+(b&&& 51)
def d3 (b:Nat):Nat:=(b/16+b)&&& 15
def pc (b:Nat):Nat:=d3 (d2 (d1 b))
theorem t1:∀b:Fin 256,∀p:Fin 2,((b.val/2+128*p.val)&&& 85)=(b.val/2&&& 85):=by decide+kernel
theorem t2:∀b:Fin 256,∀p:Fin 4,((b.val/4+64*p.val)&&& 51)=(b.val/4&&& 51):=by decide+kernel
theorem t3:∀b:Fin 256,∀p:Fin 5,((d2 (d1 b.val)/16+d2 (d1 b.val)+16*p.val)&&& 15)=pc b.val:=by decide+kernel
theorem t4:∀b:Fin 256,d1 b.val<256∧d2 (d1 b.val)<69∧d2 (d1 b.val)%16≤4∧pc b.val≤8∧(pc b.val=0→b.val=0)∧(128≤b.val→pc b.val≤1→b.val=128):=by decide+kernel
theorem f1_step {k b B:Nat}(hb:b<256):f1 (k+1) (b+256*B)=d1 b+256*f1 k B:=by
 unfold f1 d1
 rw [show mk 85 (k+1)=85+256*mk 85 k from rfl]
 have e:(b+256*B)/2=(b/2+128*(B%2))+256*(B/2):=by omega
 rw [e,and_byte _ _ _ _ (by omega) (by omega),and_byte _ _ _ _ hb (by omega),t1 ⟨b,hb⟩ ⟨B%2,by omega⟩]
 show (b/2&&& 85)+_+_=_
 omega
theorem f2_step {k b B:Nat}(hb:b<256):f2 (k+1) (b+256*B)=d2 b+256*f2 k B:=by
 unfold f2 d2
 rw [show mk 51 (k+1)=51+256*mk 51 k from rfl]
 have e:(b+256*B)/4=(b/4+64*(B%4))+256*(B/4):=by omega
 rw [e,and_byte _ _ _ _ (by omega) (by omega),and_byte _ _ _ _ hb (by omega),t2 ⟨b,hb⟩ ⟨B%4,by omega⟩]
 show (b/4&&& 51)+_+_=_
 omega
theorem steps {k b B:Nat}(hb:b<256) (hB:f2 k (f1 k B)%16≤4):
  f3 (k+1) (f2 (k+1) (f1 (k+1) (b+256*B)))=pc b+256*f3 k (f2 k (f1 k B))∧f2 (k+1) (f1 (k+1) (b+256*B))%16≤4:=by
 obtain⟨h1,h2,h3,_⟩:=t4 ⟨b,hb⟩
 rw [f1_step hb,f2_step h1]
 refine⟨?_,by omega⟩
 generalize f2 k (f1 k B)=C at*
 unfold f3
 rw [show mk 15 (k+1)=15+256*mk 15 k from rfl]
 have e:(d2 (d1 b)+256*C)/16+(d2 (d1 b)+256*C)=(d2 (d1 b)/16+d2 (d1 b)+16*(C%16))+256*(C/16+C):=by omega
 have h2':d2 (d1 b)<69:=h2
 rw [e,and_byte _ _ _ _ (by omega) (by omega),t3 ⟨b,hb⟩ ⟨C%16,by omega⟩]
theorem eight {b0 b1 b2 b3 b4 b5 b6 b7:Nat}(h0:b0<256) (h1:b1<256) (h2:b2<256) (h3:b3<256) (h4:b4<256) (h5:b5<256) (h6:b6<256) (h7:b7<256):
  f3 8 (f2 8 (f1 8 (b0+256*(b1+256*(b2+256*(b3+256*(b4+256*(b5+256*(b6+256*(b7+256*0))))))))))
   =pc b0+256*(pc b1+256*(pc b2+256*(pc b3+256*(pc b4+256*(pc b5+256*(pc b6+256*pc b7)))))):=by
 have s7:=steps (k:=0) (B:=0) h7 (by decide)
 have s6:=steps h6 s7.2
 have s5:=steps h5 s6.2
 have s4:=steps h4 s5.2
 have s3:=steps h3 s4.2
 have s2:=steps h2 s3.2
 have s1:=steps h1 s2.2
 have s0:=steps h0 s1.2
 rw [s0.1,s1.1,s2.1,s3.1,s4.1,s5.1,s6.1,s7.1]
 simp [f3,mk]
theorem folds {p0 p1 p2 p3 p4 p5 p6 p7:Nat}(h0:p0≤8) (h1:p1≤8) (h2:p2≤8) (h3:p3≤8) (h4:p4≤8) (h5:p5≤8) (h6:p6≤8) (h7:p7≤8){x3 x4 x5 x6:Nat}
  (e3:x3=p0+256*(p1+256*(p2+256*(p3+256*(p4+256*(p5+256*(p6+256*p7))))))) (e4:x4=x3+x3/256) (e5:x5=x4+x4/65536) (e6:x6=x5+x5/4294967296):
  x6%128=p0+p1+p2+p3+p4+p5+p6+p7∧x6<18446744073709551616:=by
 have g4:x4=(p0+p1)+256*((p1+p2)+256*((p2+p3)+256*((p3+p4)+256*((p4+p5)+256*((p5+p6)+256*((p6+p7)+256*p7)))))):=by omega
 clear e3 e4
 have g5:x5=(p0+p1+p2+p3)+256*((p1+p2+p3+p4)+256*((p2+p3+p4+p5)+256*((p3+p4+p5+p6)+256*((p4+p5+p6+p7)+256*((p5+p6+p7)+256*((p6+p7)+256*p7)))))):=by omega
 clear g4 e5
 have gq:x5/4294967296=(p4+p5+p6+p7)+256*((p5+p6+p7)+256*((p6+p7)+256*p7)):=by omega
 rw [gq] at e6
 have g6:x6=(p0+p1+p2+p3+p4+p5+p6+p7)+256*(((p1+p2+p3+p4)+256*((p2+p3+p4+p5)+256*((p3+p4+p5+p6)+256*((p4+p5+p6+p7)+256*((p5+p6+p7)+256*((p6+p7)+256*p7))))))+((p5+p6+p7)+256*((p6+p7)+256*p7))):=by omega
 clear gq e6 g5
 omega
theorem one {x x1 x2 x3 x4 x5 x6:Nat}(hx:x<18446744073709551616) (hh:9223372036854775808≤x) (e1:x1=f1 8 x) (e2:x2=f2 8 x1) (e3:x3=f3 8 x2) (e4:x4=x3+x3/256) (e5:x5=x4+x4/65536) (e6:x6=x5+x5/4294967296):
  x6%128=1↔x=9223372036854775808:=by
 obtain⟨b0,q0,hb0,hq0⟩:∃b q,b<256∧x=b+256*q:=⟨x%256,x/256,by omega,by omega⟩
 obtain⟨b1,q1,hb1,hq1⟩:∃b q,b<256∧q0=b+256*q:=⟨q0%256,q0/256,by omega,by omega⟩
 obtain⟨b2,q2,hb2,hq2⟩:∃b q,b<256∧q1=b+256*q:=⟨q1%256,q1/256,by omega,by omega⟩
 obtain⟨b3,q3,hb3,hq3⟩:∃b q,b<256∧q2=b+256*q:=⟨q2%256,q2/256,by omega,by omega⟩
 obtain⟨b4,q4,hb4,hq4⟩:∃b q,b<256∧q3=b+256*q:=⟨q3%256,q3/256,by omega,by omega⟩
 obtain⟨b5,q5,hb5,hq5⟩:∃b q,b<256∧q4=b+256*q:=⟨q4%256,q4/256,by omega,by omega⟩
 obtain⟨b6,b7,hb6,hq6⟩:∃b q,b<256∧q5=b+256*q:=⟨q5%256,q5/256,by omega,by omega⟩
 have hb7:b7<256:=by omega
 have hb7':128≤b7:=by omega
 have e:=eight hb0 hb1 hb2 hb3 hb4 hb5 hb6 hb7
 have ex:x=b0+256*(b1+256*(b2+256*(b3+256*(b4+256*(b5+256*(b6+256*(b7+256*0))))))):=by omega
 rw [←ex,←e1,←e2,←e3] at e
 have p0:=(t4 ⟨b0,hb0⟩).2.2.2
 have p1:=(t4 ⟨b1,hb1⟩).2.2.2
 have p2:=(t4 ⟨b2,hb2⟩).2.2.2
 have p3:=(t4 ⟨b3,hb3⟩).2.2.2
 have p4:=(t4 ⟨b4,hb4⟩).2.2.2
 have p5:=(t4 ⟨b5,hb5⟩).2.2.2
 have p6:=(t4 ⟨b6,hb6⟩).2.2.2
 have p7:=(t4 ⟨b7,hb7⟩).2.2.2
 have hf:=(folds p0.1 p1.1 p2.1 p3.1 p4.1 p5.1 p6.1 p7.1 e e4 e5 e6).1
 simp only at p0 p1 p2 p3 p4 p5 p6 p7
 rw [hf]
 show (pc b0+pc b1+pc b2+pc b3+pc b4+pc b5+pc b6+pc b7=1)↔_
 constructor
 ·intro h
  have h7:pc b7≠0:=fun hz=>by have:=p7.2.1 hz;omega
  have hs:pc b0+pc b1+pc b2+pc b3+pc b4+pc b5+pc b6=0∧pc b7=1:=by clear p0 p1 p2 p3 p4 p5 p6 p7 e e1 e2 e3 e4 e5 e6 ex hq0 hq1 hq2 hq3 hq4 hq5 hq6 hf;omega
  obtain⟨hs,h8⟩:=hs
  have z0:=p0.2.1 (by omega)
  have z1:=p1.2.1 (by omega)
  have z2:=p2.2.1 (by omega)
  have z3:=p3.2.1 (by omega)
  have z4:=p4.2.1 (by omega)
  have z5:=p5.2.1 (by omega)
  have z6:=p6.2.1 (by omega)
  have z7:=p7.2.2 hb7' (by omega)
  omega
 ·intro h
  obtain rfl:b7=128:=by omega
  obtain rfl:b0=0:=by omega
  obtain rfl:b1=0:=by omega
  obtain rfl:b2=0:=by omega
  obtain rfl:b3=0:=by omega
  obtain rfl:b4=0:=by omega
  obtain rfl:b5=0:=by omega
  obtain rfl:b6=0:=by omega
  decide
end Go.Proofs.YtipklngcpmkfhaaDoor.Pop

namespace Go.Proofs.YtipklngcpmkfhaaDoor
open Go.RowKit
theorem zint_Of_neg {w:World}{v:Nat}(hv1:1≤v) (hv:v≤9223372036854775808):
  Calls Tryd.prog 13 #[.int .i64 (-(v:Int))] w (RetZ w (-(v:Int))):=by
 have hn: -(v:Int)<0:=by omega
 have w1e:IntKind.u64.wrap (-(v:Int))=18446744073709551616-(v:Int):=by
  simp only [IntKind.wrap,IntKind.bits,IntKind.signed]
  simp
  omega
 have w2e:IntKind.u64.wrap (-(18446744073709551616-(v:Int)))=(v:Int):=by
  simp only [IntKind.wrap,IntKind.bits,IntKind.signed]
  simp
  omega
 have W1:=Lib.hid w1e
 have W2:=Lib.hid w2e
 clear w1e w2e
 go_enter Tryd.func13,Tryd.ntmps13
 go_upto_region 2 with (fail)
 obtain⟨g,hg⟩:∃g,w.heap.size=g:=⟨_,rfl⟩
 obtain⟨wa,hwa⟩:∃wa,w.alloc (.cells #[.bool false,.slice none 0 0] 24)=wa:=⟨_,rfl⟩
 rw [hg,hwa]
 have hb:Bk wa g 24 [.bool false,.slice none 0 0]:=by rw [←hwa,←hg];exact Bk.new w 24 [.bool false,.slice none 0 0]
 have hea:Ext w wa:=by rw [←hwa];exact (Ext.refl w).alloc _
 have hga:w.heap.size≤g:=Nat.le_of_eq hg
 have hgl:g<wa.heap.size:=hb.lt
 clear hwa hg
 obtain⟨k1,k2,k3,k4⟩:=hb.two
 have h1:Rd (wa.alloc (.cells #[.int .u64 (v:Int)] 50)) (some ⟨wa.heap.size,0,none⟩) 1 1 [v]:=Rd.one wa (by omega)
 have w1e:=W1.out
 have w2e:=W2.out
 go_wp2_with fail
 clear w1e w2e
 refine (nat_Least (h1.ext (by repeat (first | exact Ext.refl _ | assumption | apply Ext.drewN | apply Ext.drew | apply Ext.alloc))) (by omega)).mono ?_
 rintro e w1 ⟨A1,n1,c1,rfl,hn1,hr1,ho1,hx1⟩
 rw [nv_one] at hn1 ho1
 have hx1':Ext wa w1:=Ext.trans (by repeat (first | exact Ext.refl _ | assumption | apply Ext.drewN | apply Ext.drew | apply Ext.alloc)) hx1
 have hd:=hb.ext hx1'
 have hsz:=hx1'.size
 go_wp2_with fail
 refine (zint_of hn1.out).mono ?_
 rintro e w2 ⟨s',rfl,hs',hx2⟩
 have hd:=hd.ext hx2
 clear k1 k2 k3 k4
 obtain⟨k1,k2,k3,k4⟩:=hd.two
 go_wp2_with fail
 refine bodyPost_ret (res_int rfl rfl (hd.two_set _ _)) rfl ?_
 exact fin_int hd ((Zr_of hs'.out hn1.out ho1 (sg_true _)).ext hx2) (by simp;omega) (by omega) (hea.trans (hx1'.trans hx2))
theorem zint_OfI {w:World}{v:Int}(h1: -9223372036854775808≤v) (h2:v≤9223372036854775807):Calls Tryd.prog 13 #[.int .i64 v] w (RetZ w v):=by
 by_cases h:0≤v
 ·obtain⟨m,rfl⟩:=Int.eq_ofNat_of_zero_le h
  exact zint_Of (by omega)
 ·obtain⟨m,hm⟩:∃m:Nat,v= -(m:Int):=⟨v.natAbs,by omega⟩
  subst hm
  exact zint_Of_neg (by omega) (by omega)
theorem aggInt:AggT Tryd.prog 24 2:=⟨fun _=>by kernel_rfl,fun _=>by kernel_rfl⟩
theorem aggFrac:AggT Tryd.prog 26 4:=⟨fun _=>by kernel_rfl,fun _=>by kernel_rfl⟩
theorem cellWords:∀w,(isAgg 22).run Tryd.prog w= .ok false w:=fun _=>by kernel_rfl
theorem mix:Tryd.prog.follows .mixedOrders=true:=by kernel_rfl
def Is (u v:Value) (_:World):Prop:=v=u
def ZR (b:Nat) (z:Int) (v:Value) (w:World):Prop:=∃s A n c,v= .agg #[.bool s,.slice A n c]∧Zr w b s A n c z
def WR (b:Nat) (m:Nat) (v:Value) (w:World):Prop:=∃A n c,v= .slice A n c∧n=(wd m).length∧Own w b 50 1 A n c ((wd m).map W64)
def Wi (w:World) (A:Option Addr) (n c:Nat) (m:Nat):Prop:=∃xs,Rd w A n c xs∧nv xs=m
theorem Wi.ext {w w':World}{A:Option Addr}{n c m:Nat}(h:Wi w A n c m) (e:Ext w w'):Wi w' A n c m:=by
 obtain⟨xs,h1,h2⟩:=h
 exact⟨xs,h1.ext e,h2⟩
theorem Zi.wi {w:World}{s:Bool}{A:Option Addr}{n c:Nat}{z:Int}(h:Zi w s A n c z):Wi w A n c z.natAbs:=by
 obtain⟨xs,h1,h2⟩:=h
 exact⟨xs,h1,by rw [←h2,sg_abs]⟩
theorem Own.wi {w:World}{b:Nat}{t:TypeId}{A:Option Addr}{n c m:Nat}(h:Own w b t 1 A n c ((wd m).map W64)):Wi w A n c m:=⟨_,h.rd (Wf_wd _),nv_wd m⟩
theorem Wi.zi {w:World}{A:Option Addr}{n c m:Nat}(h:Wi w A n c m) (s:Bool):Zi w s A n c (sg s m):=by
 obtain⟨xs,h1,h2⟩:=h
 exact⟨xs,h1,by rw [h2]⟩
theorem Wi.len {w:World}{A:Option Addr}{n c m:Nat}(h:Wi w A n c m):(wd m).length≤n:=by
 obtain⟨xs,h1,rfl⟩:=h
 have:=len_wd_nv h1.wf
 rw [h1.len] at this;exact this
def PR (b:Nat) (T:TypeId) (vs:List Value) (v:Value) (w:World):Prop:=∃g,v= .pointer (some ⟨g,0,none⟩)∧b≤g∧Bk w g T vs
theorem PR.old {b:Nat}{T:TypeId}{vs:List Value}{v:Value}{w:World}(h:PR b T vs v w):OldIn w v:=by
 obtain⟨g,h1,_,h2⟩:=h
 exact⟨g,h1,h2.lt⟩
theorem Zr_nat {w:World}{b m n c:Nat}{A:Option Addr}(hn:n=(wd m).length) (ho:Own w b 50 1 A n c ((wd m).map W64)):Zr w b false A n c (m:Int):=
 Zr_of (m:=m) (s:=false) (by rw [sg_false];symm;exact decide_eq_false (by omega)) hn ho (sg_false m)
def T2 (R S:Value→World→Prop) (v:Value) (w:World):Prop:=∃a b,v= .tuple #[a,b]∧R a w∧S b w
def T3 (R S T:Value→World→Prop) (v:Value) (w:World):Prop:=∃a b c,v= .tuple #[a,b,c]∧R a w∧S b w∧T c w
def Gv (w:World) (R:Value→World→Prop) (e:Ending) (w':World):Prop:=∃v,e= .returned v∧R v w'∧Ext w w'
section
variable {w w':World}{b:Nat}{z x y:Int}{v u:Value}{R S T:Value→World→Prop}
theorem ZR.ext (h:ZR b z v w) (e:Ext w w'):ZR b z v w':=by
 obtain⟨s,A,n,c,rfl,h⟩:=h
 exact⟨s,A,n,c,rfl,h.ext e⟩
theorem ZR.cast (h:ZR b z v w) (e:z=x):ZR b x v w:=e▸h
theorem Is.ext (h:Is u v w) (_:Ext w w'):Is u v w':=h
theorem gz (hb:b≤w.heap.size) (e:Ending) (w':World) (h:RetZ w z e w'):Gv w (ZR b z) e w':=by
 obtain⟨s,A,n,c,rfl,h1,h2⟩:=h
 exact⟨_,rfl,⟨s,A,n,c,rfl,h1.mono hb⟩,h2⟩
theorem gzze {er:Int}(hb:b≤w.heap.size) (e:Ending) (w':World) (h:RetZZE w x y er e w'):Gv w (T3 (ZR b x) (ZR b y) (Is (.int .i64 er))) e w':=by
 obtain⟨s,A,n,c,s',B,m,c',rfl,h1,h1',h2⟩:=h
 exact⟨_,rfl,⟨_,_,_,rfl,⟨s,A,n,c,rfl,h1.mono hb⟩,⟨s',B,m,c',rfl,h1'.mono hb⟩,rfl⟩,h2⟩
theorem WR.ext {m:Nat}(h:WR b m v w) (e:Ext w w'):WR b m v w':=by
 obtain⟨A,n,c,rfl,h1,h2⟩:=h
 exact⟨A,n,c,rfl,h1,h2.ext e⟩
theorem gw {m:Nat}(hb:b≤w.heap.size) (e:Ending) (w':World) (h:RetW w m e w'):Gv w (WR b m) e w':=by
 obtain⟨A,n,c,rfl,h1,h2,h3,h4⟩:=h
 exact⟨_,rfl,⟨A,n,c,rfl,h1.out,h3.mono hb⟩,h4⟩
theorem Gv.imp (hi:∀v w,R v w→S v w) (e:Ending) (w':World) (h:Gv w R e w'):Gv w S e w':=by
 obtain⟨v,rfl,h1,h2⟩:=h
 exact⟨v,rfl,hi _ _ h1,h2⟩
theorem ZR.imp {b':Nat}(hb:b≤b') (v:Value) (w:World) (h:ZR b' z v w):ZR b z v w:=by
 obtain⟨s,A,n,c,rfl,h⟩:=h
 exact⟨s,A,n,c,rfl,h.mono hb⟩
theorem WR.imp {b' m:Nat}(hb:b≤b') (v:Value) (w:World) (h:WR b' m v w):WR b m v w:=by
 obtain⟨A,n,c,rfl,h1,h2⟩:=h
 exact⟨A,n,c,rfl,h1,h2.mono hb⟩
theorem T2.imp {R' S':Value→World→Prop}(h1:∀v w,R v w→R' v w) (h2:∀v w,S v w→S' v w) (v:Value) (w:World) (h:T2 R S v w):T2 R' S' v w:=by
 obtain⟨a,c,rfl,h3,h4⟩:=h
 exact⟨a,c,rfl,h1 _ _ h3,h2 _ _ h4⟩
theorem T3.imp {R' S' T':Value→World→Prop}(h1:∀v w,R v w→R' v w) (h2:∀v w,S v w→S' v w) (h0:∀v w,T v w→T' v w) (v:Value) (w:World) (h:T3 R S T v w):T3 R' S' T' v w:=by
 obtain⟨a,c,d,rfl,h3,h4,h5⟩:=h
 exact⟨a,c,d,rfl,h1 _ _ h3,h2 _ _ h4,h0 _ _ h5⟩
theorem Is.imp {u:Value}(v:Value) (w:World) (h:Is u v w):Is u v w:=h
theorem gsgn (e:Ending) (w':World) (h:SgnP z w e w'):Gv w (Is (.int .i64 z)) e w':=by
 obtain⟨c,h1,_,_,rfl,h2⟩:=h
 exact⟨_,rfl,(show Value.int .i64 c=_ by rw [h1.out]),h2⟩
theorem gbool {c:Bool}(e:Ending) (w':World) (h:BoolP c w e w'):Gv w (Is (.bool c)) e w':=⟨_,h.1,rfl,h.2⟩
end
section
variable {w:World}{b:Nat}(hb:b≤w.heap.size){s t u:Bool}{A B C:Option Addr}{n cap m cap' k cap'':Nat}{x y z:Int}
include hb
theorem g_zint_MulAdd (hx:Zi w s A n cap x) (hl:n≤68719476736) (hy:Zi w t B m cap' y) (hl':m≤68719476736) (hz:Zi w u C k cap'' z) (hl'':k≤68719476736):
  Calls Tryd.prog 47 #[.agg #[.bool s,.slice A n cap],.agg #[.bool t,.slice B m cap'],.agg #[.bool u,.slice C k cap'']] w (Gv w (ZR b (x*y+z))):=(zint_MulAdd hx hl hy hl' hz hl'').mono (gz hb)
theorem g_zint_Neg (hx:Zi w s A n cap x) (hl:n≤68719476736):Calls Tryd.prog 41 #[.agg #[.bool s,.slice A n cap]] w (Gv w (ZR b (-x))):=(zint_Neg hx hl).mono (gz hb)
theorem g_zint_Of {v:Int}(h1: -9223372036854775808≤v) (h2:v≤9223372036854775807):Calls Tryd.prog 13 #[.int .i64 v] w (Gv w (ZR b v)):=(zint_OfI h1 h2).mono (gz hb)
end
section
variable {w:World}{s t:Bool}{A B:Option Addr}{n cap m cap':Nat}{x y:Int}
theorem g_zint_Sign (hx:Zi w s A n cap x) (hl:n≤68719476736):Calls Tryd.prog 11 #[.agg #[.bool s,.slice A n cap]] w (Gv w (Is (.int .i64 (scmp x 0)))):=(zint_Sign hx hl).mono gsgn
theorem g_zint_Cmp (hx:Zi w s A n cap x) (hl:n≤68719476736) (hy:Zi w t B m cap' y) (hl':m≤68719476736):
  Calls Tryd.prog 12 #[.agg #[.bool s,.slice A n cap],.agg #[.bool t,.slice B m cap']] w (Gv w (Is (.int .i64 (scmp x y)))):=(zint_Cmp hx hl hy hl').mono gsgn
end
section
variable {P:Program}{Q:Exit→Act→World→Prop}{n:Nat}{l:Fr}{w:World}{ops:Array Oper}{rest:List Oper}{d:Nat}{op:Op}{ty:TypeId}{pos:String}{af:Array Edge}{gd:Option (Nat×Bool)}
theorem wl_bslice (hw:guardB ops l gd=some true) (hk:known l op=true) (hn:d<n){k:Nat}{e:TypeId}(cells:List Value)
  (hr:∀w,(execOp (rho l) ⟨some d,op,ty,pos,af,gd⟩).run P w= .ok (.value (.slice (some ⟨w.heap.size,0,none⟩) k k)) (w.alloc (.cells cells.toArray e)))
  (h:∀g w',NewBk w w' g e cells→wl P ops Q n rest ((d,.slice (some ⟨g,0,none⟩) k k)::l) w'):wl P ops Q n (⟨some d,op,ty,pos,af,gd⟩::rest) l w:=
 wl_val hw hn (fun a ha=>by rw [exec_known hk ha];exact hr w) (h _ _ (NewBk.mk' w e cells))
end
def O1 (b x:Nat) (v:Value) (w:World):Prop:=∃A,v= .slice A 1 1∧Own w b 50 1 A 1 1 [W64 x]
theorem O1.mk_ {w w':World}{g b x:Nat}(h:NewBk w w' g 50 [W64 x]) (hb:b≤w.heap.size):Own w' b 50 1 (some ⟨g,0,none⟩) 1 1 [W64 x]:=
 Own.mk_ (by rw [←h.at_];exact hb) h.bk (Nat.le_refl _) (by rw [len_maxLen];omega) rfl rfl
theorem own1_wi {w:World}{b x:Nat}{A:Option Addr}(h:Own w b 50 1 A 1 1 [W64 x]) (hx:x≤18446744073709551615):Wi w A 1 1 x:=
 ⟨[x],h.rd (Wf_one (by rw [WB_def];omega)),nv_one x⟩
theorem own1_wd {w:World}{b x:Nat}{A:Option Addr}(h:Own w b 50 1 A 1 1 [W64 x]) (hx:x≤18446744073709551615) (h0:x≠0):Own w b 50 1 A 1 1 ((wd x).map W64):=by
 rw [wd_small (by rw [WB_def];omega) h0];exact h
theorem len1 {x:Nat}(hx:x≤18446744073709551615) (h0:x≠0):1=(wd x).length:=by rw [wd_small (by rw [WB_def];omega) h0];rfl
section
variable {P:Program}{Q:Exit→Act→World→Prop}{n:Nat}{l:Fr}{w:World}
def mvL (n:Nat) (ops:Array Oper):Nat→List Oper→Fr→Option (Fr×List Oper)
 | 0,rest,l=>some (l,rest)
 | _+1,[],_=>none
 | k+1,⟨some d,op,_,_,_,gd⟩::rest,l=>
  match Nat.blt d n with
  | true=>
   match guardB ops l gd with
   | some true=>
    match op with
    | .move x=>match evo l x with
     | some v=>mvL n ops k rest ((d,v)::l)
     | none=>none
    | .assign x=>match evo l x with
     | some v=>mvL n ops k rest ((d,v)::l)
     | none=>none
    | _=>none
   | some false=>mvL n ops k rest ((d,undef)::l)
   | none=>none
  | false=>none
 | _+1,_::_,_=>none
theorem mv {ops:Array Oper}:∀(k:Nat){rest rest':List Oper}{l l':Fr},mvL n ops k rest l=some (l',rest')→wl P ops Q n rest' l' w→wl P ops Q n rest l w
 | 0,rest,rest',l,l',h,hw=>by
  simp only [mvL,Option.some.injEq,Prod.mk.injEq] at h
  obtain⟨rfl,rfl⟩:=h
  exact hw
 | k+1,[],rest',l,l',h,hw=>by simp [mvL] at h
 | k+1,⟨none,op,ty,pos,af,gd⟩::rest,rest',l,l',h,hw=>by simp [mvL] at h
 | k+1,⟨some d,op,ty,pos,af,gd⟩::rest,rest',l,l',h,hw=>by
  unfold mvL at h
  split at h
  ·rename_i hd
   have hd':d<n:=Nat.le_of_ble_eq_true hd
   split at h
   ·rename_i hg
    split at h
    ·split at h
     ·rename_i hx
      exact wl_move hg hx hd' (mv k h hw)
     ·cases h
    ·split at h
     ·rename_i hx
      exact wl_assign hg hx hd' (mv k h hw)
     ·cases h
    ·cases h
   ·rename_i hg
    exact wl_off hg hd' (mv k h hw)
   ·cases h
  ·cases h
theorem sr {id:Nat}{ol:List Oper}{y:Code}(h:wl P ol.toArray (Exit.then (fun a w=>y.wp P Q a w) Q) n ol l w):cw P Q n (.seq (.region id ol.toArray false) y) l w:=cw_seq (cw_region h)
theorem ne_ {ops:Array Oper}{y:Code}(h:cw P Q n y l w):wl P ops (Exit.then (fun a w=>y.wp P Q a w) Q) n [] l w:=wl_nil (eo_then h)
theorem pu {ops:Array Oper}{rest:List Oper}{d:Nat}{op:Op}{ty:TypeId}{pos:String}{af:Array Edge}{gd:Option (Nat×Bool)}{v:Value}(hk:(guardB ops l gd==some true&&known l op&&Nat.blt d n)=true) (hr:(execOp (rho l) ⟨some d,op,ty,pos,af,gd⟩).run P w= .ok (.value v) w)
  (h:wl P ops Q n rest ((d,v)::l) w):wl P ops Q n (⟨some d,op,ty,pos,af,gd⟩::rest) l w:=by
 rw [Bool.and_eq_true,Bool.and_eq_true,beq_iff_eq] at hk
 exact wl_pure hk.1.1 hk.1.2 (Nat.le_of_ble_eq_true hk.2) hr h
section
variable {ops:Array Oper}{rest:List Oper}{d:Nat}{ty:TypeId}{pos:String}{af:Array Edge}{gd:Option (Nat×Bool)}{w0:World}
theorem bx {x:Operand}{t:TypeId}{v:Value}(vs:List Value) (h0:Ext w0 w) (hx:evo l x=some v) (hk:(guardB ops l gd==some true&&Nat.blt d n)=true) (hv:v.cells=vs.toArray)
  (h:∀g w',Bk w' g t vs→w0.heap.size≤g→Ext w w'→Ext w0 w'→wl P ops Q n rest ((d,.pointer (some ⟨g,0,none⟩))::l) w'):wl P ops Q n (⟨some d,.box t x,ty,pos,af,gd⟩::rest) l w:=by
 rw [Bool.and_eq_true,beq_iff_eq] at hk
 exact wl_box hk.1 hx hv (Nat.le_of_ble_eq_true hk.2) fun g w' nb=>h g w' nb.bk (by rw [←nb.at_];exact h0.size) nb.ext (h0.trans nb.ext)
theorem al {t:TypeId}(vs:List Value) (h0:Ext w0 w) (hz:∀w,(zeroValue t).run P w= .ok (.agg vs.toArray) w) (hk:(guardB ops l gd==some true&&Nat.blt d n)=true)
  (h:∀g w',Bk w' g t vs→w0.heap.size≤g→Ext w w'→Ext w0 w'→wl P ops Q n rest ((d,.pointer (some ⟨g,0,none⟩))::l) w'):wl P ops Q n (⟨some d,.alloc t,ty,pos,af,gd⟩::rest) l w:=by
 rw [Bool.and_eq_true,beq_iff_eq] at hk
 exact wl_alloc hk.1 hz rfl (Nat.le_of_ble_eq_true hk.2) fun g w' nb=>h g w' nb.bk (by rw [←nb.at_];exact h0.size) nb.ext (h0.trans nb.ext)
theorem alq {t:TypeId}{gp:Nat}(vs:List Value) (h0:Ext w0 w) (hq:gp<w.heap.size) (hz:∀w,(zeroValue t).run P w= .ok (.agg vs.toArray) w) (hk:(guardB ops l gd==some true&&Nat.blt d n)=true)
  (h:∀g w',Bk w' g t vs→w0.heap.size≤g→gp<g→Ext w w'→Ext w0 w'→wl P ops Q n rest ((d,.pointer (some ⟨g,0,none⟩))::l) w'):wl P ops Q n (⟨some d,.alloc t,ty,pos,af,gd⟩::rest) l w:=by
 rw [Bool.and_eq_true,beq_iff_eq] at hk
 exact wl_alloc hk.1 hz rfl (Nat.le_of_ble_eq_true hk.2) fun g w' nb=>h g w' nb.bk (by rw [←nb.at_];exact h0.size) (by rw [←nb.at_];exact hq) nb.ext (h0.trans nb.ext)
theorem cl {f:FuncId}{xs:Array Operand}{ts:Array TypeId}{vs:List Value}{R:Value→World→Prop}(h0:Ext w0 w) (hc:Calls P f vs.toArray w (Gv w R))
  (hk:(guardB ops l gd==some true&&known l (.call {callee:= .value (.func f),args:=xs,argTypes:=ts})&&Nat.blt d n)=true)
  (hr:(execOp (rho l) ⟨some d,.call {callee:= .value (.func f),args:=xs,argTypes:=ts},ty,pos,af,gd⟩).run P w= .ok (.enter f vs.toArray) w)
  (h:∀v w',R v w'→Ext w w'→Ext w0 w'→wl P ops Q n rest ((d,v)::l) w'):
  wl P ops Q n (⟨some d,.call {callee:= .value (.func f),args:=xs,argTypes:=ts},ty,pos,af,gd⟩::rest) l w:=by
 rw [Bool.and_eq_true,Bool.and_eq_true,beq_iff_eq] at hk
 refine wl_call hk.1.1 hk.1.2 hr (Nat.le_of_ble_eq_true hk.2) hc ?_
 rintro _ w' ⟨v,rfl,r,e⟩
 exact ret_intro (h v w' r e (h0.trans e))
theorem lo {x:Operand}{T T':TypeId}{k off g:Nat}{vs:List Value}(hT:AggT P T k) (hb:Bk w g T' vs) (us:List Value) (hx:evo l x=some (.pointer (some ⟨g,off,none⟩)))
  (hk:(guardB ops l gd==some true&&Nat.blt d n&&Nat.beq us.length k&&Nat.ble (off+k) vs.length)=true) (he:(vs.drop off).take k=us) (h:wl P ops Q n rest ((d,.agg us.toArray)::l) w):wl P ops Q n (⟨some d,.load T x,ty,pos,af,gd⟩::rest) l w:=by
 rw [Bool.and_eq_true,Bool.and_eq_true,Bool.and_eq_true,beq_iff_eq] at hk
 exact wl_load hk.1.1.1 hx (load_agg hT hb us (Nat.eq_of_beq_eq_true hk.1.2) (Nat.le_of_ble_eq_true hk.2) he) (Nat.le_of_ble_eq_true hk.1.1.2) h
theorem so {x y:Operand}{T T':TypeId}{k g off:Nat}{vs us:List Value}(hT:AggT P T k) (hb:Bk w g T' vs) (us':List Value) (h0:Ext w0 w) (hg:w0.heap.size≤g) (hx:evo l x=some (.pointer (some ⟨g,off,none⟩))) (hy:evo l y=some (.agg us.toArray))
  (hk:(guardB ops l gd==some true&&Nat.beq us.length k&&Nat.ble (off+k) vs.length&&us.all (·.oneCell'))=true) (he:overl vs off us=us')
  (h:∀w',Bk w' g T' us'→Upd g w w'→Ext w0 w'→wl P ops Q n rest l w'):wl P ops Q n (⟨none,.store T x y,ty,pos,af,gd⟩::rest) l w:=by
 rw [Bool.and_eq_true,Bool.and_eq_true,Bool.and_eq_true,beq_iff_eq] at hk
 exact wl_stored hk.1.1.1 hx hy hT (Nat.eq_of_beq_eq_true hk.1.1.2) hb (Nat.le_of_ble_eq_true hk.1.2) hk.2 us' he fun w' b u _=>h w' b u (u.ext h0 hg)
end
theorem dk {ol:List Oper}{Rs:List (Value→World→Prop)}{w0 w1:World}{k:Fr→Prop}{acc:Fr}{j:Nat}{ds:List Nat}{v:Value}{d:Nat}
  (hR:Rs[j]?=some (Is v)) (hd:dstOf ol j=some d) (h:Deps ol Rs w0 w1 k ds ((d,v)::acc)):Deps ol Rs w0 w1 k (j::ds) acc:=
 deps_cons hR hd fun v' _ hr _ _=>by
  obtain rfl:=hr
  exact h
theorem pf {ops:Array Oper}{rest:List Oper}{d:Nat}{op:Op}{ty:TypeId}{pos:String}{af:Array Edge}{gd:Option (Nat×Bool)}(g off:Nat) (hk:(guardB ops l gd==some true&&known l op&&Nat.blt d n)=true) (hr:(execOp (rho l) ⟨some d,op,ty,pos,af,gd⟩).run P w= .ok (.value (.pointer (some ⟨g,off,none⟩))) w)
  (h:wl P ops Q n rest ((d,.pointer (some ⟨g,off,none⟩))::l) w):wl P ops Q n (⟨some d,op,ty,pos,af,gd⟩::rest) l w:=pu hk hr h
theorem bq {m k:Nat}(h:Nat.ble m k=true):m≤k:=Nat.le_of_ble_eq_true h
theorem lx_ {a b c:Nat}(h:a≤b) (k:Nat.ble b c=true):a≤c:=Nat.le_trans h (Nat.le_of_ble_eq_true k)
end
abbrev S0:Value:= .slice none 0 0
abbrev F0:Value:= .bool false
abbrev I0:Value:= .int .i64 0
end Go.Proofs.YtipklngcpmkfhaaDoor

namespace Go.Proofs.YtipklngcpmkfhaaDoor
open Go.ChangeShapes Go.WideShapes Go.ChangeAt Go.RowKit
theorem own_knob:ownKnob Tryd.prog.godebug=none:=by kernel_rfl
theorem cells_word:Tryd.prog.cellsOf 50=1:=by kernel_rfl
theorem bulk_one {H:Type}(d:DataW H):1≤Rows.uptoBulk d:=by
 cases d with
 | lit l=>cases l <;> simp [Rows.uptoBulk]
 | nil=>simp [Rows.uptoBulk]
 | ptr d=>simp [Rows.uptoBulk]
 | slice elems spare=>simp [Rows.uptoBulk]
 | agg parts=>simp [Rows.uptoBulk]
 | iface t d=>simp [Rows.uptoBulk]
 | map entries=>simp [Rows.uptoBulk]
 | held h=>simp [Rows.uptoBulk]
theorem bulk_len {H:Type}(l:List (DataW H)):l.length≤Rows.uptoBulkAll l:=by
 induction l with
 | nil=>simp [Rows.uptoBulkAll]
 | cons x r ih=>have:=bulk_one x;simp only [Rows.uptoBulkAll,List.length_cons];omega
theorem bulk_slice {H:Type}(elems spare:List (DataW H)):elems.length+spare.length≤Rows.uptoBulk (.slice elems spare):=by
 have h1:=bulk_len elems
 have h2:=bulk_len spare
 simp only [Rows.uptoBulk]
 omega
theorem bulk_bound {H:Type}{l:List (DataW H)}(hk:Rows.uptoSmall H l=true):Rows.uptoBulkAll l≤1048576:=of_decide_eq_true hk
theorem wf_nat {n:Int}(h:(Lit.int .u64 n).wf=true):0≤n∧n≤18446744073709551615:=by
 simpa [Lit.wf,IntKind.min,IntKind.max,IntKind.signed,IntKind.bits] using h
theorem post_of_below {H:Type}{enc:TypeId×Value→H}{P:Program}{f:Func}{s:ChangeSpec}{apart fresh handsOn again:Bool}{W W':World}{args:Array Value}{v:Value}{ds gs:List (DataW H)}{before pa pv:List MemPlace}
  (hW:DataW.Whole enc P f.params.toList s.vars apart W args.toList ds gs before)
  (hres:∀(b:Nat) (sp:Nat→Bool) (hd:Bool),DataW.TrodAll enc P W' b sp hd f.resultTypes.toList (v.resultList f.resultTypes.size) (s.fn H (ds++gs)).results [])
  (hargs:∀sp:Nat→Bool,(∀p∈before,sp p.block=true)→DataW.TrodAll enc P W' 0 sp true f.params.toList args.toList (s.fn H (ds++gs)).args pa)
  (hvars:∀sp:Nat→Bool,(∀p∈before,sp p.block=true)→DataW.TrodVars enc P W' sp s.vars (s.fn H (ds++gs)).vars pv)
  (hps:before=pa++pv) (hb:Below W.heap.size W W')
  (hok:∀(j:Nat) (t:TypeId) (r:Value),f.resultTypes[j]?=some t→(v.resultList f.resultTypes.size)[j]?=some r→Value.okWide P W' .any 0 t r):
  s.post enc P f apart fresh handsOn again W args v W':=by
 have hlt:∀p∈before,p.block<W.heap.size:=fun p hp=>hW.lt p hp
 have hold:∀p∈before,(fun b=>decide (b<W.heap.size)) p.block=true:=fun p hp=>by simpa using hlt p hp
 refine⟨ds,gs,before,[],pa,pv,hW,hres _ _ _,hargs _ hold,hvars _ hold,World.keptBut_mono (fun p hp=>⟨hp,?_⟩) (hb.frame (· ∈before)),fun _=>?_⟩
 ·rw [hps,List.mem_append] at hp
  exact Or.inr hp
 ·obtain⟨_,_,_,_,_,hz,hn⟩:=hW
  refine⟨hok,_,_,([]++pa)++pv,⟨[]++pa,pv,trodAll_append (hargs _ (fun _ _=>rfl)) (hres _ _ _),hvars _ (fun _ _=>rfl),rfl,?_,?_⟩,?_⟩
  ·intro b off hp
   have hin:MemPlace.cell b off∈before:=by rw [hps];simpa using hp
   rw [hb.frozen (hlt _ hin)]
   exact hz b off hin
  ·intro ha
   have:=hn ha
   rw [hps] at this
   simpa using this
  ·intro p hp _
   rw [hps]
   simpa using hp
theorem laid_out:laidOutB Tryd.prog=true:=by kernel_rfl
theorem maps_rowed:mapsRowed Tryd.prog=true:=by kernel_rfl
def sizedB (P:Program):Bool:=(List.range P.types.size).all fun t=>match P.underlying t with
 | some (.slice e)=>decide (0<P.cellsOf e)
 | _=>true
theorem sized_b:sizedB Tryd.prog=true:=by kernel_rfl
theorem sized {t e:TypeId}(ht:t<Tryd.prog.types.size) (hu:Tryd.prog.underlying t=some (.slice e)):0<Tryd.prog.cellsOf e:=by
 have:=List.all_eq_true.1 sized_b t (List.mem_range.2 ht)
 simpa [hu] using this
theorem stays {H:Type}{enc:TypeId×Value→H}{W W':World}{t:TypeId}{v:Value}{d:DataW H}{p:List MemPlace}(ht:t<Tryd.prog.types.size) (h:DataW.Trod enc Tryd.prog W 0 (fun _=>true) true t v d p)
  (he:Ext W W') (hp:∀q∈p,q.block<W.heap.size){sp:Nat→Bool}(hsp:∀q∈p,sp q.block=true):DataW.Trod enc Tryd.prog W' 0 sp true t v d p:=by
 obtain⟨n,hn⟩:=h
 exact⟨n,DataW.trod_stays (kids_rows laid_out maps_rowed) sized (fun h=>by cases h) ht hn (fun q hq=>he.below.same (hp q hq)) hsp⟩
theorem stays_all {H:Type}{enc:TypeId×Value→H}{W W':World}(he:Ext W W'){sp:Nat→Bool}:∀{ts:List TypeId}{vs:List Value}{ds:List (DataW H)}{p:List MemPlace},(∀t∈ts,t<Tryd.prog.types.size)→
  DataW.TrodAll enc Tryd.prog W 0 (fun _=>true) true ts vs ds p→(∀q∈p,q.block<W.heap.size)→(∀q∈p,sp q.block=true)→DataW.TrodAll enc Tryd.prog W' 0 sp true ts vs ds p:=by
 intro ts
 induction ts with
 | nil=>
  intro vs ds p _ h _ _
  obtain⟨rfl,rfl,rfl⟩:=trodAll_nil h
  exact trodAll_mk0
 | cons t ts ih=>
  intro vs ds p ht h hp hsp
  obtain⟨v,vs',d,ds',p1,p2,rfl,rfl,rfl,h1,h2⟩:=trodAll_cons h
  exact trodAll_cons_mk (stays (ht t (by simp)) h1 he (fun q hq=>hp q (by simp [hq])) (fun q hq=>hsp q (by simp [hq]))) (ih (fun t h=>ht t (by simp [h])) h2 (fun q hq=>hp q (by simp [hq])) (fun q hq=>hsp q (by simp [hq])))
end Go.Proofs.YtipklngcpmkfhaaDoor

namespace Go.Proofs.YtipklngcpmkfhaaDoor
open Go.RowKit
structure Zl (w:World) (A:Option Addr) (n cap:Nat) (zs:List Int) (ms:List Nat):Prop where
 len:zs.length=n
 mlen:ms.length=n
 le:n≤cap
 max:cap≤maxLen
 get:∀i,i<n→∃a s B c,A=some a∧w.cell? (a.add (i*2))=some (.bool s)∧w.cell? (a.add (i*2+1))=some (.slice B (ms.getD i 0) c)∧Zi w s B (ms.getD i 0) c (zs.getD i 0)
theorem Zl.ext {w w':World}{A:Option Addr}{n cap:Nat}{zs:List Int}{ms:List Nat}(h:Zl w A n cap zs ms) (e:Ext w w'):Zl w' A n cap zs ms:=
 ⟨h.len,h.mlen,h.le,h.max,fun i hi=>by
  obtain⟨a,s,B,c,h1,h2,h3,h4⟩:=h.get i hi
  exact⟨a,s,B,c,h1,e.cell h2,e.cell h3,h4.ext e⟩⟩
theorem Zl.take {w:World}{A:Option Addr}{n cap k:Nat}{zs:List Int}{ms:List Nat}(h:Zl w A n cap zs ms) (hk:k≤n):Zl w A k cap (zs.take k) (ms.take k):=
 ⟨by rw [List.length_take,h.len];omega,by rw [List.length_take,h.mlen];omega,Nat.le_trans hk h.le,h.max,fun i hi=>by
  obtain⟨a,s,B,c,h1,h2,h3,h4⟩:=h.get i (by omega)
  have e1:(ms.take k).getD i 0=ms.getD i 0:=by simp [List.getD_eq_getElem?_getD,hi]
  have e2:(zs.take k).getD i 0=zs.getD i 0:=by simp [List.getD_eq_getElem?_getD,hi]
  rw [e1,e2]
  exact⟨a,s,B,c,h1,h2,h3,h4⟩⟩
def Fit (zs:List Int):Prop:=zs≠ []∧∀i,1≤i→i<zs.length→0<zs.getD i 0
end Go.Proofs.YtipklngcpmkfhaaDoor

namespace Go.Proofs.YtipklngcpmkfhaaDoor
open Go.ChangeShapes Go.WideShapes Go.ChangeAt Go.RowKit
theorem cells_int:Tryd.prog.cellsOf 24=2:=by kernel_rfl
theorem cells_words:Tryd.prog.cellsOf 22=1:=by kernel_rfl
theorem cells_bool:Tryd.prog.cellsOf 4=1:=by kernel_rfl
theorem fields_int:∃f0 f1:Field,Tryd.prog.underlying 24=some (.struct #[f0,f1])∧f0.type=4∧f0.offset=0∧f1.type=22∧f1.offset=1:=⟨_,_,Tryd.underlying24,rfl,rfl,rfl,rfl⟩
set_option maxRecDepth 20000 in
theorem open_wcell {H:Type}{enc:TypeId×Value→H}{W:World}{v:Value}{d:DataW H}{p:List MemPlace}{fuel:Nat}
  (hf:DataW.trod enc Tryd.prog W 0 (fun _=>true) true fuel 22 [v]=some (d,p)):
  ∃A n cap xs,v= .slice A n cap∧Rd W A n cap xs∧n≤Rows.uptoBulk d∧
   ∀W',Ext W W'→∀sp:Nat→Bool,(∀q∈p,sp q.block=true)→∃fuel',DataW.trod enc Tryd.prog W' 0 sp true fuel' 22 [v]=some (d,p):=by
 rcases open_ints Tryd.underlying22 Tryd.underlying50 cells_word hf with⟨hcs,hx⟩ | ⟨a,n',cap',zs,hcs,_,hl,hm,hz,hx,hcell,hwf⟩
 ·obtain rfl:=List.singleton_inj.1 hcs
  simp only [Prod.mk.injEq] at hx
  obtain⟨rfl,rfl⟩:=hx
  exact⟨none,0,0,[],rfl,Rd.nil W,Nat.zero_le _,fun W' _ sp _=>by obtain⟨fu,h⟩:=shut_slice_nil (enc:=enc) (w:=W') (base:=0) (spare:=sp) (held:=true) Tryd.underlying22;exact⟨fu,h⟩⟩
 ·obtain rfl:=List.singleton_inj.1 hcs
  simp only [Prod.mk.injEq] at hx
  obtain⟨rfl,rfl⟩:=hx
  simp only [if_true] at hz
  have hblk:0<cap'→a.block<W.heap.size:=fun hc=>World.block_lt_of_cell? W (a.add 0) (hcell 0 (by omega)) |> fun h=>by rwa [block_of_add] at h
  have hnn:∀z∈zs,((z.toNat:Nat):Int)=z:=fun z hz'=>Int.toNat_of_nonneg (wf_nat (hwf z hz')).1
  have hlen:(zs.take n').length=n':=by rw [List.length_take];omega
  refine⟨some a,n',cap',(zs.take n').map Int.toNat,rfl,⟨⟨by simp;omega,hl,hm,fun i hi=>⟨a,rfl,?_⟩,fun b hb hc=>by cases hb;exact hblk hc⟩,?_⟩,?_,?_⟩
  ·rw [hcell i (by omega)]
   have hi2:i<zs.length:=by omega
   have hmem:zs[i]∈zs:=List.getElem_mem hi2
   have e:(((zs.take n').map Int.toNat).map W64).getD i undef= .int .u64 ((zs[i].toNat:Nat):Int):=by
    simp [List.getD_eq_getElem?_getD,List.getElem?_map,show i<n' by omega,List.getElem?_eq_getElem hi2]
   rw [e,hnn _ hmem]
   simp [List.getD_eq_getElem?_getD,List.getElem?_eq_getElem hi2]
  ·intro x hx
   obtain⟨z,hz1,rfl⟩:=List.mem_map.1 hx
   have:=wf_nat (hwf z (List.mem_of_mem_take hz1))
   rw [WB_def];omega
  ·have:=bulk_slice (H:=H) (lits .u64 (zs.take n')) (lits .u64 (zs.drop n'))
   have e:(lits (H:=H) .u64 (zs.take n')).length=n':=by simp [lits];omega
   omega
  ·intro W' he sp hsp
   have hcell':∀i,i<zs.length→W'.cell? (a.add i)=some (.int .u64 (zs.getD i 0)):=fun i hi=>he.cell (hcell i hi)
   by_cases hz0:zs.length=0
   ·have hc0:cap'=0:=by omega
    have hl0:n'=0:=by omega
    subst hc0;subst hl0
    have t0:=shut_ints (enc:=enc) (w:=W') (base:=0) (spare:=sp) (held:=true) (a:=a) (len:=0) (cap:=0) (zs:=zs) 0 Tryd.underlying22 Tryd.underlying50 cells_word (Nat.zero_le _) (Nat.le_refl _) hm (by simp [hz0]) hcell' hwf
    exact⟨2,t0⟩
   ·have hspb:sp a.block=true:=hsp (.cell a.block a.off) (MemPlace.mem_row.2 ⟨0,by omega,by simp⟩)
    have t0:=shut_ints (enc:=enc) (w:=W') (base:=0) (spare:=sp) (held:=true) (a:=a) (len:=n') (cap:=cap') (zs:=zs) 0 Tryd.underlying22 Tryd.underlying50 cells_word (Nat.zero_le _) hl hm (by simp [hspb,hz]) hcell' hwf
    exact⟨2,t0⟩
set_option maxRecDepth 20000 in
theorem open_zcells {H:Type}{enc:TypeId×Value→H}{W:World}{c0 c1:Value}{x:DataW H×List MemPlace}{fuel:Nat}
  (h:DataW.trod enc Tryd.prog W 0 (fun _=>true) true fuel 24 [c0,c1]=some x):
  ∃s A n cap z,c0= .bool s∧c1= .slice A n cap∧Zi W s A n cap z∧n+1≤Rows.uptoBulk x.1∧
   ∀W',Ext W W'→∀sp:Nat→Bool,(∀q∈x.2,sp q.block=true)→∃fuel',DataW.trod enc Tryd.prog W' 0 sp true fuel' 24 [c0,c1]=some x:=by
 obtain⟨f0,f1,hu,t0,o0,t1,o1⟩:=fields_int
 obtain⟨y0,y1,n,rfl,hl,h0,h1⟩:=trod_struct2 hu h
 rw [t0,o0,cells_bool] at h0
 rw [t1,o1,cells_words] at h1
 have e0:(([c0,c1]:List Value).drop 0).take 1= [c0]:=rfl
 have e1:(([c0,c1]:List Value).drop 1).take 1= [c1]:=rfl
 rw [e0] at h0
 rw [e1] at h1
 obtain⟨s,hs,rfl⟩:=DataW.trod_bool Tryd.underlying4 h0
 obtain rfl:c0= .bool s:=by simpa using hs
 obtain⟨A,k,cap,xs,rfl,hx,hb,rx⟩:=open_wcell (d:=y1.1) (p:=y1.2) h1
 refine⟨s,A,k,cap,_,rfl,rfl,⟨xs,hx,rfl⟩,?_,?_⟩
 ·simp only [Rows.uptoBulk,Rows.uptoBulkAll];omega
 ·intro W' he sp hsp
  obtain⟨fu,hfu⟩:=rx W' he sp (fun q hq=>hsp q (by simp [hq]))
  refine⟨fu+1+1,trod_struct2_mk (y0:=(.lit (.bool s),[])) (y1:=y1) hu hl ?_ ?_⟩
  ·rw [t0,o0,cells_bool,e0]
   simp [DataW.trod,Tryd.underlying4]
  ·rw [t1,o1,cells_words,e1]
   exact DataW.trod_le (Nat.le_succ _) hfu
theorem cells_frac:Tryd.prog.cellsOf 26=4:=by kernel_rfl
theorem fields_frac:∃f0 f1:Field,Tryd.prog.underlying 26=some (.struct #[f0,f1])∧f0.type=24∧f0.offset=0∧f1.type=24∧f1.offset=2:=⟨_,_,Tryd.underlying26,rfl,rfl,rfl,rfl⟩
theorem types_frac:Tryd.prog.cellTypes Tryd.prog.depth 26=some [4,22,4,22]:=by kernel_rfl
set_option maxRecDepth 20000 in
theorem open_frac {H:Type}{enc:TypeId×Value→H}{W:World}{base:Nat}{v:Value}{d:DataW H}{p:List MemPlace}
  (hval:Value.okWide Tryd.prog W .any base 26 v) (h:DataW.Trod enc Tryd.prog W 0 (fun _=>true) true 26 v d p):
  ∃s A n cap s' A' n' cap' x y,v= .agg #[.bool s,.slice A n cap,.bool s',.slice A' n' cap']∧Zi W s A n cap x∧Zi W s' A' n' cap' y∧n+n'≤Rows.uptoBulk d∧
   ∀W',Ext W W'→∀sp:Nat→Bool,(∀q∈p,sp q.block=true)→DataW.Trod enc Tryd.prog W' 0 sp true 26 v d p:=by
 simp only [Value.okWide,Tryd.underlying26] at hval
 obtain⟨cs,rfl,hsz,ts,hts,_,hrow⟩:=hval
 rw [types_frac] at hts
 obtain rfl:=(Option.some.inj hts).symm
 rw [cells_frac] at hsz
 obtain⟨c0,c1,c2,c3,rfl⟩:∃c0 c1 c2 c3,cs= #[c0,c1,c2,c3]:=by
  rcases cs with⟨l⟩
  match l,hsz with
  | [c0,c1,c2,c3],_=>exact⟨c0,c1,c2,c3,rfl⟩
 obtain⟨u,hu,hok⟩:=hrow 1 c1 rfl
 obtain rfl:u=22:=by simpa using hu.symm
 obtain⟨u3,hu3,hok3⟩:=hrow 3 c3 rfl
 obtain rfl:u3=22:=by simpa using hu3.symm
 obtain⟨fuel,hf⟩:=h
 have hf':DataW.trod enc Tryd.prog W 0 (fun _=>true) true fuel 26 [c0,c1,c2,c3]=some (d,p):=hf
 obtain⟨f0,f1,hus,t0,o0,t1,o1⟩:=fields_frac
 obtain⟨y0,y1,n,hxy,hl,h0,h1⟩:=trod_struct2 hus hf'
 rw [t0,o0,cells_int] at h0
 rw [t1,o1,cells_int] at h1
 have e0:(([c0,c1,c2,c3]:List Value).drop 0).take 2= [c0,c1]:=rfl
 have e1:(([c0,c1,c2,c3]:List Value).drop 2).take 2= [c2,c3]:=rfl
 rw [e0] at h0
 rw [e1] at h1
 obtain⟨s,A,k,cap,z,rfl,rfl,hz,hb,rx⟩:=open_zcells h0
 obtain⟨s',A',k',cap',z',rfl,rfl,hz',hb',rx'⟩:=open_zcells h1
 simp only [Prod.mk.injEq] at hxy
 obtain⟨rfl,rfl⟩:=hxy
 refine⟨s,A,k,cap,s',A',k',cap',z,z',rfl,hz,hz',?_,?_⟩
 ·simp only [Rows.uptoBulk,Rows.uptoBulkAll];omega
 ·intro W' he sp hsp
  obtain⟨fu,hfu⟩:=rx W' he sp (fun q hq=>hsp q (by simp [hq]))
  obtain⟨fu',hfu'⟩:=rx' W' he sp (fun q hq=>hsp q (by simp [hq]))
  refine⟨max fu fu'+1,?_⟩
  refine trod_struct2_mk (y0:=y0) (y1:=y1) hus hl ?_ ?_
  ·rw [t0,o0,cells_int]
   exact DataW.trod_le (Nat.le_max_left _ _) hfu
  ·rw [t1,o1,cells_int]
   exact DataW.trod_le (Nat.le_max_right _ _) hfu'
end Go.Proofs.YtipklngcpmkfhaaDoor

namespace Go.Proofs.YtipklngcpmkfhaaDoor
def nd:List Int→Int×Int
 | []=>(1,0)
 | x::r=>(x*(nd r).1+(nd r).2,(nd r).1)
theorem nd_den (x:Int) (r:List Int):(nd (x::r)).2=(nd r).1:=rfl
theorem nd_num (x:Int) (r:List Int):(nd (x::r)).1=x*(nd r).1+(nd r).2:=rfl
theorem nd_gcd (l:List Int):Int.gcd (nd l).1 (nd l).2=1:=by
 induction l with
 | nil=>rfl
 | cons x r ih=>
  rw [nd_num,nd_den,Int.gcd_comm]
  have:Int.gcd (nd r).1 (x*(nd r).1+(nd r).2)=Int.gcd (nd r).1 (nd r).2:=by simp
  rw [this];exact ih
end Go.Proofs.YtipklngcpmkfhaaDoor

namespace Go.Proofs.YtipklngcpmkfhaaDoor
open Go.RowKit
@[irreducible] def e74:Nat:=1074
@[irreducible] def e98:Nat:=2098
@[irreducible] def e24:Nat:=1024
@[irreducible] def e70:Nat:=970
@[irreducible] def e45:Nat:=2045
@[irreducible] def e46:Nat:=2046
def rv (r:Nat):Nat:=if r<4503599627370496 then r else (4503599627370496+r%4503599627370496)*2^(r/4503599627370496-1)
structure IsNear (X D r:Nat):Prop where
 lo:∀s,s+1=r→D*(rv s+rv r)≤2*X∧(D*(rv s+rv r)=2*X→r%2=0)
 hi:2*X≤D*(rv r+rv (r+1))∧(2*X=D*(rv r+rv (r+1))→r%2=0)
theorem blen_shl {n s:Nat}(h:n≠0):blen (n*2^s)=blen n+s:=by
 refine blen_unique ?_ (Or.inr ?_)
 ·rw [Nat.pow_add];exact (Nat.mul_lt_mul_right (Nat.two_pow_pos s)).2 (lt_blen n)
 ·have hb:blen n≠0:=fun e=>h (blen_eq_zero.1 e)
  rw [show blen n+s-1=(blen n-1)+s by omega,Nat.pow_add]
  exact Nat.mul_le_mul_right _ (blen_le_self h)
structure Low (p q x y:Int):Prop where
 pos:0<q
 co:Int.gcd p q=1
 eq:p*y=x*q
 np:p.natAbs≤x.natAbs
 nq:q.natAbs≤y.natAbs
theorem lows_eq {p q p' q':Int}(h1:Int.gcd p q=1) (h2:Int.gcd p' q'=1) (hq:0<q) (hq':0<q') (e:p*q'=p'*q):p=p'∧q=q':=by
 have e1:p.natAbs*q'.natAbs=p'.natAbs*q.natAbs:=by rw [←Int.natAbs_mul,←Int.natAbs_mul,e]
 have c1:Nat.Coprime q.natAbs p.natAbs:=by rw [Nat.coprime_comm];exact h1
 have c2:Nat.Coprime q'.natAbs p'.natAbs:=by rw [Nat.coprime_comm];exact h2
 have d1:q.natAbs∣q'.natAbs:=c1.dvd_of_dvd_mul_left (e1▸Nat.dvd_mul_left _ _)
 have d2:q'.natAbs∣q.natAbs:=c2.dvd_of_dvd_mul_left (e1▸Nat.dvd_mul_left _ _)
 have hqq:q=q':=by
  have:=Nat.dvd_antisymm d1 d2
  omega
 subst hqq
 exact⟨Int.eq_of_mul_eq_mul_right (by omega) e,rfl⟩
theorem gcd_pos {x y:Int}(hy:y≠0):(Int.gcd x y:Int)≠0:=by
 have:=Int.gcd_pos_of_ne_zero_right x hy
 omega
theorem low_of {x y:Int}(hy:y≠0):Low (if y<0 then-(x.tdiv (Int.gcd x y)) else x.tdiv (Int.gcd x y)) (if y<0 then-(y.tdiv (Int.gcd x y)) else y.tdiv (Int.gcd x y)) x y:=by
 have hg:=gcd_pos (x:=x) hy
 obtain⟨a,ha⟩:=Int.gcd_dvd_left x y
 obtain⟨b,hb⟩:=Int.gcd_dvd_right x y
 have hco:Int.gcd a b=1:=by
  have h1:Int.gcd ((Int.gcd x y:Int)*a) ((Int.gcd x y:Int)*b)=(Int.gcd x y)*Int.gcd a b:=by
   rw [Int.gcd_mul_left,Int.natAbs_natCast]
  rw [←ha,←hb] at h1
  have h2:0<Int.gcd x y:=by omega
  exact Nat.eq_of_mul_eq_mul_left h2 (by rw [←h1,Nat.mul_one])
 generalize hG:(Int.gcd x y:Int)=G at*
 have hGp:0<G:=by omega
 have e1:x.tdiv G=a:=by rw [ha];exact Int.mul_tdiv_cancel_left _ hg
 have e2:y.tdiv G=b:=by rw [hb];exact Int.mul_tdiv_cancel_left _ hg
 rw [e1,e2]
 have na:a.natAbs≤x.natAbs:=by rw [ha,Int.natAbs_mul];exact Nat.le_mul_of_pos_left _ (by omega)
 have nb:b.natAbs≤y.natAbs:=by rw [hb,Int.natAbs_mul];exact Nat.le_mul_of_pos_left _ (by omega)
 have ee:a*y=x*b:=by
  calc a*y=a*(G*b):=by rw [←hb]
   _=(G*a)*b:=by grind
   _=x*b:=by rw [←ha]
 by_cases h:y<0
 ·rw [if_pos h,if_pos h]
  have hb0:b<0:=by
   refine Int.lt_of_not_ge (fun hb0=>?_)
   have:=Int.mul_nonneg (Int.le_of_lt hGp) hb0
   omega
  exact⟨by omega,by rw [Int.gcd_neg,Int.neg_gcd];exact hco,by rw [Int.neg_mul,Int.mul_neg,ee],by omega,by omega⟩
 ·rw [if_neg h,if_neg h]
  have hb0:0<b:=by
   refine Int.lt_of_not_ge (fun hb0=>?_)
   have h1:G*b≤0:=Int.mul_nonpos_of_nonneg_of_nonpos (Int.le_of_lt hGp) hb0
   omega
  exact⟨hb0,hco,ee,na,nb⟩
theorem Bk.four {w:World}{g:Nat}{t:TypeId}{a b c d:Value}(h:Bk w g t [a,b,c,d]):(w.cell? ⟨g,0,none⟩=some a∧w.cell? ⟨g,1,none⟩=some b∧w.cell? ⟨g,2,none⟩=some c∧w.cell? ⟨g,3,none⟩=some d)∧(w.frozen? ⟨g,0,none⟩=false∧w.frozen? ⟨g,1,none⟩=false∧w.frozen? ⟨g,2,none⟩=false∧w.frozen? ⟨g,3,none⟩=false):=
 ⟨⟨h.cell (i:=0) (by simp),h.cell (i:=1) (by simp),h.cell (i:=2) (by simp),h.cell (i:=3) (by simp)⟩,h.frozen 0,h.frozen 1,h.frozen 2,h.frozen 3⟩
theorem Bk.four_set {w:World}{g:Nat}{t:TypeId}{a b c d:Value}(h:Bk w g t [a,b,c,d]) (u0 u1 u2 u3:Value):Bk ((((w.setCell ⟨g,0,none⟩ u0).setCell ⟨g,1,none⟩ u1).setCell ⟨g,2,none⟩ u2).setCell ⟨g,3,none⟩ u3) g t [u0,u1,u2,u3]:=(((h.set 0 u0).set 1 u1).set 2 u2).set 3 u3
theorem Upd.four {w:World}{g:Nat}(u0 u1 u2 u3:Value):Upd g w ((((w.setCell ⟨g,0,none⟩ u0).setCell ⟨g,1,none⟩ u1).setCell ⟨g,2,none⟩ u2).setCell ⟨g,3,none⟩ u3):=((((Upd.refl g w).setCell 0 u0).setCell 1 u1).setCell 2 u2).setCell 3 u3
def RetFE (w:World) (p q:Int) (er:Int) (e:Ending) (w':World):Prop:=
 ∃s A n cap s' B m cap',e= .returned (.tuple #[.agg #[.bool s,.slice A n cap,.bool s',.slice B m cap'],.int .i64 er])∧Zr w' w.heap.size s A n cap p∧Zr w' w.heap.size s' B m cap' q∧Ext w w'
theorem res_fe {w:World}{g:Nat}{t:TypeId}{a b c d:Value}{fn:Func}{s u:Tmp}(hf:fn.results= #[.cell s 26,.tmp u]){tmps:Array Value}(hs:tmps.getD s undef= .pointer (some ⟨g,0,none⟩)){v:Value}(hu:tmps.getD u undef=v) (h:Bk w g t [a,b,c,d]):
  (results fn tmps).run Tryd.prog w= .ok (.tuple #[.agg #[a,b,c,d],v]) w:=by
 obtain⟨⟨h1,h2,h3,h4⟩,_⟩:=h.four
 have hs2:tmps[s]?.getD undef= .pointer (some ⟨g,0,none⟩):=by simpa using hs
 have hu2:tmps[u]?.getD undef=v:=by simpa using hu
 simp [results,hf,hs2,hu2,loadVar,loadCells,loadCellsFrom,go_sem,h1,h2,h3,h4]
theorem fin_frac {w w2:World}{g base:Nat}{s s':Bool}{A B:Option Addr}{n cap m cap':Nat}{p q:Int}(hp:Zr w2 base s A n cap p) (hq:Zr w2 base s' B m cap' q) (hg:g<base) (hw:w.heap.size≤g) (he:Ext w w2) (er:Int):
  RetFE w p q er (.returned (.tuple #[.agg #[.bool s,.slice A n cap,.bool s',.slice B m cap'],.int .i64 er])) ((((w2.setCell ⟨g,0,none⟩ (.bool s)).setCell ⟨g,1,none⟩ (.slice A n cap)).setCell ⟨g,2,none⟩ (.bool s')).setCell ⟨g,3,none⟩ (.slice B m cap')):=
 ⟨s,A,n,cap,s',B,m,cap',rfl,(hp.upd hg (Upd.four _ _ _ _)).mono (by omega),(hq.upd hg (Upd.four _ _ _ _)).mono (by omega),(Upd.four _ _ _ _).ext he hw⟩
theorem Bk.fr2 {w:World}{t t':TypeId}{l:Array Value}{vs:List Value}:Bk ((w.alloc (.cells l t')).alloc (.cells vs.toArray t)) (w.heap.size+1) t vs:=by
 have:=Bk.new (w.alloc (.cells l t')) t vs
 simpa using this
theorem Bk.fr3 {w:World}{t t' t'':TypeId}{l l':Array Value}{vs:List Value}:Bk (((w.alloc (.cells l t')).alloc (.cells l' t'')).alloc (.cells vs.toArray t)) (w.heap.size+1+1) t vs:=by
 have:=Bk.new ((w.alloc (.cells l t')).alloc (.cells l' t'')) t vs
 simpa using this
theorem boxesL3 (w:World) (t t' t'':TypeId) (l l' l'':List Value):∃g g2 g3 wa,w.heap.size+1+1=g3∧w.heap.size+1=g2∧w.heap.size=g∧((w.alloc (.cells l.toArray t)).alloc (.cells l'.toArray t')).alloc (.cells l''.toArray t'')=wa∧Bk wa g t l∧Bk wa g2 t' l'∧Bk wa g3 t'' l''∧Ext w wa∧g<g2∧g2<g3∧g3<wa.heap.size∧g≠g2∧g2≠g∧g≠g3∧g3≠g∧g2≠g3∧g3≠g2:=
 ⟨_,_,_,_,rfl,rfl,rfl,rfl,((Bk.new w t l).alloc _).alloc _,Bk.fr2.alloc _,Bk.fr3,(((Ext.refl w).alloc _).alloc _).alloc _,by omega,by omega,by simp,by omega,by omega,by omega,by omega,by omega,by omega⟩
theorem frac_Of_bad {w:World}{s t:Bool}{A B:Option Addr}{n cap m cap':Nat}{y:Int}(hy:Zi w t B m cap' y) (hl':m≤68719476736) (h0:y=0):
  Calls Tryd.prog 36 #[.agg #[.bool s,.slice A n cap],.agg #[.bool t,.slice B m cap']] w (RetFE w 0 0 4):=by
 have H0:=Lib.hid h0
 clear h0
 go_enter Tryd.func36,Tryd.ntmps36
 go_upto_region 1 with (fail)
 obtain⟨g,g2,g3,wa,hg3,hg2,hg,hwa,hb1,hb2,hb3,hea,l12,l23,l3,n12,n21,n13,n31,n23,n32⟩:=boxesL3 w 24 24 26 [.bool s,.slice A n cap] [.bool t,.slice B m cap'] [.bool false,.slice none 0 0,.bool false,.slice none 0 0]
 rw [hg3,hg2,hg,hwa]
 have hgw:w.heap.size≤g:=Nat.le_of_eq hg
 clear hwa hg hg2 hg3
 obtain⟨h1,h2,h3,h4⟩:=hb2.two
 go_wp2_with fail
 refine (zint_Sign (hy.ext hea) hl').mono ?_
 rintro e w1 ⟨c,hc,hcl,hch,rfl,hx1⟩
 obtain rfl:c=0:=by rw [hc.out,H0.out];rfl
 clear hc
 have hd3:=hb3.ext hx1
 have hsz:=hx1.size
 obtain⟨⟨k0,k1,k2,k3⟩,k4,k5,k6,k7⟩:=hd3.four
 go_wp2_with fail
 refine bodyPost_ret (res_fe rfl rfl rfl (hd3.four_set _ _ _ _)) rfl ?_
 exact fin_frac (g:=g3) (Zr.zero (base:=wa.heap.size)) Zr.zero (by omega) (by omega) (hea.trans hx1) 4
set_option maxHeartbeats 4000000 in
theorem frac_Of {w : World} {s t : Bool} {A B : Option Addr} {n cap m cap' : Nat} {x y : Int} (hx : Zi w s A n cap x) (hl : n ≤ 68719476736) (hy : Zi w t B m cap' y) (hl' : m ≤ 68719476736) (h0 : y ≠ 0) :
    Calls Tryd.prog 36 #[.agg #[.bool s, .slice A n cap], .agg #[.bool t, .slice B m cap']] w (fun e w' => ∃ p q, Hid (Low p q x y) ∧ RetFE w p q 0 e w') := by
  have H0 := Lib.hid h0
  have hlow := Lib.hid (low_of (x := x) h0)
  have hG0 := Lib.hid (gcd_pos (x := x) h0)
  have hGx := Lib.hid (Int.gcd_dvd_left x y)
  have hGy := Lib.hid (Int.gcd_dvd_right x y)
  have hGl : Hid (ln (Int.gcd x y : Int) ≤ m) := by
    refine Nat.le_trans (ln_mono ?_) hy.ln
    rw [Int.natAbs_natCast]
    exact Nat.le_of_dvd (by omega) (Int.natAbs_dvd_natAbs.2 (Int.gcd_dvd_right x y) |> fun h => by simpa using h)
  clear h0
  go_enter Tryd.func36, Tryd.ntmps36
  go_upto_region 1 with (fail)
  obtain ⟨g, g2, g3, wa, hg3, hg2, hg, hwa, hb1, hb2, hb3, hea, l12, l23, l3, n12, n21, n13, n31, n23, n32⟩ := boxesL3 w 24 24 26 [.bool s, .slice A n cap] [.bool t, .slice B m cap'] [.bool false, .slice none 0 0, .bool false, .slice none 0 0]
  rw [hg3, hg2, hg, hwa]
  have hgw : w.heap.size ≤ g := Nat.le_of_eq hg
  clear hwa hg hg2 hg3
  obtain ⟨h1, h2, h3, h4⟩ := hb2.two
  go_wp2_with fail
  refine (zint_Sign (hy.ext hea) hl').mono ?_
  rintro e w1 ⟨c, hc, hcl, hch, rfl, hx1⟩
  have hc1 : c ≠ 0 := fun h => H0.out (scmp_zero.1 (by rw [← hc.out, h]))
  have hc2 : c < 0 ↔ y < 0 := by rw [hc.out]; exact scmp_neg
  have HC2 := Lib.hid hc2
  have bc : (c == 0) = false := by simp; omega
  clear hc1 hc2 hc h1 h2 h3 h4
  have e1 := hea.trans hx1
  obtain ⟨f1, f2, f3, f4⟩ := (hb1.ext hx1).two
  obtain ⟨h1, h2, h3, h4⟩ := (hb2.ext hx1).two
  go_wp2_with fail
  refine (bezout_Gcd (hx.ext e1) hl (hy.ext e1) hl').mono ?_
  rintro e w2 ⟨s2, A2, n2, c2, rfl, z2, hx2⟩
  have b2 : n2 ≤ 68719476736 := Nat.le_trans (z2.le hGl.out) hl'
  have x2 : Ext wa w2 := hx1.trans hx2
  clear f1 f2 f3 f4 h1 h2 h3 h4
  go_upto_region 5 with (fail)
  have hb7 := Bk.new w2 24 [.bool s2, .slice A2 n2 c2]
  obtain ⟨v2, hv2⟩ : ∃ v2, w2.alloc (.cells #[.bool s2, .slice A2 n2 c2] 24) = v2 := ⟨_, rfl⟩
  obtain ⟨g7, hg7⟩ : ∃ g7, w2.heap.size = g7 := ⟨_, rfl⟩
  rw [hg7] at hb7 ⊢
  have hb7' : Bk v2 g7 24 [.bool s2, .slice A2 n2 c2] := by rw [← hv2]; exact hb7
  have xv2 : Ext wa v2 := by rw [← hv2]; exact x2.alloc _
  have z2' : Zr v2 w1.heap.size s2 A2 n2 c2 (Int.gcd x y : Int) := by rw [← hv2]; exact z2.ext ((Ext.refl w2).alloc _)
  rw [hv2]
  clear hb7 hv2 z2 hg7
  obtain ⟨f1, f2, f3, f4⟩ := (hb1.ext xv2).two
  obtain ⟨i1, i2, i3, i4⟩ := hb7'.two
  go_wp2_with fail
  refine (zint_Exact (hx.ext (hea.trans xv2)) hl z2'.zi b2 hG0.out hGx.out).mono ?_
  rintro e w3 ⟨s3, A3, n3, c3, rfl, z3, hx3⟩
  clear f1 f2 f3 f4 i1 i2 i3 i4
  go_upto_region 6 with (fail)
  have hb8 := Bk.new w3 24 [.bool s3, .slice A3 n3 c3]
  obtain ⟨v3, hv3⟩ : ∃ v3, w3.alloc (.cells #[.bool s3, .slice A3 n3 c3] 24) = v3 := ⟨_, rfl⟩
  obtain ⟨g8, hg8⟩ : ∃ g8, w3.heap.size = g8 := ⟨_, rfl⟩
  rw [hg8] at hb8 ⊢
  have hb8' : Bk v3 g8 24 [.bool s3, .slice A3 n3 c3] := by rw [← hv3]; exact hb8
  have xv3 : Ext v2 v3 := by rw [← hv3]; exact hx3.alloc _
  have z3' : Zr v3 v2.heap.size s3 A3 n3 c3 (x.tdiv (Int.gcd x y : Int)) := by rw [← hv3]; exact z3.ext ((Ext.refl w3).alloc _)
  rw [hv3]
  have l8 : v2.heap.size ≤ g8 := by rw [← hg8]; exact hx3.size
  clear hb8 hv3 z3 hg8
  obtain ⟨h1, h2, h3, h4⟩ := (hb2.ext (xv2.trans xv3)).two
  obtain ⟨i1, i2, i3, i4⟩ := (hb7'.ext xv3).two
  go_wp2_with fail
  refine (zint_Exact (hy.ext (hea.trans (xv2.trans xv3))) hl' (z2'.zi.ext xv3) b2 hG0.out hGy.out).mono ?_
  rintro e w4 ⟨s4, A4, n4, c4, rfl, z4, hx4⟩
  clear h1 h2 h3 h4 i1 i2 i3 i4
  go_upto_region 7 with (fail)
  have hb10 := Bk.new w4 24 [.bool s4, .slice A4 n4 c4]
  obtain ⟨v4, hv4⟩ : ∃ v4, w4.alloc (.cells #[.bool s4, .slice A4 n4 c4] 24) = v4 := ⟨_, rfl⟩
  obtain ⟨g10, hg10⟩ : ∃ g10, w4.heap.size = g10 := ⟨_, rfl⟩
  rw [hg10] at hb10 ⊢
  have hb10' : Bk v4 g10 24 [.bool s4, .slice A4 n4 c4] := by rw [← hv4]; exact hb10
  have xv4 : Ext v3 v4 := by rw [← hv4]; exact hx4.alloc _
  have z4' : Zr v4 v3.heap.size s4 A4 n4 c4 (y.tdiv (Int.gcd x y : Int)) := by rw [← hv4]; exact z4.ext ((Ext.refl w4).alloc _)
  have z3'' := z3'.ext xv4
  have hb8'' := hb8'.ext xv4
  rw [hv4]
  have l10 : v3.heap.size ≤ g10 := by rw [← hg10]; exact hx4.size
  have l8' : g8 < v3.heap.size := hb8'.lt
  have lb3 : g3 < v2.heap.size := (hb3.ext xv2).lt
  have n810 : g8 ≠ g10 := by omega
  have n108 : g10 ≠ g8 := by omega
  have hb3' := hb3.ext (xv2.trans (xv3.trans xv4))
  have ev4 : Ext w v4 := hea.trans (xv2.trans (xv3.trans xv4))
  have sv23 := xv3.size
  have sv34 := xv4.size
  clear hb10 hv4 z4 hg10
  obtain ⟨f1, f2, f3, f4⟩ := hb8''.two
  obtain ⟨h1, h2, h3, h4⟩ := hb10'.two
  obtain ⟨⟨k0, k1, k2, k3⟩, k4, k5, k6, k7⟩ := hb3'.four
  by_cases hneg : c < 0
  · have hyn := Lib.hid (HC2.out.1 hneg)
    have hlow2 := hlow.out
    rw [if_pos hyn.out, if_pos hyn.out] at hlow2
    have HLOW := Lib.hid hlow2
    clear hlow2 hlow
    go_upto_region 8 with (fail)
    have b3 : n3 ≤ 68719476736 := Nat.le_trans (z3''.le (ln_mono (by have := HLOW.out.np; rw [Int.natAbs_neg] at this; exact this))) (Nat.le_trans hx.ln hl)
    have b4 : n4 ≤ 68719476736 := Nat.le_trans (z4'.le (ln_mono (by have := HLOW.out.nq; rw [Int.natAbs_neg] at this; exact this))) (Nat.le_trans hy.ln hl')
    have n38 : g3 ≠ g8 := by omega
    have n310 : g3 ≠ g10 := by omega
    have l10v : g10 < v4.heap.size := hb10'.lt
    have l8v : g8 < v4.heap.size := hb8''.lt
    clear k0 k1 k2 k3 k4 k5 k6 k7
    go_region_with (first
      | (go_at_call 41; ((with_reducible refine (zint_Neg (z3''.zi.ext (by repeat (first | exact Ext.refl _ | assumption | apply Ext.drewN | apply Ext.drew | apply Ext.alloc))) b3).mono ?_)); rintro e w5 ⟨s5, A5, n5, c5, rfl, z5, hx5⟩; have he5 : Ext v4 w5 := Ext.trans (by repeat (first | exact Ext.refl _ | assumption | apply Ext.drewN | apply Ext.drew | apply Ext.alloc)) hx5; obtain ⟨f1, f2, f3, f4⟩ := (hb8''.ext he5).two; obtain ⟨h1, h2, h3, h4⟩ := (hb10'.ext he5).two)
      | (go_at_call 41; (with_reducible refine (zint_Neg (z4'.zi.ext (by repeat (first | exact Ext.refl _ | assumption | apply Ext.drewN | apply Ext.drew | apply Ext.alloc))) b4).mono ?_); rintro e w6 ⟨s6, A6, n6, c6, rfl, z6, hx6⟩; have he6 : Ext v4 w6 := Ext.trans (by repeat (first | exact Ext.refl _ | assumption | apply Ext.drewN | apply Ext.drew | apply Ext.alloc)) hx6; obtain ⟨f1, f2, f3, f4⟩ := (hb8''.ext he6).two; obtain ⟨h1, h2, h3, h4⟩ := (hb10'.ext he6).two))
    all_goals
      clear f1 f2 f3 f4 h1 h2 h3 h4
      first
      | (obtain ⟨wb, hwb⟩ : ∃ wb, (((w6.setCell ⟨g8, 0, none⟩ (.bool s5)).setCell ⟨g8, 1, none⟩ (.slice A5 n5 c5)).setCell ⟨g10, 0, none⟩ (.bool s6)).setCell ⟨g10, 1, none⟩ (.slice A6 n6 c6) = wb := ⟨_, rfl⟩
         rw [hwb]
         have q8 : Bk wb g8 24 [.bool s5, .slice A5 n5 c5] := by rw [← hwb]; exact ((hb8''.ext he6).two_set _ _).two_far n810 _ _
         have q10 : Bk wb g10 24 [.bool s6, .slice A6 n6 c6] := by rw [← hwb]; exact ((hb10'.ext he6).two_far n108 _ _).two_set _ _
         have q3 : Bk wb g3 26 [.bool false, .slice none 0 0, .bool false, .slice none 0 0] := by rw [← hwb]; exact ((hb3'.ext he6).two_far n38 _ _).two_far n310 _ _
         have r5 : Zr wb v4.heap.size s5 A5 n5 c5 (-(x.tdiv (Int.gcd x y : Int))) := by rw [← hwb]; exact (((z5.ext hx6).mono (by first | exact Nat.le_refl _ | exact he6.size)).upd l8v (Upd.two _ _)).upd l10v (Upd.two _ _)
         have r6 : Zr wb v4.heap.size s6 A6 n6 c6 (-(y.tdiv (Int.gcd x y : Int))) := by rw [← hwb]; exact (((z6).mono (by first | exact Nat.le_refl _ | exact he5.size)).upd l8v (Upd.two _ _)).upd l10v (Upd.two _ _)
         have eb : Ext w wb := by rw [← hwb]; exact (Upd.two _ _).ext ((Upd.two _ _).ext (ev4.trans he6) (by omega)) (by omega)
         clear hwb)
      | (obtain ⟨wb, hwb⟩ : ∃ wb, (((w5.setCell ⟨g8, 0, none⟩ (.bool s5)).setCell ⟨g8, 1, none⟩ (.slice A5 n5 c5)).setCell ⟨g10, 0, none⟩ (.bool s6)).setCell ⟨g10, 1, none⟩ (.slice A6 n6 c6) = wb := ⟨_, rfl⟩
         rw [hwb]
         have q8 : Bk wb g8 24 [.bool s5, .slice A5 n5 c5] := by rw [← hwb]; exact ((hb8''.ext he5).two_set _ _).two_far n810 _ _
         have q10 : Bk wb g10 24 [.bool s6, .slice A6 n6 c6] := by rw [← hwb]; exact ((hb10'.ext he5).two_far n108 _ _).two_set _ _
         have q3 : Bk wb g3 26 [.bool false, .slice none 0 0, .bool false, .slice none 0 0] := by rw [← hwb]; exact ((hb3'.ext he5).two_far n38 _ _).two_far n310 _ _
         have r5 : Zr wb v4.heap.size s5 A5 n5 c5 (-(x.tdiv (Int.gcd x y : Int))) := by rw [← hwb]; exact (((z5).mono (by first | exact Nat.le_refl _ | exact he6.size)).upd l8v (Upd.two _ _)).upd l10v (Upd.two _ _)
         have r6 : Zr wb v4.heap.size s6 A6 n6 c6 (-(y.tdiv (Int.gcd x y : Int))) := by rw [← hwb]; exact (((z6.ext hx5).mono (by first | exact Nat.le_refl _ | exact he5.size)).upd l8v (Upd.two _ _)).upd l10v (Upd.two _ _)
         have eb : Ext w wb := by rw [← hwb]; exact (Upd.two _ _).ext ((Upd.two _ _).ext (ev4.trans he5) (by omega)) (by omega)
         clear hwb)
      obtain ⟨f1, f2, f3, f4⟩ := q8.two
      obtain ⟨h1, h2, h3, h4⟩ := q10.two
      obtain ⟨⟨k0, k1, k2, k3⟩, k4, k5, k6, k7⟩ := q3.four
      go_wp2_with fail
      refine bodyPost_ret (res_fe rfl rfl rfl (q3.four_set _ _ _ _)) rfl ?_
      exact ⟨_, _, HLOW, fin_frac (g := g3) r5 r6 (by omega) (by omega) eb 0⟩
  · have hyn : ¬ y < 0 := fun h => hneg (HC2.out.2 h)
    have hlow2 := hlow.out
    rw [if_neg hyn, if_neg hyn] at hlow2
    have HLOW := Lib.hid hlow2
    clear hlow2 hlow hyn
    go_wp2_with fail
    refine bodyPost_ret (res_fe rfl rfl rfl (hb3'.four_set _ _ _ _)) rfl ?_
    exact ⟨_, _, HLOW, fin_frac (g := g3) (base := v2.heap.size) z3'' (z4'.mono (by omega)) (by omega) (by omega) ev4 0⟩
theorem UpdO.of {w w':World}{A:Option Addr}(h:w.grownBy w' none):UpdO A w w':=⟨⟨h.os,h.tape,h.output,h.size,fun k hk _=>h.block k hk (by simp)⟩⟩
theorem Upd.updO {w w':World}{g:Nat}(h:Upd g w w'){o:Nat}{x:_}:UpdO (some ⟨g,o,x⟩) w w':=⟨h.by_⟩
theorem overl_take {cs us vs:List Value}{k:Nat}(hv:cs.take k=vs) (hk:k≤cs.length):(overl cs k us).take (k+us.length)=vs++us:=by
 unfold overl
 have e:(cs.take k++us).length=k+us.length:=by rw [List.length_append,List.length_take,Nat.min_eq_left hk]
 rw [←e,List.take_left',hv]
 rfl
def Kept (w:World) (A A':Option Addr):Prop:=∀a',A'=some a'→(∃a,A=some a∧a'.block=a.block)∨w.heap.size≤a'.block
section
variable {P:Program}
theorem run_app {t ty e:TypeId}{z:Value}{s bytes:Nat}(ht:P.underlying t=some (.slice e)) (hinfo:(P.info? e).map (fun i=>(i.zero,i.size,i.bytes))=some (some z,s,bytes)) (hzs:z.cells.size=s) (hsz:0<s) (hby:bytes≤64)
  {w:World}{base:Nat}{A:Option Addr}{n cap:Nat}{xs:List Value}(hown:Own w base e s A n cap xs) (hb:base≤w.heap.size){a:Addr}{m c:Nat}{news:List Value}(hl:news.length=m*s) (hnews:∀j u,news[j]?=some u→w.cell? (a.add j)=some u)
  (h1:news.all (·.oneCell')=true) (hm:n+m≤1099511627776):
  ∃A' cap' w',(Builtin.append_ #[t,t] ty #[.slice A n cap,.slice (some a) m c]).run P w= .ok (.slice A' (n+m) cap') w'∧Own w' base e s A' (n+m) cap' (xs++news)∧UpdO A w w'∧Kept w A A':=by
 obtain⟨i,hi,hz,hz1,hz2⟩:=info_parts hinfo
 have h1':∀u∈news,u.oneCell'=true:=by simpa [List.all_eq_true] using h1
 have h63:n+m≤maxLen:=by rw [len_maxLen];omega
 have hbytes:(n+m)*bytes≤140737488355328:=by
  have:(n+m)*bytes≤1099511627776*64:=Nat.mul_le_mul hm hby
  omega
 rcases hown with⟨rfl,rfl,rfl,rfl⟩ | ⟨g,cs,rfl,hg,hk,hn,hcm,hcl,hv⟩
 ·obtain⟨v',w',hr,h2,h3,_⟩:=run_append_own (P:=P) w w.heap.size t ty e i z s bytes ht hi hz hz1 hz2 hzs hsz (.slice none 0 0) 0 [] (World.ownsRow_nil w _ e s) a m c news hl hnews h1' h63 hbytes (Nat.le_refl _)
  obtain⟨A',cap',rfl,ho⟩:=Own.of_row h2
  exact⟨A',cap',w',hr,ho.mono hb,UpdO.of h3,fun a' ha=>Or.inr (ho.block a' ha).1⟩
 ·by_cases hroom:n+m≤cap
  ·have hfit:n*s+news.length≤cs.length:=by rw [hl,hcl,←Nat.add_mul];exact Nat.mul_le_mul_right s hroom
   obtain⟨w',hst,hb2,hu,hs⟩:=store_cells (P:=P) news 0 (n*s) w cs hk (by omega) h1'
   rw [Nat.add_zero] at hb2
   have hfc:=run_firstCells_some (P:=P) w i.size m a m c news (by rw [hz1];exact hl) hnews
   rw [hz1] at hfc
   refine⟨some ⟨g,0,none⟩,cap,w',?_,Or.inr ⟨g,_,rfl,hg,hb2,hroom,hcm,?_,?_⟩,hu.updO,fun a' ha=>Or.inl ⟨_,rfl,by cases ha;rfl⟩⟩
   ·simp [Builtin.append_,run_underlying ht,sizeOf,typeInfo,hi,Builtin.lenOf,hroom,hfc,Addr.add_lit,hz1,hst]
   ·unfold overl
    simp only [List.length_append,List.length_take,List.length_drop]
    omega
   ·rw [Nat.add_mul,←hl]
    exact overl_take hv (by omega)
  ·have hx:=hv
   obtain⟨v',w',hr,h2,h3⟩:=run_append_arg_grows (P:=P) w t ty e i z s bytes ht hi hz hz1 hz2 hzs hsz ⟨g,0,none⟩ n cap xs
    (by rw [←hv,List.length_take];have:=Nat.mul_le_mul_right s hn;omega)
    (fun j u hj=>by
     have hjl:=(List.getElem?_eq_some_iff.1 hj).1
     rw [add_lit0,Nat.zero_add,hk.cell (by rw [←hv,List.length_take] at hjl;omega)]
     rw [←hv,List.getElem?_take] at hj
     split at hj
     ·rw [List.getD_eq_getElem?_getD,hj];rfl
     ·cases hj) a m c news hl hnews (by omega) h63 hbytes
   obtain⟨A',cap',rfl,ho⟩:=Own.of_row h2
   exact⟨A',cap',w',hr,ho.mono hb,UpdO.of h3,fun a' ha=>Or.inr (ho.block a' ha).1⟩
variable {Q:Exit→Act→World→Prop}{n:Nat}{l:Fr}{w:World}{ops:Array Oper}{rest:List Oper}{d:Nat}{ty:TypeId}{pos:String}{af:Array Edge}{gd:Option (Nat×Bool)}
theorem wl_app {x y:Operand}{t e:TypeId}{z:Value}{s bytes k m c cap base:Nat}{A:Option Addr}{a:Addr}{xs:List Value}(hw:guardB ops l gd=some true) (hx:evo l x=some (.slice A k cap)) (hy:evo l y=some (.slice (some a) m c))
  (ht:P.underlying t=some (.slice e)) (hinfo:(P.info? e).map (fun i=>(i.zero,i.size,i.bytes))=some (some z,s,bytes)) (hzs:z.cells.size=s) (hsz:0<s) (hby:bytes≤64)
  (hown:Own w base e s A k cap xs) (hb:base≤w.heap.size) (news:List Value) (hl:news.length=m*s) (hnews:∀j u,news[j]?=some u→w.cell? (a.add j)=some u)
  (h1:news.all (·.oneCell')=true) (hm:k+m≤1099511627776) (hn:d<n)
  (h:∀A' cap' w',Own w' base e s A' (k+m) cap' (xs++news)→UpdO A w w'→Kept w A A'→wl P ops Q n rest ((d,.slice A' (k+m) cap')::l) w'):
  wl P ops Q n (⟨some d,.call {callee:= .builtin .append,args:= #[x,y],argTypes:= #[t,t]},ty,pos,af,gd⟩::rest) l w:=by
 obtain⟨A',cap',w',hr,h2,h3,h4⟩:=run_app (P:=P) (ty:=ty) ht hinfo hzs hsz hby hown hb hl hnews h1 hm
 refine wl_val hw hn (fun a' ha=>?_) (h A' cap' w' h2 h3 h4)
 unfold execOp
 simp only [resolve,invoke,builtin,Sem.run_bind,Sem.run_pure,Result.andThen_ok,List.map_toArray,List.map_cons,List.map_nil,ha.ev hx,ha.ev hy]
 rw [hr]
 rfl
end
theorem Own.updOT {w w':World}{b b':Nat}{t T:TypeId}{s s':Nat}{A B:Option Addr}{n cap m c:Nat}{vs us:List Value}(h:Own w b t s A n cap vs) (ho:Own w b' T s' B m c us) (hT:t≠T) (x:UpdO B w w'):Own w' b t s A n cap vs:=by
 refine h.updO x (fun p q hp hq hg=>?_)
 rcases ho with⟨h1,_⟩ | ⟨k,cs,hB,_,hk,_⟩
 ·rw [h1] at hp;cases hp
 ·rcases h with⟨h2,_⟩ | ⟨k',cs',hA,_,hk',_⟩
  ·rw [h2] at hq;cases hq
  ·rw [hB] at hp;rw [hA] at hq
   cases hp;cases hq
   simp only at hg
   subst hg
   unfold Bk at hk hk'
   rw [hk] at hk'
   injection hk' with hk'
   injection hk' with e1 e2
   exact hT e2.symm
theorem slice_to8 (A:Option Addr) (c k:Nat):Value.slice (if c=0 then A else A.map (·.add (0*1))) (k-0) (c-0)= .slice A k c:=by
 have h0:A.map (·.add (0*1))=A:=by
  cases A with
  | none=>rfl
  | some a=>simp [Addr.add]
 rw [h0,ite_self];rfl
theorem un_wl:Tryd.prog.underlying 116=some (.slice 22):=by kernel_rfl
theorem sz_wl (w:World):(sizeOf 22).run Tryd.prog w= .ok 1 w:=by kernel_rfl
theorem ag_wl (w:World):(isAgg 22).run Tryd.prog w= .ok false w:=by kernel_rfl
theorem info_wl:(Tryd.prog.info? 22).map (fun i=>(i.zero,i.size,i.bytes))=some (some (.slice none 0 0),1,24):=by kernel_rfl
section
variable {P:Program}{Q:Exit→Act→World→Prop}{n:Nat}{l:Fr}{w:World}{ops:Array Oper}{rest:List Oper}{d:Nat}{op:Op}{ty:TypeId}{pos:String}{af:Array Edge}{gd:Option (Nat×Bool)}
def notEq:BinOp→Bool
 | .eql=>false
 | .neq=>false
 | _=>true
theorem run_op {o:BinOp}{t:TypeId}{x y:Operand}{u v r:Value}(ho:notEq o=true) (hb:(binOp o t u v).run P w= .ok r w):((do eqGuard o t x y u v;binOp o t u v):Sem Value).run P w= .ok r w:=by
 cases o <;> first | (cases ho;done) | (simp only [eqGuard,Sem.run_bind];exact hb) | (simp [eqGuard,Sem.run_bind,hb])
theorem wl_op {o:BinOp}{t t':TypeId}{x y:Operand}{u v r:Value}(hw:guardB ops l gd=some true) (hx:evo l x=some u) (hy:evo l y=some v) (ho:notEq o=true) (hb:∀w,(binOp o t u v).run P w= .ok r w) (hn:d<n)
  (h:wl P ops Q n rest ((d,r)::l) w):wl P ops Q n (⟨some d,.binOp o t x y t',ty,pos,af,gd⟩::rest) l w:=
 wl_val hw hn (fun a' ha=>by
  have e:((do eqGuard o t x y (a'.eval x) (a'.eval y);binOp o t (a'.eval x) (a'.eval y)):Sem Value).run P w= .ok r w:=by
   rw [ha.ev hx,ha.ev hy];exact run_op ho (hb w)
  show ((((do eqGuard o t x y (a'.eval x) (a'.eval y);binOp o t (a'.eval x) (a'.eval y)):Sem Value)>>=fun r=>pure (Next.value r)):Sem Next).run P w=_
  rw [Sem.run_bind,e];rfl) h
theorem wl_pureE {v v':Value}(hw:guardB ops l gd=some true) (hk:known l op=true) (hn:d<n) (hr:(execOp (rho l) ⟨some d,op,ty,pos,af,gd⟩).run P w= .ok (.value v) w) (e:v=v')
  (h:wl P ops Q n rest ((d,v')::l) w):wl P ops Q n (⟨some d,op,ty,pos,af,gd⟩::rest) l w:=wl_pure hw hk hn hr (by rw [e];exact h)
end
theorem cv_u64 {x:Nat}(h:x≤18446744073709551615):Value.int .u64 (IntKind.u64.wrap (x:Int))= .int .u64 (x:Int):=by rw [IntWalk.u64_in _ ⟨by omega,by omega⟩]
theorem cv_i64 {x:Nat}(h:x≤9223372036854775807):Value.int .i64 (IntKind.i64.wrap (x:Int))= .int .i64 (x:Int):=by rw [IntWalk.i64_in _ ⟨by omega,by omega⟩]
section
variable (P:Program) (n:Nat) (ol:List Oper) (vs:List Value) (ws:List World) (w:World) (dss:List (List Nat)) (l:Fr) (st:List Nat)
def DObV (i t:Nat):Prop:=
 match ol[i]? with
 | some o=>if st.contains i then RunD P n (dfr ol vs l (rch dss i)) o (wv ws w t) (match o.dst with | none=> .skip | some _=> .value ((vs[i]?).getD undef)) (wv ws w (t+1)) else RunD P n (dfr ol vs l (rch dss i)) o (wv ws w t) (.value ((vs[i]?).getD undef)) (wv ws w t)
 | none=>True
def DObsV:List (Nat×Nat)→Prop
 | []=>True
 | (i,t)::r=>DObV P n ol vs ws w dss l st i t∧DObsV r
end
def detOkV (n : Nat) (ol : List Oper) (st : List Nat) (l : Fr) (dss rl : List (List Nat)) (ps : List (Nat × Nat)) : Bool :=
  (ol.zipIdx.all fun (o, i) => (match o.guard with | none => true | some _ => false) && (o.after.toList.all fun e => !Region.binds .any e || decide (e.on < i)) &&
    ((rch rl i).all fun j => decide (j < i) && o.after.toList.any fun e => Region.binds .any e && (e.on == j || (rch rl e.on).contains j)) &&
    ((rch dss i).all fun j => (rch rl i).contains j) &&
    (match o.dst with
     | some d => decide (d < n) && l.all (fun p => p.1 != d) && ol.zipIdx.all (fun (o', j) => j == i || o'.dst != some d)
     | none => st.contains i) &&
    (List.range (st.length + 1)).all (fun t => decide (t < cnt st (rch rl i)) || (t != 0 && (rch rl (st.getD (t - 1) 0)).contains i) || (st.contains i && t != cnt st (rch rl i)) || ps.contains (i, t))) &&
  (List.range st.length).all (fun t => decide (st.getD t 0 < ol.length) && (List.range t).all fun u => (rch rl (st.getD t 0)).contains (st.getD u 0))
structure DetOkV (n:Nat) (ol:List Oper) (st:List Nat) (l:Fr) (dss rl:List (List Nat)) (ps:List (Nat×Nat)):Prop where
 guard:∀(i:Nat) (o:Oper),ol[i]?=some o→o.guard=none
 back:∀(i:Nat) (o:Oper),ol[i]?=some o→∀e∈o.after,Region.binds .any e=true→e.on<i
 reach:∀(i:Nat) (o:Oper),ol[i]?=some o→∀j∈rch rl i,j<i∧∃e∈o.after,Region.binds .any e=true∧(e.on=j∨j∈rch rl e.on)
 deps:∀(i:Nat) (o:Oper),ol[i]?=some o→∀j∈rch dss i,j∈rch rl i
 val:∀(i:Nat) (o:Oper),ol[i]?=some o→∀d,o.dst=some d→d<n∧(∀p∈l,p.1≠d)∧∀(j:Nat) (o':Oper),ol[j]?=some o'→j≠i→o'.dst≠some d
 sto:∀(i:Nat) (o:Oper),ol[i]?=some o→o.dst=none→i∈st
 pair:∀(i:Nat) (o:Oper),ol[i]?=some o→∀t,t≤st.length→cnt st (rch rl i)≤t→(t=0∨i ∉ rch rl (st.getD (t-1) 0))→(i∈st→t=cnt st (rch rl i))→(i,t)∈ps
 inN:∀t,t<st.length→st.getD t 0<ol.length
 ord:∀t,t<st.length→∀u,u<t→st.getD u 0∈rch rl (st.getD t 0)
theorem detOk_specV {n:Nat}{ol:List Oper}{st:List Nat}{l:Fr}{dss rl:List (List Nat)}{ps:List (Nat×Nat)}(h:detOkV n ol st l dss rl ps=true):DetOkV n ol st l dss rl ps:=by
 simp only [detOkV,Bool.and_eq_true] at h
 obtain⟨h1,h2⟩:=h
 have key:=fun (i:Nat) (o:Oper) (ho:ol[i]?=some o)=>all_zipIdx h1 i o ho
 simp only [Bool.and_eq_true] at key
 have key2:∀t,t<st.length→st.getD t 0<ol.length∧∀u,u<t→st.getD u 0∈rch rl (st.getD t 0):=by
  intro t ht
  rw [List.all_eq_true] at h2
  have:=h2 t (List.mem_range.2 ht)
  simp only [Bool.and_eq_true,decide_eq_true_eq,List.all_eq_true,List.mem_range,List.contains_iff_mem] at this
  exact this
 refine⟨fun i o ho=>?_,fun i o ho e he hb=>?_,fun i o ho j hj=>?_,fun i o ho j hj=>?_,fun i o ho d hd=>?_,fun i o ho hd=>?_,fun i o ho t ht hc hz hs=>?_,fun t ht=>(key2 t ht).1,fun t ht=>(key2 t ht).2⟩
 ·have:=(key i o ho).1.1.1.1.1
  cases hg:o.guard with
  | none=>rfl
  | some g=>rw [hg] at this;cases this
 ·have:=(key i o ho).1.1.1.1.2
  rw [List.all_eq_true] at this
  have:=this e (by simpa using he)
  simpa [hb] using this
 ·have:=(key i o ho).1.1.1.2
  rw [List.all_eq_true] at this
  have:=this j hj
  simp only [Bool.and_eq_true,decide_eq_true_eq,List.any_eq_true,Bool.or_eq_true,beq_iff_eq,List.contains_iff_mem] at this
  obtain⟨h3,e,he,hb,h4⟩:=this
  exact⟨h3,e,by simpa using he,hb,h4⟩
 ·have:=(key i o ho).1.1.2
  rw [List.all_eq_true] at this
  simpa using this j hj
 ·have:=(key i o ho).1.2
  rw [hd] at this
  simp only [Bool.and_eq_true,decide_eq_true_eq] at this
  obtain⟨⟨h4,h5⟩,h6⟩:=this
  refine⟨h4,fun p hp=>?_,fun j o' ho' hne e=>?_⟩
  ·rw [List.all_eq_true] at h5
   simpa using h5 p hp
  ·have:=all_zipIdx h6 j o' ho'
   simp only [Bool.or_eq_true,beq_iff_eq,bne_iff_ne] at this
   rcases this with h | h
   ·exact hne h
   ·exact h e
 ·have:=(key i o ho).1.2
  rw [hd] at this
  exact List.contains_iff_mem.1 this
 ·have:=(key i o ho).2
  rw [List.all_eq_true] at this
  have:=this t (List.mem_range.2 (by omega))
  simp only [Bool.or_eq_true,Bool.and_eq_true,decide_eq_true_eq,bne_iff_ne,ne_eq,List.contains_iff_mem] at this
  rcases this with ((h | h) | h) | h
  ·omega
  ·rcases hz with h0 | h0
   ·exact absurd h0 h.1
   ·exact absurd h.2 h0
  ·exact absurd (hs h.1) h.2
  ·exact h
section
variable {P:Program}{Q:Exit→Act→World→Prop}{n:Nat}{ol:List Oper}{vs:List Value}{ws:List World}{w:World}{dss rl:List (List Nat)}{l:Fr}{st:List Nat}{ps:List (Nat×Nat)}
theorem dobs_getV:∀{ps:List (Nat×Nat)},DObsV P n ol vs ws w dss l st ps→∀i t,(i,t)∈ps→DObV P n ol vs ws w dss l st i t
 | [],_,i,t,h=>by cases h
 | (j,u)::r,h,i,t,hm=>by
  rcases List.mem_cons.1 hm with e | e
  ·cases e;exact h.1
  ·exact dobs_getV h.2 i t e
theorem closed_reachV {listed:Array Bool}(hk:DetOkV n ol st l dss rl ps) (h:Closed ol listed):∀(i:Nat) (o:Oper),ol[i]?=some o→(∀e∈o.after,Region.binds .any e=true→listed.getD e.on false=true)→∀j∈rch rl i,listed.getD j false=true:=by
 intro i
 induction i using Nat.strongRecOn with
 | ind i ih=>
  intro o ho hall j hj
  obtain⟨_,e,he,hb,h1⟩:=hk.reach i o ho j hj
  have hlt:=hk.back i o ho e he hb
  rcases h1 with h1 | h1
  ·rw [←h1];exact hall e he hb
  ·have hN:e.on<ol.length:=Nat.lt_trans hlt (List.getElem?_eq_some_iff.1 ho).1
   exact ih e.on hlt _ (List.getElem?_eq_getElem hN) (h e.on _ (List.getElem?_eq_getElem hN) (hall e he hb)) j h1
theorem det_anyV (hk:DetOkV n ol st l dss rl ps) (ho:DObsV P n ol vs ws w dss l st ps) (hfin:eo Q .normal n (allFr ol vs l) (wv ws w st.length)):
  ∀(fuel:Nat) (listed:Array Bool) (a:Act) (t:Nat),unl ol.length listed≤fuel→listed.size=ol.length→Closed ol listed→t≤st.length→(∀u,u<st.length→listed.getD (st.getD u 0) false=decide (u<t))→Rp n l a→
   (∀i,i<ol.length→listed.getD i false=true→∀d,dstOf ol i=some d→a.tmps.getD d undef=(vs[i]?).getD undef)→wpAny P .any ol.toArray Q fuel listed a (wv ws w t):=by
 have fin:∀(listed:Array Bool) (a:Act) (t:Nat),(∀i,i<ol.length→listed.getD i false=true)→t≤st.length→(∀u,u<st.length→listed.getD (st.getD u 0) false=decide (u<t))→Rp n l a→
   (∀i,i<ol.length→listed.getD i false=true→∀d,dstOf ol i=some d→a.tmps.getD d undef=(vs[i]?).getD undef)→Q .normal a (wv ws w t):=by
  intro listed a t hall ht hst hr hv
  have e:t=st.length:=by
   rcases Nat.lt_or_ge t st.length with h | h
   ·have h1:=hst t h
    rw [hall _ (hk.inN t h)] at h1
    simp at h1
   ·omega
  subst e
  exact hfin a (hr.dfr _ fun j hj d hd=>hv j (List.mem_range.1 hj) (hall j (List.mem_range.1 hj)) d hd)
 intro fuel
 induction fuel with
 | zero=>
  intro listed a t hf hs hcl ht hst hr hv
  have hall:∀i,i<ol.length→listed.getD i false=true:=by
   intro i hi
   cases h:listed.getD i false with
   | true=>rfl
   | false=>have:=unl_set hi hs h;omega
  refine⟨?_,fin listed a t hall ht hst hr hv⟩
  refine List.eq_nil_iff_forall_not_mem.2 fun j hj=>?_
  obtain⟨h1,o,hoj,_⟩:=ready_iff.1 hj
  have hjl:j<ol.length:=(List.getElem?_eq_some_iff.1 hoj).1
  rw [getD_tf (by omega),hall j hjl] at h1
  cases h1
 | succ fuel ih=>
  intro listed a t hf hs hcl ht hst hr hv
  refine⟨fun h0=>?_,fun i hir=>?_⟩
  ·refine fin listed a t (fun i hi=>?_) ht hst hr hv
   have key:∀k,k≤ol.length→∀i,i<k→listed.getD i false=true:=by
    intro k
    induction k with
    | zero=>intro _ i hi;omega
    | succ k ihk=>
     intro hk' i hi
     have ih':=ihk (by omega)
     rcases Nat.lt_or_ge i k with h | h
     ·exact ih' i h
     ·have e:i=k:=by omega
      subst e
      cases hb:listed.getD i false with
      | true=>rfl
      | false=>
       have hrdy:i∈Region.ready .any ol.toArray listed:=ready_iff.2 ⟨by rw [getD_tf (by omega)];exact hb,_,List.getElem?_eq_getElem (by omega),fun e he hbb=>ih' _ (hk.back i _ (List.getElem?_eq_getElem (by omega)) e he hbb)⟩
       rw [h0] at hrdy;cases hrdy
   exact key ol.length (Nat.le_refl _) i hi
  ·obtain⟨hun,o,hoi,hall⟩:=ready_iff.1 hir
   have hil:i<ol.length:=(List.getElem?_eq_some_iff.1 hoi).1
   have hun':listed.getD i false=false:=by rw [←getD_tf (by omega)];exact hun
   have hrch:=closed_reachV hk hcl i o hoi hall
   have hcnt:cnt st (rch rl i)≤t:=cnt_le fun u hu1 hu2 hm=>by
    have h1:=hrch _ hm
    rw [hst u hu2] at h1
    simp at h1;omega
   have hzero:t=0∨i ∉ rch rl (st.getD (t-1) 0):=by
    rcases Nat.eq_zero_or_pos t with h | h
    ·exact Or.inl h
    ·refine Or.inr fun hm=>?_
     have h1:=hst (t-1) (by omega)
     rw [decide_eq_true (by omega)] at h1
     have hN:=hk.inN (t-1) (by omega)
     have h2:=closed_reachV hk hcl _ _ (List.getElem?_eq_getElem hN) (fun e he hb=>hcl _ _ (List.getElem?_eq_getElem hN) h1 e he hb) i hm
     rw [hun'] at h2;cases h2
   have hstore:i∈st→t<st.length∧st.getD t 0=i∧t=cnt st (rch rl i):=by
    intro hm
    obtain⟨u,hu,heq⟩:=List.getElem_of_mem hm
    have hg:st.getD u 0=i:=by rw [List.getD_eq_getElem?_getD,List.getElem?_eq_getElem hu];exact heq
    have h1:=hst u hu
    rw [hg,hun'] at h1
    have h2:¬u<t:=by intro h;rw [decide_eq_true h] at h1;cases h1
    have h3:u=t:=by
     rcases Nat.lt_or_ge t u with h | h
     ·have h4:=hk.ord u hu t h
      rw [hg] at h4
      have h5:=hrch _ h4
      rw [hst t (by omega)] at h5
      simp at h5
     ·omega
    subst h3
    refine⟨hu,hg,?_⟩
    have h4:=le_cnt (st:=st) (js:=rch rl i) (t:=u) (by omega) (fun v hv'=>by rw [←hg];exact hk.ord u hu v hv')
    omega
   have hob:=dobs_getV ho i t (hk.pair i o hoi t ht hcnt hzero (fun hm=>(hstore hm).2.2))
   unfold DObV at hob
   rw [hoi] at hob
   simp only at hob
   have hacc:Rp n (dfr ol vs l (rch dss i)) a:=hr.dfr _ fun j hj d hd=>by
    have h1:=hrch j (hk.deps i o hoi j hj)
    have h2:=(hk.reach i o hoi j (hk.deps i o hoi j hj)).1
    exact hv j (by omega) h1 d hd
   have hwant:Region.wanted o (yielded ol.toArray a.tmps)=true:=by simp [Region.wanted,hk.guard i o hoi]
   unfold wpOp
   rw [arr_get,hoi]
   simp only
   rw [if_pos hwant]
   refine Or.inl ?_
   unfold Oper.wp
   cases hd:o.dst with
   | some d=>
    obtain⟨hdn,hfar,hoth⟩:=hk.val i o hoi d hd
    have hslot:∀(v:Value) (hvi:v=(vs[i]?).getD undef),∀j,j<ol.length→(listed.setIfInBounds i true).getD j false=true→∀e,dstOf ol j=some e→(a.put (some d) v).tmps.getD e undef=(vs[j]?).getD undef:=fun v hvi j hj hlj e he=>by
     by_cases hij:i=j
     ·subst hij
      have e1:dstOf ol i=some d:=by unfold dstOf;rw [hoi];exact hd
      rw [e1] at he
      cases he
      rw [←hvi]
      exact slotv_put hr.size hdn _
     ·rw [Go.getD_set_ne false hij] at hlj
      have hne:e≠d:=by
       intro hed
       subst hed
       obtain⟨oj,hoj⟩:∃oj,ol[j]?=some oj:=⟨_,List.getElem?_eq_getElem hj⟩
       refine hoth j oj hoj (Ne.symm hij) ?_
       unfold dstOf at he
       rw [hoj] at he
       exact he
      have:=slotv_far (a:=a) (d:=d) (e:=some e) (fun h=>hne (Option.some.inj h)) v
      exact this.trans (hv j hj hlj e he)
    by_cases hmst:i∈st
    ·obtain⟨htl,hgt,_⟩:=hstore hmst
     rw [if_pos (by simpa using hmst),hd] at hob
     simp only at hob
     rw [hob a hacc]
     simp only [Oper.upon,hd]
     refine ih _ _ (t+1) (by have:=unl_set hil hs hun';omega) (by simpa using hs) (hcl.set hoi hall) (by omega) (fun u hu=>?_) (hr.put_far hfar _) (hslot _ rfl)
     by_cases hut:u=t
     ·subst hut
      rw [hgt]
      simp [hs,hil]
     ·have hne:i≠st.getD u 0:=by
       intro e
       rcases Nat.lt_or_ge u t with h | h
       ·have h1:=hst u hu
        rw [←e,hun',decide_eq_true h] at h1;cases h1
       ·have h4:=hk.ord u hu t (by omega)
        rw [hgt,←e] at h4
        have:=(hk.reach i o hoi i h4).1
        omega
      rw [Go.getD_set_ne false hne,hst u hu]
      congr 1
      simp only [eq_iff_iff]
      omega
    ·rw [if_neg (by simpa using hmst)] at hob
     rw [hob a hacc]
     simp only [Oper.upon,hd]
     refine ih _ _ t (by have:=unl_set hil hs hun';omega) (by simpa using hs) (hcl.set hoi hall) ht (fun u hu=>?_) (hr.put_far hfar _) (hslot _ rfl)
     rw [Go.getD_set_ne false (fun e=>hmst (by rw [e,List.getD_eq_getElem?_getD,List.getElem?_eq_getElem hu];exact List.getElem_mem hu))]
     exact hst u hu
   | none=>
    have hm:=hk.sto i o hoi hd
    obtain⟨htl,hgt,_⟩:=hstore hm
    rw [if_pos (by simpa using hm),hd] at hob
    simp only at hob
    rw [hob a hacc]
    simp only [Oper.upon,hd]
    refine ih _ _ (t+1) (by have:=unl_set hil hs hun';omega) (by simpa using hs) (hcl.set hoi hall) (by omega) (fun u hu=>?_) hr (fun j hj hlj e he=>?_)
    ·by_cases hut:u=t
     ·subst hut
      rw [hgt]
      simp [hs,hil]
     ·have hne:i≠st.getD u 0:=by
       intro e
       rcases Nat.lt_or_ge u t with h | h
       ·have h1:=hst u hu
        rw [←e,hun',decide_eq_true h] at h1;cases h1
       ·have h4:=hk.ord u hu t (by omega)
        rw [hgt,←e] at h4
        have:=(hk.reach i o hoi i h4).1
        omega
      rw [Go.getD_set_ne false hne,hst u hu]
      congr 1
      simp only [eq_iff_iff]
      omega
    ·by_cases hij:i=j
     ·subst hij
      have e1:dstOf ol i=none:=by unfold dstOf;rw [hoi];exact hd
      rw [e1] at he;cases he
     ·rw [Go.getD_set_ne false hij] at hlj
      exact hv j hj hlj e he
theorem cw_detV {id:Nat}(hmix:P.follows .mixedOrders=true) (vs:List Value) (ws:List World) (st:List Nat) (dss rl:List (List Nat)) (ps:List (Nat×Nat)){w0:World}(hk:detOkV n ol st l dss rl ps=true) (hw:wv ws w 0=w0.drew)
  (ho:DObsV P n ol vs ws w dss l st ps) (hfin:eo Q .normal n (allFr ol vs l) (wv ws w st.length)):cw P Q n (.region id ol.toArray true) l w0:=fun a ha=>by
 refine wp_region_any hmix ?_
 have hsz:(Array.replicate ol.toArray.size false).size=ol.length:=by simp
 have hfalse:∀i,(Array.replicate ol.toArray.size false).getD i false=false:=by
  intro i
  simp only [Array.getD_eq_getD_getElem?,Array.getElem?_replicate]
  split <;> rfl
 have:=det_anyV (detOk_specV hk) ho hfin ol.toArray.size _ a 0 (by
  refine Nat.le_trans List.countP_le_length ?_
  simp) hsz (fun i o _ h=>by rw [hfalse] at h;cases h) (Nat.zero_le _) (fun u _=>by rw [hfalse];simp) ha (fun i _ h=>by rw [hfalse] at h;cases h)
 rw [hw] at this
 exact this
theorem dobs_valV {i t:Nat}{ps:List (Nat×Nat)}{o:Oper}{v:Value}{wt:World}(acc:Fr) (ho:ol[i]?=some o) (hs:st.contains i=false) (hv:(vs[i]?).getD undef=v) (hw:wv ws w t=wt) (hacc:dfr ol vs l (rch dss i)=acc) (h:RunD P n acc o wt (.value v) wt)
  (h':DObsV P n ol vs ws w dss l st ps):DObsV P n ol vs ws w dss l st ((i,t)::ps):=⟨by unfold DObV;rw [ho];simp only;rw [hs,if_neg (by simp),hv,hw,hacc];exact h,h'⟩
theorem dobs_actV {i t:Nat}{ps:List (Nat×Nat)}{o:Oper}{d:Nat}{v:Value}{wt wt':World}(acc:Fr) (ho:ol[i]?=some o) (hs:st.contains i=true) (hd:o.dst=some d) (hv:(vs[i]?).getD undef=v) (hw:wv ws w t=wt) (hw':wv ws w (t+1)=wt') (hacc:dfr ol vs l (rch dss i)=acc) (h:RunD P n acc o wt (.value v) wt')
  (h':DObsV P n ol vs ws w dss l st ps):DObsV P n ol vs ws w dss l st ((i,t)::ps):=⟨by unfold DObV;rw [ho];simp only;rw [hs,if_pos rfl,hw,hw',hacc,hd];simp only;rw [hv];exact h,h'⟩
theorem dobs_stoV {i t:Nat}{ps:List (Nat×Nat)}{o:Oper}{wt wt':World}(acc:Fr) (ho:ol[i]?=some o) (hd:o.dst=none) (hs:st.contains i=true) (hw:wv ws w t=wt) (hw':wv ws w (t+1)=wt') (hacc:dfr ol vs l (rch dss i)=acc) (h:RunD P n acc o wt .skip wt')
  (h':DObsV P n ol vs ws w dss l st ps):DObsV P n ol vs ws w dss l st ((i,t)::ps):=⟨by unfold DObV;rw [ho];simp only;rw [hs,if_pos rfl,hw,hw',hacc,hd];exact h,h'⟩
theorem dobs_nilV:DObsV P n ol vs ws w dss l st []:=trivial
end
def sgn (d:Nat):Nat:=if d<10 then 48+d else 87+d
def B8 (x:Nat):Value:= .int .u8 (x:Int)
theorem sgn_zero:sgn 0=48:=rfl
def strB (bs:List Nat):ByteArray:=⟨(bs.map UInt8.ofNat).toArray⟩
def padTo (l:List Nat) (k:Nat):List Nat:=l++List.replicate (k-l.length) 0
theorem len_padTo (l:List Nat) (k:Nat):(padTo l k).length=max l.length k:=by simp only [padTo,List.length_append,List.length_replicate];omega
def txt (l:List Nat):List Nat:=l.reverse.map sgn
theorem txt_app (l r:List Nat):txt (l++r)=txt r++txt l:=by simp [txt]
theorem txt_len (l:List Nat):(txt l).length=l.length:=by simp [txt]
theorem txt_zeros (k:Nat):txt (List.replicate k 0)=List.replicate k 48:=by simp [txt,sgn_zero]
theorem txt_pad (l:List Nat) (k:Nat):txt (padTo l k)=List.replicate (k-l.length) 48++txt l:=by rw [padTo,txt_app,txt_zeros]
theorem sz_u8 (w:World):(sizeOf 5).run Tryd.prog w= .ok 1 w:=by kernel_rfl
theorem ag_u8 (w:World):(isAgg 5).run Tryd.prog w= .ok false w:=by kernel_rfl
theorem un_u8:Tryd.prog.underlying 77=some (.slice 5):=by kernel_rfl
theorem info8:(Tryd.prog.info? 5).map (fun i=>(i.zero,i.size,i.bytes))=some (some (.int .u8 0),1,1):=by kernel_rfl
theorem map_B8_set (xs:List Nat) (i x:Nat):(xs.map B8).set i (.int .u8 (x:Int))=(xs.set i x).map B8:=by rw [List.map_set];rfl
section
variable {P:Program}{Q:Exit→Act→World→Prop}{n:Nat}{l:Fr}{w:World}{ops:Array Oper}{rest:List Oper}{d:Nat}{op:Op}{ty:TypeId}{pos:String}{af:Array Edge}{gd:Option (Nat×Bool)}
theorem run_indexA {t e:TypeId}{s m:Nat}{a:Addr}{k:IntKind}{i:Int}{j:Nat}{p:Addr}(hT:P.underlying t=some (.array m e)) (hs:∀w,(sizeOf e).run P w= .ok s w) (hi:i=(j:Int)) (hj:j<m) (hp:a.add (j*s)=p):
  (Instr.indexAt t (.pointer (some a)) (.int k i)).run P w= .ok (.pointer (some p)) w:=by
 subst hi hp
 have hu:(underlying t).run P w= .ok (.array m e) w:=run_underlying hT w
 have hsa:(Instr.sureAddr (.pointer (some a))).run P w= .ok a w:=rfl
 unfold Instr.indexAt
 simp only [asIntOf,Sem.run_bind,Sem.run_pure,Result.andThen_ok,hu,hsa]
 rw [if_pos ⟨by omega,by omega⟩]
 simp only [Sem.run_bind,hs w,Result.andThen_ok,Sem.run_pure,Int.toNat_natCast]
theorem wl_idxA (hw:guardB ops l gd=some true){x y:Operand}{t e:TypeId}{s m:Nat}{a:Addr}{k:IntKind}{i:Int}(hx:evo l x=some (.pointer (some a))) (hy:evo l y=some (.int k i)) (hT:P.underlying t=some (.array m e)) (hs:∀w,(sizeOf e).run P w= .ok s w)
  (j:Nat) (hi:i=(j:Int)) (hj:j<m) (p:Addr) (hp:a.add (j*s)=p) (hn:d<n) (h:wl P ops Q n rest ((d,.pointer (some p))::l) w):wl P ops Q n (⟨some d,.indexAddr t x y,ty,pos,af,gd⟩::rest) l w:=
 wl_val hw hn (fun a' ha=>by
  have e:(Instr.indexAt t (a'.eval x) (a'.eval y)).run P w= .ok (.pointer (some p)) w:=by rw [ha.ev hx,ha.ev hy];exact run_indexA hT hs hi hj hp
  show ((Instr.indexAt t (a'.eval x) (a'.eval y)>>=fun r=>pure (Next.value r):Sem Next)).run P w=_
  rw [Sem.run_bind,e];rfl) h
theorem run_sliceA {t e:TypeId}{s m lo:Nat}{a:Addr}(hT:P.underlying t=some (.array m e)) (hs:∀w,(sizeOf e).run P w= .ok s w) (h3:lo≤m):
  (Instr.sliceAt t (.pointer (some a)) (some (.int .i64 (lo:Int))) none none).run P w= .ok (.slice (some (if m=lo then a else a.add (lo*s))) (m-lo) (m-lo)) w:=by
 have hu:(underlying t).run P w= .ok (.array m e) w:=run_underlying hT w
 have hsa:(Instr.sureAddr (.pointer (some a))).run P w= .ok a w:=rfl
 have hb:(Instr.sliceBounds false m m (some (.int .i64 (lo:Int))) none none).run P w= .ok (lo,m,m) w:=by
  unfold Instr.sliceBounds
  simp only [Sem.run_bind,Sem.run_pure,Result.andThen_ok,Option.isSome,run_bound h3]
 unfold Instr.sliceAt
 simp only [Sem.run_bind,hu,Result.andThen_ok,hsa,hb,hs w,Sem.run_pure]
theorem rd_sliceA {x y:Operand}{t e:TypeId}{s m lo:Nat}{a:Addr}{dst:Option Tmp}(hx:evo l x=some (.pointer (some a))) (hy:evo l y=some (.int .i64 (lo:Int))) (hT:P.underlying t=some (.array m e)) (hs:∀w,(sizeOf e).run P w= .ok s w) (h3:lo≤m):
  RunD P n l ⟨dst,.slice t x (some y) none none,ty,pos,af,gd⟩ w (.value (.slice (some (if m=lo then a else a.add (lo*s))) (m-lo) (m-lo))) w:=fun a' ha=>by
 have e:(Instr.sliceAt t (a'.eval x) (some (a'.eval y)) none none).run P w= .ok (.slice (some (if m=lo then a else a.add (lo*s))) (m-lo) (m-lo)) w:=by rw [ha.ev hx,ha.ev hy];exact run_sliceA hT hs h3
 show ((Instr.sliceAt t (a'.eval x) (some (a'.eval y)) none none>>=fun r=>pure (Next.value r):Sem Next)).run P w=_
 rw [Sem.run_bind,e];rfl
theorem rd_app {x y:Operand}{t:TypeId}{u v r:Value}{w':World}{dst:Option Tmp}(hx:evo l x=some u) (hy:evo l y=some v) (hr:(Builtin.append_ #[t,t] ty #[u,v]).run P w= .ok r w'):
  RunD P n l ⟨dst,.call {callee:= .builtin .append,args:= #[x,y],argTypes:= #[t,t]},ty,pos,af,gd⟩ w (.value r) w':=fun a' ha=>by
 unfold execOp
 simp only [resolve,invoke,builtin,Sem.run_bind,Sem.run_pure,Result.andThen_ok,List.map_toArray,List.map_cons,List.map_nil,ha.ev hx,ha.ev hy]
 rw [hr]
 rfl
end
def Signs (w:World):Prop:=∀d,d<36→w.cell? ⟨4,d,none⟩=some (.int .u8 ((sgn d:Nat):Int))
theorem Signs.ext {w w':World}(h:Signs w) (e:Ext w w'):Signs w':=fun d hd=>e.cell (h d hd)
def Wr (w:World) (g base k unit:Nat) (PA:Option Addr) (pn pc:Nat) (OA:Option Addr) (on oc:Nat):Prop:=
 Bk w g 118 [.int .i64 (base:Int),.int .i64 (k:Int),.int .u64 (unit:Int),.slice PA pn pc,.slice OA on oc]
structure UpdW (lb:Nat) (w w':World):Prop where
 os:w'.os=w.os
 tape:w'.tape=w.tape
 output:w'.output=w.output
 size:w.heap.size≤w'.heap.size
 low:∀k,k<lb→k<w.heap.size→w'.heap[k]?=w.heap[k]?
 typ:∀(k:Nat) (cs:Array Value) (t:TypeId) (fr:Nat×Nat),w.heap[k]?=some (.cells cs t fr)→t≠118→t≠5→w'.heap[k]?=some (.cells cs t fr)
section
variable {lb:Nat}{a b c w w':World}
theorem UpdW.refl (lb:Nat) (w:World):UpdW lb w w:=⟨rfl,rfl,rfl,Nat.le_refl _,fun _ _ _=>rfl,fun _ _ _ _ h _ _=>h⟩
theorem UpdW.trans (h:UpdW lb a b) (e:Ext b c):UpdW lb a c:=
 ⟨e.below.os.trans h.os,e.below.tape.trans h.tape,e.below.output.trans h.output,Nat.le_trans h.size e.size,fun k hk hs=>(e.below.block k (Nat.lt_of_lt_of_le hs h.size)).trans (h.low k hk hs),fun k cs t fr ho h1 h2=>e.heap (h.typ k cs t fr ho h1 h2)⟩
theorem UpdW.then (h:UpdW lb a b) (e:UpdW lb b c):UpdW lb a c:=
 ⟨e.os.trans h.os,e.tape.trans h.tape,e.output.trans h.output,Nat.le_trans h.size e.size,fun k hk hs=>(e.low k hk (Nat.lt_of_lt_of_le hs h.size)).trans (h.low k hk hs),fun k cs t fr ho h1 h2=>e.typ k cs t fr (h.typ k cs t fr ho h1 h2) h1 h2⟩
theorem UpdW.upd {g:Nat}(h:UpdW lb a b) (u:Upd g b c) (hg:lb≤g) (hn:∀(cs:Array Value) (t:TypeId) (fr:Nat×Nat),a.heap[g]?=some (.cells cs t fr)→t=118∨t=5):UpdW lb a c:=
 ⟨u.by_.os.trans h.os,u.by_.tape.trans h.tape,u.by_.output.trans h.output,Nat.le_trans h.size u.by_.size,fun k hk hs=>(u.by_.block k (Nat.lt_of_lt_of_le hs h.size) (fun e=>by injection e with e;omega)).trans (h.low k hk hs),fun k cs t fr ho h1 h2=>by
  have hlt:k<a.heap.size:=(Array.getElem?_eq_some_iff.1 ho).1
  refine (u.by_.block k (Nat.lt_of_lt_of_le hlt h.size) (fun e=>?_)).trans (h.typ k cs t fr ho h1 h2)
  injection e with e
  subst e
  rcases hn cs t fr ho with e | e
  ·exact h1 e
  ·exact h2 e⟩
theorem UpdW.updO {A:Option Addr}(h:UpdW lb a b) (u:UpdO A b c) (hA:∀p,A=some p→lb≤p.block) (hn:∀(p:Addr) (cs:Array Value) (t:TypeId) (fr:Nat×Nat),A=some p→a.heap[p.block]?=some (.cells cs t fr)→t=118∨t=5):UpdW lb a c:=
 ⟨u.by_.os.trans h.os,u.by_.tape.trans h.tape,u.by_.output.trans h.output,Nat.le_trans h.size u.by_.size,fun k hk hs=>(u.by_.block k (Nat.lt_of_lt_of_le hs h.size) (fun e=>by
   cases A with
   | none=>cases e
   | some p=>have e':k=p.block:=Option.some.inj e;have:=hA p rfl;omega)).trans (h.low k hk hs),fun k cs t fr ho h1 h2=>by
  have hlt:k<a.heap.size:=(Array.getElem?_eq_some_iff.1 ho).1
  refine (u.by_.block k (Nat.lt_of_lt_of_le hlt h.size) (fun e=>?_)).trans (h.typ k cs t fr ho h1 h2)
  cases A with
  | none=>cases e
  | some p=>
   have e':k=p.block:=Option.some.inj e
   subst e'
   rcases hn p cs t fr rfl ho with e | e
   ·exact h1 e
   ·exact h2 e⟩
theorem UpdW.ext (h:UpdW lb w w') (e:Ext a w) (hl:a.heap.size≤lb):Ext a w':=
 ⟨⟨h.os.trans e.below.os,h.tape.trans e.below.tape,h.output.trans e.below.output,Nat.le_trans e.size h.size,fun k hk=>(h.low k (Nat.lt_of_lt_of_le hk hl) (Nat.lt_of_lt_of_le hk e.size)).trans (e.below.block k hk)⟩⟩
theorem UpdW.bk {g:Nat}{t:TypeId}{vs:List Value}(h:UpdW lb w w') (hb:Bk w g t vs) (h1:t≠118) (h2:t≠5):Bk w' g t vs:=h.typ g _ _ _ hb h1 h2
theorem UpdW.own {base s n cap:Nat}{t:TypeId}{A:Option Addr}{vs:List Value}(h:UpdW lb w w') (ho:Own w base t s A n cap vs) (h1:t≠118) (h2:t≠5):Own w' base t s A n cap vs:=by
 rcases ho with ho | ⟨g,cs,ha,hb,hk,r⟩
 ·exact Or.inl ho
 ·exact Or.inr ⟨g,cs,ha,hb,h.bk hk h1 h2,r⟩
theorem UpdW.cell {p:Addr}{v:Value}(h:UpdW lb w w') (hp:p.block<lb) (hc:w.cell? p=some v):w'.cell? p=some v:=
 (World.cell?_of_block (h.low p.block hp (World.block_lt_of_cell? w p hc))).trans hc
theorem UpdW.signs (h:UpdW lb w w') (hs:Signs w) (hl:4<lb):Signs w':=fun d hd=>h.cell hl (hs d hd)
end
theorem bool_of {w:World}{c:Bool}(e:Ending) (w':World) (h:Gv w (Is (.bool c)) e w'):BoolP c w e w':=by
 obtain⟨v,rfl,h1,h2⟩:=h
 exact⟨by rw [h1],h2⟩
structure PieceK (b k:Nat):Prop where
 le:b^k≤18446744073709551615
 gt:18446744073709551615<b^(k+1)
 le64:k≤64
theorem pow_lt_k {b k:Nat}(hb:2≤b) (h:b^k≤18446744073709551615):k<64:=by
 refine Nat.lt_of_not_le (fun hk=>?_)
 have h1:2^64≤b^k:=Nat.le_trans (Nat.pow_le_pow_right (by decide) hk) (Nat.pow_le_pow_left hb k)
 omega
theorem piece_k {b k:Nat}(hb:2≤b) (h:b^(k+1)≤18446744073709551615):k+1≤64:=by have:=pow_lt_k hb h;omega
theorem bk_typ {w:World}{g:Nat}{t t':TypeId}{vs:List Value}{cs:Array Value}{fr:Nat×Nat}(h:Bk w g t vs) (h':w.heap[g]?=some (.cells cs t' fr)):t'=t:=by
 unfold Bk at h
 rw [h] at h'
 injection h' with h'
 injection h' with h1 h2
 exact h2.symm
theorem bk_new {w:World}{g:Nat}{cs:Array Value}{t:TypeId}{fr:Nat×Nat}(h:w.heap.size≤g):¬w.heap[g]?=some (.cells cs t fr):=fun e=>by
 have:=(Array.getElem?_eq_some_iff.1 e).1
 omega
theorem own_ne {w:World}{b t T s n c g:Nat}{A:Option Addr}{us vs:List Value}(h:Own w b t s A n c us) (hb:Bk w g T vs) (hT:t≠T):∀p,A=some p→p.block≠g:=fun p hp e=>by
 rcases h with⟨h,_⟩ | ⟨k,cs,hA,_,hk,_⟩
 ·rw [h] at hp;cases hp
 ·rw [hA] at hp
  cases hp
  simp only at e
  subst e
  unfold Bk at hk hb
  rw [hk] at hb
  injection hb with hb
  injection hb with h1 h2
  exact hT h2
theorem arrA_at (g i:Nat):(⟨g,0,none⟩:Addr).add (i*1)=⟨g,i,none⟩:=by rw [Nat.mul_one,add_lit0,Nat.zero_add]
theorem own_typ {w:World}{b T s n c:Nat}{A:Option Addr}{us:List Value}(h:Own w b T s A n c us):∀(p:Addr) (cs:Array Value) (t:TypeId) (fr:Nat×Nat),A=some p→w.heap[p.block]?=some (.cells cs t fr)→t=T:=fun p cs t fr hp h'=>by
 rcases h with⟨h,_⟩ | ⟨k,cs',hA,_,hk,_⟩
 ·rw [h] at hp;cases hp
 ·rw [hA] at hp;cases hp
  exact bk_typ hk h'
theorem Kept.of {w v:World}{A A':Option Addr}(h:Kept v A A') (hs:w.heap.size≤v.heap.size):Kept w A A':=fun p hp=>(h p hp).imp id (fun e=>Nat.le_trans hs e)
def WrP (w:World) (lb g base k unit:Nat) (PA:Option Addr) (pn pc:Nat) (OA:Option Addr) (bs:List Nat) (e:Ending) (w':World):Prop:=
 e= .returned (.tuple #[])∧∃OA' on' oc',Wr w' g base k unit PA pn pc OA' on' oc'∧Own w' lb 5 1 OA' on' oc' (bs.map B8)∧UpdW lb w w'∧Kept w OA OA'
theorem drop_set_at {l:List Nat}{i x:Nat}(h:i<l.length):(l.set i x).drop i=x::l.drop (i+1):=by
 rw [List.drop_eq_getElem_cons (by rw [List.length_set];exact h),List.getElem_set_self,List.drop_set_of_lt (by omega)]
theorem txt_snoc (l:List Nat) (d:Nat):txt (l++ [d])=sgn d::txt l:=by simp [txt]
theorem word_room {b v vv:Nat}{acc:List Nat}(hb:2≤b) (hv:v≤18446744073709551615) (h:db b v=acc++db b vv) (hn:0<(db b vv).length):acc.length<64:=by
 have h1:(db b v).length≤64:=len_db_le hb (Nat.lt_of_lt_of_le (show v<2^64 by omega) (Nat.pow_le_pow_left hb 64))
 rw [h,List.length_append] at h1
 omega
theorem B8_one (l:List Nat):(l.map B8).all (·.oneCell')=true:=by
 rw [List.all_eq_true]
 intro u hu
 obtain⟨x,_,rfl⟩:=List.mem_map.1 hu
 rfl
theorem arr_news {w:World}{g:Nat}{T:TypeId}{l:List Nat}{lo:Nat}(h:Bk w g T (l.map B8)) (hl:l.length=64) (hlo:lo≤64):∀j u,((l.drop lo).map B8)[j]?=some u→w.cell? ((if 64=lo then (⟨g,0,none⟩:Addr) else (⟨g,0,none⟩:Addr).add (lo*1)).add j)=some u:=by
 intro j u hj
 have hjl:=(List.getElem?_eq_some_iff.1 hj).1
 rw [List.length_map,List.length_drop,hl] at hjl
 rw [if_neg (by omega),arrA_at,add_lit0]
 rw [h.cell (by rw [List.length_map,hl];omega)]
 rw [List.map_drop,List.getElem?_drop] at hj
 rw [List.getD_eq_getElem?_getD,hj];rfl
set_option maxHeartbeats 4000000 in
theorem rx_piece {w:World}{base:Nat}(hbl:2≤base) (hbu:base≤36):
    Calls Tryd.prog 92 #[.int .i64 ((base:Nat):Int)] w (fun e w'=>∃k,PieceK base k∧Gv w (T2 (Is (.int .i64 ((k:Nat):Int))) (Is (.int .u64 ((base^k:Nat):Int)))) e w'):=by
 refine sx_enter Tryd.func92 rfl (n:=19) rfl (bq rfl) (args:= [.int .i64 ((base:Nat):Int)]) (cw_keep [(0,.int .i64 ((base:Nat):Int))] ⟨rfl,trivial⟩ (sr (mv 2 rfl (ne_ (sr (mv 2 rfl (ne_ (cw_seq (cw_block ?_)))))))))
 refine cw_loop (T:=World×Nat×Nat)
  (fun⟨wr,k,p⟩=> [(0,.int .i64 ((base:Nat):Int)),(2,.int .i64 0),(3,.int .u64 0),(4,.int .i64 ((k:Nat):Int)),(5,.int .u64 ((p:Nat):Int))])
  (fun⟨wr,k,p⟩=>wr)
  (fun⟨wr,k,p⟩=>(Ext w wr)∧(p=base^k)∧(p≤18446744073709551615)∧(k≤64))
  (fun⟨wr,k,p⟩=>18446744073709551616-p)
  (⟨w,0,1⟩:World×Nat×Nat) ⟨(Ext.refl w),(Nat.pow_zero base).symm,(by decide),(by decide)⟩ rfl ⟨rfl,rfl,rfl,rfl,rfl,trivial⟩ ?_
 rintro⟨wr,k,p⟩ ⟨hw1,hp,hpm,hk⟩
 refine cw_re [(0,.int .i64 ((base:Nat):Int)),(2,.int .i64 0),(3,.int .u64 0),(4,.int .i64 ((k:Nat):Int)),(5,.int .u64 ((p:Nat):Int))] wr rfl ⟨rfl,rfl,rfl,rfl,rfl,trivial⟩ (cw_seq (cw_seq ?_))
 have hp1:1≤p:=by rw [hp];exact Nat.pow_pos (by omega)
 by_cases htest:p≤18446744073709551615/base
 · 
  have hpb:p*base≤18446744073709551615:=(Nat.le_div_iff_mul_le (by omega)).1 htest
  refine cw_region (mv 2 rfl (wl_pureE rfl rfl (v:= .int .u64 (IntKind.u64.wrap ((base:Nat):Int))) (v':= .int .u64 ((base:Nat):Int)) (by decide) (by kernel_rfl) (cv_u64 (by first | omega | exact hle64)) (wl_ar rfl rfl rfl ((18446744073709551615/base:Nat):Int) (au_quo (a:=18446744073709551615) (b:=base) rfl rfl (by omega) (by omega)) (by decide) (wl_cmp rfl rfl rfl true (cb_le_t (a:=p) (b:=18446744073709551615/base) rfl rfl (by omega)) (by decide) (ne_ (cw_true rfl (cw_skip (eo_then (cw_block (sr (mv 2 rfl (wl_pureE rfl rfl (v:= .int .u64 (IntKind.u64.wrap ((base:Nat):Int))) (v':= .int .u64 ((base:Nat):Int)) (by decide) (by kernel_rfl) (cv_u64 (by first | omega | exact hle64)) (wl_ar rfl rfl rfl ((p*base:Nat):Int) (au_mul (a:=p) (b:=base) rfl rfl (by omega)) (by decide) ?_)))))))))))))
  refine mv 1 rfl (ne_ (cw_region (mv 1 rfl (wl_ar rfl rfl rfl ((k+1:Nat):Int) (ai_add (a:=k) (b:=1) rfl rfl (by omega)) (by decide) (mv 1 rfl (wl_nil (eo_block_normal (eo_round (⟨wr,k+1,p*base⟩:World×Nat×Nat) ⟨hw1,(by rw [hp,Nat.pow_succ]),hpb,(piece_k hbl (by rw [Nat.pow_succ,←hp];exact hpb))⟩ (by show 18446744073709551616-p*base<18446744073709551616-p;have:p*2≤p*base:=Nat.mul_le_mul_left p hbl;omega) rfl ⟨rfl,rfl,rfl,rfl,rfl,trivial⟩))))))))
 · 
  have hpb:18446744073709551615<p*base:=Nat.lt_of_not_le (fun h=>htest ((Nat.le_div_iff_mul_le (by omega)).2 h))
  refine cw_region (mv 2 rfl (wl_pureE rfl rfl (v:= .int .u64 (IntKind.u64.wrap ((base:Nat):Int))) (v':= .int .u64 ((base:Nat):Int)) (by decide) (by kernel_rfl) (cv_u64 (by first | omega | exact hle64)) (wl_ar rfl rfl rfl ((18446744073709551615/base:Nat):Int) (au_quo (a:=18446744073709551615) (b:=base) rfl rfl (by omega) (by omega)) (by decide) (wl_cmp rfl rfl rfl false (cb_le_f (a:=p) (b:=18446744073709551615/base) rfl rfl (by omega)) (by decide) (ne_ (cw_false rfl (cw_exit (eo_thenX (eo_loopX (eo_block_here (eo_then (sr (mv 1 rfl ?_)))))))))))))
  refine mv 3 rfl (ne_ (cw_ret (eo_ret [.int .i64 ((k:Nat):Int),.int .u64 ((p:Nat):Int)] rfl ⟨rfl,rfl,trivial⟩ ?_)))
  exact⟨k,⟨by rw [←hp];exact hpm,by rw [Nat.pow_succ,←hp];exact hpb,hk⟩,_,rfl,⟨_,_,rfl,rfl,(show Value.int .u64 ((p:Nat):Int)=_ by rw [hp])⟩,hw1⟩
set_option maxHeartbeats 4000000 in
theorem rx_word {w:World}{g base k unit:Nat}{PA:Option Addr}{pn pc:Nat}{OA:Option Addr}{on oc lb:Nat}{bs:List Nat}(hS:Signs w) (_hgS:4<lb) (hbl:2≤base) (hbu:base≤36) (hW:Wr w g base k unit PA pn pc OA on oc) (hO:Own w lb 5 1 OA on oc (bs.map B8)) (hgl:lb≤g) (hlb:lb≤w.heap.size){v width:Nat}(hv:v≤18446744073709551615) (hwd:width≤64) (hon:on≤549755813888):
    Calls Tryd.prog 124 #[.pointer (some ⟨g,0,none⟩),.int .u64 ((v:Nat):Int),.int .i64 ((width:Nat):Int)] w (WrP w lb g base k unit PA pn pc OA (bs++txt (padTo (db base v) width))):=by
 refine sx_enter Tryd.func124 rfl (n:=48) rfl (bq rfl) (args:= [.pointer (some ⟨g,0,none⟩),.int .u64 ((v:Nat):Int),.int .i64 ((width:Nat):Int)]) (cw_keep [(0,.pointer (some ⟨g,0,none⟩)),(1,.int .u64 ((v:Nat):Int)),(2,.int .i64 ((width:Nat):Int))] ⟨rfl,rfl,rfl,trivial⟩ (sr (wl_alloc rfl (z:= .agg ((List.replicate 64 0).map B8).toArray) (vs:=(List.replicate 64 0).map B8) (fun _=>by kernel_rfl) rfl (by decide) fun g1 v2 nb=>?_)))
 have hb3:=nb.bk
 have ge4:w.heap.size≤g1:=by rw [←nb.at_];exact (UpdW.refl lb w).size
 have hgd:g<g1:=by rw [←nb.at_];exact hW.lt
 have e5:=nb.ext
 have hw1:UpdW lb w v2:=(UpdW.refl lb w).trans e5
 have hx1:Ext w v2:=(Ext.refl w).trans e5
 refine ne_ (sr (mv 1 rfl (ne_ (cw_seq (cw_block ?_)))))
 refine cw_loop (T:=World×Nat×Nat×List Nat×List Nat)
  (fun⟨wr,vv,n,l,acc⟩=> [(0,.pointer (some ⟨g,0,none⟩)),(2,.int .i64 ((width:Nat):Int)),(6,.pointer (some ⟨g1,0,none⟩)),(1,.int .u64 ((vv:Nat):Int)),(7,.int .i64 ((n:Nat):Int))])
  (fun⟨wr,vv,n,l,acc⟩=>wr)
  (fun⟨wr,vv,n,l,acc⟩=>(UpdW lb w wr)∧(Ext w wr)∧(db base v=acc++db base vv)∧(n+acc.length=64)∧(l.length=64)∧(l.drop n=txt acc)∧(vv≤18446744073709551615)∧(Bk wr g1 148 (l.map B8)))
  (fun⟨wr,vv,n,l,acc⟩=>vv)
  (⟨v2,v,64,List.replicate 64 0,[]⟩:World×Nat×Nat×List Nat×List Nat) ⟨hw1,hx1,rfl,rfl,(List.length_replicate),(by rw [List.drop_eq_nil_of_le (by rw [List.length_replicate];decide)];rfl),hv,hb3⟩ rfl ⟨rfl,rfl,rfl,rfl,rfl,trivial⟩ ?_
 rintro⟨wr,vv,n,l,acc⟩ ⟨hw1,hx1,hacc,hn,hll,hld,hvv,b_d⟩
 refine cw_re [(0,.pointer (some ⟨g,0,none⟩)),(2,.int .i64 ((width:Nat):Int)),(6,.pointer (some ⟨g1,0,none⟩)),(1,.int .u64 ((vv:Nat):Int)),(7,.int .i64 ((n:Nat):Int))] wr rfl ⟨rfl,rfl,rfl,rfl,rfl,trivial⟩ (cw_seq (cw_seq ?_))
 by_cases hv0:vv>0
 · 
  have hdb:=db_pos hbl (show vv≠0 by omega)
  have hal:acc.length<64:=word_room hbl hv hacc (by rw [hdb];simp)
  refine cw_region (mv 1 rfl (wl_cmp rfl rfl rfl true (cb_gt_t (a:=vv) (b:=0) rfl rfl (by omega)) (by decide) (ne_ (cw_true rfl (cw_skip (eo_then (cw_block (sr (mv 1 rfl (wl_ar rfl rfl rfl ((n-1:Nat):Int) (ai_sub (a:=n) (b:=1) rfl rfl (by omega) (by omega)) (by decide) (mv 1 rfl (ne_ (cw_seq ?_)))))))))))))
  refine cw_region (mv 3 rfl (pf g 0 rfl (by kernel_rfl) (pf g 0 rfl (by kernel_rfl) (wl_load rfl rfl (load_cell (fun _=>by kernel_rfl) (hW.ext hx1) rfl) (by decide) (wl_pureE rfl rfl (v:= .int .u64 (IntKind.u64.wrap ((base:Nat):Int))) (v':= .int .u64 ((base:Nat):Int)) (by decide) (by kernel_rfl) (cv_u64 (by first | omega | exact hle64)) (wl_ar rfl rfl rfl ((vv%base:Nat):Int) (au_rem (a:=vv) (b:=base) rfl rfl (by omega)) (by decide) (wl_idxA rfl rfl rfl Tryd.underlying149 sz_u8 (vv%base) rfl (Nat.lt_of_lt_of_le (Nat.mod_lt _ (by omega)) hbu) ⟨4,vv%base,none⟩ (arrA_at _ _) (by decide) (wl_load rfl rfl (load_cell1 ag_u8 ((hS.ext hx1) _ (Nat.lt_of_lt_of_le (Nat.mod_lt _ (by omega)) hbu))) (by decide) (wl_idxA rfl rfl rfl Tryd.underlying148 sz_u8 (n-1) rfl (by omega) ⟨g1,n-1,none⟩ (arrA_at _ _) (by decide) ?_)))))))))
  have hb7:=b_d
  refine wl_stored1 rfl rfl rfl sz_u8 rfl hb7 (len_map (by rw [hll];omega)) rfl ((l.set (n-1) (sgn (vv%base))).map B8) (map_B8_set _ _ _) fun v6 hb8 u9 hs10=>?_
  have hx2:Ext w v6:=u9.ext hx1 ge4
  have hw2:UpdW lb w v6:=hw1.upd u9 (Nat.le_trans hlb ge4) (fun _ _ _ h=>absurd h (bk_new ge4))
  refine ne_ (cw_region (mv 2 rfl (pf g 0 rfl (by kernel_rfl) (pf g 0 rfl (by kernel_rfl) (wl_load rfl rfl (load_cell (fun _=>by kernel_rfl) ((hW.ext hx1).updN u9 (by omega)) rfl) (by decide) (wl_pureE rfl rfl (v:= .int .u64 (IntKind.u64.wrap ((base:Nat):Int))) (v':= .int .u64 ((base:Nat):Int)) (by decide) (by kernel_rfl) (cv_u64 (by first | omega | exact hle64)) (wl_ar rfl rfl rfl ((vv/base:Nat):Int) (au_quo (a:=vv) (b:=base) rfl rfl (by omega) (by omega)) (by decide) (mv 1 rfl (wl_nil (eo_block_normal (eo_round (⟨v6,vv/base,n-1,l.set (n-1) (sgn (vv%base)),acc++ [vv%base]⟩:World×Nat×Nat×List Nat×List Nat) ⟨hw2,hx2,(by rw [hacc,hdb,List.append_assoc];rfl),(by rw [List.length_append,List.length_singleton];omega),(by rw [List.length_set];exact hll),(by rw [drop_set_at (by omega),show n-1+1=n by omega,hld,txt_snoc]),(Nat.le_trans (Nat.div_le_self _ _) hvv),hb8⟩ (Nat.div_lt_self (by omega) (by omega)) rfl ⟨rfl,rfl,rfl,rfl,rfl,trivial⟩)))))))))))
 · 
  refine cw_region (mv 1 rfl (wl_cmp rfl rfl rfl false (cb_gt_f (a:=vv) (b:=0) rfl rfl (by omega)) (by decide) (ne_ (cw_false rfl (cw_exit (eo_thenX (eo_loopX (eo_block_here (eo_then (cw_seq (cw_block ?_)))))))))))
  have hacc0:db base v=acc:=by rw [hacc,show vv=0 by omega,db_zero,List.append_nil]
  refine cw_loop (T:=World×Nat×List Nat×Nat)
   (fun⟨wq,m,l2,z⟩=> [(0,.pointer (some ⟨g,0,none⟩)),(2,.int .i64 ((width:Nat):Int)),(6,.pointer (some ⟨g1,0,none⟩)),(7,.int .i64 ((m:Nat):Int))])
   (fun⟨wq,m,l2,z⟩=>wq)
   (fun⟨wq,m,l2,z⟩=>(UpdW lb w wq)∧(Ext w wq)∧(m+z+acc.length=64)∧(z≤width-acc.length)∧(l2.length=64)∧(l2.drop m=List.replicate z 48++txt acc)∧(Bk wq g1 148 (l2.map B8)))
   (fun⟨wq,m,l2,z⟩=>m)
   (⟨wr,n,l,0⟩:World×Nat×List Nat×Nat) ⟨hw1,hx1,(by omega),(Nat.zero_le _),hll,hld,b_d⟩ rfl ⟨rfl,rfl,rfl,rfl,trivial⟩ ?_
  rintro⟨wq,m,l2,z⟩ ⟨hw1,hx1,hz,hzl,hll2,hld2,b_d⟩
  refine cw_re [(0,.pointer (some ⟨g,0,none⟩)),(2,.int .i64 ((width:Nat):Int)),(6,.pointer (some ⟨g1,0,none⟩)),(7,.int .i64 ((m:Nat):Int))] wq rfl ⟨rfl,rfl,rfl,rfl,trivial⟩ (cw_seq (cw_seq ?_))
  by_cases htw:64-m<width
  · 
   refine cw_region (mv 1 rfl (wl_ar rfl rfl rfl ((64-m:Nat):Int) (ai_sub (a:=64) (b:=m) rfl rfl (by omega) (by omega)) (by decide) (mv 1 rfl (wl_cmp rfl rfl rfl true (cb_lt_t (a:=64-m) (b:=width) rfl rfl (by omega)) (by decide) (ne_ (cw_true rfl (cw_skip (eo_then (cw_block (sr (mv 1 rfl (wl_ar rfl rfl rfl ((m-1:Nat):Int) (ai_sub (a:=m) (b:=1) rfl rfl (by omega) (by omega)) (by decide) (mv 1 rfl ?_)))))))))))))
   refine ne_ (cw_region (mv 1 rfl (wl_idxA rfl rfl rfl Tryd.underlying148 sz_u8 (m-1) rfl (by omega) ⟨g1,m-1,none⟩ (arrA_at _ _) (by decide) ?_)))
   have hb12:=b_d
   refine wl_stored1 rfl rfl rfl sz_u8 rfl hb12 (len_map (by rw [hll2];omega)) rfl ((l2.set (m-1) 48).map B8) (map_B8_set _ _ _) fun v11 hb13 u14 hs15=>?_
   have hx2:Ext w v11:=u14.ext hx1 ge4
   have hw2:UpdW lb w v11:=hw1.upd u14 (Nat.le_trans hlb ge4) (fun _ _ _ h=>absurd h (bk_new ge4))
   refine wl_nil (eo_block_normal (eo_round (⟨v11,m-1,l2.set (m-1) 48,z+1⟩:World×Nat×List Nat×Nat) ⟨hw2,hx2,(by omega),(by omega),(by rw [List.length_set];exact hll2),(by rw [drop_set_at (by omega),show m-1+1=m by omega,hld2,List.replicate_succ];rfl),hb13⟩ (show m-1<m by omega) rfl ⟨rfl,rfl,rfl,rfl,trivial⟩))
  · 
   refine cw_region (mv 1 rfl (wl_ar rfl rfl rfl ((64-m:Nat):Int) (ai_sub (a:=64) (b:=m) rfl rfl (by omega) (by omega)) (by decide) (mv 1 rfl (wl_cmp rfl rfl rfl false (cb_lt_f (a:=64-m) (b:=width) rfl rfl (by omega)) (by decide) (ne_ (cw_false rfl (cw_exit (eo_thenX (eo_loopX (eo_block_here (eo_then (cw_keep [(0,.pointer (some ⟨g,0,none⟩)),(2,.int .i64 ((width:Nat):Int)),(6,.pointer (some ⟨g1,0,none⟩)),(7,.int .i64 ((m:Nat):Int)),(30,.int .i64 ((m:Nat):Int)),(31,.int .i64 ((64-m:Nat):Int)),(32,.int .i64 ((width:Nat):Int)),(33,.bool false)] ⟨rfl,rfl,rfl,rfl,rfl,rfl,rfl,rfl,trivial⟩ ?_))))))))))))
   obtain⟨v16,hv,e17⟩:∃v,v=wq.drew∧Ext wq v:=⟨_,rfl,(Ext.refl _).drew⟩
   have hw2:UpdW lb w v16:=hw1.trans e17
   have hx2:Ext w v16:=hx1.trans e17
   have ow18:=(hO.ext (hx1.trans e17))
   obtain⟨A20,c21,v22,hr23,ho24,uo25,kp26⟩:=run_app (P:=Tryd.prog) (t:=77) (ty:=77) (m:=64-m) (c:=64-m) un_u8 info8 rfl (by decide) (by decide) ow18 (Nat.le_trans hlb hw2.size) (news:=((l2).drop m).map B8) (by rw [List.length_map,List.length_drop,hll2,Nat.mul_one]) (arr_news (b_d.ext e17) (hll2) (by omega)) (B8_one _) (by omega)
   have hw3:UpdW lb w v22:=hw2.updO uo25 (fun p hp=>(ow18.block p hp).1) (fun p cs t fr hp h=>Or.inr ((own_typ hO) p cs t fr hp h))
   have hb28:=((hW.ext (hx1.trans e17)).updO uo25 (own_ne ow18 (hW.ext (hx1.trans e17)) (by decide)))
   obtain⟨v27,hr32,hb29,u30,hs31⟩:=run_store1v (P:=Tryd.prog) (v:= .slice A20 (on+(64-m)) c21) (off:=4) (T:=77) (fun _=>by kernel_rfl) rfl hb28 (bq rfl) rfl [.int .i64 (base:Int),.int .i64 (k:Int),.int .u64 (unit:Int),.slice PA pn pc,.slice A20 (on+(64-m)) c21] rfl
   have hw4:UpdW lb w v27:=hw3.upd u30 hgl (fun _ _ _ h=>Or.inl (bk_typ hW h))
   refine cw_detV mix (w:=v16) [.pointer (some ⟨g,0,none⟩),.pointer (some ⟨g,0,none⟩),.pointer (some ⟨g,0,none⟩),.pointer (some ⟨g,4,none⟩),.slice OA on oc,.int .i64 ((m:Nat):Int),.slice (some (if 64=m then ⟨g1,0,none⟩ else (⟨g1,0,none⟩:Addr).add (m*1))) (64-m) (64-m),.slice A20 (on+(64-m)) c21,.pointer (some ⟨g,0,none⟩),.pointer (some ⟨g,4,none⟩),undef] [v16,v22,v27] [7,10] [[],[],[1],[2],[3],[],[5],[4,6],[0],[8],[7,9]] [[],[],[1],[1,2],[1,2,3],[],[5],[1,2,3,4,5,6],[0,1,2,3,4,5,6,7],[0,1,2,3,4,5,6,7,8],[0,1,2,3,4,5,6,7,8,9]] [(0,0),(0,1),(1,0),(2,0),(3,0),(4,0),(5,0),(6,0),(7,0),(8,1),(9,1),(10,1)] rfl hv ?_ ?_
   · 
    refine dobs_valV _ rfl rfl rfl rfl rfl (rd_move rfl) (dobs_valV _ rfl rfl rfl rfl rfl (rd_move rfl) (dobs_valV _ rfl rfl rfl rfl rfl (rd_move rfl) (dobs_valV _ rfl rfl rfl rfl rfl (rd_pure rfl (by kernel_rfl)) (dobs_valV _ rfl rfl rfl rfl rfl (rd_pure rfl (by kernel_rfl)) (dobs_valV _ rfl rfl rfl rfl rfl (rd_load rfl (load_cell (fun _=>by kernel_rfl) (hW.ext (hx1.trans e17)) rfl)) (dobs_valV _ rfl rfl rfl rfl rfl (rd_move rfl) (dobs_valV _ rfl rfl rfl rfl rfl (rd_sliceA rfl rfl Tryd.underlying148 sz_u8 (by omega)) (dobs_actV _ rfl rfl rfl rfl rfl rfl rfl (rd_app rfl rfl hr23) (dobs_valV _ rfl rfl rfl rfl rfl (rd_pure rfl (by kernel_rfl)) (dobs_valV _ rfl rfl rfl rfl rfl (rd_pure rfl (by kernel_rfl)) (dobs_stoV _ rfl rfl rfl rfl rfl rfl (rd_store rfl rfl hr32) ?_)))))))))))
    exact dobs_nilV
   clear hv
   refine eo_keep [(0,.pointer (some ⟨g,0,none⟩)),(2,.int .i64 ((width:Nat):Int)),(6,.pointer (some ⟨g1,0,none⟩)),(7,.int .i64 ((m:Nat):Int)),(30,.int .i64 ((m:Nat):Int)),(31,.int .i64 ((64-m:Nat):Int)),(32,.int .i64 ((width:Nat):Int)),(33,.bool false),(38,.pointer (some ⟨g,0,none⟩)),(39,.pointer (some ⟨g,0,none⟩)),(40,.pointer (some ⟨g,0,none⟩)),(41,.pointer (some ⟨g,4,none⟩)),(42,.slice OA on oc),(43,.int .i64 ((m:Nat):Int)),(44,.slice (some (if 64=m then ⟨g1,0,none⟩ else (⟨g1,0,none⟩:Addr).add (m*1))) (64-m) (64-m)),(45,.slice A20 (on+(64-m)) c21),(46,.pointer (some ⟨g,0,none⟩)),(47,.pointer (some ⟨g,4,none⟩))] ⟨rfl,rfl,rfl,rfl,rfl,rfl,rfl,rfl,rfl,rfl,rfl,rfl,rfl,rfl,rfl,rfl,rfl,rfl,trivial⟩ (eo_end [] rfl trivial ?_)
   have hfin:bs.map B8++((l2).drop m).map B8=(bs++txt (padTo (db base v) width)).map B8:=by rw [hld2,←hacc0,txt_pad,show z=width-(db base v).length by rw [hacc0];omega];simp only [List.map_append]
   exact⟨rfl,A20,_,_,hb29,hfin▸((ho24.updT hb28 (by decide) u30)),hw4,kp26.of hw2.size⟩
theorem ln_emod {x y:Int}(h:y≠0):ln (x%y)≤ln y:=by
 refine ln_mono ?_
 have h1:=Int.emod_nonneg x h
 have h2:=Int.emod_lt x h
 omega
structure ZC where
 s:Bool
 A:Option Addr
 n:Nat
 c:Nat
structure ExtI (x y r0 r1 m0 m1:Int):Prop where
 nn0:0≤r0
 nn1:0≤r1
 gcd:Int.gcd r0 r1=Int.gcd x y
 d0:y∣r0-m0*x.natAbs
 d1:y∣r1-m1*x.natAbs
 bal:m1.natAbs*r0.natAbs+m0.natAbs*r1.natAbs=y.natAbs
 sgn:m0*m1≤0
 b0:r0.natAbs≤max x.natAbs y.natAbs
 b1:r1.natAbs≤y.natAbs
 mb0:m0.natAbs≤y.natAbs
 mb1:m1.natAbs≤y.natAbs
theorem natAbs_opp {a b c:Int}(h:a*b≤0) (hc:0≤c):(a-c*b).natAbs=a.natAbs+c.natAbs*b.natAbs:=by
 rw [←Int.natAbs_mul]
 have h2:a*(c*b)≤0:=by
  have:a*(c*b)=c*(a*b):=by grind
  rw [this]
  exact Int.mul_nonpos_of_nonneg_of_nonpos hc h
 rcases Int.lt_trichotomy a 0 with ha | ha | ha
 ·have:0≤c*b:=by
   refine Int.le_of_not_gt fun hl=>?_
   have:=Int.mul_pos_of_neg_of_neg ha hl
   omega
  omega
 ·subst ha;simp
 ·have:c*b≤0:=by
   refine Int.le_of_not_gt fun hl=>?_
   have:=Int.mul_pos ha hl
   omega
  omega
theorem ExtI.step {x y r0 r1 m0 m1:Int}(h:ExtI x y r0 r1 m0 m1) (hr:r1≠0):ExtI x y r1 (r0.tmod r1) m1 (m0-r0.tdiv r1*m1):=by
 have e:=Int.tdiv_mul_add_tmod r0 r1
 have nn:=Int.tmod_nonneg r1 h.nn0
 have hq:0≤r0.tdiv r1:=Int.tdiv_nonneg h.nn0 h.nn1
 have hlt:r0.tmod r1<r1:=Int.tmod_lt_of_pos _ (by have:=h.nn1;omega)
 have hab:=natAbs_opp h.sgn hq
 have hbal:(m0-r0.tdiv r1*m1).natAbs*r1.natAbs+m1.natAbs*(r0.tmod r1).natAbs=y.natAbs:=by
  rw [hab,←h.bal]
  have e2:r0.natAbs=(r0.tdiv r1).natAbs*r1.natAbs+(r0.tmod r1).natAbs:=by
   rw [←Int.natAbs_mul,←Int.natAbs_add_of_nonneg (Int.mul_nonneg hq h.nn1) nn,e]
  rw [e2]
  grind
 refine⟨h.nn1,nn,?_,h.d1,?_,hbal,?_,Nat.le_trans h.b1 (Nat.le_max_right _ _),?_,h.mb1,?_⟩
 ·rw [←h.gcd]
  have:Int.gcd r0 r1=Int.gcd (r0.tmod r1+r1*r0.tdiv r1) r1:=by
   congr 1
   rw [Int.mul_comm];omega
  rw [this,Int.gcd_add_mul_left_left,Int.gcd_comm]
 ·have e3:r0.tmod r1-(m0-r0.tdiv r1*m1)*x.natAbs=(r0-m0*x.natAbs)-r0.tdiv r1*(r1-m1*x.natAbs):=by
   have:r0.tmod r1=r0-r0.tdiv r1*r1:=by omega
   rw [this];grind
  rw [e3]
  exact Int.dvd_sub h.d0 (Int.dvd_mul_of_dvd_right h.d1)
 ·have e4:m1*(m0-r0.tdiv r1*m1)=m0*m1-r0.tdiv r1*(m1*m1):=by grind
  rw [e4]
  have h1:0≤m1*m1:=by
   rcases Int.le_total 0 m1 with h | h
   ·exact Int.mul_nonneg h h
   ·exact Int.mul_nonneg_of_nonpos_of_nonpos h h
  have:=Int.mul_nonneg hq h1
  have:=h.sgn
  omega
 ·have:=h.b1
  have h2:(r0.tmod r1).natAbs≤r1.natAbs:=by omega
  omega
 ·have h1:1≤r1.natAbs:=by omega
  have h2:(m0-r0.tdiv r1*m1).natAbs≤(m0-r0.tdiv r1*m1).natAbs*r1.natAbs:=Nat.le_mul_of_pos_right _ h1
  omega
structure Bez (x y u v:Int):Prop where
 zero:y=0→u=x.sign∧v=0
 eq:x*u+y*v=Int.gcd x y
 lo:y≠0→0≤u
 hi:y≠0→u*Int.gcd x y<y.natAbs
theorem ExtI.done {x y r0 m0 m1 z:Int}(h:ExtI x y r0 0 m0 m1) (hy:y≠0) (hz:z=if x<0 then-m0 else m0):
  r0=(Int.gcd x y:Int)∧r0≠0∧y.tdiv r0≠0∧y.natAbs%r0.natAbs=0∧(r0-x*(z%y.tdiv r0)).natAbs%y.natAbs=0∧Bez x y (z%y.tdiv r0) ((r0-x*(z%y.tdiv r0)).tdiv y):=by
 have hg:=h.gcd
 rw [Int.gcd_zero_right] at hg
 have e0:r0=(Int.gcd x y:Int):=by have:=h.nn0;omega
 have hpos:0<Int.gcd x y:=Int.gcd_pos_of_ne_zero_right x hy
 have hr0:r0≠0:=by omega
 obtain⟨p,hp⟩:=Int.gcd_dvd_right x y
 obtain⟨q,hq⟩:=Int.gcd_dvd_left x y
 rw [←e0] at hp hq
 have hpd:y.tdiv r0=p:=by rw [hp];exact Int.mul_tdiv_cancel_left _ hr0
 have hp0:p≠0:=fun e=>hy (by rw [hp,e,Int.mul_zero])
 have hz1:y∣r0-x*z:=by
  have hd:=h.d0
  have hx:x*z=m0*x.natAbs:=by
   rw [hz]
   by_cases hn:x<0
   ·rw [if_pos hn]
    have:(x.natAbs:Int)= -x:=by omega
    rw [this];grind
   ·rw [if_neg hn]
    have:(x.natAbs:Int)=x:=by omega
    rw [this];grind
  rw [hx];exact hd
 have hm:=Int.mul_ediv_add_emod z p
 have hdvd:y∣r0-x*(z%p):=by
  have e1:r0-x*(z%p)=(r0-x*z)+y*(q*(z/p)):=by
   have e2:z%p=z-p*(z/p):=by omega
   have e3:x*(p*(z/p))=y*(q*(z/p)):=by
    calc x*(p*(z/p))=(r0*q)*(p*(z/p)):=by rw [←hq]
     _=(r0*p)*(q*(z/p)):=by grind
     _=y*(q*(z/p)):=by rw [←hp]
   rw [e2,Int.mul_sub,e3]
   omega
  rw [e1]
  exact Int.dvd_add hz1 (Int.dvd_mul_right _ _)
 refine⟨e0,hr0,by rw [hpd];exact hp0,?_,?_,?_⟩
 ·refine Nat.mod_eq_zero_of_dvd (Int.natAbs_dvd_natAbs.2 ⟨p,hp⟩)
 ·rw [hpd]
  exact Nat.mod_eq_zero_of_dvd (Int.natAbs_dvd_natAbs.2 hdvd)
 ·rw [hpd]
  refine⟨fun e=>absurd e hy,?_,fun _=>Int.emod_nonneg _ hp0,fun _=>?_⟩
  ·have:=Int.mul_tdiv_cancel' hdvd
   rw [←e0]
   omega
  ·rw [←e0]
   have h1:=Int.emod_lt z hp0
   have h2:(z%p)*r0<p.natAbs*r0:=Int.mul_lt_mul_of_pos_right h1 (by omega)
   have h3:(y.natAbs:Int)=p.natAbs*r0:=by
    rw [hp,Int.natAbs_mul]
    have:(r0.natAbs:Int)=r0:=by omega
    rw [Int.natCast_mul,this,Int.mul_comm]
   omega
theorem elemI:Tryd.prog.underlying 29=some (.slice 24):=by kernel_rfl
theorem infoI:(Tryd.prog.info? 24).map (fun i=>(i.zero,i.size,i.bytes))=some (some (.agg #[.bool false,.slice none 0 0]),2,32):=by kernel_rfl
def ZC.zero:ZC:=⟨false,none,0,0⟩
def zcell (e:ZC):List Value:= [.bool e.s,.slice e.A e.n e.c]
def zcells:List ZC→List Value
 | []=> []
 | e::r=> .bool e.s:: .slice e.A e.n e.c::zcells r
theorem zcells_app:∀(es fs:List ZC),zcells (es++fs)=zcells es++zcells fs
 | [],fs=>rfl
 | e::r,fs=>by simp only [zcells,List.cons_append,zcells_app r fs]
theorem zcells_get0:∀(es:List ZC) (i:Nat),i<es.length→(zcells es)[i*2]?=some (.bool (es.getD i ZC.zero).s)
 | [],i,h=>by simp at h
 | e::r,0,h=>rfl
 | e::r,i+1,h=>by
  have:=zcells_get0 r i (by simpa using h)
  simpa [zcells,Nat.add_mul] using this
theorem zcells_get1:∀(es:List ZC) (i:Nat),i<es.length→(zcells es)[i*2+1]?=some (.slice (es.getD i ZC.zero).A (es.getD i ZC.zero).n (es.getD i ZC.zero).c)
 | [],i,h=>by simp at h
 | e::r,0,h=>rfl
 | e::r,i+1,h=>by
  have:=zcells_get1 r i (by simpa using h)
  simpa [zcells,Nat.add_mul] using this
theorem Zl.at {w:World}{A:Option Addr}{n cap:Nat}{zs:List Int}{ms:List Nat}(h:Zl w A n cap zs ms){i:Nat}(hi:i<n):
  ∃p s B c,A.map (·.add (i*2))=some p∧(∀w',Ext w w'→∀(P:Program) (T:TypeId),AggT P T 2→(loadVar T p).run P w'= .ok (.agg #[.bool s,.slice B (ms.getD i 0) c]) w')∧Zi w s B (ms.getD i 0) c (zs.getD i 0):=by
 obtain⟨a,s,B,c,rfl,h1,h2,h3⟩:=h.get i hi
 refine⟨a.add (i*2),s,B,c,rfl,fun w' e P T hT=>load_at hT [.bool s,.slice B (ms.getD i 0) c] rfl (fun j hj=>?_),h3⟩
 rw [add_of_add]
 match j,hj with
 | 0,_=>exact e.cell h1
 | 1,_=>exact e.cell h2
theorem Zr.updOT {w w':World}{b b':Nat}{s:Bool}{A B:Option Addr}{n cap m c s':Nat}{z:Int}{T:TypeId}{us:List Value}(h:Zr w b s A n cap z) (ho:Own w b' T s' B m c us) (x:UpdO B w w') (hT:50≠T:=by decide):Zr w' b s A n cap z:=
 ⟨h.sgn,h.len,h.own.updOT ho hT x⟩
def Zo (w:World) (b:Nat) (s:Bool) (A:Option Addr) (n cap:Nat) (z:Int):Prop:=∃xs,Own w b 50 1 A n cap (xs.map W64)∧Wf xs∧sg s (nv xs)=z
section
variable {w w':World}{b:Nat}{s:Bool}{A:Option Addr}{n cap:Nat}{z:Int}
theorem Zo.zi (h:Zo w b s A n cap z):Zi w s A n cap z:=by obtain⟨xs,h1,h2,h3⟩:=h;exact⟨xs,h1.rd h2,h3⟩
theorem Zo.ext (h:Zo w b s A n cap z) (x:Ext w w'):Zo w' b s A n cap z:=by obtain⟨xs,h1,h2⟩:=h;exact⟨xs,h1.ext x,h2⟩
theorem Zo.mono {b':Nat}(h:Zo w b s A n cap z) (x:b'≤b):Zo w b' s A n cap z:=by obtain⟨xs,h1,h2⟩:=h;exact⟨xs,h1.mono x,h2⟩
theorem Zo.updT {g:Nat}{T:TypeId}{us:List Value}(h:Zo w b s A n cap z) (hb:Bk w g T us) (x:Upd g w w') (hT:50≠T:=by decide):Zo w' b s A n cap z:=by obtain⟨xs,h1,h2⟩:=h;exact⟨xs,h1.updT hb hT x,h2⟩
theorem Zo.updOT {b':Nat}{B:Option Addr}{m c s':Nat}{T:TypeId}{us:List Value}(h:Zo w b s A n cap z) (ho:Own w b' T s' B m c us) (x:UpdO B w w') (hT:50≠T:=by decide):Zo w' b s A n cap z:=by obtain⟨xs,h1,h2⟩:=h;exact⟨xs,h1.updOT ho hT x,h2⟩
end
def El (m:Option World) (b:Nat) (w:World) (e:ZC) (z:Int):Prop:=Zr w b e.s e.A e.n e.c z∨∃w0,m=some w0∧(Zi w0 e.s e.A e.n e.c z∨Zo w b e.s e.A e.n e.c z)
theorem El.ext {m:Option World}{b:Nat}{w w':World}{e:ZC}{z:Int}(h:El m b w e z) (x:Ext w w'):El m b w' e z:=h.imp (·.ext x) (fun⟨w0,h1,h2⟩=>⟨w0,h1,h2.imp id (·.ext x)⟩)
theorem El.updT {m:Option World}{b g:Nat}{w w':World}{e:ZC}{z:Int}{T:TypeId}{us:List Value}(h:El m b w e z) (hb:Bk w g T us) (x:Upd g w w') (hT:50≠T:=by decide):El m b w' e z:=h.imp (·.updT hb x hT) (fun⟨w0,h1,h2⟩=>⟨w0,h1,h2.imp id (·.updT hb x hT)⟩)
theorem El.mono {m:Option World}{b b':Nat}{w:World}{e:ZC}{z:Int}(h:El m b w e z) (x:b'≤b):El m b' w e z:=h.imp (·.mono x) (fun⟨w0,h1,h2⟩=>⟨w0,h1,h2.imp id (·.mono x)⟩)
theorem El.updOT {m:Option World}{b b':Nat}{w w':World}{e:ZC}{z:Int}{B:Option Addr}{n c s':Nat}{T:TypeId}{us:List Value}(h:El m b w e z) (ho:Own w b' T s' B n c us) (x:UpdO B w w') (hT:50≠T:=by decide):El m b w' e z:=h.imp (·.updOT ho x hT) (fun⟨w0,h1,h2⟩=>⟨w0,h1,h2.imp id (·.updOT ho x hT)⟩)
theorem El.zi {w0:World}{b:Nat}{w:World}{e:ZC}{z:Int}(h:El (some w0) b w e z) (x:Ext w0 w):Zi w e.s e.A e.n e.c z:=by
 rcases h with h | ⟨w1,h1,h2⟩
 ·exact h.zi
 ·cases h1;exact h2.elim (·.ext x) (·.zi)
theorem El.zr {b:Nat}{w:World}{e:ZC}{z:Int}(h:El none b w e z):Zr w b e.s e.A e.n e.c z:=by
 rcases h with h | ⟨w1,h1,h2⟩
 ·exact h
 ·cases h1
def Lz (m:Option World) (K b:Nat) (w:World) (lb:Nat) (A:Option Addr) (n cap:Nat) (zs:List Int):Prop:=
 ∃es,Own w lb 24 2 A n cap (zcells es)∧es.length=n∧zs.length=n∧∀i,i<n→(es.getD i ZC.zero).n≤K∧El m b w (es.getD i ZC.zero) (zs.getD i 0)
section
variable {m:Option World}{K b lb:Nat}{w w':World}{A:Option Addr}{n cap:Nat}{zs:List Int}
theorem Lz.own (h:Lz m K b w lb A n cap zs):∃vs,Own w lb 24 2 A n cap vs:=by obtain⟨es,h1,_⟩:=h;exact⟨_,h1⟩
theorem Lz.block (h:Lz m K b w lb A n cap zs):∀a,A=some a→lb≤a.block∧a.block<w.heap.size:=by obtain⟨vs,h⟩:=h.own;exact h.block
theorem Lz.len (h:Lz m K b w lb A n cap zs):zs.length=n:=by obtain⟨es,h1,h2,h3,h4⟩:=h;exact h3
theorem Lz.le (h:Lz m K b w lb A n cap zs):n≤cap:=by obtain⟨vs,h⟩:=h.own;exact h.rv.le
theorem Lz.ext (h:Lz m K b w lb A n cap zs) (x:Ext w w'):Lz m K b w' lb A n cap zs:=by
 obtain⟨es,h1,h2,h3,h4⟩:=h
 exact⟨es,h1.ext x,h2,h3,fun i hi=>⟨(h4 i hi).1,(h4 i hi).2.ext x⟩⟩
theorem Lz.updT {g:Nat}{T:TypeId}{us:List Value}(h:Lz m K b w lb A n cap zs) (hb:Bk w g T us) (x:Upd g w w') (hne:∀p,A=some p→p.block≠g) (hT:50≠T:=by decide):Lz m K b w' lb A n cap zs:=by
 obtain⟨es,h1,h2,h3,h4⟩:=h
 exact⟨es,h1.upd x hne,h2,h3,fun i hi=>⟨(h4 i hi).1,(h4 i hi).2.updT hb x hT⟩⟩
theorem Lz.updO {B:Option Addr}{lb' c k:Nat}{us:List Value}(h:Lz m K b w lb A n cap zs) (ho:Own w lb' 24 2 B k c us) (x:UpdO B w w') (hne:∀p q,B=some p→A=some q→p.block≠q.block):Lz m K b w' lb A n cap zs:=by
 obtain⟨es,h1,h2,h3,h4⟩:=h
 exact⟨es,h1.updO x hne,h2,h3,fun i hi=>⟨(h4 i hi).1,(h4 i hi).2.updOT ho x⟩⟩
theorem Lz.nil (m:Option World) (K b:Nat) (w:World) (lb:Nat):Lz m K b w lb none 0 0 []:=⟨[],Own.nil _ _ _ _,rfl,rfl,fun i hi=>by omega⟩
theorem Lz.mono {K' b' lb':Nat}(h:Lz m K b w lb A n cap zs) (hK:K≤K') (hb:b'≤b) (hl:lb'≤lb):Lz m K' b' w lb' A n cap zs:=by
 obtain⟨es,h1,h2,h3,h4⟩:=h
 exact⟨es,h1.mono hl,h2,h3,fun i hi=>⟨Nat.le_trans (h4 i hi).1 hK,(h4 i hi).2.mono hb⟩⟩
theorem Lz.at (h:Lz m K b w lb A n cap zs){i:Nat}(hi:i<n):
  ∃p s B k c,A.map (·.add (i*2))=some p∧(∀w',Ext w w'→∀(P:Program) (T:TypeId),AggT P T 2→(loadVar T p).run P w'= .ok (.agg #[.bool s,.slice B k c]) w')∧k≤K∧El m b w ⟨s,B,k,c⟩ (zs.getD i 0):=by
 obtain⟨es,h1,h2,h3,h4⟩:=h
 obtain⟨a,ha,hc⟩:=h1.rv.get (i*2) (by omega)
 obtain⟨a',ha',hc'⟩:=h1.rv.get (i*2+1) (by omega)
 rw [ha] at ha';cases ha'
 have g0:=zcells_get0 es i (by omega)
 have g1:=zcells_get1 es i (by omega)
 rw [List.getD_eq_getElem?_getD,g0] at hc
 rw [List.getD_eq_getElem?_getD,g1] at hc'
 refine⟨a.add (i*2),_,_,_,_,by rw [ha];rfl,fun w' e P T hT=>load_at hT [.bool (es.getD i ZC.zero).s,.slice (es.getD i ZC.zero).A (es.getD i ZC.zero).n (es.getD i ZC.zero).c] rfl (fun j hj=>?_),(h4 i hi).1,(h4 i hi).2⟩
 rw [add_of_add]
 match j,hj with
 | 0,_=>exact e.cell hc
 | 1,_=>exact e.cell hc'
theorem Lz.zl {w0:World}(h:Lz (some w0) K b w lb A n cap zs) (x:Ext w0 w):∃ms,Zl w A n cap zs ms∧∀i,ms.getD i 0≤K:=by
 obtain⟨es,h1,h2,h3,h4⟩:=h
 have hms:∀i,i<n→(es.map (·.n)).getD i 0=(es.getD i ZC.zero).n:=fun i hi=>by
  simp [List.getD_eq_getElem?_getD,List.getElem?_map,List.getElem?_eq_getElem (show i<es.length by omega)]
 refine⟨es.map (·.n),⟨h3,by rw [List.length_map,h2],h1.rv.le,h1.rv.max,fun i hi=>?_⟩,fun i=>?_⟩
 ·obtain⟨a,ha,hc⟩:=h1.rv.get (i*2) (by omega)
  obtain⟨a',ha',hc'⟩:=h1.rv.get (i*2+1) (by omega)
  rw [ha] at ha';cases ha'
  have g0:=zcells_get0 es i (by omega)
  have g1:=zcells_get1 es i (by omega)
  rw [List.getD_eq_getElem?_getD,g0] at hc
  rw [List.getD_eq_getElem?_getD,g1] at hc'
  rw [hms i hi]
  exact⟨a,_,_,_,ha,hc,hc',(h4 i hi).2.zi x⟩
 ·by_cases hi:i<n
  ·rw [hms i hi];exact (h4 i hi).1
  ·rw [List.getD_eq_getElem?_getD,List.getElem?_eq_none (by rw [List.length_map];omega)];exact Nat.zero_le _
theorem getD_app_l {α:Type}{l r:List α}{i:Nat}{d:α}(h:i<l.length):(l++r).getD i d=l.getD i d:=by
 rw [List.getD_eq_getElem?_getD,List.getD_eq_getElem?_getD,List.getElem?_append_left h]
theorem getD_app_m {α:Type}{l r:List α}{a d:α}:(l++a::r).getD l.length d=a:=by
 rw [List.getD_eq_getElem?_getD,List.getElem?_append_right (Nat.le_refl _),Nat.sub_self];rfl
end
theorem kept_ne {w:World}{A A':Option Addr}{g:Nat}(h:Kept w A A') (hg:g<w.heap.size) (hne:∀p,A=some p→p.block≠g):∀p,A'=some p→p.block≠g:=fun p hp=>by
 rcases h p hp with⟨a,ha,e⟩ | e
 ·rw [e];exact hne a ha
 ·omega
section
variable {Q:Exit→Act→World→Prop}{N:Nat}{l:Fr}{w:World}{ops:Array Oper}{rest:List Oper}{d:Nat}{ty:TypeId}{pos:String}{af:Array Edge}{gd:Option (Nat×Bool)}
theorem wl_appI {m:Option World}{K b lb:Nat}{A:Option Addr}{n cap:Nat}{zs:List Int}{x y:Operand}{g c:Nat}{e:ZC}{z:Int}(hw:guardB ops l gd=some true) (hx:evo l x=some (.slice A n cap)) (hy:evo l y=some (.slice (some ⟨g,0,none⟩) 1 c))
  (h:Lz m K b w lb A n cap zs) (hlb:lb≤w.heap.size) (hb:Bk w g 24 (zcell e)) (he:El m b w e z) (hK:e.n≤K) (hm:n≤1099511627775) (hd:d<N)
  (k:∀A' cap' w',Lz m K b w' lb A' (n+1) cap' (zs++ [z])→UpdO A w w'→Kept w A A'→wl Tryd.prog ops Q N rest ((d,.slice A' (n+1) cap')::l) w'):
  wl Tryd.prog ops Q N (⟨some d,.call {callee:= .builtin .append,args:= #[x,y],argTypes:= #[29,29]},ty,pos,af,gd⟩::rest) l w:=by
 obtain⟨es,h1,h2,h3,h4⟩:=h
 refine wl_app hw hx hy elemI infoI rfl (by decide) (by decide) h1 hlb (zcell e) rfl (fun j u hj=>?_) rfl (by omega) hd fun A' cap' w' ho hu hk=>k A' cap' w' ?_ hu hk
 ·have hjl:j<(zcell e).length:=(List.getElem?_eq_some_iff.1 hj).1
  rw [add_lit0,Nat.zero_add,hb.cell hjl,List.getD_eq_getElem?_getD,hj];rfl
 ·refine⟨es++ [e],by rw [zcells_app];exact ho,by simp [h2],by simp [h3],fun i hi=>?_⟩
  by_cases hin:i<n
  ·rw [getD_app_l (by omega),getD_app_l (by omega)]
   exact⟨(h4 i hin).1,(h4 i hin).2.updOT h1 hu⟩
  ·have e1:i=n:=by omega
   subst e1
   have e2:(es++ [e]).getD i ZC.zero=e:=by rw [←h2];exact getD_app_m
   have e3:(zs++ [z]).getD i 0=z:=by rw [←h3];exact getD_app_m
   rw [e2,e3]
   exact⟨hK,he.updOT h1 hu⟩
end
theorem wl_mm {P:Program}{Q:Exit→Act→World→Prop}{n:Nat}{l:Fr}{w:World}{ops:Array Oper}{rest:List Oper}{d:Nat}{ty:TypeId}{pos:String}{af:Array Edge}{gd:Option (Nat×Bool)}{x y:Operand}{ts:Array TypeId}{k:IntKind}{a b:Int}(hw:guardB ops l gd=some true)
  (hx:evo l x=some (.int k a)) (hy:evo l y=some (.int k b)) (c:Int) (hc:max a b=c) (hn:d<n) (h:wl P ops Q n rest ((d,.int k c)::l) w):wl P ops Q n (⟨some d,.call {callee:= .builtin .max,args:= #[x,y],argTypes:=ts},ty,pos,af,gd⟩::rest) l w:=by
 refine wl_val hw hn (fun a' ha=>?_) h
 have e:(if b>a then b else a)=c:=by rw [←hc];split <;> omega
 unfold execOp
 simp only [resolve,invoke,builtin,Sem.run_bind,Sem.run_pure,Result.andThen_ok,List.map_toArray,List.map_cons,List.map_nil,ha.ev hx,ha.ev hy,Builtin.max_,List.foldlM,Builtin.max2,e]
theorem wl_mi {P:Program}{Q:Exit→Act→World→Prop}{n:Nat}{l:Fr}{w:World}{ops:Array Oper}{rest:List Oper}{d:Nat}{ty:TypeId}{pos:String}{af:Array Edge}{gd:Option (Nat×Bool)}{x y:Operand}{ts:Array TypeId}{k:IntKind}{a b:Int}(hw:guardB ops l gd=some true)
  (hx:evo l x=some (.int k a)) (hy:evo l y=some (.int k b)) (c:Int) (hc:min a b=c) (hn:d<n) (h:wl P ops Q n rest ((d,.int k c)::l) w):wl P ops Q n (⟨some d,.call {callee:= .builtin .min,args:= #[x,y],argTypes:=ts},ty,pos,af,gd⟩::rest) l w:=by
 refine wl_val hw hn (fun a' ha=>?_) h
 have e:(if b<a then b else a)=c:=by rw [←hc];split <;> omega
 unfold execOp
 simp only [resolve,invoke,builtin,Sem.run_bind,Sem.run_pure,Result.andThen_ok,List.map_toArray,List.map_cons,List.map_nil,ha.ev hx,ha.ev hy,Builtin.min_,List.foldlM,Builtin.min2,e]
theorem rx_BitLen {w:World}{A:Option Addr}{n c m:Nat}(hx:Wi w A n c m) (hl:n≤1099511627775):Calls Tryd.prog 43 #[.slice A n c] w (Gv w (Is (.int .i64 ((blen m:Nat):Int)))):=by
 obtain⟨xs,h1,rfl⟩:=hx
 refine (nat_BitLen h1 hl).mono fun e w' h=>?_
 obtain⟨k,h2,rfl,h3⟩:=h
 exact⟨_,rfl,(show Value.int .i64 (k:Int)=_ by rw [h2.out]),h3⟩
theorem rx_Word {w:World}{A:Option Addr}{n c m v:Nat}(hx:Wi w A n c m) (hl:n≤1099511627775) (hv0:v≠0) (hvb:v≤18446744073709551615):
  Calls Tryd.prog 103 #[.slice A n c,.int .u64 (v:Int)] w (Gv w (T3 (WR w.heap.size (m/v)) (Is (.int .u64 ((m%v:Nat):Int))) (Is (.int .i64 0)))):=by
 obtain⟨xs,h1,rfl⟩:=hx
 refine (divnat_Word h1 hl hv0 hvb).mono fun e w' h=>?_
 obtain⟨A,n,cap,r',rfl,h2,h3,h4,h5,h6,h7⟩:=h
 exact⟨_,rfl,⟨_,_,_,rfl,⟨A,n,cap,rfl,h4.out,h6⟩,(show Value.int .u64 (r':Int)=_ by rw [h2.out]),rfl⟩,h7⟩
def catd (b k at_:Nat):List Nat→List Nat
 | []=> []
 | [x]=>padTo (db b x) at_
 | x::y::r=>padTo (db b x) k++catd b k at_ (y::r)
theorem catd_cons {b k a x:Nat}{r:List Nat}:catd b k a (x::r)=padTo (db b x) (if r= [] then a else k)++catd b k a r:=by
 cases r with
 | nil=>simp [catd]
 | cons y r=>simp [catd]
theorem padTo_of {l:List Nat}{k:Nat}(h:k≤l.length):padTo l k=l:=by rw [padTo,Nat.sub_eq_zero_of_le h];simp
theorem padTo_app {l r:List Nat}{k:Nat}:l++padTo r k=padTo (l++r) (l.length+k):=by
 unfold padTo
 rw [List.append_assoc,List.length_append]
 congr 2
 congr 1
 omega
theorem db_split {b k m:Nat}(hb:2≤b) (hq:m/b^k≠0):db b m=padTo (db b (m%b^k)) k++db b (m/b^k):=by
 have hu:0<b^k:=Nat.pow_pos (by omega)
 have hl:(db b (m%b^k)).length≤k:=len_db_le hb (Nat.mod_lt _ hu)
 have hlen:(padTo (db b (m%b^k)) k).length=k:=by rw [len_padTo];omega
 have hn:nb b (padTo (db b (m%b^k)) k)=m%b^k:=by rw [padTo,nb_append_zeros,nb_db hb]
 have hv:nb b (padTo (db b (m%b^k)) k++db b (m/b^k))=m:=by
  rw [nb_append,hn,hlen,nb_db hb,Nat.mod_add_div]
 have hw:Wfb b (padTo (db b (m%b^k)) k++db b (m/b^k)):=Wfb_append (Wfb_append (Wfb_db hb _) (fun x hx=>by rw [List.eq_of_mem_replicate hx];omega)) (Wfb_db hb _)
 have ht:=db_top hb (m/b^k)
 have hne:(db b (m/b^k)).length≠0:=fun e=>hq ((len_db_zero hb).1 e)
 have key:=db_of_top' hb hw (Or.inr (by
  rw [List.length_append,hlen,List.getD_eq_getElem?_getD,List.getElem?_append_right (by rw [hlen];omega),hlen,show k+(db b (m/b^k)).length-1-k=(db b (m/b^k)).length-1 by omega,←List.getD_eq_getElem?_getD]
  rcases ht with h | h
  ·exact absurd h hne
  ·exact h))
 rw [hv] at key
 exact key
theorem catd_db {b k a:Nat}(hb:2≤b) (_hk:1≤k) (hu:2≤b^k):∀(n m:Nat),m≤n→m≠0→catd b k a (db (b^k) m)=padTo (db b m) (((db (b^k) m).length-1)*k+a):=by
 intro n
 induction n with
 | zero=>intro m hm h0;omega
 | succ n ih=>
  intro m hm h0
  have e:=db_pos hu h0
  rw [e,catd_cons]
  by_cases hq:m/b^k=0
  ·have e2:db (b^k) (m/b^k)= []:=by rw [hq];rfl
   have e3:m%b^k=m:=Nat.mod_eq_of_lt ((Nat.div_eq_zero_iff_lt (by omega)).1 hq)
   rw [e2,if_pos rfl,e3]
   simp [catd]
  ·have hne:db (b^k) (m/b^k)≠ []:=fun e=>hq ((db_eq_nil hu).1 e)
   rw [if_neg hne,ih (m/b^k) (by have:=Nat.div_lt_self (show 0<m by omega) (show 1<b^k by omega);omega) hq]
   rw [padTo_app,←db_split hb hq]
   congr 1
   have hl:(db b (m%b^k)).length≤k:=len_db_le hb (Nat.mod_lt _ (by omega))
   have hp:0<(db (b^k) (m/b^k)).length:=List.length_pos_iff.2 hne
   rw [len_padTo,List.length_cons,Nat.max_eq_right hl]
   obtain⟨p,hp'⟩:∃p,(db (b^k) (m/b^k)).length=p+1:=⟨_,(Nat.succ_pred_eq_of_pos hp).symm⟩
   rw [hp']
   simp only [Nat.add_sub_cancel,Nat.add_mul]
   omega
theorem len_db_ge {b k m:Nat}(hb:2≤b) (hu:2≤b^k) (h0:m≠0):((db (b^k) m).length-1)*k<(db b m).length:=by
 have h1:=pow_len_db_le hu h0
 rw [←Nat.pow_mul,Nat.mul_comm] at h1
 refine Nat.lt_of_not_le fun h=>?_
 have h2:=lt_pow_len_db hb m
 have h3:=Nat.pow_le_pow_right (show 0<b by omega) h
 omega
theorem plain_all {b k m width pl:Nat}(hb:2≤b) (hk:1≤k) (hu:2≤b^k) (hpl:(db (b^k) m).length=pl):
  List.replicate (width-pl*k) 48++txt (catd b k (min (width+k-pl*k) k) (db (b^k) m))=txt (padTo (db b m) width):=by
 by_cases h0:m=0
 ·subst h0
  have e:pl=0:=by rw [←hpl];rfl
  subst e
  rw [db_zero,db_zero]
  simp [catd,txt,padTo,sgn_zero]
 ·have hp:1≤pl:=by
   have:(db (b^k) m).length≠0:=fun e=>h0 ((len_db_zero hu).1 e)
   omega
  have hge:=len_db_ge hb hu h0
  rw [catd_db hb hk hu m m (Nat.le_refl _) h0,hpl]
  rw [hpl] at hge
  obtain⟨q,rfl⟩:∃q,pl=q+1:=⟨pl-1,by omega⟩
  have hlt:(db b m).length≤(q+1)*k:=by
   refine len_db_le hb ?_
   have:=lt_pow_len_db hu m
   rw [hpl,←Nat.pow_mul,Nat.mul_comm] at this
   exact this
  rw [Nat.add_mul,Nat.one_mul] at hlt
  rw [Nat.add_sub_cancel] at hge
  rw [Nat.add_sub_cancel,Nat.add_mul,Nat.one_mul]
  rw [txt_pad,txt_pad,←List.append_assoc,List.replicate_append_replicate]
  congr 2
  generalize q*k=qk at*
  omega
theorem one_news {w:World}{g:Nat}{T:TypeId}(v:Value) (h:Bk w g T [v]):∀j u,[v][j]?=some u→w.cell? ((⟨g,0,none⟩:Addr).add j)=some u:=by
 intro j u hj
 have hjl:=(List.getElem?_eq_some_iff.1 hj).1
 rw [add_lit0,Nat.zero_add,h.cell hjl,List.getD_eq_getElem?_getD,hj];rfl
theorem len_db_small {b m n:Nat}(hb:2≤b) (h:(wd m).length≤n):(db b m).length≤64*n:=by
 refine len_db_le hb ?_
 have h1:=lt_pow_len m
 rw [WB_pow,←Nat.pow_mul] at h1
 exact Nat.lt_of_lt_of_le h1 (Nat.le_trans (Nat.pow_le_pow_right (by decide) (Nat.mul_le_mul_left _ h)) (Nat.pow_le_pow_left hb _))
theorem Kept.refl (w:World) (A:Option Addr):Kept w A A:=fun p hp=>Or.inl ⟨p,hp,rfl⟩
theorem Kept.next {w v:World}{A B C:Option Addr}(h:Kept w A B) (k:Kept v B C) (hs:w.heap.size≤v.heap.size):Kept w A C:=fun p hp=>by
 rcases k p hp with⟨q,hq,e⟩ | e
 ·rcases h q hq with⟨r,hr,e2⟩ | e2
  ·exact Or.inl ⟨r,hr,by rw [e,e2]⟩
  ·exact Or.inr (by omega)
 ·exact Or.inr (Nat.le_trans hs e)
theorem kept_typ {w:World}{lb:Nat}{A B:Option Addr}{n c:Nat}{us:List Value}(h:Own w lb 5 1 A n c us) (k:Kept w A B):∀(p:Addr) (cs:Array Value) (t:TypeId) (fr:Nat×Nat),B=some p→w.heap[p.block]?=some (.cells cs t fr)→t=5:=fun p cs t fr hp h'=>by
 rcases k p hp with⟨q,hq,e⟩ | e
 ·rw [e] at h';exact own_typ h q cs t fr hq h'
 ·exact absurd h' (bk_new e)
theorem rep_snoc {bs:List Nat}{z:Nat}:(bs++List.replicate (z+1) 48).map B8=(bs++List.replicate z 48).map B8++ [.int .u8 48]:=by
 rw [List.replicate_succ',←List.append_assoc,List.map_append];rfl
theorem own_len {w:World}{b n c:Nat}{T:TypeId}{A:Option Addr}{l:List Nat}(h:Own w b T 1 A n c (l.map B8)):n=l.length:=by have:=h.rv.len;rw [List.length_map,Nat.mul_one] at this;exact this.symm
theorem drop_getD {l:List Nat}{q:Nat}(h:q<l.length):l.drop q=l.getD q 0::l.drop (q+1):=by rw [List.drop_eq_getElem_cons h,List.getD_eq_getElem?_getD,List.getElem?_eq_getElem h];rfl
set_option maxHeartbeats 4000000 in
theorem rx_plain {w:World}{g base k unit:Nat}{PA:Option Addr}{pn pc:Nat}{OA:Option Addr}{on oc lb:Nat}{bs:List Nat}(hS:Signs w) (hgS:4<lb) (hbl:2≤base) (hbu:base≤36) (hW:Wr w g base k unit PA pn pc OA on oc) (hO:Own w lb 5 1 OA on oc (bs.map B8)) (hgl:lb≤g) (hlb:lb≤w.heap.size){A:Option Addr}{an ac m width:Nat}(ha:Wi w A an ac m) (hal:an≤4194304) (hun:unit=base^k) (hkk:PieceK base k) (hwd:width≤137438953472) (hon:on≤137438953472):
    Calls Tryd.prog 107 #[.pointer (some ⟨g,0,none⟩),.slice A an ac,.int .i64 ((width:Nat):Int)] w (WrP w lb g base k unit PA pn pc OA (bs++txt (padTo (db base m) width))):=by
 have hml:(wd m).length≤4194304:=Nat.le_trans ha.len hal
 have hum:unit≤18446744073709551615:=by rw [hun];exact hkk.le
 have hk1:1≤k:=by refine Nat.pos_of_ne_zero (fun e=>?_);have:=hkk.gt;rw [e,Nat.zero_add,Nat.pow_one] at this;omega
 have hu2:2≤unit:=by rw [hun];exact Nat.le_trans hbl (Nat.le_trans (Nat.le_of_eq (Nat.pow_one base).symm) (Nat.pow_le_pow_right (by omega) hk1))
 refine sx_enter Tryd.func107 rfl (n:=93) rfl (bq rfl) (args:= [.pointer (some ⟨g,0,none⟩),.slice A an ac,.int .i64 ((width:Nat):Int)]) (cw_keep [(0,.pointer (some ⟨g,0,none⟩)),(1,.slice A an ac),(2,.int .i64 ((width:Nat):Int))] ⟨rfl,rfl,rfl,trivial⟩ (sr (mv 1 rfl (ne_ (cw_seq (cw_block ?_))))))
 obtain⟨lb2,hlb2,hle2⟩:∃lb2,lb2≤w.heap.size∧w.heap.size≤lb2:=⟨_,Nat.le_refl _,(Ext.refl w).size⟩
 refine cw_loop (T:=World×Option Addr×Nat×Nat×Nat×Option Addr×Nat×Nat×List Nat)
  (fun⟨wr,QA,qn,qc,mm,PA2,pn2,pc2,ps⟩=> [(0,.pointer (some ⟨g,0,none⟩)),(2,.int .i64 ((width:Nat):Int)),(1,.slice QA qn qc),(6,.slice PA2 pn2 pc2)])
  (fun⟨wr,QA,qn,qc,mm,PA2,pn2,pc2,ps⟩=>wr)
  (fun⟨wr,QA,qn,qc,mm,PA2,pn2,pc2,ps⟩=>(UpdW lb w wr)∧(Ext w wr)∧(lb2≤wr.heap.size)∧(db unit m=ps++db unit mm)∧(ps.length=pn2)∧(Wi wr QA qn qc mm)∧(qn≤4194304)∧(Own wr lb2 50 1 PA2 pn2 pc2 (ps.map W64))∧(mm≤m))
  (fun⟨wr,QA,qn,qc,mm,PA2,pn2,pc2,ps⟩=>mm)
  (⟨w,A,an,ac,m,none,0,0,[]⟩:World×Option Addr×Nat×Nat×Nat×Option Addr×Nat×Nat×List Nat) ⟨(UpdW.refl lb w),(Ext.refl w),hlb2,rfl,rfl,ha,hal,(Own.nil _ _ _ _),(Nat.le_refl _)⟩ rfl ⟨rfl,rfl,rfl,rfl,trivial⟩ ?_
 rintro⟨wr,QA,qn,qc,mm,PA2,pn2,pc2,ps⟩ ⟨hw1,hx1,hlb2,hdb,hpl,hq,hqn,hP,hms⟩
 refine cw_re [(0,.pointer (some ⟨g,0,none⟩)),(2,.int .i64 ((width:Nat):Int)),(1,.slice QA qn qc),(6,.slice PA2 pn2 pc2)] wr rfl ⟨rfl,rfl,rfl,rfl,trivial⟩ (cw_seq (cw_seq ?_))
 by_cases hm0:mm=0
 · 
  have hbl0:blen mm=0:=by rw [hm0];rfl
  refine cw_region (mv 1 rfl (wl_call rfl rfl (vs:= [.slice QA qn qc]) (by kernel_rfl) (by decide) (rx_BitLen hq (by omega)) ?_))
  rintro _ v1 ⟨xr3,rfl,r3,e2⟩
  refine ret_intro ?_
  have hw2:UpdW lb w v1:=hw1.trans e2
  have hx2:Ext w v1:=hx1.trans e2
  obtain rfl:=r3
  refine wl_cmp rfl rfl rfl false (cb_gt_f (a:=blen mm) (b:=0) rfl rfl (by omega)) (by decide) (ne_ (cw_false rfl (cw_exit (eo_thenX (eo_loopX (eo_block_here (eo_then (cw_seq ?_))))))))
  have hdbm:db unit m=ps:=by rw [hdb,hm0,db_zero,List.append_nil]
  have psWf:Wf ps:=fun x hx=>by have:=Wfb_db hu2 m x (hdbm.symm▸hx);rw [WB_def];omega
  have psW:∀q,ps.getD q 0≤18446744073709551615:=fun q=>by have:=Wf_getD psWf q;rw [WB_def] at this;omega
  have hpk:pn2*k≤268435456*64:=Nat.mul_le_mul (by have:=len_db_small hu2 hml;rw [hdbm,hpl] at this;omega) hkk.le64
  have hpn:pn2≤268435456:=by have:=len_db_small hu2 hml;rw [hdbm,hpl] at this;omega
  refine cw_region (mv 1 rfl (pu (v:= .int .i64 ((pn2:Nat):Int)) rfl (by kernel_rfl) (wl_ar rfl rfl rfl (((pn2:Nat):Int)-1) (ar_i64s rfl (by omega) (by omega)) (by decide) (mv 1 rfl (pf g 0 rfl (by kernel_rfl) (pf g 1 rfl (by kernel_rfl) (wl_load rfl rfl (load_cell (fun _=>by kernel_rfl) (hW.ext (hx1.trans e2)) rfl) (by decide) (wl_ar rfl rfl rfl (((pn2*k:Nat):Int)-(k:Int)) (ar_i64m (by rw [Int.sub_mul,Int.one_mul,Int.natCast_mul]) (by have:=hkk.le64;omega) (by omega)) (by decide) (mv 1 rfl (ne_ (cw_seq (sr (mv 1 rfl ?_)))))))))))))
  refine mv 1 rfl (ne_ (cw_block ?_))
  refine cw_loop (T:=World×Nat×Nat×Option Addr×Nat×Nat)
   (fun⟨wz,nn,z,OB,ob,oc2⟩=> [(0,.pointer (some ⟨g,0,none⟩)),(2,.int .i64 ((width:Nat):Int)),(6,.slice PA2 pn2 pc2),(10,.int .i64 (((pn2*k:Nat):Int)-(k:Int))),(11,.int .i64 ((nn:Nat):Int))])
   (fun⟨wz,nn,z,OB,ob,oc2⟩=>wz)
   (fun⟨wz,nn,z,OB,ob,oc2⟩=>(UpdW lb w wz)∧(nn+z=width)∧(z≤width-pn2*k)∧(ob=on+z)∧(Bk wz g 118 [.int .i64 (base:Int),.int .i64 (k:Int),.int .u64 (unit:Int),.slice PA pn pc,.slice OB ob oc2])∧(Own wz lb 5 1 OB ob oc2 ((bs++List.replicate z 48).map B8))∧(Kept w OA OB)∧(Own wz lb2 50 1 PA2 pn2 pc2 (ps.map W64))∧(lb2≤wz.heap.size))
   (fun⟨wz,nn,z,OB,ob,oc2⟩=>nn)
   (⟨v1,width,0,OA,on,oc⟩:World×Nat×Nat×Option Addr×Nat×Nat) ⟨hw2,rfl,(Nat.zero_le _),rfl,(hW.ext (hx1.trans e2)),(by rw [List.replicate_zero,List.append_nil];exact (hO.ext (hx1.trans e2))),(Kept.refl w OA),(hP.ext e2),(Nat.le_trans hlb2 (e2.size))⟩ rfl ⟨rfl,rfl,rfl,rfl,rfl,trivial⟩ ?_
  rintro⟨wz,nn,z,OB,ob,oc2⟩ ⟨hw1,hnz2,hzw,hob,b_g,hO2,hkp,hP2,hlb3⟩
  refine cw_re [(0,.pointer (some ⟨g,0,none⟩)),(2,.int .i64 ((width:Nat):Int)),(6,.slice PA2 pn2 pc2),(10,.int .i64 (((pn2*k:Nat):Int)-(k:Int))),(11,.int .i64 ((nn:Nat):Int))] wz rfl ⟨rfl,rfl,rfl,rfl,rfl,trivial⟩ (cw_seq (cw_seq ?_))
  by_cases hnz:nn>pn2*k
  · 
   refine cw_region (mv 3 rfl (pf g 0 rfl (by kernel_rfl) (pf g 1 rfl (by kernel_rfl) (wl_load rfl rfl (load_cell (fun _=>by kernel_rfl) b_g rfl) (by decide) (wl_ar rfl rfl rfl ((pn2*k:Nat):Int) (ar_i64 (by omega) (by omega) (by omega)) (by decide) (wl_mm rfl rfl rfl (((pn2*k:Nat):Int)) (by omega) (by decide) (wl_cmp rfl rfl rfl true (cb_gt_t (a:=nn) (b:=pn2*k) rfl rfl (by omega)) (by decide) (ne_ (cw_true rfl (cw_skip (eo_then (cw_seq (cw_block ?_)))))))))))))
   refine cw_region (mv 2 rfl (pf g 0 rfl (by kernel_rfl) (pf g 4 rfl (by kernel_rfl) (wl_load rfl rfl (load_cell (fun _=>by kernel_rfl) b_g rfl) (by decide) (wl_bslice rfl rfl (by decide) (k:=1) (e:=5) [.int .u8 48] (fun _=>by kernel_rfl) fun g4 v5 nb=>?_)))))
   have hb6:=nb.bk
   have e7:=nb.ext
   clear nb
   have hw2:UpdW lb w v5:=hw1.trans e7
   have ow8:=(hO2.ext e7)
   refine wl_app rfl rfl rfl un_u8 info8 rfl (by decide) (by decide) ow8 (Nat.le_trans hlb hw2.size) [.int .u8 48] rfl (one_news _ hb6) rfl (by omega) (by decide) fun A9 c10 v11 ho12 uo13 kp14=>?_
   have kk15:=hkp.next kp14 hw2.size
   have hw3:UpdW lb w v11:=hw2.updO uo13 (fun p hp=>(ow8.block p hp).1) (fun p cs t fr hp h=>Or.inr (kept_typ hO hkp p cs t fr hp h))
   refine pf g 0 rfl (by kernel_rfl) (pf g 4 rfl (by kernel_rfl) ?_)
   have hb17:=((b_g.ext e7).updO uo13 (own_ne ow8 (b_g.ext e7) (by decide)))
   refine wl_stored1 rfl rfl rfl (fun _=>by kernel_rfl) rfl hb17 (bq rfl) rfl [.int .i64 (base:Int),.int .i64 (k:Int),.int .u64 (unit:Int),.slice PA pn pc,.slice A9 (ob+1) c10] rfl fun v16 hb18 u19 hs20=>?_
   have hw4:UpdW lb w v16:=hw3.upd u19 hgl (fun _ _ _ h=>Or.inl (bk_typ hW h))
   refine wl_nil (eo_block_normal (eo_then (cw_region (mv 1 rfl (wl_ar rfl rfl rfl ((nn-1:Nat):Int) (ai_sub (a:=nn) (b:=1) rfl rfl (by omega) (by omega)) (by decide) (mv 1 rfl (wl_nil (eo_round (⟨v16,nn-1,z+1,A9,ob+1,c10⟩:World×Nat×Nat×Option Addr×Nat×Nat) ⟨hw4,(by omega),(by omega),(by omega),hb18,(by rw [rep_snoc];exact (ho12.updT hb17 (by decide) u19)),kk15,(((hP2.ext e7).updOT ow8 (by decide) uo13).updT hb17 (by decide) u19),(Nat.le_trans hlb3 ((Nat.le_trans (Nat.le_trans e7.size uo13.size) u19.by_.size)))⟩ (show nn-1<nn by omega) rfl ⟨rfl,rfl,rfl,rfl,rfl,trivial⟩))))))))
  · 
   refine cw_region (mv 3 rfl (pf g 0 rfl (by kernel_rfl) (pf g 1 rfl (by kernel_rfl) (wl_load rfl rfl (load_cell (fun _=>by kernel_rfl) b_g rfl) (by decide) (wl_ar rfl rfl rfl ((pn2*k:Nat):Int) (ar_i64 (by omega) (by omega) (by omega)) (by decide) (wl_mm rfl rfl rfl (((pn2*k:Nat):Int)) (by omega) (by decide) (wl_cmp rfl rfl rfl false (cb_gt_f (a:=nn) (b:=pn2*k) rfl rfl (by omega)) (by decide) (ne_ (cw_false rfl (cw_exit (eo_thenX (eo_loopX (eo_block_here ?_)))))))))))))
   refine eo_then (cw_seq ?_)
   have hzf:z=width-pn2*k:=by omega
   refine cw_region (mv 1 rfl (pu (v:= .int .i64 ((pn2:Nat):Int)) rfl (by kernel_rfl) (wl_ar rfl rfl rfl (((pn2:Nat):Int)-1) (ar_i64s rfl (by omega) (by omega)) (by decide) (mv 1 rfl (ne_ (cw_block ?_))))))
   refine cw_loop (T:=World×Nat×Int×Option Addr×Nat×Nat)
    (fun⟨wt,j,ii,OD,od,oc3⟩=> [(0,.pointer (some ⟨g,0,none⟩)),(2,.int .i64 ((width:Nat):Int)),(6,.slice PA2 pn2 pc2),(10,.int .i64 (((pn2*k:Nat):Int)-(k:Int))),(12,.int .i64 ii)])
    (fun⟨wt,j,ii,OD,od,oc3⟩=>wt)
    (fun⟨wt,j,ii,OD,od,oc3⟩=>(UpdW lb w wt)∧(j≤pn2)∧(ii=(j:Int)-1)∧(od≤on+width+(pn2-j)*64)∧(Bk wt g 118 [.int .i64 (base:Int),.int .i64 (k:Int),.int .u64 (unit:Int),.slice PA pn pc,.slice OD od oc3])∧(Own wt lb 5 1 OD od oc3 ((bs++List.replicate (width-pn2*k) 48++txt (catd base k (min (width+k-pn2*k) k) (ps.drop j))).map B8))∧(Kept w OA OD)∧(Own wt lb2 50 1 PA2 pn2 pc2 (ps.map W64)))
    (fun⟨wt,j,ii,OD,od,oc3⟩=>j)
    (⟨wz,pn2,_,OB,ob,oc2⟩:World×Nat×Int×Option Addr×Nat×Nat) ⟨hw1,(Nat.le_refl _),rfl,(by omega),b_g,(by rw [List.drop_of_length_le (by omega),show catd base k (min (width+k-pn2*k) k) []= [] from rfl,←hzf];simpa [txt] using (hO2)),hkp,hP2⟩ rfl ⟨rfl,rfl,rfl,rfl,rfl,trivial⟩ ?_
   rintro⟨wt,j,ii,OD,od,oc3⟩ ⟨hw1,hj,hii,hob2,b_g,hO3,hkp,hP3⟩
   refine cw_re [(0,.pointer (some ⟨g,0,none⟩)),(2,.int .i64 ((width:Nat):Int)),(6,.slice PA2 pn2 pc2),(10,.int .i64 (((pn2*k:Nat):Int)-(k:Int))),(12,.int .i64 ii)] wt rfl ⟨rfl,rfl,rfl,rfl,rfl,trivial⟩ (cw_seq (cw_seq ?_))
   by_cases hj0:0<j
   · 
    obtain⟨q,rfl⟩:∃q,j=q+1:=⟨j-1,by omega⟩
    obtain rfl:ii=(q:Int):=by omega
    have hxq:ps.getD q 0≤18446744073709551615:=by have:=psW q;omega
    refine cw_region (mv 1 rfl (wl_cmp rfl rfl rfl true (ge_t (by omega)) (by decide) (ne_ (cw_true rfl (cw_skip (eo_then (cw_seq (cw_block (sr (mv 1 rfl (pf g 0 rfl (by kernel_rfl) (pf g 1 rfl (by kernel_rfl) (wl_load rfl rfl (load_cell (fun _=>by kernel_rfl) b_g rfl) (by decide) ?_)))))))))))))
    refine mv 1 rfl (ne_ (cw_seq (cw_seq ?_)))
    by_cases htop:q+1=pn2
    · 
     refine cw_region (mv 2 rfl (pu (v:= .int .i64 ((pn2:Nat):Int)) rfl (by kernel_rfl) (wl_ar rfl rfl rfl (((pn2:Nat):Int)-1) (ar_i64s rfl (by omega) (by omega)) (by decide) (wl_cmp rfl rfl rfl true (eq_t (by omega)) (by decide) (ne_ (cw_true rfl (cw_region (mv 2 rfl (wl_ar rfl rfl rfl (((width:Nat):Int)-(((pn2*k:Nat):Int)-(k:Int))) (ar_i64s rfl (by have:=hkk.le64;omega) (by have:=hkk.le64;omega)) (by decide) (wl_mm rfl rfl rfl (((width+k-pn2*k:Nat):Int)) (by omega) (by decide) (mv 1 rfl (pf g 0 rfl (by kernel_rfl) (pf g 1 rfl (by kernel_rfl) ?_)))))))))))))
     refine wl_load rfl rfl (load_cell (fun _=>by kernel_rfl) b_g rfl) (by decide) (wl_mi rfl rfl rfl (((min (width+k-pn2*k) k:Nat):Int)) (by omega) (by decide) (mv 1 rfl (ne_ (cw_region (mv 3 rfl ?_)))))
     obtain⟨pw,hpw,hcw,hvw⟩:=((hP3).rd psWf).at (i:=q) (by omega)
     refine wl_idx rfl rfl rfl un_u64 sz_u64 q rfl (by omega) pw hpw (by decide) (wl_load rfl rfl (load_cell1 ag_u64 hcw) (by decide) (mv 1 rfl (wl_call rfl rfl (vs:= [.pointer (some ⟨g,0,none⟩),.int .u64 ((ps.getD q 0:Nat):Int),.int .i64 ((min (width+k-pn2*k) k:Nat):Int)]) (by kernel_rfl) (by decide) (rx_word (hw1.signs hS hgS) hgS hbl hbu b_g hO3 hgl (Nat.le_trans hlb hw1.size) hxq (by have:=hkk.le64;omega) (by have:=hkk.le64;omega)) ?_)))
     rintro _ v21 ⟨rfl,A23,n24,c25,hb26,ho27,uw28,kp29⟩
     refine ret_intro ?_
     have hw2:UpdW lb w v21:=hw1.then uw28
     have kk30:=hkp.next kp29 hw1.size
     have hobn:n24≤on+width+(pn2-q)*64:=by have h1:=(own_len ho27).symm;have h2:=own_len ho27;rw [h2,List.length_append,txt_len,len_padTo,←own_len hO3];have h3:(db base (ps.getD q 0)).length≤64:=len_db_le hbl (Nat.lt_of_lt_of_le (show ps.getD q 0<2^64 by omega) (Nat.pow_le_pow_left hbl 64));have:=hkk.le64;omega
     have hcont:bs++List.replicate (width-pn2*k) 48++txt (catd base k (min (width+k-pn2*k) k) (ps.drop (q+1)))++txt (padTo (db base (ps.getD q 0)) (min (width+k-pn2*k) k))=bs++List.replicate (width-pn2*k) 48++txt (catd base k (min (width+k-pn2*k) k) (ps.drop q)):=by rw [drop_getD (by omega:q<ps.length),catd_cons,txt_app,List.append_assoc,if_pos (List.drop_of_length_le (by omega))]
     refine wl_nil (eo_block_normal (eo_then (cw_region (mv 1 rfl (wl_ar rfl rfl rfl (((q:Nat):Int)-1) (ar_i64s rfl (by omega) (by omega)) (by decide) (mv 1 rfl (wl_nil (eo_round (⟨v21,q,(q:Int)-1,A23,n24,c25⟩:World×Nat×Int×Option Addr×Nat×Nat) ⟨hw2,(by omega),rfl,hobn,hb26,(hcont▸(ho27)),kk30,(uw28.own hP3 (by decide) (by decide))⟩ (show q<q+1 by omega) rfl ⟨rfl,rfl,rfl,rfl,rfl,trivial⟩))))))))
    · 
     refine cw_region (mv 2 rfl (pu (v:= .int .i64 ((pn2:Nat):Int)) rfl (by kernel_rfl) (wl_ar rfl rfl rfl (((pn2:Nat):Int)-1) (ar_i64s rfl (by omega) (by omega)) (by decide) (wl_cmp rfl rfl rfl false (eq_f (by omega)) (by decide) (ne_ (cw_false rfl (cw_skip (eo_then (cw_region (mv 3 rfl ?_))))))))))
     obtain⟨pw,hpw,hcw,hvw⟩:=((hP3).rd psWf).at (i:=q) (by omega)
     refine wl_idx rfl rfl rfl un_u64 sz_u64 q rfl (by omega) pw hpw (by decide) (wl_load rfl rfl (load_cell1 ag_u64 hcw) (by decide) (mv 1 rfl (wl_call rfl rfl (vs:= [.pointer (some ⟨g,0,none⟩),.int .u64 ((ps.getD q 0:Nat):Int),.int .i64 ((k:Nat):Int)]) (by kernel_rfl) (by decide) (rx_word (hw1.signs hS hgS) hgS hbl hbu b_g hO3 hgl (Nat.le_trans hlb hw1.size) hxq (by have:=hkk.le64;omega) (by have:=hkk.le64;omega)) ?_)))
     rintro _ v31 ⟨rfl,A33,n34,c35,hb36,ho37,uw38,kp39⟩
     refine ret_intro ?_
     have hw2:UpdW lb w v31:=hw1.then uw38
     have kk40:=hkp.next kp39 hw1.size
     have hobn:n34≤on+width+(pn2-q)*64:=by have h1:=(own_len ho37).symm;have h2:=own_len ho37;rw [h2,List.length_append,txt_len,len_padTo,←own_len hO3];have h3:(db base (ps.getD q 0)).length≤64:=len_db_le hbl (Nat.lt_of_lt_of_le (show ps.getD q 0<2^64 by omega) (Nat.pow_le_pow_left hbl 64));have:=hkk.le64;omega
     have hcont:bs++List.replicate (width-pn2*k) 48++txt (catd base k (min (width+k-pn2*k) k) (ps.drop (q+1)))++txt (padTo (db base (ps.getD q 0)) k)=bs++List.replicate (width-pn2*k) 48++txt (catd base k (min (width+k-pn2*k) k) (ps.drop q)):=by rw [drop_getD (by omega:q<ps.length),catd_cons,txt_app,List.append_assoc,if_neg (fun e=>by have:=congrArg List.length e;rw [List.length_drop] at this;simp only [List.length_nil] at this;omega)]
     refine wl_nil (eo_block_normal (eo_then (cw_region (mv 1 rfl (wl_ar rfl rfl rfl (((q:Nat):Int)-1) (ar_i64s rfl (by omega) (by omega)) (by decide) (mv 1 rfl (wl_nil (eo_round (⟨v31,q,(q:Int)-1,A33,n34,c35⟩:World×Nat×Int×Option Addr×Nat×Nat) ⟨hw2,(by omega),rfl,hobn,hb36,(hcont▸(ho37)),kk40,(uw38.own hP3 (by decide) (by decide))⟩ (show q<q+1 by omega) rfl ⟨rfl,rfl,rfl,rfl,rfl,trivial⟩))))))))
   · 
    refine cw_region (mv 1 rfl (wl_cmp rfl rfl rfl false (ge_f (by omega)) (by decide) (ne_ (cw_false rfl (cw_exit (eo_thenX (eo_loopX (eo_block_here (eo_end [] rfl trivial ?_)))))))))
    have hj00:j=0:=by omega
    have hall:bs++List.replicate (width-pn2*k) 48++txt (catd base k (min (width+k-pn2*k) k) (ps.drop j))=bs++txt (padTo (db base m) width):=by rw [hj00,List.drop_zero,List.append_assoc,←hdbm,hun,plain_all hbl hk1 (hun▸hu2) (by rw [←hun,hdbm,hpl])]
    exact⟨rfl,OD,_,_,b_g,hall▸(hO3),hw1,hkp⟩
 · 
  have hbl0:blen mm≠0:=fun e=>hm0 (blen_eq_zero.1 e)
  have hdb1:=db_pos hu2 hm0
  have hqb:(wd (mm/unit)).length≤4194304:=Nat.le_trans (len_wd_mono (Nat.le_trans (Nat.div_le_self _ _) hms)) hml
  have hpq2:=len_db_small hu2 hml
  have hpq:ps.length<(db unit m).length:=by rw [hdb,hdb1,List.length_append,List.length_cons];omega
  refine cw_region (mv 1 rfl (wl_call rfl rfl (vs:= [.slice QA qn qc]) (by kernel_rfl) (by decide) (rx_BitLen hq (by omega)) ?_))
  rintro _ v41 ⟨xr43,rfl,r43,e42⟩
  refine ret_intro ?_
  have hw2:UpdW lb w v41:=hw1.trans e42
  have hx2:Ext w v41:=hx1.trans e42
  obtain rfl:=r43
  refine wl_cmp rfl rfl rfl true (cb_gt_t (a:=blen mm) (b:=0) rfl rfl (by omega)) (by decide) (ne_ (cw_true rfl (cw_skip (eo_then (cw_block (sr (mv 2 rfl (pf g 0 rfl (by kernel_rfl) (pf g 2 rfl (by kernel_rfl) (wl_load rfl rfl (load_cell (fun _=>by kernel_rfl) (hW.ext (hx1.trans e42)) rfl) (by decide) ?_))))))))))
  have hbp:=((hP.ext e42)).block
  refine wl_call rfl rfl (vs:= [.slice QA qn qc,.int .u64 ((unit:Nat):Int)]) (by kernel_rfl) (by decide) (rx_Word (hq.ext e42) (by omega) (by omega) hum) ?_
  rintro _ v44 ⟨xr46,rfl,r46,e45⟩
  refine ret_intro ?_
  have hw3:UpdW lb w v44:=hw2.trans e45
  have hx3:Ext w v44:=hx2.trans e45
  obtain⟨_,_,_,rfl,⟨A48,n48,c48,rfl,j48,o48⟩,r47_1,r47_2⟩:=r46
  have hdis:∀p q,PA2=some p→A48=some q→p.block≠q.block:=fun p q hp hq=>by have:=(hbp p hp).2;have:=(o48.block q hq).1;omega
  obtain rfl:=r47_1
  obtain rfl:=r47_2
  refine mv 1 rfl (pu (v:= .slice A48 n48 c48) rfl (by kernel_rfl) (pu (v:= .int .u64 ((mm%unit:Nat):Int)) rfl (by kernel_rfl) (pu (v:= .int .i64 0) rfl (by kernel_rfl) (mv 3 rfl (ne_ (sr (mv 2 rfl (wl_bslice rfl rfl (by decide) (k:=1) (e:=50) [.int .u64 ((mm%unit:Nat):Int)] (fun _=>by kernel_rfl) fun g49 v50 nb=>?_))))))))
  have hb51:=nb.bk
  have e52:=nb.ext
  clear nb
  have hw4:UpdW lb w v50:=hw3.trans e52
  have hx4:Ext w v50:=hx3.trans e52
  have ow53:=(hP.ext (e42.trans (e45.trans e52)))
  refine wl_app rfl rfl rfl un_u64 info64 rfl (by decide) (by decide) ow53 (Nat.le_trans hlb2 ((Nat.le_trans (Nat.le_trans e42.size e45.size) e52.size))) [.int .u64 ((mm%unit:Nat):Int)] rfl (one_news _ hb51) rfl (by omega) (by decide) fun A54 c55 v56 ho57 uo58 kp59=>?_
  have hx5:Ext w v56:=uo58.ext hx4 (fun p hp=>by have:=ow53.block p hp;omega)
  have hw5:UpdW lb w v56:=(UpdW.refl lb w).trans hx5
  refine mv 1 rfl (ne_ (cw_region (mv 2 rfl (wl_nil (eo_block_normal (eo_round (⟨v56,A48,n48,c48,mm/unit,A54,pn2+1,c55,ps++ [mm%unit]⟩:World×Option Addr×Nat×Nat×Nat×Option Addr×Nat×Nat×List Nat) ⟨hw5,hx5,(Nat.le_trans hlb2 ((Nat.le_trans (Nat.le_trans (Nat.le_trans e42.size e45.size) e52.size) uo58.size))),(by rw [hdb,hdb1,List.append_assoc];rfl),(by rw [List.length_append,hpl];rfl),((o48.ext e52).updO uo58 hdis).wi,(by rw [j48];exact hqb),(by rw [List.map_append];exact ho57),(Nat.le_trans (Nat.div_le_self _ _) hms)⟩ (Nat.div_lt_self (by omega) (by omega)) rfl ⟨rfl,rfl,rfl,rfl,trivial⟩))))))
def txtN (b m:Nat):List Nat:=if m=0 then [48] else txt (db b m)
theorem push_foldl:∀(ns:List Nat) (r:ByteArray),(ns.map fun x:Nat=>(x:Int)).foldl (fun r n=>r.push (UInt8.ofNat n.toNat)) r=⟨r.data++(ns.map UInt8.ofNat).toArray⟩
 | [],r=>by simp
 | n::ns,r=>by
  rw [List.map_cons,List.foldl_cons,push_foldl ns]
  simp [ByteArray.push,Array.push]
theorem run_toStr {P:Program}{w:World}{lb:Nat}{T:TypeId}{A:Option Addr}{n c:Nat}{bs:List Nat}(h:Own w lb T 1 A n c (bs.map B8)):(Conv.bytesToString (.slice A n c)).run P w= .ok (.string (strB bs)) w:=by
 cases A with
 | none=>
  rcases h with⟨_,_,_,h⟩ | ⟨g,cs,hA,_⟩
  ·rw [List.map_eq_nil_iff] at h;subst h;rfl
  ·cases hA
 | some a=>
  have hn:=own_len h
  have hl:=run_loadCells (P:=P) (w:=w) (p:=a) (bs.map B8) 0 #[] (fun j hj=>by
   rw [List.length_map] at hj
   obtain⟨a',ha,hc⟩:=h.rv.get j (by omega)
   cases ha
   rw [Nat.zero_add];exact hc)
  have hr:=run_bytesToString (P:=P) w a n c (bs.map fun x:Nat=>(x:Int)) (by
   rw [List.length_map,←hn] at hl
   unfold loadCells
   rw [hl]
   congr 1
   simp [B8,Function.comp_def])
  rw [hr,push_foldl]
  rw [show ByteArray.empty.data= #[] from rfl,Array.empty_append]
  rfl
theorem wl_toStr {Q:Exit→Act→World→Prop}{n:Nat}{l:Fr}{w:World}{ops:Array Oper}{rest:List Oper}{d:Nat}{ty:TypeId}{pos:String}{af:Array Edge}{gd:Option (Nat×Bool)}{x:Operand}{lb k c:Nat}{T:TypeId}{A:Option Addr}{bs:List Nat}(hw:guardB ops l gd=some true)
  (hx:evo l x=some (.slice A k c)) (ho:Own w lb T 1 A k c (bs.map B8)) (hn:d<n) (h:wl Tryd.prog ops Q n rest ((d,.string (strB bs))::l) w):wl Tryd.prog ops Q n (⟨some d,.convert 77 9 x,ty,pos,af,gd⟩::rest) l w:=by
 refine wl_val hw hn (fun a' ha=>?_) h
 have e:(convert 77 9 (a'.eval x)).run Tryd.prog w= .ok (.string (strB bs)) w:=by
  rw [ha.ev hx]
  have h1:(underlying 77).run Tryd.prog w= .ok (.slice 5) w:=run_underlying un_u8 w
  have h2:(underlying 9).run Tryd.prog w= .ok .string w:=run_underlying Tryd.underlying9 w
  have h3:(underlying 5).run Tryd.prog w= .ok (.int .u8) w:=run_underlying Tryd.underlying5 w
  unfold convert
  simp only [Sem.run_bind,h1,h2,h3,Result.andThen_ok]
  exact run_toStr ho
 show ((convert 77 9 (a'.eval x)>>=fun r=>pure (Next.value r):Sem Next)).run Tryd.prog w=_
 rw [Sem.run_bind,e];rfl
theorem strB_add (a b:List Nat):strB a++strB b=strB (a++b):=by
 unfold strB
 rw [ByteArray.mk_append_mk,List.map_append]
theorem strB_size (a:List Nat):(strB a).size=a.length:=by simp [strB,ByteArray.size]
theorem str_add {P:Program}{w:World}{t:TypeId}{a b:List Nat}(h:a.length+b.length≤1099511627776):(binOp .add t (.string (strB a)) (.string (strB b))).run P w= .ok (.string (strB (a++b))) w:=by
 have h1:=run_string_add_sum (P:=P) w (strB a) (strB b) (by rw [strB_size,strB_size];omega)
 rw [strB_add] at h1
 simp [binOp,h1]
theorem g_nat_LeastW {w:World}{A:Option Addr}{n c m:Nat}(hx:Wi w A n c m) (hl:n≤1099511627776):Calls Tryd.prog 46 #[.slice A n c] w (Gv w (WR w.heap.size m)):=by
 obtain⟨xs,h1,rfl⟩:=hx
 exact (nat_Least h1 hl).mono (gw (Nat.le_refl _))
theorem txtN_len {b m n:Nat}(hb:2≤b) (h:(wd m).length≤n):(txtN b m).length≤64*n+1:=by
 unfold txtN
 split
 ·simp
 ·rw [txt_len];have:=len_db_small hb h;omega
def txtZ (x:Int):List Nat:=if x<0 then [45]++txtN 10 x.natAbs else txtN 10 x.natAbs
set_option maxHeartbeats 4000000 in
theorem rx_halves_low {w:World}{g base k unit:Nat}{PA:Option Addr}{pn pc:Nat}{OA:Option Addr}{on oc lb:Nat}{bs:List Nat}(hS:Signs w) (hgS:4<lb) (hbl:2≤base) (hbu:base≤36) (hW:Wr w g base k unit PA pn pc OA on oc) (hO:Own w lb 5 1 OA on oc (bs.map B8)) (hgl:lb≤g) (hlb:lb≤w.heap.size){A:Option Addr}{an ac m width:Nat}(ha:Wi w A an ac m) (hal:an≤4194304) (hun:unit=base^k) (hkk:PieceK base k) (hwd:width≤137438953472) (hon:on≤137438953472):
    Calls Tryd.prog 93 #[.pointer (some ⟨g,0,none⟩),.slice A an ac,.int .i64 (-1),.int .i64 ((width:Nat):Int)] w (WrP w lb g base k unit PA pn pc OA (bs++txt (padTo (db base m) width))):=by
 refine sx_enter Tryd.func93 rfl (n:=74) rfl (bq rfl) (args:= [.pointer (some ⟨g,0,none⟩),.slice A an ac,.int .i64 (-1),.int .i64 ((width:Nat):Int)]) (cw_keep [(0,.pointer (some ⟨g,0,none⟩)),(1,.slice A an ac),(2,.int .i64 (-1)),(3,.int .i64 ((width:Nat):Int))] ⟨rfl,rfl,rfl,rfl,trivial⟩ (cw_seq (sr (mv 1 rfl (wl_cmp rfl rfl rfl true (by decide) (by decide) (mv 4 rfl (pu (v:= .bool true) rfl (by kernel_rfl) (ne_ (cw_true rfl (sr (mv 3 rfl (wl_call rfl rfl (vs:= [.pointer (some ⟨g,0,none⟩),.slice A an ac,.int .i64 ((width:Nat):Int)]) (by kernel_rfl) (by decide) (rx_plain hS hgS hbl hbu hW hO hgl (Nat.le_trans hlb (UpdW.refl lb w).size) ha hal hun hkk hwd hon) ?_))))))))))))
 rintro _ v1 ⟨rfl,A2,n3,c4,hb5,ho6,uw7,kp8⟩
 refine ret_intro ?_
 have hw1:UpdW lb w v1:=(UpdW.refl lb w).then uw7
 have kk9:=(Kept.refl w OA).next kp8 (UpdW.refl lb w).size
 refine ne_ (cw_ret (eo_thenR (eo_ret [] rfl trivial ?_)))
 exact⟨rfl,A2,_,_,hb5,ho6,hw1,kk9⟩
theorem flo_abs {q r x y:Int}(h:Flo q r x y) (hy:y≠0):r.natAbs<y.natAbs:=by
 rcases Int.lt_or_gt_of_ne hy with h1 | h1
 ·have:=h.neg h1;omega
 ·have:=h.pos h1;omega
theorem ln_floq {q r x y:Int}{N:Nat}(h:Flo q r x y) (hy:y≠0) (hx:ln x≤N) (hN:1≤N):ln q≤N+1:=by
 have h1:=flo_abs h hy
 have h2:(q*y).natAbs≤x.natAbs+y.natAbs:=by have:=h.eq;omega
 rw [Int.natAbs_mul] at h2
 have h3:q.natAbs≤x.natAbs+1:=by
  refine Nat.le_of_mul_le_mul_right (c:=y.natAbs) ?_ (by omega)
  have:x.natAbs*1≤x.natAbs*y.natAbs:=Nat.mul_le_mul_left _ (by omega)
  rw [Nat.add_mul];omega
 refine Nat.le_trans (ln_mono (y:=(x.natAbs:Int)+1) (by omega)) ?_
 exact Nat.le_trans (ln_add (by rw [ln_abs];exact hx) (show ln 1≤1 by decide+kernel)) (by omega)
theorem g_zint_FloorD {w:World}{b:Nat}(hb:b≤w.heap.size){s t:Bool}{A B:Option Addr}{n cap m cap':Nat}{x y:Int}(hx:Zi w s A n cap x) (hl:n≤68719476736) (hy:Zi w t B m cap' y) (hl':m≤68719476736) (h0:y≠0):
  Calls Tryd.prog 42 #[.agg #[.bool s,.slice A n cap],.agg #[.bool t,.slice B m cap']] w (fun e w'=>∃q r,Flo q r x y∧Gv w (T3 (ZR b q) (ZR b r) (Is (.int .i64 0))) e w'):=by
 refine (zint_Floor hx hl hy hl' h0).mono fun e w' h=>?_
 obtain⟨q,r,h1,h2⟩:=h
 exact⟨q,r,h1.out,gzze hb _ _ h2⟩
end Go.Proofs.YtipklngcpmkfhaaDoor
