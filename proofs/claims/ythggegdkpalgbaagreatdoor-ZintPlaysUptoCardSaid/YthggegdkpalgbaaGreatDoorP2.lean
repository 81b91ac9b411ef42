/- Parts Long, LongB, DivC, Int, Same, Sxz, Sxl, Sxw, IntB, IntC, IntD, IntE, IntF, Pop, Small, Power, Root, Zg, Sxb, Ab, Upto, Stays, Zs, UptoZ, App, Sxk, Sxf, Rx, Bo, Rxa, Zh, Bz, Li, joined. -/
import Derived.Test.YthggegdkpalgbaaGreatDoorP1
import Derived.IntWalk
import Derived.KernelRfl
import Derived.Test.YthggegdkpalgbaaGreatDoorRows
import Derived.WalkKit
import Derived.ProofKit
import Derived.OpenShut
import Derived.JoinedCond
import Derived.ChangeSame
import Derived.ChangeSlices
import Derived.ChangeStays
import Derived.Deep.Slices
import Derived.DataShut
import Derived.ArgAppend
import Derived.WalkSmall

namespace Go.Proofs.YthggegdkpalgbaaGreatDoor
open Go.RowKit
def RetQR (w:World) (q r:Nat) (e:Ending) (w':World):Prop:=
 ∃A n cap B m cap',e= .returned (.tuple #[.slice A n cap,.slice B m cap'])∧Hid (n=(wd q).length)∧Rd w' A n cap (wd q)∧Own w' w.heap.size 67 1 A n cap ((wd q).map W64)∧
  Hid (m=(wd r).length)∧Rd w' B m cap' (wd r)∧Own w' w.heap.size 67 1 B m cap' ((wd r).map W64)∧Ext w w'
theorem guess_near {U V M Uh Vh d:Nat}(hM:0<M) (hUh:Uh=U/M) (hVh:Vh=V/M) (hbig:WB≤Vh) (hd:d<WB) (h1:d*Vh≤Uh) (h2:d=18446744073709551615∨Uh<(d+1)*Vh) (hU:U<V*WB):U/V≤d∧d≤U/V+1:=by
 have hV:0<V:=by
  rcases Nat.eq_zero_or_pos V with h | h
  ·rw [h,Nat.zero_mul] at hU;omega
  ·exact h
 constructor
 ·rcases h2 with h | h
  ·have:U/V<WB:=Nat.div_lt_of_lt_mul hU
   rw [WB_def] at this
   omega
  ·have h3:U/V*Vh≤Uh:=by
    rw [hUh,Nat.le_div_iff_mul_le hM]
    have h4:Vh*M≤V:=by rw [hVh];exact Nat.div_mul_le_self _ _
    have h5:=Nat.mul_le_mul_left (U/V) h4
    have h6:=Nat.div_mul_le_self U V
    rw [←Nat.mul_assoc] at h5
    omega
   have h7:U/V*Vh<(d+1)*Vh:=by omega
   have:=Nat.lt_of_mul_lt_mul_right h7
   omega
 ·refine Nat.le_of_not_lt (fun hlt=>?_)
  have h3:d*Vh*M≤U:=by
   have:=Nat.mul_le_mul_right M h1
   have h4:Uh*M≤U:=by rw [hUh];exact Nat.div_mul_le_self _ _
   omega
  have h4:V<(Vh+1)*M:=by rw [hVh,Nat.mul_comm];exact Nat.lt_mul_div_succ V hM
  have h5:U<(U/V+1)*V:=by rw [Nat.mul_comm];exact Nat.lt_mul_div_succ U hV
  have h6:(U/V+1)*V≤(d-1)*V:=Nat.mul_le_mul_right V (by omega)
  have h7:(d-1)*V≤(d-1)*((Vh+1)*M):=Nat.mul_le_mul_left _ (Nat.le_of_lt h4)
  have h8:d*Vh*M<(d-1)*(Vh+1)*M:=by
   rw [Nat.mul_assoc (d-1)]
   exact Nat.lt_of_le_of_lt h3 (Nat.lt_of_lt_of_le h5 (Nat.le_trans h6 h7))
  have h9:=Nat.lt_of_mul_lt_mul_right h8
  have hd0:0<d:=Nat.lt_of_le_of_lt (Nat.zero_le _) hlt
  clear hlt h3 h4 h5 h6 h7 h8
  obtain⟨d,rfl⟩:∃e,d=e+1:=⟨d-1,by omega⟩
  rw [Nat.add_sub_cancel,Nat.succ_mul,Nat.mul_add,Nat.mul_one] at h9
  omega
theorem long_case {D L K L1 d c:Nat}(hD:0<D) (hd1:L/D≤d) (hd2:d≤L/D+1) (_hK:L<K) (hL1:L1<K) (h:L1+d*D=L+K*c) (hc:c≤1):
  (c=0→d=L/D∧L1=L%D)∧(c=1→d=L/D+1∧∀L2 c2,c2≤1→L2<K→L2+K*c2=L1+D→L2=L%D):=by
 have e1:=Nat.div_add_mod L D
 have e2:=Nat.mod_lt L hD
 generalize L/D=q at*
 generalize L%D=r at*
 have hdd:d=q∨d=q+1:=by omega
 have e3:d*D=D*q∨d*D=D*q+D∧d=q+1:=by
  rcases hdd with rfl | rfl
  ·left;exact Nat.mul_comm _ _
  ·right;exact⟨by rw [Nat.succ_mul,Nat.mul_comm],rfl⟩
 have e4:d*D=D*q+D∨d*D=D*q∧d=q:=by
  rcases hdd with rfl | rfl
  ·right;exact⟨Nat.mul_comm _ _,rfl⟩
  ·left;rw [Nat.succ_mul,Nat.mul_comm]
 generalize d*D=a at*
 generalize D*q=b at*
 constructor
 ·rintro rfl
  rw [Nat.mul_zero,Nat.add_zero] at h
  rcases e4 with e4 | ⟨e4,e5⟩
  ·omega
  ·exact⟨e5,by omega⟩
 ·rintro rfl
  rw [Nat.mul_one] at h
  rcases e3 with e3 | ⟨e3,e5⟩
  ·omega
  ·refine⟨e5,fun L2 c2 hc2 hL2 h2=>?_⟩
   rcases (show c2=0∨c2=1 by omega) with rfl | rfl <;> omega
structure Lg (V U0 k:Nat) (l ql:List Nat):Prop where
 eq:U0=WB^k*nv (ql.drop k)*V+nv l
 lt:nv l<V*WB^k
theorem Lg.step {V U0 j q:Nat}{l l2 ql:List Nat}(h:Lg V U0 (j+1) l ql) (hj:j<ql.length) (hV:0<V) (hq:q=nv l/(WB^j*V)) (hl2:nv l2=nv l%(WB^j*V)):Lg V U0 j l2 (ql.set j q):=by
 have hD:0<WB^j*V:=Nat.mul_pos (Nat.pow_pos WB_pos) hV
 have e2:(ql.set j q).drop j=q::ql.drop (j+1):=by
  rw [List.drop_eq_getElem_cons (by rw [List.length_set];exact hj)]
  congr 1
  ·simp
  ·rw [List.drop_set_of_lt (by omega)]
 refine⟨?_,?_⟩
 ·have e3:=Nat.div_add_mod (nv l) (WB^j*V)
  rw [←hq,←hl2] at e3
  rw [h.eq,e2,nv_cons,Nat.mul_add,Nat.add_mul,Nat.pow_succ,Nat.mul_assoc (WB^j) WB,←e3]
  have e4:WB^j*q*V=WB^j*V*q:=Nat.mul_right_comm _ _ _
  omega
 ·rw [hl2,Nat.mul_comm V];exact Nat.mod_lt _ hD
theorem top_three {l:List Nat}{j n:Nat}(hn:2≤n) (hl:j+n+1≤l.length) (hw:Wf l) (hlt:nv l<WB^(j+n+1)):
  nv l/WB^(j+n-2)=(l.getD (j+n) 0*WB+l.getD (j+n-1) 0)*WB+l.getD (j+n-2) 0:=by
 obtain⟨m,rfl⟩:∃m,n=m+2:=⟨n-2,by omega⟩
 have e0:=nv_split l (j+(m+2)+1) hl
 have e00:nv l=nv (l.take (j+(m+2)+1)):=by
  rcases Nat.eq_zero_or_pos (nv (l.drop (j+(m+2)+1))) with h | h
  ·rw [h,Nat.mul_zero,Nat.add_zero] at e0;exact e0
  ·have:=Nat.le_mul_of_pos_right (WB^(j+(m+2)+1)) h
   omega
 have e1:=nv_take_snoc l (j+(m+2)) (by omega)
 have e2:=nv_take_snoc l (j+m+1) (by omega)
 have e3:=nv_take_snoc l (j+m) (by omega)
 rw [show j+m+1+1=j+(m+2) from by omega] at e2
 rw [show j+(m+2)-2=j+m from by omega,show j+(m+2)-1=j+m+1 from by omega,e00,e1,e2,e3]
 have h4:=nv_take_lt hw (j+m)
 rw [show WB^(j+(m+2))=WB^(j+m)*(WB*WB) from by rw [show j+(m+2)=j+m+1+1 from by omega,Nat.pow_succ,Nat.pow_succ,Nat.mul_assoc],show WB^(j+m+1)=WB^(j+m)*WB from Nat.pow_succ _ _]
 generalize l.getD (j+(m+2)) 0=u2
 generalize l.getD (j+m+1) 0=u1
 generalize l.getD (j+m) 0=u0
 have e5:nv (l.take (j+m))+WB^(j+m)*u0+WB^(j+m)*WB*u1+WB^(j+m)*(WB*WB)*u2=WB^(j+m)*((u2*WB+u1)*WB+u0)+nv (l.take (j+m)):=by
  have e6:WB^(j+m)*WB*u1=WB^(j+m)*(u1*WB):=by rw [Nat.mul_assoc,Nat.mul_comm WB u1]
  have e7:WB^(j+m)*(WB*WB)*u2=WB^(j+m)*(u2*WB*WB):=by rw [Nat.mul_assoc,Nat.mul_comm (WB*WB),←Nat.mul_assoc u2]
  rw [e6,e7,Nat.add_mul,Nat.mul_add,Nat.mul_add]
  omega
 rw [e5,Nat.mul_add_div (Nat.pow_pos WB_pos),Nat.div_eq_of_lt h4,Nat.add_zero]
theorem top_two {l:List Nat}{n:Nat}(hn:2≤n) (hl:l.length=n) (hw:Wf l):nv l/WB^(n-2)=l.getD (n-1) 0*WB+l.getD (n-2) 0:=by
 obtain⟨m,rfl⟩:∃m,n=m+2:=⟨n-2,by omega⟩
 have e0:nv l=nv (l.take (m+1+1)):=by rw [List.take_of_length_le (by omega)]
 have e1:=nv_take_snoc l (m+1) (by omega)
 have e2:=nv_take_snoc l m (by omega)
 have h4:=nv_take_lt hw m
 rw [show m+2-2=m from rfl,show m+2-1=m+1 from rfl,e0,e1,e2,Nat.pow_succ]
 generalize l.getD (m+1) 0=u1
 generalize l.getD m 0=u0
 have e5:nv (l.take m)+WB^m*u0+WB^m*WB*u1=WB^m*(u1*WB+u0)+nv (l.take m):=by
  rw [Nat.mul_assoc,Nat.mul_comm WB u1,Nat.mul_add];omega
 rw [e5,Nat.mul_add_div (Nat.pow_pos WB_pos),Nat.div_eq_of_lt h4,Nat.add_zero]
theorem long_guess {V U0 j n d:Nat}{l vs ql:List Nat}(h:Lg V U0 (j+1) l ql) (hn:2≤n) (hl:j+n+1≤l.length) (hw:Wf l) (hvl:vs.length=n) (hvw:Wf vs) (hV:nv vs=V) (hv1:0<vs.getD (n-1) 0):
  nv l<WB^(j+n+1)∧l.getD (j+n) 0≤vs.getD (n-1) 0∧(d≤18446744073709551615→d*(vs.getD (n-1) 0*WB+vs.getD (n-2) 0)≤(l.getD (j+n) 0*WB+l.getD (j+n-1) 0)*WB+l.getD (j+n-2) 0→
   (d=18446744073709551615∨(l.getD (j+n) 0*WB+l.getD (j+n-1) 0)*WB+l.getD (j+n-2) 0<(d+1)*(vs.getD (n-1) 0*WB+vs.getD (n-2) 0))→nv l/(WB^j*V)≤d∧d≤nv l/(WB^j*V)+1):=by
 have hVlt:V<WB^n:=by rw [←hV,←hvl];exact nv_lt hvw
 have hlt:nv l<WB^(j+n+1):=by
  have h1:=h.lt
  have h2:V*WB^(j+1)≤WB^n*WB^(j+1):=Nat.mul_le_mul_right _ (Nat.le_of_lt hVlt)
  rw [←Nat.pow_add,show n+(j+1)=j+n+1 from by omega] at h2
  omega
 have t3:=top_three hn hl hw hlt
 have t2:=top_two hn hvl hvw
 rw [hV] at t2
 refine⟨hlt,?_,?_⟩
 ·have h1:WB^(j+n)*l.getD (j+n) 0≤nv l:=by
   have e0:=nv_split l (j+n+1) hl
   have e1:=nv_take_snoc l (j+n) (by omega)
   omega
  have h2:V<WB^(n-1)*(vs.getD (n-1) 0+1):=by
   have e1:=nv_take_snoc vs (n-1) (by omega)
   rw [Nat.sub_add_cancel (by omega),List.take_of_length_le (by omega),hV] at e1
   have e2:=nv_take_lt hvw (n-1)
   rw [e1,Nat.mul_add,Nat.mul_one]
   omega
  have h3:V*WB^(j+1)<WB^(n-1)*(vs.getD (n-1) 0+1)*WB^(j+1):=Nat.mul_lt_mul_of_pos_right h2 (Nat.pow_pos WB_pos)
  rw [Nat.mul_right_comm,←Nat.pow_add,show n-1+(j+1)=j+n from by omega] at h3
  have h4:=h.lt
  have h5:WB^(j+n)*l.getD (j+n) 0<WB^(j+n)*(vs.getD (n-1) 0+1):=by omega
  have:=Nat.lt_of_mul_lt_mul_left h5
  omega
 ·intro hd h1 h2
  rw [←t3] at h1 h2
  rw [←t2] at h1 h2
  have hVh:V/WB^(n-2)=(WB^j*V)/WB^(j+n-2):=by
   rw [show j+n-2=j+(n-2) from by omega,Nat.pow_add,Nat.mul_div_mul_left _ _ (Nat.pow_pos WB_pos)]
  refine guess_near (M:=WB^(j+n-2)) (Nat.pow_pos WB_pos) rfl hVh ?_ (by rw [WB_def];omega) h1 h2 ?_
  ·rw [t2]
   have:=Nat.le_mul_of_pos_left WB hv1
   omega
  ·have:=h.lt
   rw [Nat.pow_succ,←Nat.mul_assoc,Nat.mul_comm V] at this
   exact this
theorem long_end {X Y s Q L:Nat}(hY:0<Y) (h:X*2^s=Q*(Y*2^s)+L) (hL:L<Y*2^s):Q=X/Y∧L/2^s=X%Y:=by
 have hp:=Nat.two_pow_pos s
 have h1:X*2^s/(Y*2^s)=Q:=by rw [h,Nat.mul_comm Q,Nat.mul_add_div (Nat.mul_pos hY hp),Nat.div_eq_of_lt hL,Nat.add_zero]
 have h2:X*2^s%(Y*2^s)=L:=by rw [h,Nat.mul_comm Q,Nat.mul_add_mod,Nat.mod_eq_of_lt hL]
 rw [Nat.mul_div_mul_right _ _ hp] at h1
 rw [Nat.mul_mod_mul_right] at h2
 exact⟨h1.symm,by rw [←h2,Nat.mul_div_cancel _ hp]⟩
theorem long_start {xs ys:List Nat}{N n s y:Nat}(hx:Wf xs) (hy:Wf ys) (hxl:xs.length=N) (hyl:ys.length=n) (hn:1≤n) (hnN:n≤N) (hyk:ys.getD (n-1) 0=y) (hy0:y≠0) (hyb:y≤18446744073709551615) (hs:s+blen y=64):
  s<64∧nv ys*2^s<WB^n∧nv xs*2^s<WB^(N+1)∧0<nv ys*2^s∧WB^(n-1)≤nv ys*2^s∧nv xs*2^s<nv ys*2^s*WB^(N+1-n):=by
 have hb:blen y≠0:=fun h=>hy0 (blen_eq_zero.1 h)
 have hp:=Nat.two_pow_pos s
 have e1:=nv_take_snoc ys (n-1) (by omega)
 rw [Nat.sub_add_cancel hn,List.take_of_length_le (by omega),hyk] at e1
 have h1:=nv_take_lt hy (n-1)
 have h2:WB^(n-1)≤nv ys:=by
  have:=Nat.le_mul_of_pos_right (WB^(n-1)) (show 0<y by omega)
  omega
 have h3:nv ys≤nv ys*2^s:=Nat.le_mul_of_pos_right _ hp
 have h4:=lt_blen y
 have hX:=nv_lt hx
 rw [hxl] at hX
 have hpw:=Nat.pow_pos (n:=n-1) WB_pos
 refine⟨by omega,?_,?_,by omega,by omega,?_⟩
 ·have h5:nv ys<WB^(n-1)*(y+1):=by rw [Nat.mul_add,Nat.mul_one];omega
  have h6:WB^(n-1)*(y+1)≤WB^(n-1)*2^blen y:=Nat.mul_le_mul_left _ h4
  have h7:nv ys*2^s<WB^(n-1)*2^blen y*2^s:=Nat.mul_lt_mul_of_pos_right (by omega) hp
  rw [Nat.mul_assoc,←Nat.pow_add,Nat.add_comm (blen y),hs,←WB_pow,←Nat.pow_succ,Nat.succ_eq_add_one,Nat.sub_add_cancel hn] at h7
  exact h7
 ·rw [Nat.pow_succ]
  have h5:2^s≤WB:=by rw [WB_pow];exact Nat.pow_le_pow_right (by omega) (by omega)
  have h6:=Nat.mul_lt_mul_of_pos_right hX hp
  have h7:=Nat.mul_le_mul_left (WB^N) h5
  omega
 ·have h5:WB^N≤nv ys*WB^(N+1-n):=by
   have:=Nat.mul_le_mul_right (WB^(N+1-n)) h2
   rw [←Nat.pow_add,show n-1+(N+1-n)=N from by omega] at this
   exact this
  rw [Nat.mul_right_comm]
  exact Nat.mul_lt_mul_of_pos_right (by omega) hp
theorem guess_quiet {u2 u1 u0 v1 v0 D:Nat}(h2:u2≤v1) (h1:u1≤18446744073709551615) (h0:u0≤18446744073709551615) (hv1:v1≤18446744073709551615) (hv0:v0≤18446744073709551615) (hpos:0<v1)
  (k1:D≤18446744073709551615) (k2:D*(v1*WB+v0)≤(u2*WB+u1)*WB+u0) (k3:D=18446744073709551615∨(u2*WB+u1)*WB+u0<(D+1)*(v1*WB+v0)) (w:World) (n:Nat):
  Calls Tryz.prog 205 #[.int .u64 (u2:Int),.int .u64 (u1:Int),.int .u64 (u0:Int),.int .u64 (v1:Int),.int .u64 (v0:Int)] (w.drewN n) (fun e w''=>e= .returned (.int .u64 (D:Int))∧∃m,w''=w.drewN m):=by
 refine Calls.quiet_of ((divnat_guess h2 h1 h0 hv1 hv0 hpos (w.drewN n)).mono ?_)
 rintro e w' ⟨d,rfl,a,b,c,m,rfl⟩
 rw [guess_only a b.out c.out k1 k2 k3]
 exact⟨rfl,m,rfl⟩
theorem lt_of_drop {l l1:List Nat}{K:Nat}(hl:K≤l.length) (hl1:K≤l1.length) (hw:Wf l1) (hd:l1.drop K=l.drop K) (h:nv l<WB^K):nv l1<WB^K:=by
 have e1:=nv_split l K hl
 have e2:=nv_split l1 K hl1
 have h3:=nv_take_lt hw K
 rw [hd] at e2
 rcases Nat.eq_zero_or_pos (nv (l.drop K)) with h0 | h0
 ·rw [h0,Nat.mul_zero] at e2;omega
 ·have:=Nat.le_mul_of_pos_right (WB^K) h0
  omega
set_option maxRecDepth 10000 in
set_option maxHeartbeats 8000000 in
theorem divnat_long {w:World}{A B:Option Addr}{N cap n cap':Nat}{xs ys:List Nat}(hx:Rd w A N cap xs) (hN:N≤274877906944) (hy:Rd w B n cap' ys) (hn:2≤n) (hnN:n≤N) (htop:ys.getD (n-1) 0≠0):
  Calls Tryz.prog 181 #[.slice A N cap,.slice B n cap'] w (RetQR w (nv xs/nv ys) (nv xs%nv ys)):=by
 obtain⟨b,y,rfl,hyk,hyb,hcy⟩:=hy.get (i:=n-1) (by omega)
 have hlx:=Lib.hid hx.len
 have hly:=Lib.hid hy.len
 have hyp:(0:Int)<(n:Int):=by omega
 go_enter Tryz.func181,Tryz.ntmps181
 go_wp2_with fail
 refine (bits_LeadingZeros64 y hyb _).mono ?_
 rintro e w' ⟨s,hs,hs64',rfl,rfl⟩
 have hstart:=long_start hx.wf hy.wf hlx.out hly.out (by omega) hnN hyk.out (by rw [←hyk.out];exact htop) hyb hs.out
 obtain⟨hs64,hVfit,hUfit,hVpos,hVlow,hUV⟩:=hstart
 have HVfit:=Lib.hid hVfit
 have HUfit:=Lib.hid hUfit
 have HVpos:=Lib.hid hVpos
 have HVlow:=Lib.hid hVlow
 have HUV:=Lib.hid hUV
 clear hVfit hUfit hVpos hVlow hUV htop
 go_wp2_with fail
 refine (divnat_shifted hy (by omega) hs64 (by omega) (Nat.le_refl _) HVfit.out).mono ?_
 rintro e w1 ⟨gv,vs,rfl,hgv,hbv,hwv,hlv,hvv,hx1⟩
 go_wp2_with fail
 refine (divnat_shifted (n:=N+1) (hx.ext hx1) (by omega) hs64 (by omega) (by omega) HUfit.out).mono ?_
 rintro e w2 ⟨gu,us,rfl,hgu,hbu,hwu,hlu,hvu,hx2⟩
 obtain⟨M,hM1,hM2⟩:∃M,M+n≤N+1∧N+1≤M+n:=⟨N+1-n,by omega,by omega⟩
 have hmk:=run_make1 (P:=Tryz.prog) Tryz.underlying24 info64 rfl (by decide) ((N:Int)-(n:Int)+1) (by omega) (by omega)
 have et:((N:Int)-(n:Int)+1).toNat=M:=by omega
 rw [et] at hmk
 clear et
 go_wp2_with fail
 clear hmk
 have hbv2:=hbv.ext hx2
 have hguv:gv<gu:=Nat.lt_of_lt_of_le hbv.lt hgu
 obtain⟨gq,hgq⟩:∃gq,w2.heap.size=gq:=⟨_,rfl⟩
 rw [hgq]
 have hguq:gu<gq:=by rw [←hgq];exact hbu.lt
 obtain⟨wa,hwa⟩:∃wa,w2.alloc (.cells (zc (.int .u64 0) M) 67)=wa:=⟨_,rfl⟩
 rw [hwa]
 have hbq:Bk wa gq 67 ((List.replicate M 0).map W64):=by
  rw [←hwa,←hgq,←replicate_W64];exact Bk.new' _ _ _
 have hea:Ext w2 wa:=by rw [←hwa];exact (Ext.refl w2).alloc _
 have hgw:w.heap.size≤gv:=hgv
 have hgw2:w.heap.size≤gu:=by omega
 have hgw3:w.heap.size≤gq:=by omega
 have hbva:=hbv2.ext hea
 have hbua:=hbu.ext hea
 have hexa:Ext w wa:=(hx1.trans hx2).trans hea
 clear hgq hwa hbv hbu hbv2 hea hcy
 have hL0:Hid (Lg (nv ys*2^s) (nv xs*2^s) M us (List.replicate M 0)):=by
  refine⟨?_,?_⟩
  ·rw [List.drop_of_length_le (by rw [List.length_replicate];exact Nat.le_refl _),hvu.out];simp [nv]
  ·rw [hvu.out,show M=N+1-n from by omega];exact HUV.out
 have hv1:Hid (0<vs.getD (n-1) 0):=by
  refine Nat.pos_of_ne_zero (fun h0=>?_)
  have e1:=nv_take_zero vs (n-1) (by rw [hlv.out];omega) h0
  rw [Nat.sub_add_cancel (by omega),List.take_of_length_le (by rw [hlv.out];exact Nat.le_refl _),hvv.out] at e1
  have e2:=nv_take_lt hwv (n-1)
  have:=HVlow.out
  omega
 go_loopw [11] (fun u wr=>∃(k:Nat) (l ql:List Nat),k≤M∧u= .int .i64 ((k:Int)-1)∧Hid (l.length=N+1)∧Wf l∧Hid (ql.length=M)∧Wf ql∧Bk wr gv 67 (vs.map W64)∧Bk wr gu 67 (l.map W64)∧Bk wr gq 67 (ql.map W64)∧
  Hid (Lg (nv ys*2^s) (nv xs*2^s) k l ql)∧Ext w wr) (fun u wr=>(intOf u+1).toNat)
 case atStart=>exact⟨M,us,_,Nat.le_refl _,val_int (by omega),hlu,hwu,List.length_replicate,Wf_zeros _,hbva,hbua,hbq,hL0,hexa⟩
 case round=>
  obtain⟨k,l,ql,hk,rfl,hll,hwl,hlq,hwq,hbv,hbu,hbq',hL,hr⟩:=hrel
  clear hbva hbua hbq hexa hL0 hlu hvu
  by_cases hk0:0<k
  ·obtain⟨j,rfl⟩:∃j,k=j+1:=⟨k-1,by omega⟩
   have ek:((j+1:Nat):Int)-1=(j:Int):=by omega
   rw [ek]
   obtain⟨u2,hu2k,hu2b,hcu2⟩:=hbu.word hwl (i:=j+n) (by rw [hll.out];omega)
   obtain⟨u1,hu1k,hu1b,hcu1⟩:=hbu.word hwl (i:=j+n-1) (by rw [hll.out];omega)
   obtain⟨u0,hu0k,hu0b,hcu0⟩:=hbu.word hwl (i:=j+n-2) (by rw [hll.out];omega)
   obtain⟨v1,hv1k,hv1b,hcv1⟩:=hbv.word hwv (i:=n-1) (by rw [hlv.out];omega)
   obtain⟨v0,hv0k,hv0b,hcv0⟩:=hbv.word hwv (i:=n-2) (by rw [hlv.out];omega)
   have hgs:=fun d=>long_guess (d:=d) hL.out hn (by rw [hll.out];omega) hwl hlv.out hwv hvv.out hv1.out
   rw [hu2k.out,hu1k.out,hu0k.out,hv1k.out,hv0k.out] at hgs
   have hu2v:u2≤v1:=(hgs 0).2.1
   have hv1p:0<v1:=by rw [←hv1k.out];exact hv1.out
   have HGS:=Lib.hid hgs
   clear hgs
   have hfin:∀(q:Nat) (l2:List Nat) (wr2:World),q=nv l/(WB^j*(nv ys*2^s))→nv l2=nv l%(WB^j*(nv ys*2^s))→q≤18446744073709551615→l2.length=N+1→Wf l2→Bk wr2 gv 67 (vs.map W64)→Bk wr2 gu 67 (l2.map W64)→Bk wr2 gq 67 ((ql.set j q).map W64)→Ext w wr2→
     ∃(k:Nat) (l ql:List Nat),k≤M∧Value.int .i64 ((j:Int)-1)= .int .i64 ((k:Int)-1)∧Hid (l.length=N+1)∧Wf l∧Hid (ql.length=M)∧Wf ql∧Bk wr2 gv 67 (vs.map W64)∧Bk wr2 gu 67 (l.map W64)∧Bk wr2 gq 67 (ql.map W64)∧
      Hid (Lg (nv ys*2^s) (nv xs*2^s) k l ql)∧Ext w wr2:=by
    intro q l2 wr2 h1 h2 h3 h4 h5 h6 h7 h8 h9
    exact⟨j,l2,ql.set j q,by omega,rfl,h4,h5,(show _=_ by rw [List.length_set];exact hlq.out),Wf_set hwq j (by rw [WB_def];omega),h6,h7,h8,hL.out.step (by rw [hlq.out];omega) HVpos.out h1 h2,h9⟩
   have FIN:=Lib.hid hfin
   clear hfin
   go_upto_region 9 with (fail)
   obtain⟨d,hdb,hd1,hd2⟩:=guess_is ((u2*WB+u1)*WB+u0) (v1*WB+v0) (by rw [WB_def];omega)
   have hdd:=Lib.hid ((HGS.out d).2.2 hdb hd1 hd2)
   have HLT:=Lib.hid (HGS.out d).1
   have HD1:=Lib.hid hd1
   have HD2:=Lib.hid hd2
   clear hd1 hd2 HGS
   have w1e:IntKind.i64.wrap ((j:Int)+(n:Int))=(j:Int)+(n:Int):=IntWalk.i64_in _ (by omega)
   have w2e:IntKind.i64.wrap ((j:Int)+(n:Int)-1)=(j:Int)+(n:Int)-1:=IntWalk.i64_in _ (by omega)
   have w3e:IntKind.i64.wrap ((j:Int)+(n:Int)-2)=(j:Int)+(n:Int)-2:=IntWalk.i64_in _ (by omega)
   have w4e:IntKind.i64.wrap ((n:Int)-1)=(n:Int)-1:=IntWalk.i64_in _ (by omega)
   have w5e:IntKind.i64.wrap ((n:Int)-2)=(n:Int)-2:=IntWalk.i64_in _ (by omega)
   have t1:((j:Int)+(n:Int)).toNat=j+n:=by omega
   have t2:((j:Int)+(n:Int)-1).toNat=j+n-1:=by omega
   have t3:((j:Int)+(n:Int)-2).toNat=j+n-2:=by omega
   have t4:((n:Int)-1).toNat=n-1:=by omega
   have t5:((n:Int)-2).toNat=n-2:=by omega
   have b1:0≤(j:Int)+(n:Int):=by omega
   have b2:0≤(j:Int)+(n:Int)-1:=by omega
   have b3:0≤(j:Int)+(n:Int)-2:=by omega
   have b4:0≤(n:Int)-1:=by omega
   have b5:0≤(n:Int)-2:=by omega
   have c1:(j:Int)+(n:Int)<(N:Int)+1:=by omega
   have c2:(j:Int)+(n:Int)-1<(N:Int)+1:=by omega
   have c3:(j:Int)+(n:Int)-2<(N:Int)+1:=by omega
   have c4:(n:Int)-1<(n:Int):=by omega
   have c5:(n:Int)-2<(n:Int):=by omega
   go_quiet (exact guess_quiet hu2v hu1b hu0b hv1b hv0b hv1p hdb HD1.out HD2.out _ _)
   clear w1e w2e w3e w4e w5e t1 t2 t3 t4 t5 b1 b2 b3 b4 b5 c1 c2 c3 c4 c5
   obtain⟨wd,hwd⟩:∃wd,wr.drewN nq=wd:=⟨_,rfl⟩
   rw [hwd]
   have hbu1:Bk wd gu 67 (l.map W64):=by rw [←hwd];exact hbu.drewN nq
   have hbv1:Bk wd gv 67 (vs.map W64):=by rw [←hwd];exact hbv.drewN nq
   have hbq1:Bk wd gq 67 (ql.map W64):=by rw [←hwd];exact hbq'.drewN nq
   have hr1:Ext w wd:=by rw [←hwd];exact hr.drewN nq
   clear hwd hcu2 hcu1 hcu0 hcv1 hcv0
   have hvrd:=hbv1.rd hwv (o:=0) (n:=n) (cap:=n) (Nat.le_refl _) (by rw [hlv.out];omega) (by rw [len_maxLen];omega)
   rw [List.drop_zero,List.take_of_length_le (by rw [hlv.out];exact Nat.le_refl _)] at hvrd
   go_wp2_with fail
   rw [show j+n+1-j=n+1 from by omega]
   refine (divnat_take (o:=j) (m:=n) hbu1 hwl hvrd (fun a ha=>by cases ha;show gv≠gu;omega) (by rw [hll.out];omega) (by omega) (by omega) hdb).mono ?_
   rintro e w4 ⟨bb,rfl,l1,c,hb4,hw4,hll4,hdr4,hc4,hP4,hu4⟩
   have hll4':Hid (l1.length=N+1):=(show _=_ by rw [hll4.out,hll.out])
   have hL1:Hid (nv l1<WB^(j+n+1)):=lt_of_drop (by rw [hll.out];omega) (by rw [hll4'.out];omega) hw4 hdr4.out HLT.out
   have hcase:=long_case (D:=WB^j*(nv ys*2^s)) (Nat.mul_pos (Nat.pow_pos WB_pos) HVpos.out) hdd.out.1 hdd.out.2 HLT.out hL1.out (by
    have h:=hP4.out.2
    rw [hvv.out,Nat.mul_left_comm] at h
    exact h) hc4
   have hbc:=hP4.out.1
   have hbv4:=hbv1.upd hu4 (by omega)
   have hbq4:=hbq1.upd hu4 (by omega)
   have hr4:=hu4.ext hr1 hgw2
   have hbb:bb=false∧c=0∨bb=true∧c=1:=by
    rcases bb with _ | _
    ·left;refine⟨rfl,?_⟩;simp at hbc;omega
    ·right;exact⟨rfl,hbc.1 rfl⟩
   clear hP4 hbc hc4 hbv hbu hbq' hbu1 hbv1 hbq1 hr hr1 hvrd
   rcases hbb with⟨rfl,hc⟩ | ⟨rfl,hc⟩
   ·have h0:=Lib.hid (hcase.1 hc)
    clear hcase hc
    obtain⟨z,hz,_,hcz⟩:=hbq4.word hwq (i:=j) (by rw [hlq.out];omega)
    have hfz:=hbq4.frozen j
    have hjM:(j:Int)<(M:Int):=by omega
    go_wp2_with fail
    go_roundw
    case rel=>exact FIN.out d l1 _ h0.out.1 h0.out.2 hdb hll4'.out hw4 (hbv4.far (by show gv≠gq;omega) _) (hb4.far (by show gu≠gq;omega) _) (by rw [←map_W64_set];exact hbq4.set _ _) (hr4.setCell hgw3 _)
    case measure=>simp [intOf]
   ·have h0:=Lib.hid (hcase.2 hc)
    clear hcase hc
    obtain⟨q,rfl⟩:∃q,d=q+1:=⟨_,h0.out.1⟩
    have hq:Hid (q=nv l/(WB^j*(nv ys*2^s))):=(show _=_ from Nat.succ.inj h0.out.1)
    have hvrd:=hbv4.rd hwv (o:=0) (n:=n) (cap:=n) (Nat.le_refl _) (by rw [hlv.out];omega) (by rw [len_maxLen];omega)
    rw [List.drop_zero,List.take_of_length_le (by rw [hlv.out];exact Nat.le_refl _)] at hvrd
    go_wp2_with fail
    rw [show j+n+1-j=n+1 from by omega]
    refine (divnat_give (o:=j) (m:=n) hb4 hw4 hvrd (fun a ha=>by cases ha;show gv≠gu;omega) (by rw [hll4'.out];omega) (by omega) (by omega)).mono ?_
    rintro e w5 ⟨rfl,l2,c2,hb5,hw5,hll5,hdr5,hc5,hP5,hu5⟩
    have hll5':Hid (l2.length=N+1):=(show _=_ by rw [hll5.out,hll4'.out])
    have hL2:Hid (nv l2<WB^(j+n+1)):=lt_of_drop (by rw [hll4'.out];omega) (by rw [hll5'.out];omega) hw5 hdr5.out hL1.out
    have hfin2:Hid (nv l2=nv l%(WB^j*(nv ys*2^s))):=h0.out.2 (nv l2) c2 hc5 hL2.out (by have h:=hP5.out;rw [hvv.out] at h;exact h)
    have hbv5:=hbv4.upd hu5 (by omega)
    have hbq5:=hbq4.upd hu5 (by omega)
    have hr5:=hu5.ext hr4 hgw2
    clear hP5 hc5 hbv4 hbq4 hr4 hb4 hvrd h0
    obtain⟨z,hz,_,hcz⟩:=hbq5.word hwq (i:=j) (by rw [hlq.out];omega)
    have hfz:=hbq5.frozen j
    have hjM:(j:Int)<(M:Int):=by omega
    go_wp2_with fail
    go_roundw
    case rel=>exact FIN.out q l2 _ hq.out hfin2.out (by omega) hll5'.out hw5 (hbv5.far (by show gv≠gq;omega) _) (hb5.far (by show gu≠gq;omega) _) (by rw [←map_W64_set];exact hbq5.set _ _) (hr5.setCell hgw3 _)
    case measure=>simp [intOf]
  ·obtain rfl:k=0:=by omega
   have ek:((0:Nat):Int)-1= -1:=rfl
   rw [ek]
   have hLv:Hid (nv l<nv ys*2^s):=by
    have:=hL.out.lt
    rw [Nat.pow_zero,Nat.mul_one] at this
    exact this
   have hQ:=long_end (X:=nv xs) (Y:=nv ys) (s:=s) (Q:=nv ql) (L:=nv l) (Nat.pos_of_mul_pos_right HVpos.out) (by have:=hL.out.eq;simpa using this) hLv.out
   have hln:Hid (nv (l.take n)=nv l):=by
    show _=_
    have e1:=nv_split l n (by rw [hll.out];omega)
    rcases Nat.eq_zero_or_pos (nv (l.drop n)) with h0 | h0
    ·rw [h0,Nat.mul_zero,Nat.add_zero] at e1;exact e1.symm
    ·have:=Nat.le_mul_of_pos_right (WB^n) h0
     have h2:=hLv.out
     have h3:=HVfit.out
     omega
   have HQ:=Lib.hid hQ
   clear hQ
   have hurd:=hbu.rd hwl (o:=0) (n:=n) (cap:=N+1) (by omega) (by rw [hll.out];omega) (by rw [len_maxLen];omega)
   rw [List.drop_zero] at hurd
   go_wp2_with fail
   refine (nat_Shr hurd (by omega) (by omega)).mono ?_
   rintro e w6 ⟨A6,n6,c6,rfl,hn6,hr6,ho6,hx6⟩
   rw [hln.out,HQ.out.2] at hn6 hr6 ho6
   have hqrd:=(hbq'.ext hx6).rd hwq (o:=0) (n:=M) (cap:=M) (Nat.le_refl _) (by rw [hlq.out];omega) (by rw [len_maxLen];omega)
   rw [List.drop_zero,List.take_of_length_le (by rw [hlq.out];exact Nat.le_refl _)] at hqrd
   go_wp2_with fail
   refine (nat_Least hqrd (by omega)).mono ?_
   rintro e w7 ⟨A7,n7,c7,rfl,hn7,hr7,ho7,hx7⟩
   rw [HQ.out.1] at hn7 hr7 ho7
   go_wp2_with fail
   go_ret2
   exact⟨A7,n7,c7,A6,n6,c6,rfl,hn7,hr7,ho7.mono (hr.trans hx6).size,hn6,hr6.ext hx7,(ho6.mono hr.size).ext hx7,(hr.trans hx6).trans hx7⟩
def RetQRE (w:World) (q r:Nat) (er:Int) (e:Ending) (w':World):Prop:=
 ∃A n cap B m cap',e= .returned (.tuple #[.slice A n cap,.slice B m cap',.int .i64 er])∧Hid (n=(wd q).length)∧Rd w' A n cap (wd q)∧Own w' w.heap.size 67 1 A n cap ((wd q).map W64)∧
  Hid (m=(wd r).length)∧Rd w' B m cap' (wd r)∧Own w' w.heap.size 67 1 B m cap' ((wd r).map W64)∧Ext w w'
theorem wd_top {m:Nat}(h:m≠0):(wd m).getD ((wd m).length-1) 0≠0:=by
 intro h0
 have hl:0<(wd m).length:=Nat.pos_of_ne_zero (fun e=>h (len_wd_zero.1 e))
 have e1:=nv_take_zero (wd m) ((wd m).length-1) (by omega) h0
 rw [Nat.sub_add_cancel (by omega),List.take_of_length_le (Nat.le_refl _),nv_wd] at e1
 have h2:=nv_take_lt (Wf_wd m) ((wd m).length-1)
 have h3:=pow_len_le h
 omega
theorem wd_len_one {m v:Nat}(h:1=(wd m).length) (hv:(wd m).getD 0 0=v):m=v:=by
 have e1:=nv_take_snoc (wd m) 0 (by omega)
 rw [List.take_of_length_le (by omega),nv_wd,hv] at e1
 simpa [nv] using e1
theorem divnat_DivMod_bad {w:World}{A B:Option Addr}{n cap n' cap':Nat}{ys:List Nat}(hy:Rd w B n' cap' ys) (hl':n'≤1099511627775) (h0:nv ys=0):
  Calls Tryz.prog 158 #[.slice A n cap,.slice B n' cap'] w (fun e w'=>e= .returned (.tuple #[.slice none 0 0,.slice none 0 0,.int .i64 4])∧Ext w w'):=by
 go_enter Tryz.func158,Tryz.ntmps158
 go_wp2_with fail
 refine (nat_Least hy (by omega)).mono ?_
 rintro e w1 ⟨A1,n1,c1,rfl,hn1,hr1,ho1,hx1⟩
 obtain rfl:n1=0:=by rw [hn1.out,h0];rfl
 go_wp2_with fail
 go_ret3
 exact⟨rfl,hx1⟩
theorem divnat_DivMod {w:World}{A B:Option Addr}{n cap n' cap':Nat}{xs ys:List Nat}(hx:Rd w A n cap xs) (hl:n≤274877906944) (hy:Rd w B n' cap' ys) (hl':n'≤274877906944) (h0:nv ys≠0):
  Calls Tryz.prog 158 #[.slice A n cap,.slice B n' cap'] w (RetQRE w (nv xs/nv ys) (nv xs%nv ys) 0):=by
 go_enter Tryz.func158,Tryz.ntmps158
 go_wp2_with fail
 refine (nat_Least hy (by omega)).mono ?_
 rintro e w1 ⟨A1,n1,c1,rfl,hn1,hr1,ho1,hx1⟩
 have hn1p:0<n1:=by
  rw [hn1.out];exact Nat.pos_of_ne_zero (fun e=>h0 (len_wd_zero.1 e))
 have hn1b:n1≤n':=by
  have:=len_wd_nv hy.wf
  rw [hn1.out,←hy.len];exact this
 have b0:((n1:Int)==0)=false:=by simp;omega
 by_cases h1:n1=1
 ·subst h1
  obtain⟨a,v,rfl,hvk,hvb,hcv⟩:=hr1.get (i:=0) (by omega)
  have hv:Hid (nv ys=v):=wd_len_one hn1.out hvk.out
  have hcv0:w1.cell? a=some (.int .u64 (v:Int)):=by simpa [Addr.add] using hcv
  go_wp2_with fail
  refine (divnat_Word (hx.ext hx1) (by omega) (v:=v) (by rw [←hv.out];exact h0) hvb).mono ?_
  rintro e w2 ⟨A2,n2,c2,r,rfl,hr,hrb,hn2,hr2,ho2,hx2⟩
  go_wp2_with fail
  have hone:=Rd.one w2 hrb
  refine (nat_Least hone (by omega)).mono ?_
  rintro e w3 ⟨A3,n3,c3,rfl,hn3,hr3,ho3,hx3⟩
  rw [nv_one,hr.out,←hv.out] at hn3 hr3 ho3
  rw [←hv.out] at hn2 hr2 ho2
  have hal:Ext w2 w3:=((Ext.refl w2).alloc _).trans hx3
  go_wp2_with fail
  go_ret3
  exact⟨A2,n2,c2,A3,n3,c3,rfl,hn2,hr2.ext hal,(ho2.mono hx1.size).ext hal,hn3,hr3,ho3.mono (Nat.le_trans (hx1.trans hx2).size (by simp)),(hx1.trans hx2).trans hal⟩
 ·have b1:((n1:Int)==1)=false:=by simp;omega
  go_wp2_with fail
  refine (nat_Least (hx.ext hx1) (by omega)).mono ?_
  rintro e w2 ⟨A2,n2,c2,rfl,hn2,hr2,ho2,hx2⟩
  have hn2b:n2≤n:=by
   have:=len_wd_nv hx.wf
   rw [hn2.out,←hx.len];exact this
  go_wp2_with fail
  refine (nat_Cmp hr2 (by omega) (hr1.ext hx2) (by omega)).mono ?_
  rintro e w3 ⟨c,hc,hcl,hch,rfl,hx3⟩
  rw [nv_wd,nv_wd] at hc
  by_cases hlt:nv xs<nv ys
  ·have hneg:c<0:=by rw [hc.out];exact cmp3_neg.2 hlt
   go_wp2_with fail
   go_ret3
   rw [Nat.div_eq_of_lt hlt,Nat.mod_eq_of_lt hlt]
   exact⟨none,0,0,A2,n2,c2,rfl,rfl,Rd.nil _,Own.nil _ _ _ _,hn2,hr2.ext hx3,(ho2.mono hx1.size).ext hx3,(hx1.trans hx2).trans hx3⟩
  ·have hneg:¬c<0:=by rw [hc.out,cmp3_neg];exact hlt
   have HL:=Lib.hid hlt
   have hn12:n1≤n2:=by rw [hn1.out,hn2.out];exact len_wd_mono (by omega)
   clear hlt
   go_wp2_with fail
   refine (divnat_long (hr2.ext hx3) (by omega) ((hr1.ext hx2).ext hx3) (by omega) hn12 (by rw [hn1.out];exact wd_top h0)).mono ?_
   rintro e w4 ⟨A4,n4,c4,A5,n5,c5,rfl,hn4,hr4,ho4,hn5,hr5,ho5,hx4⟩
   rw [nv_wd,nv_wd] at hn4 hr4 ho4 hn5 hr5 ho5
   go_wp2_with fail
   go_ret3
   have hs:=((hx1.trans hx2).trans hx3)
   exact⟨A4,n4,c4,A5,n5,c5,rfl,hn4,hr4,ho4.mono hs.size,hn5,hr5,ho5.mono hs.size,hs.trans hx4⟩
theorem divnat_Exact_bad {w:World}{A B:Option Addr}{n cap n' cap':Nat}{ys:List Nat}(hy:Rd w B n' cap' ys) (hl':n'≤1099511627775) (h0:nv ys=0):
  Calls Tryz.prog 159 #[.slice A n cap,.slice B n' cap'] w (fun e w'=>e= .returned (.tuple #[.slice none 0 0,.int .i64 4])∧Ext w w'):=by
 go_enter Tryz.func159,Tryz.ntmps159
 go_wp2_with fail
 refine (divnat_DivMod_bad hy hl' h0).mono ?_
 rintro e w1 ⟨rfl,hx1⟩
 go_wp2_with fail
 go_ret2
 exact⟨rfl,hx1⟩
theorem divnat_Exact_not {w:World}{A B:Option Addr}{n cap n' cap':Nat}{xs ys:List Nat}(hx:Rd w A n cap xs) (hl:n≤274877906944) (hy:Rd w B n' cap' ys) (hl':n'≤274877906944) (h0:nv ys≠0) (h1:nv xs%nv ys≠0):
  Calls Tryz.prog 159 #[.slice A n cap,.slice B n' cap'] w (fun e w'=>e= .returned (.tuple #[.slice none 0 0,.int .i64 8])∧Ext w w'):=by
 go_enter Tryz.func159,Tryz.ntmps159
 go_wp2_with fail
 refine (divnat_DivMod hx hl hy hl' h0).mono ?_
 rintro e w1 ⟨A4,n4,c4,A5,n5,c5,rfl,hn4,hr4,ho4,hn5,hr5,ho5,hx4⟩
 have hp:0<n5:=by rw [hn5.out];exact Nat.pos_of_ne_zero (fun e=>h1 (len_wd_zero.1 e))
 go_wp2_with fail
 go_ret2
 exact⟨rfl,hx4⟩
theorem divnat_Exact {w:World}{A B:Option Addr}{n cap n' cap':Nat}{xs ys:List Nat}(hx:Rd w A n cap xs) (hl:n≤274877906944) (hy:Rd w B n' cap' ys) (hl':n'≤274877906944) (h0:nv ys≠0) (h1:nv xs%nv ys=0):
  Calls Tryz.prog 159 #[.slice A n cap,.slice B n' cap'] w (RetWE w (nv xs/nv ys) 0):=by
 go_enter Tryz.func159,Tryz.ntmps159
 have H1:=Lib.hid h1
 clear h1
 go_wp2_with fail
 refine (divnat_DivMod hx hl hy hl' h0).mono ?_
 rintro e w1 ⟨A4,n4,c4,A5,n5,c5,rfl,hn4,hr4,ho4,hn5,hr5,ho5,hx4⟩
 obtain rfl:n5=0:=by rw [hn5.out,H1.out];rfl
 go_wp2_with fail
 go_ret2
 exact⟨A4,n4,c4,rfl,hn4,hr4,ho4,hx4⟩
def sg (s:Bool) (m:Nat):Int:=if s then-(m:Int) else m
theorem sg_false (m:Nat):sg false m=m:=rfl
theorem sg_true (m:Nat):sg true m= -(m:Int):=rfl
theorem sg_abs (s:Bool) (m:Nat):(sg s m).natAbs=m:=by cases s <;> simp [sg]
theorem sg_self (z:Int):sg (decide (z<0)) z.natAbs=z:=by
 by_cases h:z<0
 ·rw [decide_eq_true h,sg_true];omega
 ·rw [decide_eq_false h,sg_false];omega
theorem sg_zero (s:Bool):sg s 0=0:=by cases s <;> rfl
theorem sg_eq_zero {s:Bool}{m:Nat}:sg s m=0↔m=0:=by cases s <;> simp [sg]
theorem sg_not (s:Bool) (m:Nat):sg (!s) m= -sg s m:=by cases s <;> simp [sg]
theorem sg_lt (s:Bool) (m:Nat):decide (sg s m<0)=(s&&decide (0<m)):=by
 cases s
 ·simp [sg]
 ·by_cases h:0<m
  ·simp [sg,h]
  ·have:m=0:=by omega
   subst this
   simp [sg]
theorem sg_add (s:Bool) (m k:Nat):sg s (m+k)=sg s m+sg s k:=by cases s <;> simp [sg] <;> omega
theorem sg_sub {s:Bool}{m k:Nat}(h:k≤m):sg s (m-k)=sg s m+sg (!s) k:=by cases s <;> simp [sg] <;> omega
theorem sg_mul (s t:Bool) (m k:Nat):sg (s != t) (m*k)=sg s m*sg t k:=by
 cases s <;> cases t <;> simp [sg,Int.mul_neg,Int.neg_mul]
theorem sg_tdiv (s t:Bool) (m k:Nat):sg (s != t) (m/k)=(sg s m).tdiv (sg t k):=by
 cases s <;> cases t <;> simp [sg,Int.tdiv_neg,Int.neg_tdiv]
theorem sg_tmod (s t:Bool) (m k:Nat):sg s (m%k)=(sg s m).tmod (sg t k):=by
 cases s <;> cases t <;> simp [sg,Int.tmod_neg,Int.neg_tmod] <;> rfl
def ln (z:Int):Nat:=(wd z.natAbs).length
theorem ln_mono {x y:Int}(h:x.natAbs≤y.natAbs):ln x≤ln y:=len_wd_mono h
theorem ln_neg (x:Int):ln (-x)=ln x:=by unfold ln;rw [Int.natAbs_neg]
theorem ln_add {x y:Int}{a b:Nat}(hx:ln x≤a) (hy:ln y≤b):ln (x+y)≤max a b+1:=by
 have h1:=len_wd_mono (Int.natAbs_add_le x y)
 have h2:=len_wd_add x.natAbs y.natAbs
 unfold ln at*
 omega
theorem ln_sub {x y:Int}{a b:Nat}(hx:ln x≤a) (hy:ln y≤b):ln (x-y)≤max a b+1:=by
 rw [Int.sub_eq_add_neg]
 exact ln_add hx (by rw [ln_neg];exact hy)
theorem ln_mul {x y:Int}{a b:Nat}(hx:ln x≤a) (hy:ln y≤b):ln (x*y)≤a+b:=by
 have h2:=len_wd_mul x.natAbs y.natAbs
 unfold ln at*
 rw [Int.natAbs_mul]
 omega
theorem ln_nat (m:Nat):ln (m:Int)=(wd m).length:=by unfold ln;rw [Int.natAbs_natCast]
def Zi (w:World) (s:Bool) (A:Option Addr) (n cap:Nat) (z:Int):Prop:=∃xs,Rd w A n cap xs∧sg s (nv xs)=z
theorem Zi.ext {w w':World}{s:Bool}{A:Option Addr}{n cap:Nat}{z:Int}(h:Zi w s A n cap z) (e:Ext w w'):Zi w' s A n cap z:=by
 obtain⟨xs,h1,h2⟩:=h
 exact⟨xs,h1.ext e,h2⟩
theorem Zi.ln {w:World}{s:Bool}{A:Option Addr}{n cap:Nat}{z:Int}(h:Zi w s A n cap z):Go.Proofs.YthggegdkpalgbaaGreatDoor.ln z≤n:=by
 obtain⟨xs,h1,rfl⟩:=h
 have:=len_wd_nv h1.wf
 rw [h1.len] at this
 unfold Go.Proofs.YthggegdkpalgbaaGreatDoor.ln
 rw [sg_abs]
 exact this
theorem Zi.not {w:World}{s:Bool}{A:Option Addr}{n cap:Nat}{z:Int}(h:Zi w s A n cap z):Zi w (!s) A n cap (-z):=by
 obtain⟨xs,h1,rfl⟩:=h
 exact⟨xs,h1,sg_not _ _⟩
structure Zr (w:World) (base:Nat) (s:Bool) (A:Option Addr) (n cap:Nat) (z:Int):Prop where
 sgn:s=decide (z<0)
 len:n=ln z
 own:Own w base 67 1 A n cap ((wd z.natAbs).map W64)
theorem Zr.rd {w:World}{base:Nat}{s:Bool}{A:Option Addr}{n cap:Nat}{z:Int}(h:Zr w base s A n cap z):Rd w A n cap (wd z.natAbs):=h.own.rd (Wf_wd _)
theorem Zr.ext {w w':World}{base:Nat}{s:Bool}{A:Option Addr}{n cap:Nat}{z:Int}(h:Zr w base s A n cap z) (e:Ext w w'):Zr w' base s A n cap z:=⟨h.sgn,h.len,h.own.ext e⟩
theorem Zr.mono {w:World}{base base':Nat}{s:Bool}{A:Option Addr}{n cap:Nat}{z:Int}(h:Zr w base s A n cap z) (e:base'≤base):Zr w base' s A n cap z:=⟨h.sgn,h.len,h.own.mono e⟩
theorem Zr.zi {w:World}{base:Nat}{s:Bool}{A:Option Addr}{n cap:Nat}{z:Int}(h:Zr w base s A n cap z):Zi w s A n cap z:=⟨_,h.rd,by rw [nv_wd,h.sgn,sg_self]⟩
theorem Zr.upd {w w':World}{base g:Nat}{s:Bool}{A:Option Addr}{n cap:Nat}{z:Int}(h:Zr w base s A n cap z) (hg:g<base) (e:Upd g w w'):Zr w' base s A n cap z:=
 ⟨h.sgn,h.len,h.own.upd e (fun a ha=>by have:=(h.own.block a ha).1;omega)⟩
theorem Zr.cast {w:World}{base:Nat}{s:Bool}{A:Option Addr}{n cap:Nat}{z z':Int}(h:Zr w base s A n cap z) (e:z=z'):Zr w base s A n cap z':=e▸h
theorem Zr.le {w:World}{base:Nat}{s:Bool}{A:Option Addr}{n cap:Nat}{z:Int}(h:Zr w base s A n cap z){b:Nat}(hb:ln z≤b):n≤b:=by rw [h.len];exact hb
theorem Zr.zero {w:World}{base:Nat}:Zr w base false none 0 0 0:=⟨by decide,rfl,Own.nil _ _ _ _⟩
def RetZ (w:World) (z:Int) (e:Ending) (w':World):Prop:=
 ∃s A n cap,e= .returned (.agg #[.bool s,.slice A n cap])∧Zr w' w.heap.size s A n cap z∧Ext w w'
def RetZZE (w:World) (q r:Int) (er:Int) (e:Ending) (w':World):Prop:=
 ∃s A n cap s' B m cap',e= .returned (.tuple #[.agg #[.bool s,.slice A n cap],.agg #[.bool s',.slice B m cap'],.int .i64 er])∧Zr w' w.heap.size s A n cap q∧Zr w' w.heap.size s' B m cap' r∧Ext w w'
theorem Zr_of {w:World}{base:Nat}{s s':Bool}{A:Option Addr}{n cap m:Nat}{z:Int}(h:s'=decide (sg s m<0)) (hn:n=(wd m).length) (ho:Own w base 67 1 A n cap ((wd m).map W64)) (hz:sg s m=z):Zr w base s' A n cap z:=by
 have e:z.natAbs=m:=by rw [←hz,sg_abs]
 rw [hz] at h
 exact⟨h,by unfold ln;rw [e];exact hn,by rw [e];exact ho⟩
theorem Bk.two {w:World}{g:Nat}{t:TypeId}{a b:Value}(h:Bk w g t [a,b]):w.cell? ⟨g,0,none⟩=some a∧w.cell? ⟨g,1,none⟩=some b∧w.frozen? ⟨g,0,none⟩=false∧w.frozen? ⟨g,1,none⟩=false:=
 ⟨h.cell (i:=0) (by simp),h.cell (i:=1) (by simp),h.frozen 0,h.frozen 1⟩
theorem Bk.two_set {w:World}{g:Nat}{t:TypeId}{a b:Value}(h:Bk w g t [a,b]) (u v:Value):Bk ((w.setCell ⟨g,0,none⟩ u).setCell ⟨g,1,none⟩ v) g t [u,v]:=(h.set 0 u).set 1 v
theorem Upd.two {w:World}{g:Nat}(u v:Value):Upd g w ((w.setCell ⟨g,0,none⟩ u).setCell ⟨g,1,none⟩ v):=((Upd.refl g w).setCell 0 u).setCell 1 v
theorem Bk.sec {w:World}{t t':TypeId}{l:Array Value}{a b:Value}:Bk ((w.alloc (.cells l t')).alloc (.cells #[a,b] t)) (w.heap.size+1) t [a,b]:=by
 have:=Bk.new (w.alloc (.cells l t')) t [a,b]
 simpa using this
theorem Bk.thi {w:World}{t t' t'':TypeId}{l l':Array Value}{a b:Value}:Bk (((w.alloc (.cells l t')).alloc (.cells l' t'')).alloc (.cells #[a,b] t)) (w.heap.size+2) t [a,b]:=by
 have:=Bk.new ((w.alloc (.cells l t')).alloc (.cells l' t'')) t [a,b]
 simpa using this
theorem Bk.fou {w:World}{t t' t'' t''':TypeId}{l l' l'':Array Value}{a b:Value}:Bk ((((w.alloc (.cells l t')).alloc (.cells l' t'')).alloc (.cells l'' t''')).alloc (.cells #[a,b] t)) (w.heap.size+3) t [a,b]:=by
 have:=Bk.new (((w.alloc (.cells l t')).alloc (.cells l' t'')).alloc (.cells l'' t''')) t [a,b]
 simpa using this
theorem boxes2 (w:World) (t t':TypeId) (a b c d:Value):∃g g2 wa,w.heap.size+1=g2∧w.heap.size=g∧(w.alloc (.cells #[a,b] t)).alloc (.cells #[c,d] t')=wa∧Bk wa g t [a,b]∧Bk wa g2 t' [c,d]∧Ext w wa∧g<g2∧g2<wa.heap.size∧g≠g2∧g2≠g:=
 ⟨_,_,_,rfl,rfl,rfl,(Bk.new w t [a,b]).alloc _,Bk.sec,((Ext.refl w).alloc _).alloc _,by omega,by simp,by omega,by omega⟩
theorem boxes3 (w:World) (t t' t'':TypeId) (a b c d e f:Value):∃g g2 g3 wa,w.heap.size+1+1=g3∧w.heap.size+1=g2∧w.heap.size=g∧((w.alloc (.cells #[a,b] t)).alloc (.cells #[c,d] t')).alloc (.cells #[e,f] t'')=wa∧Bk wa g t [a,b]∧Bk wa g2 t' [c,d]∧Bk wa g3 t'' [e,f]∧Ext w wa∧g<g2∧g2<g3∧g3<wa.heap.size∧g≠g2∧g2≠g∧g≠g3∧g3≠g∧g2≠g3∧g3≠g2:=
 ⟨_,_,_,_,rfl,rfl,rfl,rfl,((Bk.new w t [a,b]).alloc _).alloc _,Bk.sec.alloc _,Bk.thi,(((Ext.refl w).alloc _).alloc _).alloc _,by omega,by omega,by simp,by omega,by omega,by omega,by omega,by omega,by omega⟩
theorem boxes4 (w:World) (t t' t'' t''':TypeId) (a b c d e f i j:Value):∃g g2 g3 g4 wa,w.heap.size+1+1+1=g4∧w.heap.size+1+1=g3∧w.heap.size+1=g2∧w.heap.size=g∧(((w.alloc (.cells #[a,b] t)).alloc (.cells #[c,d] t')).alloc (.cells #[e,f] t'')).alloc (.cells #[i,j] t''')=wa∧Bk wa g t [a,b]∧Bk wa g2 t' [c,d]∧Bk wa g3 t'' [e,f]∧Bk wa g4 t''' [i,j]∧Ext w wa∧g<g2∧g2<g3∧g3<g4∧g4<wa.heap.size∧g≠g2∧g2≠g∧g≠g3∧g3≠g∧g2≠g3∧g3≠g2∧g≠g4∧g4≠g∧g2≠g4∧g4≠g2∧g3≠g4∧g4≠g3:=
 ⟨_,_,_,_,_,rfl,rfl,rfl,rfl,rfl,(((Bk.new w t [a,b]).alloc _).alloc _).alloc _,(Bk.sec.alloc _).alloc _,Bk.thi.alloc _,Bk.fou,((((Ext.refl w).alloc _).alloc _).alloc _).alloc _,by omega,by omega,by omega,by simp,by omega,by omega,by omega,by omega,by omega,by omega,by omega,by omega,by omega,by omega,by omega,by omega⟩
theorem fin_int {w w2:World}{g base:Nat}{T:TypeId}{x y:Value}{s:Bool}{A:Option Addr}{n cap:Nat}{z:Int}(_hb:Bk w2 g T [x,y]) (hz:Zr w2 base s A n cap z) (hg:g<base) (hw:w.heap.size≤g) (he:Ext w w2):
  RetZ w z (.returned (.agg #[.bool s,.slice A n cap])) ((w2.setCell ⟨g,0,none⟩ (.bool s)).setCell ⟨g,1,none⟩ (.slice A n cap)):=
 ⟨s,A,n,cap,rfl,(hz.upd hg (Upd.two _ _)).mono (by omega),(Upd.two _ _).ext he hw⟩
theorem res_int {w:World}{g:Nat}{t:TypeId}{a b:Value}{fn:Func}{s:Tmp}(hf:fn.results= #[.cell s 26]){tmps:Array Value}(hs:tmps.getD s undef= .pointer (some ⟨g,0,none⟩)) (h:Bk w g t [a,b]):(results fn tmps).run Tryz.prog w= .ok (.agg #[a,b]) w:=by
 obtain⟨h1,h2,_,_⟩:=h.two
 have hs2:tmps[s]?.getD undef= .pointer (some ⟨g,0,none⟩):=by simpa using hs
 simp [results,hf,hs2,loadVar,loadCells,loadCellsFrom,go_sem,h1,h2]
def scmp (x y:Int):Int:=if x<y then-1 else if x=y then 0 else 1
theorem scmp_bd (x y:Int): -1≤scmp x y∧scmp x y≤1:=by unfold scmp;split <;> (try split) <;> omega
theorem scmp_neg {x y:Int}:scmp x y<0↔x<y:=by unfold scmp;split <;> (try split) <;> omega
theorem scmp_zero {x y:Int}:scmp x y=0↔x=y:=by unfold scmp;split <;> (try split) <;> omega
theorem scmp_pos {x y:Int}:0<scmp x y↔y<x:=by unfold scmp;split <;> (try split) <;> omega
def SgnP (v:Int) (w:World) (e:Ending) (w':World):Prop:=∃c:Int,Hid (c=v)∧ -1≤c∧c≤1∧e= .returned (.int .i64 c)∧Ext w w'
theorem zint_of {w:World}{s:Bool}{A:Option Addr}{n cap m:Nat}(hn:n=(wd m).length):
  Calls Tryz.prog 98 #[.bool s,.slice A n cap] w fun e w'=>∃s',e= .returned (.agg #[.bool s',.slice A n cap])∧Hid (s'=decide (sg s m<0))∧Ext w w':=by
 have hm:decide (0<m)=decide (0<n):=by
  by_cases h:m=0
  ·rw [h] at hn⊢;rw [hn];rfl
  ·have:n≠0:=fun e=>h (len_wd_zero.1 (by rw [←hn,e]))
   rw [decide_eq_true (show 0<m by omega),decide_eq_true (show 0<n by omega)]
 have HM:Hid (decide (sg s m<0)=(s&&decide (0<n))):=(show _=_ by rw [sg_lt,hm])
 clear hm hn
 go_enter Tryz.func98,Tryz.ntmps98
 cases s
 ·go_wp2_with fail
  refine bodyPost_ret (v:= .agg #[.bool false,.slice A n cap]) (by simp [results,Tryz.results98,go_sem]) rfl ?_
  exact⟨_,rfl,(show _=_ by rw [HM.out];rfl),(Ext.refl w).alloc _⟩
 ·by_cases h:n=0
  ·subst h
   go_wp2_with fail
   refine bodyPost_ret (v:= .agg #[.bool false,.slice A 0 cap]) (by simp [results,Tryz.results98,go_sem]) rfl ?_
   exact⟨_,rfl,(show _=_ by rw [HM.out];rfl),(Ext.refl w).alloc _⟩
  ·have h0:0<n:=by omega
   have hd:decide (0<n)=true:=decide_eq_true h0
   have hi:0<(n:Int):=by omega
   go_wp2_with fail
   refine bodyPost_ret (v:= .agg #[.bool true,.slice A n cap]) (by simp [results,Tryz.results98,go_sem]) rfl ?_
   exact⟨_,rfl,(show _=_ by rw [HM.out,hd];rfl),(Ext.refl w).alloc _⟩
theorem zint_Neg {w:World}{s:Bool}{A:Option Addr}{n cap:Nat}{x:Int}(hx:Zi w s A n cap x) (hl:n≤68719476736):
  Calls Tryz.prog 54 #[.agg #[.bool s,.slice A n cap]] w (RetZ w (-x)):=by
 obtain⟨xs,hr,rfl⟩:=hx
 go_enter Tryz.func54,Tryz.ntmps54
 go_upto_region 1 with (fail)
 obtain⟨g,g2,wa,hg2,hg,hwa,hb1,hb2,hea,l12,l2,n12,n21⟩:=boxes2 w 26 26 (.bool s) (.slice A n cap) (.bool false) (.slice none 0 0)
 rw [hg2,hg,hwa]
 have hgw:w.heap.size≤g:=Nat.le_of_eq hg
 clear hwa hg hg2
 obtain⟨f1,f2,f3,f4⟩:=hb1.two
 obtain⟨k1,k2,k3,k4⟩:=hb2.two
 go_region_held3 (fun w'=>w'.cell? ⟨g,0,none⟩=some (.bool s)∧w'.cell? ⟨g,1,none⟩=some (.slice A n cap)) (go_keep)
  (first
  | (go_at_call 115;refine (nat_Least (hr.ext (by repeat (first | exact Ext.refl _ | assumption | apply Ext.drewN | apply Ext.drew | apply Ext.alloc))) (by omega)).mono ?_;rintro e w1 ⟨A1,n1,c1,rfl,hn1,hr1,ho1,hx1⟩;have he1:Ext wa w1:=Ext.trans (by repeat (first | exact Ext.refl _ | assumption | apply Ext.drewN | apply Ext.drew | apply Ext.alloc)) hx1;have hc1:=hb1.ext he1;have hc2:=hb2.ext he1;obtain⟨f1',f2',f3',f4'⟩:=hc1.two;obtain⟨k1',k2',k3',k4'⟩:=hc2.two)
  | (go_at_call 98;refine (zint_of hn1.out).mono ?_;rintro e w2 ⟨s',rfl,hs',hx2⟩;have hd1:=hc1.ext hx2;have hd2:=hc2.ext hx2;obtain⟨f1'',f2'',f3'',f4''⟩:=hd1.two;obtain⟨k1'',k2'',k3'',k4''⟩:=hd2.two))
 go_wp2_with fail
 refine bodyPost_ret (res_int rfl rfl (hd2.two_set _ _)) rfl ?_
 exact fin_int hd2 ((Zr_of hs'.out hn1.out ho1 (sg_not _ _)).ext hx2) (by first | omega | (simp;omega)) (by omega) (hea.trans (he1.trans hx2))
theorem zint_Least {w:World}{s:Bool}{A:Option Addr}{n cap:Nat}{x:Int}(hx:Zi w s A n cap x) (hl:n≤68719476736):
  Calls Tryz.prog 48 #[.agg #[.bool s,.slice A n cap]] w (RetZ w (x)):=by
 obtain⟨xs,hr,rfl⟩:=hx
 go_enter Tryz.func48,Tryz.ntmps48
 go_upto_region 1 with (fail)
 obtain⟨g,g2,wa,hg2,hg,hwa,hb1,hb2,hea,l12,l2,n12,n21⟩:=boxes2 w 26 26 (.bool s) (.slice A n cap) (.bool false) (.slice none 0 0)
 rw [hg2,hg,hwa]
 have hgw:w.heap.size≤g:=Nat.le_of_eq hg
 clear hwa hg hg2
 obtain⟨f1,f2,f3,f4⟩:=hb1.two
 obtain⟨k1,k2,k3,k4⟩:=hb2.two
 go_region_held3 (fun w'=>w'.cell? ⟨g,0,none⟩=some (.bool s)∧w'.cell? ⟨g,1,none⟩=some (.slice A n cap)) (go_keep)
  (first
  | (go_at_call 115;refine (nat_Least (hr.ext (by repeat (first | exact Ext.refl _ | assumption | apply Ext.drewN | apply Ext.drew | apply Ext.alloc))) (by omega)).mono ?_;rintro e w1 ⟨A1,n1,c1,rfl,hn1,hr1,ho1,hx1⟩;have he1:Ext wa w1:=Ext.trans (by repeat (first | exact Ext.refl _ | assumption | apply Ext.drewN | apply Ext.drew | apply Ext.alloc)) hx1;have hc1:=hb1.ext he1;have hc2:=hb2.ext he1;obtain⟨f1',f2',f3',f4'⟩:=hc1.two;obtain⟨k1',k2',k3',k4'⟩:=hc2.two)
  | (go_at_call 98;refine (zint_of hn1.out).mono ?_;rintro e w2 ⟨s',rfl,hs',hx2⟩;have hd1:=hc1.ext hx2;have hd2:=hc2.ext hx2;obtain⟨f1'',f2'',f3'',f4''⟩:=hd1.two;obtain⟨k1'',k2'',k3'',k4''⟩:=hd2.two))
 go_wp2_with fail
 refine bodyPost_ret (res_int rfl rfl (hd2.two_set _ _)) rfl ?_
 exact fin_int hd2 ((Zr_of hs'.out hn1.out ho1 rfl).ext hx2) (by first | omega | (simp;omega)) (by omega) (hea.trans (he1.trans hx2))
theorem zint_Abs {w:World}{s:Bool}{A:Option Addr}{n cap:Nat}{x:Int}(hx:Zi w s A n cap x) (hl:n≤68719476736):
  Calls Tryz.prog 55 #[.agg #[.bool s,.slice A n cap]] w (RetZ w (x.natAbs:Int)):=by
 obtain⟨xs,hr,rfl⟩:=hx
 go_enter Tryz.func55,Tryz.ntmps55
 go_upto_region 1 with (fail)
 obtain⟨g,g2,wa,hg2,hg,hwa,hb1,hb2,hea,l12,l2,n12,n21⟩:=boxes2 w 26 26 (.bool s) (.slice A n cap) (.bool false) (.slice none 0 0)
 rw [hg2,hg,hwa]
 have hgw:w.heap.size≤g:=Nat.le_of_eq hg
 clear hwa hg hg2
 obtain⟨f1,f2,f3,f4⟩:=hb1.two
 go_wp2_with fail
 refine (nat_Least (hr.ext hea) (by omega)).mono ?_
 rintro e w1 ⟨A1,n1,c1,rfl,hn1,hr1,ho1,hx1⟩
 have hc2:=hb2.ext hx1
 go_wp2_with fail
 refine (zint_of hn1.out).mono ?_
 rintro e w2 ⟨s',rfl,hs',hx2⟩
 have hd2:=hc2.ext hx2
 obtain⟨k1,k2,k3,k4⟩:=hd2.two
 go_wp2_with fail
 refine bodyPost_ret (res_int rfl rfl (hd2.two_set _ _)) rfl ?_
 exact fin_int hd2 ((Zr_of hs'.out hn1.out ho1 (by rw [sg_abs,sg_false])).ext hx2) (by omega) (by omega) (hea.trans (hx1.trans hx2))
theorem zint_Mul {w:World}{s t:Bool}{A B:Option Addr}{n cap m cap':Nat}{x y:Int}(hx:Zi w s A n cap x) (hl:n≤68719476736) (hy:Zi w t B m cap' y) (hl':m≤68719476736):
  Calls Tryz.prog 28 #[.agg #[.bool s,.slice A n cap],.agg #[.bool t,.slice B m cap']] w (RetZ w (x*y)):=by
 obtain⟨xs,hr,rfl⟩:=hx
 obtain⟨ys,hq,rfl⟩:=hy
 go_enter Tryz.func28,Tryz.ntmps28
 go_upto_region 1 with (fail)
 obtain⟨g,g2,g3,wa,hg3,hg2,hg,hwa,hb1,hb2,hb3,hea,l12,l23,l3,n12,n21,n13,n31,n23,n32⟩:=boxes3 w 26 26 26 (.bool s) (.slice A n cap) (.bool t) (.slice B m cap') (.bool false) (.slice none 0 0)
 rw [hg3,hg2,hg,hwa]
 have hgw:w.heap.size≤g:=Nat.le_of_eq hg
 clear hwa hg hg2 hg3
 obtain⟨f1,f2,f3,f4⟩:=hb1.two
 obtain⟨h1,h2,h3,h4⟩:=hb2.two
 obtain⟨k1,k2,k3,k4⟩:=hb3.two
 go_region_held3 (fun w'=>w'.cell? ⟨g,0,none⟩=some (.bool s)∧w'.cell? ⟨g,1,none⟩=some (.slice A n cap)∧w'.cell? ⟨g2,0,none⟩=some (.bool t)∧w'.cell? ⟨g2,1,none⟩=some (.slice B m cap')) (go_keep)
  (first
  | (go_at_call 99;refine (mulnat_Mul (hr.ext (by repeat (first | exact Ext.refl _ | assumption | apply Ext.drewN | apply Ext.drew | apply Ext.alloc))) (hq.ext (by repeat (first | exact Ext.refl _ | assumption | apply Ext.drewN | apply Ext.drew | apply Ext.alloc))) (by omega)).mono ?_;rintro e w1 ⟨A1,n1,c1,rfl,hn1,hr1,ho1,hx1⟩;have he1:Ext wa w1:=Ext.trans (by repeat (first | exact Ext.refl _ | assumption | apply Ext.drewN | apply Ext.drew | apply Ext.alloc)) hx1;have hc1:=hb1.ext he1;have hc2:=hb2.ext he1;have hc3:=hb3.ext he1;obtain⟨f1',f2',f3',f4'⟩:=hc1.two;obtain⟨h1',h2',h3',h4'⟩:=hc2.two;obtain⟨k1',k2',k3',k4'⟩:=hc3.two)
  | (go_at_call 98;refine (zint_of hn1.out).mono ?_;rintro e w2 ⟨s',rfl,hs',hx2⟩;have hd1:=hc1.ext hx2;have hd2:=hc2.ext hx2;have hd3:=hc3.ext hx2;obtain⟨f1'',f2'',f3'',f4''⟩:=hd1.two;obtain⟨h1'',h2'',h3'',h4''⟩:=hd2.two;obtain⟨k1'',k2'',k3'',k4''⟩:=hd3.two))
 go_wp2_with fail
 refine bodyPost_ret (res_int rfl rfl (hd3.two_set _ _)) rfl ?_
 exact fin_int hd3 ((Zr_of hs'.out hn1.out ho1 (sg_mul _ _ _ _)).ext hx2) (by first | omega | (simp;omega)) (by omega) (hea.trans (he1.trans hx2))
theorem zint_Sign {w:World}{s:Bool}{A:Option Addr}{n cap:Nat}{x:Int}(hx:Zi w s A n cap x) (hl:n≤68719476736):
  Calls Tryz.prog 51 #[.agg #[.bool s,.slice A n cap]] w (SgnP (scmp x 0) w):=by
 obtain⟨xs,hr,rfl⟩:=hx
 go_enter Tryz.func51,Tryz.ntmps51
 go_upto_region 1 with (fail)
 have hb1:=Bk.new w 26 [.bool s,.slice A n cap]
 obtain⟨wa,hwa⟩:∃wa,w.alloc (.cells #[.bool s,.slice A n cap] 26)=wa:=⟨_,rfl⟩
 rw [hwa]
 obtain⟨g,hg⟩:∃g,w.heap.size=g:=⟨_,rfl⟩
 rw [hg] at hb1⊢
 have hb1':Bk wa g 26 [.bool s,.slice A n cap]:=by rw [←hwa];exact hb1
 have hea:Ext w wa:=by rw [←hwa];exact (Ext.refl w).alloc _
 clear hwa hg hb1
 obtain⟨f1,f2,f3,f4⟩:=hb1'.two
 go_wp2_with fail
 refine (nat_BitLen (hr.ext hea) (by omega)).mono ?_
 rintro e w1 ⟨b,hb,rfl,hx1'⟩
 have hx1:=hea.trans hx1'
 obtain⟨f1',f2',f3',f4'⟩:=(hb1'.ext hx1').two
 by_cases h0:b=0
 ·subst h0
  have hz:nv xs=0:=blen_eq_zero.1 hb.out.symm
  have HZ:=Lib.hid hz
  clear hz
  go_wp2_with fail
  go_ret
  exact⟨0,(show _=_ by rw [HZ.out,sg_zero];rfl),by omega,by omega,rfl,hx1⟩
 ·have bb:((b:Int)==0)=false:=by simp;omega
  have hz:0<nv xs:=Nat.pos_of_ne_zero (fun e=>h0 (by rw [hb.out,e];rfl))
  have HZ:=Lib.hid hz
  clear hz h0
  cases s
  ·go_wp2_with fail
   go_ret
   refine⟨1,?_,by omega,by omega,rfl,hx1⟩
   show _=_
   rw [sg_false,scmp,if_neg (by omega),if_neg (by have:=HZ.out;omega)]
  ·go_wp2_with fail
   go_ret
   refine⟨-1,?_,by omega,by omega,rfl,hx1⟩
   show _=_
   rw [sg_true,scmp,if_pos (by have:=HZ.out;omega)]
theorem zint_CmpAbs {w:World}{s t:Bool}{A B:Option Addr}{n cap m cap':Nat}{x y:Int}(hx:Zi w s A n cap x) (hl:n≤68719476736) (hy:Zi w t B m cap' y) (hl':m≤68719476736):
  Calls Tryz.prog 53 #[.agg #[.bool s,.slice A n cap],.agg #[.bool t,.slice B m cap']] w (CmpP x.natAbs y.natAbs w):=by
 obtain⟨xs,hr,rfl⟩:=hx
 obtain⟨ys,hq,rfl⟩:=hy
 rw [sg_abs,sg_abs]
 go_enter Tryz.func53,Tryz.ntmps53
 go_upto_region 1 with (fail)
 obtain⟨g,g2,wa,hg2,hg,hwa,hb1,hb2,hea,l12,l2,n12,n21⟩:=boxes2 w 26 26 (.bool s) (.slice A n cap) (.bool t) (.slice B m cap')
 rw [hg2,hg,hwa]
 have hgw:w.heap.size≤g:=Nat.le_of_eq hg
 clear hwa hg hg2
 obtain⟨f1,f2,f3,f4⟩:=hb1.two
 obtain⟨h1,h2,h3,h4⟩:=hb2.two
 go_wp2_with fail
 refine (nat_Cmp (hr.ext hea) (by omega) (hq.ext hea) (by omega)).mono ?_
 rintro e w1 ⟨c,hc,hcl,hch,rfl,hx1⟩
 go_wp2_with fail
 go_ret
 exact⟨c,hc,hcl,hch,rfl,hea.trans hx1⟩
def BoolP (b:Bool) (w:World) (e:Ending) (w':World):Prop:=e= .returned (.bool b)∧Ext w w'
theorem ref1_Same {w:World}{A B:Option Addr}{n cap n' cap':Nat}{xs ys:List Nat}(hx:Rd w A n cap xs) (hl:n≤1099511627776) (hy:Rd w B n' cap' ys) (hl':n'≤1099511627776):
  Calls Tryz.prog 97 #[.slice A n cap,.slice B n' cap'] w (BoolP (decide (xs=ys)) w):=by
 have hlx:=Lib.hid hx.len
 have hly:=Lib.hid hy.len
 by_cases hn:n=n'
 ·subst hn
  have h1:((n:Int) != (n:Int))=false:=by simp
  go_enter Tryz.func97,Tryz.ntmps97
  go_wp2_with fail
  go_loopw [5] (fun u wr=>∃i:Nat,i≤n∧u= .int .i64 (i:Int)∧Hid (xs.take i=ys.take i)∧Ext w wr) (fun u wr=>n-(intOf u).toNat)
  case atStart=>exact⟨0,Nat.zero_le _,rfl,rfl,Ext.refl w⟩
  case round=>
   obtain⟨i,hi,rfl,hv,hext⟩:=hrel
   by_cases h0:i<n
   ·obtain⟨a,p,rfl,hxk,hxb,hc⟩:=(hx.ext hext).get (i:=i) (by omega)
    obtain⟨b,q,rfl,hyk,hyb,hd⟩:=(hy.ext hext).get (i:=i) (by omega)
    by_cases hpq:p=q
    ·subst hpq
     have h2:((p:Int) != (p:Int))=false:=by simp
     go_wp2_with fail
     go_quiet (fail)
     go_wp2_with fail
     go_roundw
     case rel=>
      refine⟨i+1,by omega,by go_num,?_,(by repeat (first | exact Ext.refl _ | assumption | apply Ext.drewN | apply Ext.drew | apply Ext.alloc))⟩
      show _=_
      rw [take_snoc xs i (by rw [hlx.out];omega) 0,take_snoc ys i (by rw [hly.out];omega) 0,hv.out,hxk.out,hyk.out]
     case measure=>simp [intOf];omega
    ·have h2:((p:Int) != (q:Int))=true:=by simp;omega
     go_wp2_with fail
     go_quiet (fail)
     go_wp2_with fail
     go_ret
     have hne:decide (xs=ys)=false:=by
      refine decide_eq_false (fun e=>hpq ?_)
      rw [←hxk.out,←hyk.out,e]
     rw [hne]
     exact⟨rfl,(by repeat (first | exact Ext.refl _ | assumption | apply Ext.drewN | apply Ext.drew | apply Ext.alloc))⟩
   ·go_wp2_with fail
    go_ret
    have he:decide (xs=ys)=true:=by
     refine decide_eq_true ?_
     have h:=hv.out
     rwa [List.take_of_length_le (by rw [hlx.out];omega),List.take_of_length_le (by rw [hly.out];omega)] at h
    rw [he]
    exact⟨rfl,hext⟩
 ·have h1:((n:Int) != (n':Int))=true:=by simp;omega
  go_enter Tryz.func97,Tryz.ntmps97
  go_wp2_with fail
  go_ret
  have hne:decide (xs=ys)=false:=decide_eq_false (fun e=>hn (by rw [←hlx.out,←hly.out,e]))
  rw [hne]
  exact⟨rfl,Ext.refl w⟩
theorem Own.updT {w w':World}{base:Nat}{t T:TypeId}{s:Nat}{A:Option Addr}{n cap:Nat}{vs us:List Value}{g:Nat}(h:Own w base t s A n cap vs) (hb:Bk w g T us) (hT:t≠T) (e:Upd g w w'):Own w' base t s A n cap vs:=by
 refine h.upd e (fun a ha hg=>?_)
 rcases h with⟨h,_⟩ | ⟨k,cs,hA,_,hk,_⟩
 ·rw [h] at ha;cases ha
 ·rw [hA] at ha
  cases ha
  simp only at hg
  subst hg
  unfold Bk at hk hb
  rw [hk] at hb
  injection hb with hb
  injection hb with h1 h2
  exact hT h2
theorem Zr.updT {w w':World}{base:Nat}{s:Bool}{A:Option Addr}{n cap:Nat}{z:Int}{g:Nat}{T:TypeId}{us:List Value}(h:Zr w base s A n cap z) (hb:Bk w g T us) (e:Upd g w w') (hT:67≠T:=by decide):Zr w' base s A n cap z:=
 ⟨h.sgn,h.len,h.own.updT hb hT e⟩
theorem Bk.updN {w w':World}{g g':Nat}{T:TypeId}{vs:List Value}(h:Bk w g T vs) (e:Upd g' w w') (hne:g≠g'):Bk w' g T vs:=h.upd e hne
theorem ln_abs (x:Int):ln (x.natAbs:Int)=ln x:=by unfold ln;rw [Int.natAbs_natCast]
theorem scmp_ne_t {x y:Int}(h:x≠y):cmpB .neq (scmp x y) 0=some true:=by
 have e:¬scmp x y=0:=fun e=>h (scmp_zero.1 e)
 simp only [cmpB,Option.some.injEq,bne_iff_ne,ne_eq];exact e
theorem scmp_ne_f {x y:Int}(h:x=y):cmpB .neq (scmp x y) 0=some false:=by
 have e:scmp x y=0:=scmp_zero.2 h
 rw [e];rfl
theorem scmp_lt_t {x y:Int}(h:x<y):cmpB .lss (scmp x y) 0=some true:=by
 have e:=scmp_neg.2 h
 simp only [cmpB,Option.some.injEq,decide_eq_true_eq];exact e
theorem scmp_lt_f {x y:Int}(h:y≤x):cmpB .lss (scmp x y) 0=some false:=by
 have e:¬scmp x y<0:=fun e=>by have:=scmp_neg.1 e;omega
 simp only [cmpB,Option.some.injEq,decide_eq_false_iff_not];exact e
theorem scmp_gt_t {x y:Int}(h:y<x):cmpB .gtr (scmp x y) 0=some true:=by
 have e:=scmp_pos.2 h
 simp only [cmpB,Option.some.injEq,decide_eq_true_eq];exact e
theorem scmp_gt_f {x y:Int}(h:x≤y):cmpB .gtr (scmp x y) 0=some false:=by
 have e:¬0<scmp x y:=fun e=>by have:=scmp_pos.1 e;omega
 simp only [cmpB,Option.some.injEq,decide_eq_false_iff_not];exact e
theorem scmp_ge_t {x y:Int}(h:y≤x):cmpB .geq (scmp x y) 0=some true:=by
 have e:¬scmp x y<0:=fun e=>by have:=scmp_neg.1 e;omega
 simp only [cmpB,Option.some.injEq,decide_eq_true_eq];omega
theorem scmp_ge_f {x y:Int}(h:x<y):cmpB .geq (scmp x y) 0=some false:=by
 have e:=scmp_neg.2 h
 simp only [cmpB,Option.some.injEq,decide_eq_false_iff_not];omega
structure AggT (P:Program) (T:TypeId) (k:Nat):Prop where
 agg:∀w,(isAgg T).run P w= .ok true w
 size:∀w,(sizeOf T).run P w= .ok k w
theorem run_load1 {P:Program}{w:World}{p:Addr}{v:Value}(h:w.cell? p=some v):(load p).run P w= .ok v w:=by
 simp only [load,Sem.run,h]
theorem run_store1 {P:Program}{w:World}{p:Addr}{u v:Value}(h:w.cell? p=some u) (hf:w.frozen? p=false) (h1:v.oneCell'=true):(store p v).run P w= .ok () (w.setCell p v):=by
 rw [run_store P w p v .plain h1,h,hf];rfl
theorem run_loadCells {P:Program}{w:World}{p:Addr}:∀(vs:List Value) (i:Nat) (acc:Array Value),(∀j,j<vs.length→w.cell? (p.add (i+j))=some (vs.getD j undef))→
  (loadCellsFrom p i vs.length acc).run P w= .ok (acc++vs.toArray) w
 | [],i,acc,_=>by simp [loadCellsFrom]
 | v::vs,i,acc,h=>by
  have h0:=h 0 (by simp)
  simp only [Nat.add_zero,List.getD_cons_zero] at h0
  have ih:=run_loadCells (P:=P) (p:=p) vs (i+1) (acc.push v) (fun j hj=>by
   have:=h (j+1) (by simpa using hj)
   rw [show i+1+j=i+(j+1) by omega]
   simpa using this)
  show ((load (p.add i)>>=fun v=>loadCellsFrom p (i+1) vs.length (acc.push v):Sem (Array Value))).run P w=_
  have e:(load (p.add i)).run P w= .ok v w:=run_load1 h0
  rw [Sem.run_bind,e]
  simp only [Result.andThen_ok,ih]
  simp
theorem load_agg {P:Program}{w:World}{T T':TypeId}{k off g:Nat}{vs:List Value}(hT:AggT P T k) (hb:Bk w g T' vs) (us:List Value) (hu:us.length=k) (hle:off+k≤vs.length) (he:(vs.drop off).take k=us):
  (loadVar T ⟨g,off,none⟩).run P w= .ok (.agg us.toArray) w:=by
 subst hu
 have h1:=run_loadCells (P:=P) (w:=w) (p:=⟨g,off,none⟩) us 0 #[] (fun j hj=>by
  rw [Nat.zero_add,add_lit0,hb.cell (by omega)]
  congr 1
  rw [←he]
  simp only [List.getD_eq_getElem?_getD,List.getElem?_take,List.getElem?_drop]
  rw [if_pos hj])
 unfold loadVar loadCells
 rw [Sem.run_bind,hT.agg w]
 simp only [Result.andThen_ok,if_true,Sem.run_bind,hT.size w,h1]
 simp
theorem load_cell {P:Program}{w:World}{T T':TypeId}{g i:Nat}{vs:List Value}{v:Value}(hT:∀w,(isAgg T).run P w= .ok false w) (hb:Bk w g T' vs) (hv:vs[i]?=some v):(loadVar T ⟨g,i,none⟩).run P w= .ok v w:=by
 have hi:i<vs.length:=(List.getElem?_eq_some_iff.1 hv).1
 have hc:=hb.cell hi
 rw [List.getD_eq_getElem?_getD,hv] at hc
 unfold loadVar
 rw [Sem.run_bind,hT w]
 simp only [Result.andThen_ok,Bool.false_eq_true,if_false]
 exact run_load1 hc
def overl (vs:List Value) (off:Nat) (us:List Value):List Value:=vs.take off++us++vs.drop (off+us.length)
theorem store_cells {P:Program}{g:Nat}{T:TypeId}:∀(us:List Value) (i off:Nat) (w:World) (vs:List Value),Bk w g T vs→off+i+us.length≤vs.length→(∀u∈us,u.oneCell'=true)→
  ∃w',(storeCells ⟨g,off,none⟩ us i).run P w= .ok () w'∧Bk w' g T (overl vs (off+i) us)∧Upd g w w'∧w'.heap.size=w.heap.size
 | [],i,off,w,vs,hb,_,_=>⟨w,rfl,by simpa [overl] using hb,Upd.refl g w,rfl⟩
 | u::us,i,off,w,vs,hb,hle,h1=>by
  have hi:off+i<vs.length:=by simp at hle;omega
  have hc:=hb.cell hi
  have hf:=hb.frozen (off+i)
  have hb1:=hb.set (off+i) u
  obtain⟨w',hr,hb2,hu,hs⟩:=store_cells (P:=P) us (i+1) off (w.setCell ⟨g,off+i,none⟩ u) (vs.set (off+i) u) hb1 (by simp at hle⊢;omega) (fun x hx=>h1 x (by simp [hx]))
  refine⟨w',?_,?_,((Upd.refl g w).setCell (off+i) u).trans hu,by rw [hs];simp [World.setCell]⟩
  ·show ((store ((⟨g,off,none⟩:Addr).add i) u>>=fun _=>storeCells ⟨g,off,none⟩ us (i+1):Sem Unit)).run P w=_
   rw [add_lit0,Sem.run_bind,run_store1 hc hf (h1 u (by simp))]
   exact hr
  ·have e:overl (vs.set (off+i) u) (off+(i+1)) us=overl vs (off+i) (u::us):=by
    unfold overl
    have e1:(vs.set (off+i) u).take (off+(i+1))=vs.take (off+i)++ [u]:=by
     rw [show off+(i+1)=off+i+1 by omega,take_snoc _ _ (by simpa using hi) undef,List.take_set_of_le (Nat.le_refl _)]
     congr 2
     rw [List.getD_eq_getElem?_getD,List.getElem?_set_self hi];rfl
    rw [e1,List.drop_set_of_lt (by omega)]
    simp only [List.length_cons,List.append_assoc,List.cons_append,List.nil_append]
    rw [show off+(i+1)+us.length=off+i+(us.length+1) by omega]
   rw [←e];exact hb2
theorem run_stored {P:Program}{w:World}{T T':TypeId}{k g off:Nat}{vs us:List Value}(hT:AggT P T k) (hk:us.length=k)
  (hb:Bk w g T' vs) (hle:off+k≤vs.length) (h1:us.all (·.oneCell')=true) (us':List Value) (he:overl vs off us=us'):
  ∃w',(storeVar T ⟨g,off,none⟩ (.agg us.toArray)).run P w= .ok () w'∧Bk w' g T' us'∧Upd g w w'∧w'.heap.size=w.heap.size:=by
 subst hk
 obtain⟨w',hr,hb2,hu,hs⟩:=store_cells (P:=P) us 0 off w vs hb (by omega) (by simpa [List.all_eq_true] using h1)
 rw [Nat.add_zero,he] at hb2
 refine⟨w',?_,hb2,hu,hs⟩
 unfold storeVar
 rw [Sem.run_bind]
 show ((sizeOf T).run P w).andThen _=_
 rw [hT.size w]
 have e:(Value.agg us.toArray).cells=us.toArray:=rfl
 simp only [Result.andThen_ok,e,List.size_toArray,ne_eq,not_true,if_false]
 exact hr
theorem wl_stored {P:Program}{Q:Exit→Act→World→Prop}{n:Nat}{l:Fr}{w:World}{ops:Array Oper}{rest:List Oper}{ty:TypeId}{pos:String}{af:Array Edge}{gd:Option (Nat×Bool)}
  (hw:guardB ops l gd=some true){x y:Operand}{T T':TypeId}{k g off:Nat}{vs us:List Value}(hx:evo l x=some (.pointer (some ⟨g,off,none⟩))) (hy:evo l y=some (.agg us.toArray)) (hT:AggT P T k) (hk:us.length=k)
  (hb:Bk w g T' vs) (hle:off+k≤vs.length) (h1:us.all (·.oneCell')=true) (us':List Value) (he:overl vs off us=us')
  (h:∀w',Bk w' g T' us'→Upd g w w'→w'.heap.size=w.heap.size→wl P ops Q n rest l w'):wl P ops Q n (⟨none,.store T x y,ty,pos,af,gd⟩::rest) l w:=by
 obtain⟨w',hr,hb2,hu,hs⟩:=run_stored (P:=P) hT hk hb hle h1 us' he
 exact wl_store hw (p:=⟨g,off,none⟩) hx hy (w':=w') hr (h w' hb2 hu hs)
theorem wl_stored1 {P:Program}{Q:Exit→Act→World→Prop}{n:Nat}{l:Fr}{w:World}{ops:Array Oper}{rest:List Oper}{ty:TypeId}{pos:String}{af:Array Edge}{gd:Option (Nat×Bool)}
  (hw:guardB ops l gd=some true){x y:Operand}{T T':TypeId}{g off:Nat}{vs:List Value}{v:Value}(hx:evo l x=some (.pointer (some ⟨g,off,none⟩))) (hy:evo l y=some v) (hT:∀w,(sizeOf T).run P w= .ok 1 w) (hv:v.cells= #[v])
  (hb:Bk w g T' vs) (hle:off<vs.length) (h1:v.oneCell'=true) (us':List Value) (he:vs.set off v=us')
  (h:∀w',Bk w' g T' us'→Upd g w w'→w'.heap.size=w.heap.size→wl P ops Q n rest l w'):wl P ops Q n (⟨none,.store T x y,ty,pos,af,gd⟩::rest) l w:=by
 have hb2:=hb.set off v
 rw [he] at hb2
 refine wl_store hw (p:=⟨g,off,none⟩) hx hy (w':=w.setCell ⟨g,off,none⟩ v) ?_ (h _ hb2 ((Upd.refl g w).setCell off v) (by simp [World.setCell]))
 unfold storeVar
 rw [Sem.run_bind]
 show ((sizeOf T).run P w).andThen _=_
 rw [hT w]
 simp only [Result.andThen_ok,hv,List.size_toArray,List.length_cons,List.length_nil,ne_eq,not_true,Nat.zero_add,if_false]
 show ((store ((⟨g,off,none⟩:Addr).add 0) v>>=fun _=>storeCells ⟨g,off,none⟩ [] (0+1):Sem Unit)).run P w=_
 rw [add_lit0,Nat.add_zero,Sem.run_bind,run_store1 (hb.cell hle) (hb.frozen off) h1]
 rfl
section
variable {P:Program}{Q:Exit→Act→World→Prop}{n:Nat}{l:Fr}{w:World}{ops:Array Oper}{rest:List Oper}{d:Nat}{ty:TypeId}{pos:String}{af:Array Edge}{gd:Option (Nat×Bool)}
theorem run_index {t e:TypeId}{s m c:Nat}{a:Addr}{k:IntKind}{i:Int}(hT:P.underlying t=some (.slice e)) (hs:∀w,(sizeOf e).run P w= .ok s w) (h0:0≤i) (h1:i<m):
  (Instr.indexAt t (.slice (some a) m c) (.int k i)).run P w= .ok (.pointer (some (a.add (i.toNat*s)))) w:=by
 have hu:(underlying t).run P w= .ok (.slice e) w:=run_underlying hT w
 unfold Instr.indexAt
 simp only [asIntOf,Sem.run_bind,Sem.run_pure,Result.andThen_ok,hu]
 rw [if_pos ⟨h0,h1⟩]
 simp only [Sem.run_bind,hs w,Result.andThen_ok,Sem.run_pure]
def optIs (v:Option Value) (k:Nat) (dflt:Nat):Prop:=(v=none∧k=dflt)∨v=some (.int .i64 (k:Int))
theorem run_bound {i cap:Nat}{k:BoundsCode}(h:i≤cap):(Instr.sliceBound (.int .i64 (i:Int)) cap k).run P w= .ok i w:=by
 unfold Instr.sliceBound
 simp only [asIntOf,Sem.run_bind,Sem.run_pure,Result.andThen_ok]
 rw [if_pos ⟨by omega,by omega⟩]
 rfl
theorem run_slice {t e:TypeId}{s m c lo hi:Nat}{A:Option Addr}{low high:Option Value}(hT:P.underlying t=some (.slice e)) (hs:∀w,(sizeOf e).run P w= .ok s w) (h1:optIs low lo 0) (h2:optIs high hi m) (h3:lo≤hi) (h4:hi≤c):
  (Instr.sliceAt t (.slice A m c) low high none).run P w= .ok (.slice (if c=lo then A else A.map (·.add (lo*s))) (hi-lo) (c-lo)) w:=by
 have hu:(underlying t).run P w= .ok (.slice e) w:=run_underlying hT w
 have hb:(Instr.sliceBounds true m c low high none).run P w= .ok (lo,hi,c) w:=by
  unfold Instr.sliceBounds
  rcases h1 with⟨rfl,rfl⟩ | rfl <;> rcases h2 with⟨rfl,rfl⟩ | rfl
  ·simp only [Sem.run_bind,Sem.run_pure,Result.andThen_ok]
  ·simp only [Sem.run_bind,Sem.run_pure,Result.andThen_ok,run_bound h4,if_true]
  ·simp only [Sem.run_bind,Sem.run_pure,Result.andThen_ok,Option.isSome,run_bound h3]
  ·simp only [Sem.run_bind,Sem.run_pure,Result.andThen_ok,Option.isSome,run_bound h4,run_bound h3,if_true]
 unfold Instr.sliceAt
 simp only [Sem.run_bind,hu,Result.andThen_ok]
 unfold Instr.slice
 simp only [Sem.run_bind,hu,Result.andThen_ok,hb,hs w,Sem.run_pure]
theorem wl_slice (hw:guardB ops l gd=some true){x:Operand}{lo' hi':Option Operand}{t e:TypeId}{s m c lo hi:Nat}{A:Option Addr}(hx:evo l x=some (.slice A m c)) (hT:P.underlying t=some (.slice e)) (hs:∀w,(sizeOf e).run P w= .ok s w)
  (h1:match lo' with | none=>lo=0 | some y=>evo l y=some (.int .i64 (lo:Int))) (h2:match hi' with | none=>hi=m | some y=>evo l y=some (.int .i64 (hi:Int))) (h3:lo≤hi) (h4:hi≤c)
  {v:Value}(hv:Value.slice (if c=lo then A else A.map (·.add (lo*s))) (hi-lo) (c-lo)=v) (hn:d<n) (h:wl P ops Q n rest ((d,v)::l) w):wl P ops Q n (⟨some d,.slice t x lo' hi' none,ty,pos,af,gd⟩::rest) l w:=
 wl_val hw hn (fun a' ha=>by
  have e:(Instr.sliceAt t (a'.eval x) (lo'.map a'.eval) (hi'.map a'.eval) (Option.map a'.eval none)).run P w= .ok v w:=by
   rw [ha.ev hx,←hv]
   refine run_slice hT hs ?_ ?_ h3 h4
   ·cases lo' with
    | none=>exact Or.inl ⟨rfl,h1⟩
    | some y=>exact Or.inr (by show some (a'.eval y)=_;rw [ha.ev h1])
   ·cases hi' with
    | none=>exact Or.inl ⟨rfl,h2⟩
    | some y=>exact Or.inr (by show some (a'.eval y)=_;rw [ha.ev h2])
  show ((Instr.sliceAt t (a'.eval x) (lo'.map a'.eval) (hi'.map a'.eval) (Option.map a'.eval none)>>=fun r=>pure (Next.value r):Sem Next)).run P w=_
  rw [Sem.run_bind,e];rfl) h
theorem load_at {T:TypeId}{k:Nat}{p:Addr}(hT:AggT P T k) (us:List Value) (hu:us.length=k) (hc:∀j,j<us.length→w.cell? (p.add j)=some (us.getD j undef)):(loadVar T p).run P w= .ok (.agg us.toArray) w:=by
 subst hu
 have h1:=run_loadCells (P:=P) (w:=w) (p:=p) us 0 #[] (fun j hj=>by rw [Nat.zero_add];exact hc j hj)
 unfold loadVar loadCells
 rw [Sem.run_bind,hT.agg w]
 simp only [Result.andThen_ok,if_true,Sem.run_bind,hT.size w,h1]
 simp
theorem load_cell1 {T:TypeId}{p:Addr}{v:Value}(hT:∀w,(isAgg T).run P w= .ok false w) (hc:w.cell? p=some v):(loadVar T p).run P w= .ok v w:=by
 unfold loadVar
 rw [Sem.run_bind,hT w]
 simp only [Result.andThen_ok,Bool.false_eq_true,if_false]
 exact run_load1 hc
end
theorem add_zero_addr (a:Addr):a.add 0=a:=by simp [Addr.add]
theorem ge_t {a b:Int}(h:b≤a):cmpB .geq a b=some true:=by simp only [cmpB,Option.some.injEq,decide_eq_true_eq];omega
theorem ge_f {a b:Int}(h:a<b):cmpB .geq a b=some false:=by simp only [cmpB,Option.some.injEq,decide_eq_false_iff_not];omega
theorem lt_t {a b:Int}(h:a<b):cmpB .lss a b=some true:=by simp only [cmpB,Option.some.injEq,decide_eq_true_eq];omega
theorem lt_f {a b:Int}(h:b≤a):cmpB .lss a b=some false:=by simp only [cmpB,Option.some.injEq,decide_eq_false_iff_not];omega
theorem gt_t {a b:Int}(h:b<a):cmpB .gtr a b=some true:=by simp only [cmpB,Option.some.injEq,decide_eq_true_eq];omega
theorem gt_f {a b:Int}(h:a≤b):cmpB .gtr a b=some false:=by simp only [cmpB,Option.some.injEq,decide_eq_false_iff_not];omega
theorem le_t {a b:Int}(h:a≤b):cmpB .leq a b=some true:=by simp only [cmpB,Option.some.injEq,decide_eq_true_eq];omega
theorem le_f {a b:Int}(h:b<a):cmpB .leq a b=some false:=by simp only [cmpB,Option.some.injEq,decide_eq_false_iff_not];omega
theorem eq_t {a b:Int}(h:a=b):cmpB .eql a b=some true:=by subst h;simp [cmpB]
theorem eq_f {a b:Int}(h:a≠b):cmpB .eql a b=some false:=by simp only [cmpB,Option.some.injEq,beq_eq_false_iff_ne,ne_eq];exact h
theorem ne_t {a b:Int}(h:a≠b):cmpB .neq a b=some true:=by simp only [cmpB,Option.some.injEq,bne_iff_ne,ne_eq];exact h
theorem ne_f {a b:Int}(h:a=b):cmpB .neq a b=some false:=by subst h;simp [cmpB]
theorem ar_i64 {a b c:Int}(h:a+b=c) (h1: -9223372036854775808≤c) (h2:c≤9223372036854775807):arB .add .i64 a b=some c:=by
 simp only [arB,Option.some.injEq];rw [h];exact IntWalk.i64_in _ ⟨h1,h2⟩
theorem ar_i64s {a b c:Int}(h:a-b=c) (h1: -9223372036854775808≤c) (h2:c≤9223372036854775807):arB .sub .i64 a b=some c:=by
 simp only [arB,Option.some.injEq];rw [h];exact IntWalk.i64_in _ ⟨h1,h2⟩
theorem ar_i64m {a b c:Int}(h:a*b=c) (h1: -9223372036854775808≤c) (h2:c≤9223372036854775807):arB .mul .i64 a b=some c:=by
 simp only [arB,Option.some.injEq];rw [h];exact IntWalk.i64_in _ ⟨h1,h2⟩
theorem ar_i64q {a b c:Int}(hb:b≠0) (h:a.tdiv b=c) (h1: -9223372036854775808≤c) (h2:c≤9223372036854775807):arB .quo .i64 a b=some c:=by
 simp only [arB];rw [if_neg hb,h,Option.some.injEq];exact IntWalk.i64_in _ ⟨h1,h2⟩
theorem ar_rem {k:IntKind}{a b c:Int}(hb:b≠0) (h:a.tmod b=c):arB .rem k a b=some c:=by
 simp only [arB];rw [if_neg hb,h]
theorem Rd.at {w:World}{A:Option Addr}{n c:Nat}{xs:List Nat}(h:Rd w A n c xs){i:Nat}(hi:i<n):
  ∃p,A.map (·.add (i*1))=some p∧w.cell? p=some (.int .u64 ((xs.getD i 0:Nat):Int))∧xs.getD i 0≤18446744073709551615:=by
 obtain⟨a,x,rfl,hk,hb,hc⟩:=h.get hi
 refine⟨a.add i,by rw [Nat.mul_one];rfl,?_,by rw [hk.out];exact hb⟩
 rw [hk.out];exact hc
theorem Rd.updL {w w':World}{A:Option Addr}{n c:Nat}{xs:List Nat}{g:Nat}(h:Rd w A n c xs) (e:Upd g w w') (hne:0<c→∀a,A=some a→a.block≠g):Rd w' A n c xs:=
 ⟨⟨h.rv.len,h.rv.le,h.rv.max,fun i hi=>by
  obtain⟨a,ha,hc⟩:=h.rv.get i hi
  exact⟨a,ha,e.cell hc (by rw [block_of_add];exact hne (by have:=h.rv.le;omega) a ha)⟩,fun a ha hc=>Nat.lt_of_lt_of_le (h.rv.blk a ha hc) e.size⟩,h.wf⟩
theorem arr_at (g i:Nat):(some (⟨g,0,none⟩:Addr)).map (·.add (i*1))=some ⟨g,i,none⟩:=by
 rw [Nat.mul_one]
 show some ((⟨g,0,none⟩:Addr).add i)=_
 rw [add_lit0,Nat.zero_add]
section
variable {P:Program}{Q:Exit→Act→World→Prop}{n:Nat}{l:Fr}{w:World}{ops:Array Oper}{rest:List Oper}{d:Nat}{op:Op}{ty:TypeId}{pos:String}{af:Array Edge}{gd:Option (Nat×Bool)}
theorem run_idx {t e:TypeId}{s m c:Nat}{A:Option Addr}{k:IntKind}{i:Int}{j:Nat}{p:Addr}(hT:P.underlying t=some (.slice e)) (hs:∀w,(sizeOf e).run P w= .ok s w) (hi:i=(j:Int)) (hj:j<m) (hp:A.map (·.add (j*s))=some p):
  (Instr.indexAt t (.slice A m c) (.int k i)).run P w= .ok (.pointer (some p)) w:=by
 subst hi
 cases A with
 | none=>cases hp
 | some a=>
  have h:=run_index (P:=P) (w:=w) (t:=t) (e:=e) (s:=s) (m:=m) (c:=c) (a:=a) (k:=k) (i:=(j:Int)) hT hs (by omega) (by omega)
  rw [h]
  rw [Int.toNat_natCast]
  injection hp with hp
  rw [←hp]
theorem wl_idx (hw:guardB ops l gd=some true){x y:Operand}{t e:TypeId}{s m c:Nat}{A:Option Addr}{k:IntKind}{i:Int}(hx:evo l x=some (.slice A m c)) (hy:evo l y=some (.int k i)) (hT:P.underlying t=some (.slice e)) (hs:∀w,(sizeOf e).run P w= .ok s w)
  (j:Nat) (hi:i=(j:Int)) (hj:j<m) (p:Addr) (hp:A.map (·.add (j*s))=some p) (hn:d<n) (h:wl P ops Q n rest ((d,.pointer (some p))::l) w):wl P ops Q n (⟨some d,.indexAddr t x y,ty,pos,af,gd⟩::rest) l w:=
 wl_val hw hn (fun a' ha=>by
  have e:(Instr.indexAt t (a'.eval x) (a'.eval y)).run P w= .ok (.pointer (some p)) w:=by rw [ha.ev hx,ha.ev hy];exact run_idx hT hs hi hj hp
  show ((Instr.indexAt t (a'.eval x) (a'.eval y)>>=fun r=>pure (Next.value r):Sem Next)).run P w=_
  rw [Sem.run_bind,e];rfl) h
theorem rd_idx {x y:Operand}{t e:TypeId}{s m c:Nat}{A:Option Addr}{k:IntKind}{i:Int}{dst:Option Tmp}(hx:evo l x=some (.slice A m c)) (hy:evo l y=some (.int k i)) (hT:P.underlying t=some (.slice e)) (hs:∀w,(sizeOf e).run P w= .ok s w)
  (j:Nat) (hi:i=(j:Int)) (hj:j<m) (p:Addr) (hp:A.map (·.add (j*s))=some p):RunD P n l ⟨dst,.indexAddr t x y,ty,pos,af,gd⟩ w (.value (.pointer (some p))) w:=fun a' ha=>by
 have e:(Instr.indexAt t (a'.eval x) (a'.eval y)).run P w= .ok (.pointer (some p)) w:=by rw [ha.ev hx,ha.ev hy];exact run_idx hT hs hi hj hp
 show ((Instr.indexAt t (a'.eval x) (a'.eval y)>>=fun r=>pure (Next.value r):Sem Next)).run P w=_
 rw [Sem.run_bind,e];rfl
theorem rd_cmp {o:BinOp}{t t':TypeId}{x y:Operand}{k:IntKind}{a b:Int}{dst:Option Tmp}(hx:evo l x=some (.int k a)) (hy:evo l y=some (.int k b)) (c:Bool) (hc:cmpB o a b=some c):RunD P n l ⟨dst,.binOp o t x y t',ty,pos,af,gd⟩ w (.value (.bool c)) w:=fun a' ha=>by
 have e:((do eqGuard o t x y (a'.eval x) (a'.eval y);binOp o t (a'.eval x) (a'.eval y)):Sem Value).run P w= .ok (.bool c) w:=by
  rw [ha.ev hx,ha.ev hy];exact run_cmp hc
 show ((((do eqGuard o t x y (a'.eval x) (a'.eval y);binOp o t (a'.eval x) (a'.eval y)):Sem Value)>>=fun r=>pure (Next.value r)):Sem Next).run P w=_
 rw [Sem.run_bind,e];rfl
theorem rd_ar {o:BinOp}{t t':TypeId}{x y:Operand}{k:IntKind}{a b:Int}{dst:Option Tmp}(hx:evo l x=some (.int k a)) (hy:evo l y=some (.int k b)) (c:Int) (hc:arB o k a b=some c):RunD P n l ⟨dst,.binOp o t x y t',ty,pos,af,gd⟩ w (.value (.int k c)) w:=fun a' ha=>by
 have e:((do eqGuard o t x y (a'.eval x) (a'.eval y);binOp o t (a'.eval x) (a'.eval y)):Sem Value).run P w= .ok (.int k c) w:=by
  rw [ha.ev hx,ha.ev hy];exact run_ar hc
 show ((((do eqGuard o t x y (a'.eval x) (a'.eval y);binOp o t (a'.eval x) (a'.eval y)):Sem Value)>>=fun r=>pure (Next.value r)):Sem Next).run P w=_
 rw [Sem.run_bind,e];rfl
theorem run_store1v {w:World}{T T':TypeId}{g off:Nat}{vs:List Value}{v:Value}(hT:∀w,(sizeOf T).run P w= .ok 1 w) (hv:v.cells= #[v]) (hb:Bk w g T' vs) (hle:off<vs.length) (h1:v.oneCell'=true) (us':List Value) (he:vs.set off v=us'):
  ∃w',(storeVar T ⟨g,off,none⟩ v).run P w= .ok () w'∧Bk w' g T' us'∧Upd g w w'∧w'.heap.size=w.heap.size:=by
 have hb2:=hb.set off v
 rw [he] at hb2
 refine⟨w.setCell ⟨g,off,none⟩ v,?_,hb2,(Upd.refl g w).setCell off v,by simp [World.setCell]⟩
 unfold storeVar
 rw [Sem.run_bind]
 show ((sizeOf T).run P w).andThen _=_
 rw [hT w]
 simp only [Result.andThen_ok,hv,List.size_toArray,List.length_cons,List.length_nil,ne_eq,not_true,Nat.zero_add,if_false]
 show ((store ((⟨g,off,none⟩:Addr).add 0) v>>=fun _=>storeCells ⟨g,off,none⟩ [] (0+1):Sem Unit)).run P w=_
 rw [add_lit0,Nat.add_zero,Sem.run_bind,run_store1 (hb.cell hle) (hb.frozen off) h1]
 rfl
theorem wl_make {t e:TypeId}{z:Value}{bytes:Nat}{x y:Operand}(hw:guardB ops l gd=some true){i:Int}{k:Nat}(hx:evo l x=some (.int .i64 i)) (hy:evo l y=some (.int .i64 i)) (hi:i=(k:Int)) (ht:P.underlying t=some (.slice e))
  (hinfo:(P.info? e).map (fun i=>(i.zero,i.size,i.bytes))=some (some z,1,bytes)) (hz:z.cells= #[z]) (hby:bytes≤64) (hk:k≤1099511627776) (hn:d<n)
  (h:∀g w',w.heap.size=g→Bk w' g e (List.replicate k z)→Ext w w'→wl P ops Q n rest ((d,.slice (some ⟨g,0,none⟩) k k)::l) w'):wl P ops Q n (⟨some d,.makeSlice t x y,ty,pos,af,gd⟩::rest) l w:=by
 subst hi
 have hm:=run_make1 (P:=P) ht hinfo hz hby (k:Int) (by omega) (by omega) w
 rw [Int.toNat_natCast] at hm
 refine wl_val hw hn (fun a' ha=>?_) (h _ (w.alloc (.cells (zc z k) e)) rfl (Bk.new' _ _ _) ((Ext.refl w).alloc _))
 have e':(Instr.makeSlice t (a'.eval x) (a'.eval y)).run P w= .ok (.slice (some ⟨w.heap.size,0,none⟩) k k) (w.alloc (.cells (zc z k) e)):=by rw [ha.ev hx,ha.ev hy];exact hm
 show ((Instr.makeSlice t (a'.eval x) (a'.eval y)>>=fun r=>pure (Next.value r):Sem Next)).run P w=_
 rw [Sem.run_bind,e'];rfl
end
theorem load_word {P:Program}{w:World}{T T':TypeId}{g i:Nat}{l:List Nat}(hT:∀w,(isAgg T).run P w= .ok false w) (hb:Bk w g T' (l.map W64)) (hi:i<l.length):(loadVar T ⟨g,i,none⟩).run P w= .ok (.int .u64 ((l.getD i 0:Nat):Int)) w:=by
 refine load_cell hT hb ?_
 simp [List.getD_eq_getElem?_getD,List.getElem?_eq_getElem hi]
theorem len_set {l:List Nat}{N i x:Nat}(h:l.length=N):(l.set i x).length=N:=by rw [List.length_set];exact h
theorem len_map {f:Nat→Value}{l:List Nat}{i:Nat}(h:i<l.length):i<(l.map f).length:=by rw [List.length_map];exact h
theorem cb_lt_t {A B:Int}{a b:Nat}(ha:A=(a:Int)) (hb:B=(b:Int)) (h:a<b):cmpB .lss A B=some true:=by subst ha hb;exact lt_t (by omega)
theorem cb_lt_f {A B:Int}{a b:Nat}(ha:A=(a:Int)) (hb:B=(b:Int)) (h:b≤a):cmpB .lss A B=some false:=by subst ha hb;exact lt_f (by omega)
theorem cb_le_t {A B:Int}{a b:Nat}(ha:A=(a:Int)) (hb:B=(b:Int)) (h:a≤b):cmpB .leq A B=some true:=by subst ha hb;exact le_t (by omega)
theorem cb_le_f {A B:Int}{a b:Nat}(ha:A=(a:Int)) (hb:B=(b:Int)) (h:b<a):cmpB .leq A B=some false:=by subst ha hb;exact le_f (by omega)
theorem cb_gt_t {A B:Int}{a b:Nat}(ha:A=(a:Int)) (hb:B=(b:Int)) (h:b<a):cmpB .gtr A B=some true:=by subst ha hb;exact gt_t (by omega)
theorem cb_gt_f {A B:Int}{a b:Nat}(ha:A=(a:Int)) (hb:B=(b:Int)) (h:a≤b):cmpB .gtr A B=some false:=by subst ha hb;exact gt_f (by omega)
theorem cb_ge_t {A B:Int}{a b:Nat}(ha:A=(a:Int)) (hb:B=(b:Int)) (h:b≤a):cmpB .geq A B=some true:=by subst ha hb;exact ge_t (by omega)
theorem cb_ge_f {A B:Int}{a b:Nat}(ha:A=(a:Int)) (hb:B=(b:Int)) (h:a<b):cmpB .geq A B=some false:=by subst ha hb;exact ge_f (by omega)
theorem cb_eq_t {A B:Int}{a b:Nat}(ha:A=(a:Int)) (hb:B=(b:Int)) (h:a=b):cmpB .eql A B=some true:=by subst ha hb;exact eq_t (by omega)
theorem cb_eq_f {A B:Int}{a b:Nat}(ha:A=(a:Int)) (hb:B=(b:Int)) (h:a≠b):cmpB .eql A B=some false:=by subst ha hb;exact eq_f (by omega)
theorem cb_ne_t {A B:Int}{a b:Nat}(ha:A=(a:Int)) (hb:B=(b:Int)) (h:a≠b):cmpB .neq A B=some true:=by subst ha hb;exact ne_t (by omega)
theorem cb_ne_f {A B:Int}{a b:Nat}(ha:A=(a:Int)) (hb:B=(b:Int)) (h:a=b):cmpB .neq A B=some false:=by subst ha hb;exact ne_f (by omega)
theorem au_add {A B:Int}{a b:Nat}(ha:A=(a:Int)) (hb:B=(b:Int)) (h:a+b≤18446744073709551615):arB .add .u64 A B=some ((a+b:Nat):Int):=by
 subst ha hb;simp only [arB,Option.some.injEq];rw [←Int.natCast_add];exact IntWalk.u64_in _ ⟨by omega,by omega⟩
theorem au_sub {A B:Int}{a b:Nat}(ha:A=(a:Int)) (hb:B=(b:Int)) (h:b≤a) (h2:a≤18446744073709551615):arB .sub .u64 A B=some ((a-b:Nat):Int):=by
 subst ha hb;simp only [arB,Option.some.injEq];rw [show (a:Int)-(b:Int)=((a-b:Nat):Int) by omega];exact IntWalk.u64_in _ ⟨by omega,by omega⟩
theorem au_mul {A B:Int}{a b:Nat}(ha:A=(a:Int)) (hb:B=(b:Int)) (h:a*b≤18446744073709551615):arB .mul .u64 A B=some ((a*b:Nat):Int):=by
 subst ha hb;simp only [arB,Option.some.injEq];rw [←Int.natCast_mul];exact IntWalk.u64_in _ ⟨by omega,by omega⟩
theorem au_quo {A B:Int}{a b:Nat}(ha:A=(a:Int)) (hb:B=(b:Int)) (h:b≠0) (h2:a≤18446744073709551615):arB .quo .u64 A B=some ((a/b:Nat):Int):=by
 subst ha hb
 have e:((a:Int)).tdiv (b:Int)=((a/b:Nat):Int):=rfl
 have h3:a/b≤a:=Nat.div_le_self a b
 have h4:(0:Int)≤((a/b:Nat):Int):=Int.natCast_nonneg _
 have h5:((a/b:Nat):Int)≤(a:Int):=Int.ofNat_le.2 h3
 simp only [arB];rw [if_neg (by omega),e,Option.some.injEq]
 generalize ((a/b:Nat):Int)=q at h4 h5
 exact IntWalk.u64_in _ ⟨by omega,by omega⟩
theorem au_rem {k:IntKind}{A B:Int}{a b:Nat}(ha:A=(a:Int)) (hb:B=(b:Int)) (h:b≠0):arB .rem k A B=some ((a%b:Nat):Int):=by
 subst ha hb
 have e:((a:Int)).tmod (b:Int)=((a%b:Nat):Int):=rfl
 simp only [arB];rw [if_neg (by omega),e]
theorem ai_add {A B:Int}{a b:Nat}(ha:A=(a:Int)) (hb:B=(b:Int)) (h:a+b≤9223372036854775807):arB .add .i64 A B=some ((a+b:Nat):Int):=by
 subst ha hb;exact ar_i64 (by omega) (by omega) (by omega)
theorem ai_sub {A B:Int}{a b:Nat}(ha:A=(a:Int)) (hb:B=(b:Int)) (h:b≤a) (h2:a≤9223372036854775807):arB .sub .i64 A B=some ((a-b:Nat):Int):=by
 subst ha hb;exact ar_i64s (by omega) (by omega) (by omega)
theorem ai_mul {A B:Int}{a b:Nat}(ha:A=(a:Int)) (hb:B=(b:Int)) (h:a*b≤9223372036854775807):arB .mul .i64 A B=some ((a*b:Nat):Int):=by
 subst ha hb;exact ar_i64m (by rw [←Int.natCast_mul]) (by omega) (by omega)
theorem ai_quo {A B:Int}{a b:Nat}(ha:A=(a:Int)) (hb:B=(b:Int)) (h:b≠0) (h2:a≤9223372036854775807):arB .quo .i64 A B=some ((a/b:Nat):Int):=by
 subst ha hb
 have h3:a/b≤a:=Nat.div_le_self a b
 have h4:(0:Int)≤((a/b:Nat):Int):=Int.natCast_nonneg _
 have h5:((a/b:Nat):Int)≤(a:Int):=Int.ofNat_le.2 h3
 refine ar_i64q (by omega) rfl ?_ ?_
 ·show _≤((a/b:Nat):Int)
  generalize ((a/b:Nat):Int)=q at h4 h5
  omega
 ·show ((a/b:Nat):Int)≤_
  generalize ((a/b:Nat):Int)=q at h4 h5
  omega
theorem sz_u64 (w:World):(sizeOf 67).run Tryz.prog w= .ok 1 w:=by kernel_rfl
theorem ag_u64 (w:World):(isAgg 67).run Tryz.prog w= .ok false w:=by kernel_rfl
theorem un_u64:Tryz.prog.underlying 24=some (.slice 67):=Tryz.underlying24
theorem res_iie {w:World}{g g':Nat}{t t':TypeId}{a b c d:Value}{fn:Func}{s s' u:Tmp}(hf:fn.results= #[.cell s 26,.cell s' 26,.tmp u]){tmps:Array Value}(hs:tmps.getD s undef= .pointer (some ⟨g,0,none⟩)) (hs':tmps.getD s' undef= .pointer (some ⟨g',0,none⟩)){v:Value}(hu:tmps.getD u undef=v) (h:Bk w g t [a,b]) (h':Bk w g' t' [c,d]):
  (results fn tmps).run Tryz.prog w= .ok (.tuple #[.agg #[a,b],.agg #[c,d],v]) w:=by
 obtain⟨h1,h2,_,_⟩:=h.two
 obtain⟨h3,h4,_,_⟩:=h'.two
 have hs2:tmps[s]?.getD undef= .pointer (some ⟨g,0,none⟩):=by simpa using hs
 have hs3:tmps[s']?.getD undef= .pointer (some ⟨g',0,none⟩):=by simpa using hs'
 have hu2:tmps[u]?.getD undef=v:=by simpa using hu
 simp [results,hf,hs2,hs3,hu2,loadVar,loadCells,loadCellsFrom,go_sem,h1,h2,h3,h4]
theorem Bk.two_far {w:World}{g g':Nat}{t:TypeId}{l:List Value}(h:Bk w g t l) (hne:g≠g') (u v:Value):Bk ((w.setCell ⟨g',0,none⟩ u).setCell ⟨g',1,none⟩ v) g t l:=(h.far (p:=⟨g',0,none⟩) hne u).far (p:=⟨g',1,none⟩) hne v
set_option maxHeartbeats 1000000 in
theorem zint_Add {w:World}{s t:Bool}{A B:Option Addr}{n cap m cap':Nat}{x y:Int}(hx:Zi w s A n cap x) (hl:n≤274877906944) (hy:Zi w t B m cap' y) (hl':m≤274877906944):
  Calls Tryz.prog 56 #[.agg #[.bool s,.slice A n cap],.agg #[.bool t,.slice B m cap']] w (RetZ w (x+y)):=by
 obtain⟨xs,hr,rfl⟩:=hx
 obtain⟨ys,hq,rfl⟩:=hy
 go_enter Tryz.func56,Tryz.ntmps56
 go_upto_region 1 with (fail)
 obtain⟨g,g2,g3,wa,hg3,hg2,hg,hwa,hb1,hb2,hb3,hea,l12,l23,l3,n12,n21,n13,n31,n23,n32⟩:=boxes3 w 26 26 26 (.bool s) (.slice A n cap) (.bool t) (.slice B m cap') (.bool false) (.slice none 0 0)
 rw [hg3,hg2,hg,hwa]
 have hgw:w.heap.size≤g:=Nat.le_of_eq hg
 clear hwa hg hg2 hg3
 obtain⟨f1,f2,f3,f4⟩:=hb1.two
 obtain⟨h1,h2,h3,h4⟩:=hb2.two
 obtain⟨k1,k2,k3,k4⟩:=hb3.two
 by_cases hst:s=t
 ·have bs:(s==t)=true:=by rw [hst];cases t <;> rfl
  go_upto_region 2 with (fail)
  go_region_held3 (fun w'=>w'.cell? ⟨g,0,none⟩=some (.bool s)∧w'.cell? ⟨g,1,none⟩=some (.slice A n cap)∧w'.cell? ⟨g2,0,none⟩=some (.bool t)∧w'.cell? ⟨g2,1,none⟩=some (.slice B m cap')) (go_keep)
   (first
   | (go_at_call 119;refine (nat_Add (hr.ext (by repeat (first | exact Ext.refl _ | assumption | apply Ext.drewN | apply Ext.drew | apply Ext.alloc))) (by omega) (hq.ext (by repeat (first | exact Ext.refl _ | assumption | apply Ext.drewN | apply Ext.drew | apply Ext.alloc))) (by omega)).mono ?_;rintro e w1 ⟨A1,n1,c1,rfl,hn1,hr1,ho1,hx1⟩;have he1:Ext wa w1:=Ext.trans (by repeat (first | exact Ext.refl _ | assumption | apply Ext.drewN | apply Ext.drew | apply Ext.alloc)) hx1;have hb1:=hb1.ext he1;have hb2:=hb2.ext he1;have hb3:=hb3.ext he1;obtain⟨f1,f2,f3,f4⟩:=hb1.two;obtain⟨h1,h2,h3,h4⟩:=hb2.two;obtain⟨k1,k2,k3,k4⟩:=hb3.two)
   | (go_at_call 98;refine (zint_of hn1.out).mono ?_;rintro e w2 ⟨s',rfl,hs',hx2⟩;have hd1:=hb1.ext hx2;have hd2:=hb2.ext hx2;have hd3:=hb3.ext hx2;obtain⟨f1,f2,f3,f4⟩:=hd1.two;obtain⟨h1,h2,h3,h4⟩:=hd2.two;obtain⟨k1,k2,k3,k4⟩:=hd3.two))
  go_wp2_with fail
  refine bodyPost_ret (res_int rfl rfl (hd3.two_set _ _)) rfl ?_
  exact fin_int hd3 ((Zr_of hs'.out hn1.out ho1 (by rw [sg_add,hst])).ext hx2) (by first | omega | (simp;omega)) (by omega) (hea.trans (he1.trans hx2))
 ·have bs:(s==t)=false:=by cases s <;> cases t <;> simp_all
  have ht:Hid (t= !s):=by show _=_;cases s <;> cases t <;> simp_all
  clear hst
  go_wp2_with fail
  refine (nat_Cmp (hr.ext hea) (by omega) (hq.ext hea) (by omega)).mono ?_
  rintro e w1 ⟨c,hc,hcl,hch,rfl,hx1⟩
  have hb1:=hb1.ext hx1
  have hb2:=hb2.ext hx1
  have hb3:=hb3.ext hx1
  have he1:=hea.trans hx1
  have hsz:=hx1.size
  clear f1 f2 f3 f4 h1 h2 h3 h4 k1 k2 k3 k4
  obtain⟨f1,f2,f3,f4⟩:=hb1.two
  obtain⟨h1,h2,h3,h4⟩:=hb2.two
  by_cases hlt:c<0
  ·have hle:nv xs≤nv ys:=by rw [hc.out] at hlt;exact Nat.le_of_lt (cmp3_neg.1 hlt)
   have HLE:=Lib.hid hle
   clear hle
   go_upto_region 5 with (fail)
   obtain⟨wb,hwb⟩:∃wb,(((w1.setCell ⟨g,0,none⟩ (.bool t)).setCell ⟨g,1,none⟩ (.slice B m cap')).setCell ⟨g2,0,none⟩ (.bool s)).setCell ⟨g2,1,none⟩ (.slice A n cap)=wb:=⟨_,rfl⟩
   rw [hwb]
   have hd1:Bk wb g 26 [.bool t,.slice B m cap']:=by rw [←hwb];exact (hb1.two_set _ _).two_far n12 _ _
   have hd2:Bk wb g2 26 [.bool s,.slice A n cap]:=by rw [←hwb];exact (hb2.two_far n21 _ _).two_set _ _
   have hd3:Bk wb g3 26 [.bool false,.slice none 0 0]:=by rw [←hwb];exact (hb3.two_far n31 _ _).two_far n32 _ _
   have heb:Ext w wb:=by
    rw [←hwb]
    exact (Upd.two _ _).ext ((Upd.two _ _).ext he1 hgw) (by omega)
   have hszb:wb.heap.size=w1.heap.size:=by rw [←hwb];simp [World.setCell]
   clear hwb f1 f2 f3 f4 h1 h2 h3 h4
   obtain⟨f1,f2,f3,f4⟩:=hd1.two
   obtain⟨h1,h2,h3,h4⟩:=hd2.two
   go_wp2_with fail
   refine (nat_Sub (hq.ext heb) (by omega) (hr.ext heb) (by omega) HLE.out).mono ?_
   rintro e w2 ⟨A2,n2,c2,rfl,hn2,hr2,ho2,hx2⟩
   obtain⟨f1,f2,f3,f4⟩:=(hd1.ext hx2).two
   have hd3:=hd3.ext hx2
   go_wp2_with fail
   refine (zint_of hn2.out).mono ?_
   rintro e w3 ⟨s',rfl,hs',hx3⟩
   have hd3:=hd3.ext hx3
   obtain⟨k1,k2,k3,k4⟩:=hd3.two
   go_wp2_with fail
   refine bodyPost_ret (res_int rfl rfl (hd3.two_set _ _)) rfl ?_
   exact fin_int hd3 ((Zr_of hs'.out hn2.out ho2 (by rw [sg_sub HLE.out,ht.out,Bool.not_not,Int.add_comm])).ext hx3) (by omega) (by omega) (heb.trans (hx2.trans hx3))
  ·have hle:nv ys≤nv xs:=by rw [hc.out] at hlt;exact Nat.le_of_not_lt (fun h=>hlt (cmp3_neg.2 h))
   have HLE:=Lib.hid hle
   clear hle
   go_wp2_with fail
   refine (nat_Sub (hr.ext he1) (by omega) (hq.ext he1) (by omega) HLE.out).mono ?_
   rintro e w2 ⟨A2,n2,c2,rfl,hn2,hr2,ho2,hx2⟩
   obtain⟨f1,f2,f3,f4⟩:=(hb1.ext hx2).two
   have hd3:=hb3.ext hx2
   go_wp2_with fail
   refine (zint_of hn2.out).mono ?_
   rintro e w3 ⟨s',rfl,hs',hx3⟩
   have hd3:=hd3.ext hx3
   obtain⟨k1,k2,k3,k4⟩:=hd3.two
   go_wp2_with fail
   refine bodyPost_ret (res_int rfl rfl (hd3.two_set _ _)) rfl ?_
   exact fin_int hd3 ((Zr_of hs'.out hn2.out ho2 (by rw [sg_sub HLE.out,ht.out])).ext hx3) (by omega) (by omega) (he1.trans (hx2.trans hx3))
theorem zint_Sub {w:World}{s t:Bool}{A B:Option Addr}{n cap m cap':Nat}{x y:Int}(hx:Zi w s A n cap x) (hl:n≤274877906944) (hy:Zi w t B m cap' y) (hl':m≤274877906944):
  Calls Tryz.prog 57 #[.agg #[.bool s,.slice A n cap],.agg #[.bool t,.slice B m cap']] w (RetZ w (x-y)):=by
 go_enter Tryz.func57,Tryz.ntmps57
 go_upto_region 1 with (fail)
 obtain⟨g,g2,g3,wa,hg3,hg2,hg,hwa,hb1,hb2,hb3,hea,l12,l23,l3,n12,n21,n13,n31,n23,n32⟩:=boxes3 w 26 26 26 (.bool s) (.slice A n cap) (.bool t) (.slice B m cap') (.bool false) (.slice none 0 0)
 rw [hg3,hg2,hg,hwa]
 have hgw:w.heap.size≤g:=Nat.le_of_eq hg
 clear hwa hg hg2 hg3
 obtain⟨f1,f2,f3,f4⟩:=hb1.two
 obtain⟨h1,h2,h3,h4⟩:=hb2.two
 obtain⟨k1,k2,k3,k4⟩:=hb3.two
 go_wp2_with fail
 refine (zint_Add (hx.ext hea) hl (hy.not.ext hea) hl').mono ?_
 rintro e w1 ⟨s1,A1,n1,c1,rfl,z1,hx1⟩
 have hd3:=hb3.ext hx1
 clear f1 f2 f3 f4 h1 h2 h3 h4 k1 k2 k3 k4
 obtain⟨k1,k2,k3,k4⟩:=hd3.two
 go_wp2_with fail
 refine bodyPost_ret (res_int rfl rfl (hd3.two_set _ _)) rfl ?_
 exact fin_int hd3 (z1.cast Int.sub_eq_add_neg.symm) (by omega) (by omega) (hea.trans hx1)
theorem zint_MulAdd {w:World}{s t u:Bool}{A B C:Option Addr}{n cap m cap' k cap'':Nat}{x y z:Int}(hx:Zi w s A n cap x) (hl:n≤68719476736) (hy:Zi w t B m cap' y) (hl':m≤68719476736) (hz:Zi w u C k cap'' z) (hl'':k≤68719476736):
  Calls Tryz.prog 58 #[.agg #[.bool s,.slice A n cap],.agg #[.bool t,.slice B m cap'],.agg #[.bool u,.slice C k cap'']] w (RetZ w (x*y+z)):=by
 have lx:=Nat.le_trans hx.ln hl
 have ly:=Nat.le_trans hy.ln hl'
 go_enter Tryz.func58,Tryz.ntmps58
 go_upto_region 1 with (fail)
 obtain⟨g,g2,g3,g4,wa,hg4,hg3,hg2,hg,hwa,hb1,hb2,hb3,hb4,hea,l12,l23,l34,l4,n12,n21,n13,n31,n23,n32,n14,n41,n24,n42,n34,n43⟩:=boxes4 w 26 26 26 26 (.bool s) (.slice A n cap) (.bool t) (.slice B m cap') (.bool u) (.slice C k cap'') (.bool false) (.slice none 0 0)
 rw [hg4,hg3,hg2,hg,hwa]
 have hgw:w.heap.size≤g:=Nat.le_of_eq hg
 clear hwa hg hg2 hg3 hg4
 obtain⟨f1,f2,f3,f4⟩:=hb1.two
 obtain⟨h1,h2,h3,h4⟩:=hb2.two
 obtain⟨i1,i2,i3,i4⟩:=hb3.two
 obtain⟨k1,k2,k3,k4⟩:=hb4.two
 go_region_held3 (fun w'=>w'.cell? ⟨g,0,none⟩=some (.bool s)∧w'.cell? ⟨g,1,none⟩=some (.slice A n cap)∧w'.cell? ⟨g2,0,none⟩=some (.bool t)∧w'.cell? ⟨g2,1,none⟩=some (.slice B m cap')∧w'.cell? ⟨g3,0,none⟩=some (.bool u)∧w'.cell? ⟨g3,1,none⟩=some (.slice C k cap'')) (go_keep)
  (first
  | (go_at_call 28;refine (zint_Mul (hx.ext (by repeat (first | exact Ext.refl _ | assumption | apply Ext.drewN | apply Ext.drew | apply Ext.alloc))) hl (hy.ext (by repeat (first | exact Ext.refl _ | assumption | apply Ext.drewN | apply Ext.drew | apply Ext.alloc))) hl').mono ?_;rintro e w1 ⟨s1,A1,n1,c1,rfl,z1,hx1⟩;have q1:n1≤274877906944:=(Nat.le_trans (z1.le (ln_mul lx ly)) (by omega));have he1:Ext wa w1:=Ext.trans (by repeat (first | exact Ext.refl _ | assumption | apply Ext.drewN | apply Ext.drew | apply Ext.alloc)) hx1;have hb1:=hb1.ext he1;have hb2:=hb2.ext he1;have hb3:=hb3.ext he1;have hb4:=hb4.ext he1;obtain⟨f1,f2,f3,f4⟩:=hb1.two;obtain⟨h1,h2,h3,h4⟩:=hb2.two;obtain⟨i1,i2,i3,i4⟩:=hb3.two;obtain⟨k1,k2,k3,k4⟩:=hb4.two)
  | (go_at_call 56;refine (zint_Add z1.zi q1 (hz.ext (hea.trans he1)) (by omega)).mono ?_;rintro e w2 ⟨s2,A2,n2,c2,rfl,z2,hx2⟩;have hb1:=hb1.ext hx2;have hb2:=hb2.ext hx2;have hb3:=hb3.ext hx2;have hb4:=hb4.ext hx2;obtain⟨f1,f2,f3,f4⟩:=hb1.two;obtain⟨h1,h2,h3,h4⟩:=hb2.two;obtain⟨i1,i2,i3,i4⟩:=hb3.two;obtain⟨k1,k2,k3,k4⟩:=hb4.two))
 go_wp2_with fail
 have hsz:=he1.size
 refine bodyPost_ret (res_int rfl rfl (hb4.two_set _ _)) rfl ?_
 exact fin_int hb4 z2 (by omega) (by omega) (hea.trans (he1.trans hx2))
set_option maxHeartbeats 1000000 in
theorem zint_Cmp {w:World}{s t:Bool}{A B:Option Addr}{n cap m cap':Nat}{x y:Int}(hx:Zi w s A n cap x) (hl:n≤68719476736) (hy:Zi w t B m cap' y) (hl':m≤68719476736):
  Calls Tryz.prog 52 #[.agg #[.bool s,.slice A n cap],.agg #[.bool t,.slice B m cap']] w (SgnP (scmp x y) w):=by
 go_enter Tryz.func52,Tryz.ntmps52
 go_upto_region 1 with (fail)
 obtain⟨g,g2,wa,hg2,hg,hwa,hb1,hb2,hea,l12,l2,n12,n21⟩:=boxes2 w 26 26 (.bool s) (.slice A n cap) (.bool t) (.slice B m cap')
 rw [hg2,hg,hwa]
 have hgw:w.heap.size≤g:=Nat.le_of_eq hg
 clear hwa hg hg2
 obtain⟨f1,f2,f3,f4⟩:=hb1.two
 obtain⟨h1,h2,h3,h4⟩:=hb2.two
 go_region_held3 (fun w'=>w'.cell? ⟨g,0,none⟩=some (.bool s)∧w'.cell? ⟨g,1,none⟩=some (.slice A n cap)∧w'.cell? ⟨g2,0,none⟩=some (.bool t)∧w'.cell? ⟨g2,1,none⟩=some (.slice B m cap')) (go_keep)
  (first
  | (go_at_call 51;(with_reducible refine (zint_Sign (hx.ext (hea.trans (by repeat (first | exact Ext.refl _ | assumption | apply Ext.drewN | apply Ext.drew | apply Ext.alloc)))) hl).mono ?_);rintro e w2 ⟨c,hc,hcl,hch,rfl,hx2⟩;have he2:Ext wa w2:=Ext.trans (by repeat (first | exact Ext.refl _ | assumption | apply Ext.drewN | apply Ext.drew | apply Ext.alloc)) hx2;obtain⟨f1,f2,f3,f4⟩:=(hb1.ext he2).two;obtain⟨h1,h2,h3,h4⟩:=(hb2.ext he2).two)
  | (go_at_call 51;(with_reducible refine (zint_Sign (hy.ext (hea.trans (by repeat (first | exact Ext.refl _ | assumption | apply Ext.drewN | apply Ext.drew | apply Ext.alloc)))) hl').mono ?_);rintro e w2 ⟨d,hd,hdl,hdh,rfl,hx2⟩;have he2:Ext wa w2:=Ext.trans (by repeat (first | exact Ext.refl _ | assumption | apply Ext.drewN | apply Ext.drew | apply Ext.alloc)) hx2;obtain⟨f1,f2,f3,f4⟩:=(hb1.ext he2).two;obtain⟨h1,h2,h3,h4⟩:=(hb2.ext he2).two))
 all_goals
  have e2:=hea.trans he2
  clear hx2
  have p1:c<0↔x<0:=by rw [hc.out];exact scmp_neg
  have p2:c=0↔x=0:=by rw [hc.out];exact scmp_zero
  have p3:d<0↔y<0:=by rw [hd.out];exact scmp_neg
  have p4:d=0↔y=0:=by rw [hd.out];exact scmp_zero
  have hlt:c<d→x<y:=by omega
  have hgt:d<c→y<x:=by omega
  have H1:=Lib.hid p1
  have H2:=Lib.hid p2
  have H3:=Lib.hid p3
  have H4:=Lib.hid p4
  clear p1 p2 p3 p4
  rcases Int.lt_trichotomy c d with h | h | h
  ·have bn:(c != d)=true:=by simp;omega
   have HL:=Lib.hid (hlt h)
   clear hlt hgt
   go_wp2_with fail
   go_ret
   exact⟨-1,(show _=_ by rw [scmp,if_pos HL.out]),by omega,by omega,rfl,e2⟩
  ·subst h
   have bn:(c != c)=false:=by simp
   clear hlt hgt
   obtain⟨xs,hr,hxv⟩:=hx
   obtain⟨ys,hq,hyv⟩:=hy
   have HX:=Lib.hid hxv
   have HY:=Lib.hid hyv
   clear hxv hyv
   go_wp2_with fail
   refine (nat_Cmp (hr.ext e2) (by omega) (hq.ext e2) (by omega)).mono ?_
   rintro e w3 ⟨k,hk,hkl,hkh,rfl,hx3⟩
   have fin:c*k=scmp x y:=by
    have ax:x.natAbs=nv xs:=by rw [←HX.out,sg_abs]
    have ay:y.natAbs=nv ys:=by rw [←HY.out,sg_abs]
    have k1:k<0↔nv xs<nv ys:=by rw [hk.out];exact cmp3_neg
    have k2:0<k↔nv ys<nv xs:=by rw [hk.out];exact cmp3_pos
    have p1:=H1.out
    have p2:=H2.out
    have p3:=H3.out
    have p4:=H4.out
    have hc3:c= -1∨c=0∨c=1:=by omega
    have hk3:k= -1∨k=0∨k=1:=by omega
    rcases hc3 with rfl | rfl | rfl
    ·rcases hk3 with rfl | rfl | rfl <;> (unfold scmp;split <;> (try split) <;> omega)
    ·unfold scmp;split <;> (try split) <;> omega
    ·rcases hk3 with rfl | rfl | rfl <;> (unfold scmp;split <;> (try split) <;> omega)
   have FIN:=Lib.hid fin
   clear fin
   have hc3:c= -1∨c=0∨c=1:=by omega
   rcases hc3 with rfl | rfl | rfl
   ·go_wp2_with fail
    go_ret
    exact⟨-k,(show _=_ by rw [←FIN.out];omega),by omega,by omega,rfl,e2.trans hx3⟩
   ·go_wp2_with fail
    go_ret
    exact⟨0,(show _=_ by rw [←FIN.out];omega),by omega,by omega,rfl,e2.trans hx3⟩
   ·go_wp2_with fail
    go_ret
    exact⟨k,(show _=_ by rw [←FIN.out];omega),by omega,by omega,rfl,e2.trans hx3⟩
  ·have bn:(c != d)=true:=by simp;omega
   have hnl:¬c<d:=by omega
   have HG:=Lib.hid (hgt h)
   clear hlt hgt
   go_wp2_with fail
   go_ret
   exact⟨1,(show _=_ by have:=HG.out;rw [scmp,if_neg (by omega),if_neg (by omega)]),by omega,by omega,rfl,e2⟩
theorem zint_Of {w:World}{v:Nat}(hv:v≤9223372036854775807):
  Calls Tryz.prog 49 #[.int .i64 (v:Int)] w (RetZ w ((v:Int))):=by
 have hn:¬(v:Int)<0:=by omega
 go_enter Tryz.func49,Tryz.ntmps49
 go_upto_region 3 with (fail)
 obtain⟨g,hg⟩:∃g,w.heap.size=g:=⟨_,rfl⟩
 obtain⟨wa,hwa⟩:∃wa,w.alloc (.cells #[.bool false,.slice none 0 0] 26)=wa:=⟨_,rfl⟩
 rw [hg,hwa]
 have hb:Bk wa g 26 [.bool false,.slice none 0 0]:=by rw [←hwa,←hg];exact Bk.new w 26 [.bool false,.slice none 0 0]
 have hea:Ext w wa:=by rw [←hwa];exact (Ext.refl w).alloc _
 have hga:w.heap.size≤g:=Nat.le_of_eq hg
 have hgl:g<wa.heap.size:=hb.lt
 clear hwa hg
 obtain⟨k1,k2,k3,k4⟩:=hb.two
 have h1:Rd (wa.alloc (.cells #[.int .u64 (v:Int)] 67)) (some ⟨wa.heap.size,0,none⟩) 1 1 [v]:=Rd.one wa (by omega)
 go_wp2_with fail
 refine (nat_Least (h1.ext (by repeat (first | exact Ext.refl _ | assumption | apply Ext.drewN | apply Ext.drew | apply Ext.alloc))) (by omega)).mono ?_
 rintro e w1 ⟨A1,n1,c1,rfl,hn1,hr1,ho1,hx1⟩
 rw [nv_one] at hn1 ho1
 have hx1':Ext wa w1:=Ext.trans (by repeat (first | exact Ext.refl _ | assumption | apply Ext.drewN | apply Ext.drew | apply Ext.alloc)) hx1
 have hd:=hb.ext hx1'
 have hsz:=hx1'.size
 go_wp2_with fail
 refine (zint_of hn1.out).mono ?_
 rintro e w2 ⟨s',rfl,hs',hx2⟩
 have hd:=hd.ext hx2
 clear k1 k2 k3 k4
 obtain⟨k1,k2,k3,k4⟩:=hd.two
 go_wp2_with fail
 refine bodyPost_ret (res_int rfl rfl (hd.two_set _ _)) rfl ?_
 exact fin_int hd ((Zr_of hs'.out hn1.out ho1 (sg_false _)).ext hx2) (by simp;omega) (by omega) (hea.trans (hx1'.trans hx2))
theorem zint_Trunc_bad {w:World}{s t:Bool}{A B:Option Addr}{n cap m cap':Nat}{x y:Int}(hx:Zi w s A n cap x) (_hl:n≤68719476736) (hy:Zi w t B m cap' y) (hl':m≤68719476736) (h0:y=0):
  Calls Tryz.prog 122 #[.agg #[.bool s,.slice A n cap],.agg #[.bool t,.slice B m cap']] w (RetZZE w 0 0 4):=by
 obtain⟨xs,hr,rfl⟩:=hx
 obtain⟨ys,hq,hyv⟩:=hy
 have hz:nv ys=0:=sg_eq_zero.1 (by rw [hyv,h0])
 have HZ:=Lib.hid hz
 clear hz h0 hyv
 go_enter Tryz.func122,Tryz.ntmps122
 go_upto_region 1 with (fail)
 obtain⟨g,g2,g3,g4,wa,hg4,hg3,hg2,hg,hwa,hb1,hb2,hb3,hb4,hea,l12,l23,l34,l4,n12,n21,n13,n31,n23,n32,n14,n41,n24,n42,n34,n43⟩:=boxes4 w 26 26 26 26 (.bool s) (.slice A n cap) (.bool t) (.slice B m cap') (.bool false) (.slice none 0 0) (.bool false) (.slice none 0 0)
 rw [hg4,hg3,hg2,hg,hwa]
 have hgw:w.heap.size≤g:=Nat.le_of_eq hg
 clear hwa hg hg2 hg3 hg4
 obtain⟨f1,f2,f3,f4⟩:=hb1.two
 obtain⟨h1,h2,h3,h4⟩:=hb2.two
 go_wp2_with fail
 refine (divnat_DivMod_bad (hq.ext hea) (by omega) HZ.out).mono ?_
 rintro e w1 ⟨rfl,hx1⟩
 clear f1 f2 f3 f4 h1 h2 h3 h4
 have hb3:=hb3.ext hx1
 have hb4:=hb4.ext hx1
 have hsz:=hx1.size
 have e1:=hea.trans hx1
 obtain⟨i1,i2,i3,i4⟩:=hb3.two
 obtain⟨k1,k2,k3,k4⟩:=hb4.two
 go_wp2_with fail
 refine bodyPost_ret (res_iie rfl rfl rfl rfl ((hb3.two_set _ _).two_far n34 _ _) ((hb4.two_far n43 _ _).two_set _ _)) rfl ?_
 exact⟨_,_,_,_,_,_,_,_,rfl,Zr.zero,Zr.zero,(Upd.two _ _).ext ((Upd.two _ _).ext e1 (by omega)) (by omega)⟩
set_option maxHeartbeats 4000000 in
theorem zint_Trunc {w : World} {s t : Bool} {A B : Option Addr} {n cap m cap' : Nat} {x y : Int} (hx : Zi w s A n cap x) (hl : n ≤ 68719476736) (hy : Zi w t B m cap' y) (hl' : m ≤ 68719476736) (h0 : y ≠ 0) :
    Calls Tryz.prog 122 #[.agg #[.bool s, .slice A n cap], .agg #[.bool t, .slice B m cap']] w (RetZZE w (x.tdiv y) (x.tmod y) 0) := by
  obtain ⟨xs, hr, rfl⟩ := hx
  obtain ⟨ys, hq, rfl⟩ := hy
  have hz : nv ys ≠ 0 := fun e => h0 (sg_eq_zero.2 e)
  have HZ := Lib.hid hz
  clear hz h0
  go_enter Tryz.func122, Tryz.ntmps122
  go_upto_region 1 with (fail)
  obtain ⟨g, g2, g3, g4, wa, hg4, hg3, hg2, hg, hwa, hb1, hb2, hb3, hb4, hea, l12, l23, l34, l4, n12, n21, n13, n31, n23, n32, n14, n41, n24, n42, n34, n43⟩ := boxes4 w 26 26 26 26 (.bool s) (.slice A n cap) (.bool t) (.slice B m cap') (.bool false) (.slice none 0 0) (.bool false) (.slice none 0 0)
  rw [hg4, hg3, hg2, hg, hwa]
  have hgw : w.heap.size ≤ g := Nat.le_of_eq hg
  clear hwa hg hg2 hg3 hg4
  obtain ⟨f1, f2, f3, f4⟩ := hb1.two
  obtain ⟨h1, h2, h3, h4⟩ := hb2.two
  go_wp2_with fail
  refine (divnat_DivMod (hr.ext hea) (by omega) (hq.ext hea) (by omega) HZ.out).mono ?_
  rintro e w1 ⟨Aq, nq, cq, Ar, nr, cr, rfl, hnq, hrq, hoq, hnr, hrr, hor, hx1⟩
  clear f1 f2 f3 f4 h1 h2 h3 h4
  have hb1 := hb1.ext hx1
  have hb2 := hb2.ext hx1
  have hb3 := hb3.ext hx1
  have hb4 := hb4.ext hx1
  have hsz := hx1.size
  have e1 := hea.trans hx1
  go_upto_region 4 with (fail)
  obtain ⟨f1, f2, f3, f4⟩ := hb1.two
  obtain ⟨h1, h2, h3, h4⟩ := hb2.two
  obtain ⟨i1, i2, i3, i4⟩ := hb3.two
  obtain ⟨k1, k2, k3, k4⟩ := hb4.two
  go_region_held3 (fun w' => w'.cell? ⟨g, 0, none⟩ = some (.bool s) ∧ w'.cell? ⟨g, 1, none⟩ = some (.slice A n cap) ∧ w'.cell? ⟨g2, 0, none⟩ = some (.bool t) ∧ w'.cell? ⟨g2, 1, none⟩ = some (.slice B m cap')) (go_keep)
    (first
    | (go_at_call 98; (with_reducible refine (zint_of hnq.out).mono ?_); rintro e w5 ⟨s5, rfl, hs5, hx5⟩; have he5 : Ext w1 w5 := Ext.trans (by repeat (first | exact Ext.refl _ | assumption | apply Ext.drewN | apply Ext.drew | apply Ext.alloc)) hx5; clear f1 f2 f3 f4 h1 h2 h3 h4 i1 i2 i3 i4 k1 k2 k3 k4; obtain ⟨f1, f2, f3, f4⟩ := (hb1.ext he5).two; obtain ⟨h1, h2, h3, h4⟩ := (hb2.ext he5).two; obtain ⟨i1, i2, i3, i4⟩ := (hb3.ext he5).two; obtain ⟨k1, k2, k3, k4⟩ := (hb4.ext he5).two)
    | (go_at_call 98; (with_reducible refine (zint_of hnr.out).mono ?_); rintro e w6 ⟨s6, rfl, hs6, hx6⟩; have he6 : Ext w1 w6 := Ext.trans (by repeat (first | exact Ext.refl _ | assumption | apply Ext.drewN | apply Ext.drew | apply Ext.alloc)) hx6; clear f1 f2 f3 f4 h1 h2 h3 h4 i1 i2 i3 i4 k1 k2 k3 k4; obtain ⟨f1, f2, f3, f4⟩ := (hb1.ext he6).two; obtain ⟨h1, h2, h3, h4⟩ := (hb2.ext he6).two; obtain ⟨i1, i2, i3, i4⟩ := (hb3.ext he6).two; obtain ⟨k1, k2, k3, k4⟩ := (hb4.ext he6).two))
  all_goals
    clear f1 f2 f3 f4 h1 h2 h3 h4 i1 i2 i3 i4 k1 k2 k3 k4
    first
    | (obtain ⟨wb, hwb⟩ : ∃ wb, (((w6.setCell ⟨g3, 0, none⟩ (.bool s5)).setCell ⟨g3, 1, none⟩ (.slice Aq nq cq)).setCell ⟨g4, 0, none⟩ (.bool s6)).setCell ⟨g4, 1, none⟩ (.slice Ar nr cr) = wb := ⟨_, rfl⟩
       rw [hwb]
       have hL := he6)
    | (obtain ⟨wb, hwb⟩ : ∃ wb, (((w5.setCell ⟨g3, 0, none⟩ (.bool s5)).setCell ⟨g3, 1, none⟩ (.slice Aq nq cq)).setCell ⟨g4, 0, none⟩ (.bool s6)).setCell ⟨g4, 1, none⟩ (.slice Ar nr cr) = wb := ⟨_, rfl⟩
       rw [hwb]
       have hL := he5)
    have q3 : Bk wb g3 26 [.bool s5, .slice Aq nq cq] := by rw [← hwb]; exact ((hb3.ext hL).two_set _ _).two_far n34 _ _
    have q4 : Bk wb g4 26 [.bool s6, .slice Ar nr cr] := by rw [← hwb]; exact ((hb4.ext hL).two_far n43 _ _).two_set _ _
    have r5 : Zr wb w.heap.size s5 Aq nq cq ((sg s (nv xs)).tdiv (sg t (nv ys))) := by
      rw [← hwb]
      exact (((((Zr_of hs5.out hnq.out hoq (sg_tdiv _ _ _ _)).ext hL).upd (by omega) (Upd.two _ _)).upd (by omega) (Upd.two _ _)).mono (by omega))
    have r6 : Zr wb w.heap.size s6 Ar nr cr ((sg s (nv xs)).tmod (sg t (nv ys))) := by
      rw [← hwb]
      exact (((((Zr_of hs6.out hnr.out hor (sg_tmod _ _ _ _)).ext hL).upd (by omega) (Upd.two _ _)).upd (by omega) (Upd.two _ _)).mono (by omega))
    have eb : Ext w wb := by rw [← hwb]; exact (Upd.two _ _).ext ((Upd.two _ _).ext (e1.trans hL) (by omega)) (by omega)
    clear hwb
    go_wp2_with fail
    refine bodyPost_ret (res_iie rfl rfl rfl rfl q3 q4) rfl ?_
    exact ⟨s5, Aq, nq, cq, s6, Ar, nr, cr, rfl, r5, r6, eb⟩
structure Flo (q r x y:Int):Prop where
 eq:q*y+r=x
 pos:0<y→0≤r∧r<y
 neg:y<0→y<r∧r≤0
theorem tmod_abs {x y:Int}(h:y≠0):(x.tmod y).natAbs<y.natAbs:=by
 rw [Int.natAbs_tmod]
 exact Nat.mod_lt _ (by omega)
theorem flo_same {x y:Int}(h0:y≠0) (h:x.tmod y=0∨(decide (x.tmod y<0)=decide (y<0))):Flo (x.tdiv y) (x.tmod y) x y:=by
 have h1:=tmod_abs (x:=x) h0
 refine⟨by rw [Int.mul_comm];exact Int.mul_tdiv_add_tmod x y,fun hp=>?_,fun hn=>?_⟩
 ·rcases h with h | h
  ·omega
  ·have hd:¬y<0:=by omega
   rw [decide_eq_false hd] at h
   have:=of_decide_eq_false h
   omega
 ·rcases h with h | h
  ·omega
  ·rw [decide_eq_true hn] at h
   have:=of_decide_eq_true h
   omega
theorem flo_other {x y:Int}(h0:y≠0) (h:x.tmod y≠0) (h2:decide (x.tmod y<0)≠decide (y<0)):Flo (x.tdiv y-1) (x.tmod y+y) x y:=by
 have h1:=tmod_abs (x:=x) h0
 refine⟨?_,fun hp=>?_,fun hn=>?_⟩
 ·have:=Int.mul_tdiv_add_tmod x y
  rw [Int.sub_mul,Int.one_mul,Int.mul_comm]
  omega
 ·have hd:¬y<0:=by omega
  rw [decide_eq_false hd] at h2
  have:x.tmod y<0:=by
   refine Int.lt_of_not_ge (fun hge=>h2 (decide_eq_false (by omega)))
  omega
 ·rw [decide_eq_true hn] at h2
  have:¬x.tmod y<0:=fun hlt=>h2 (decide_eq_true hlt)
  omega
theorem Zi.sgn {w:World}{s:Bool}{A:Option Addr}{n cap:Nat}{z:Int}(h:Zi w s A n cap z) (h0:z≠0):s=decide (z<0):=by
 obtain⟨xs,_,rfl⟩:=h
 have hm:nv xs≠0:=fun e=>h0 (sg_eq_zero.2 e)
 rw [sg_lt,decide_eq_true (show 0<nv xs by omega),Bool.and_true]
theorem boxN2 (w:World) (t t':TypeId) (l l':List Value):∃g g2 wa,w.heap.size+1=g2∧w.heap.size=g∧(w.alloc (.cells l.toArray t)).alloc (.cells l'.toArray t')=wa∧Bk wa g t l∧Bk wa g2 t' l'∧Ext w wa∧g<g2∧g2<wa.heap.size∧g≠g2∧g2≠g:=by
 refine⟨_,_,_,rfl,rfl,rfl,(Bk.new w t l).alloc _,?_,((Ext.refl w).alloc _).alloc _,by omega,by simp,by omega,by omega⟩
 have:=Bk.new (w.alloc (.cells l.toArray t)) t' l'
 simpa using this
theorem Zr.upd_hi {w0 w w':World}{base base' g:Nat}{s:Bool}{A:Option Addr}{n cap:Nat}{z z':Int}(h0:Zr w0 base' s A n cap z') (hw:w0.heap.size≤g) (h:Zr w base s A n cap z) (e:Upd g w w'):Zr w' base s A n cap z:=
 ⟨h.sgn,h.len,h.own.upd e (fun a ha=>by have:=(h0.own.block a ha).2;omega)⟩
def FloP (w:World) (x y:Int) (e:Ending) (w':World):Prop:=∃q r,Hid (Flo q r x y)∧RetZZE w q r 0 e w'
set_option maxHeartbeats 8000000 in
theorem zint_Floor {w : World} {s t : Bool} {A B : Option Addr} {n cap m cap' : Nat} {x y : Int} (hx : Zi w s A n cap x) (hl : n ≤ 68719476736) (hy : Zi w t B m cap' y) (hl' : m ≤ 68719476736) (h0 : y ≠ 0) :
    Calls Tryz.prog 123 #[.agg #[.bool s, .slice A n cap], .agg #[.bool t, .slice B m cap']] w (FloP w x y) := by
  have HT := Lib.hid (hy.sgn h0)
  have H0 := Lib.hid h0
  have LX := Lib.hid (Nat.le_trans hx.ln hl)
  have LY := Lib.hid (Nat.le_trans hy.ln hl')
  clear h0
  go_enter Tryz.func123, Tryz.ntmps123
  go_upto_region 1 with (fail)
  obtain ⟨g, g2, g3, g4, wa, hg4, hg3, hg2, hg, hwa, hb1, hb2, hb3, hb4, hea, l12, l23, l34, l4, n12, n21, n13, n31, n23, n32, n14, n41, n24, n42, n34, n43⟩ := boxes4 w 26 26 26 26 (.bool s) (.slice A n cap) (.bool t) (.slice B m cap') (.bool false) (.slice none 0 0) (.bool false) (.slice none 0 0)
  rw [hg4, hg3, hg2, hg, hwa]
  have hgw : w.heap.size ≤ g := Nat.le_of_eq hg
  clear hwa hg hg2 hg3 hg4
  obtain ⟨f1, f2, f3, f4⟩ := hb1.two
  obtain ⟨h1, h2, h3, h4⟩ := hb2.two
  go_wp2_with fail
  refine (zint_Trunc (hx.ext hea) hl (hy.ext hea) hl' H0.out).mono ?_
  rintro e w1 ⟨sq, Aq, nq, cq, sr, Ar, nr, cr, rfl, zq, zr, hx1⟩
  clear f1 f2 f3 f4 h1 h2 h3 h4
  have bq : nq ≤ 68719476736 := zq.le (Nat.le_trans (ln_mono (by rw [Int.natAbs_tdiv]; exact Nat.div_le_self _ _)) LX.out)
  have br : nr ≤ 68719476736 := zr.le (Nat.le_trans (ln_mono (Nat.le_of_lt (tmod_abs H0.out))) LY.out)
  go_upto_region 2 with (fail)
  obtain ⟨g7, g8, v1, hg8, hg7, hv1, hb7, hb8, he, l78, l8, n78, n87⟩ := boxN2 w1 26 26 [.bool sq, .slice Aq nq cq] [.bool sr, .slice Ar nr cr]
  rw [hg8, hg7, hv1]
  have hs7 : w1.heap.size ≤ g7 := Nat.le_of_eq hg7
  have zr1 := zr
  have zq := zq.ext he
  have zr := zr.ext he
  have x1 := hx1.trans he
  have hb2 := hb2.ext x1
  have hb3 := hb3.ext x1
  have hb4 := hb4.ext x1
  have e1 := hea.trans x1
  have sz1 := hx1.size
  clear hg8 hg7 hv1 he hb1 hx1
  obtain ⟨f1, f2, f3, f4⟩ := hb7.two
  obtain ⟨h1, h2, h3, h4⟩ := hb8.two
  obtain ⟨i1, i2, i3, i4⟩ := hb2.two
  have hn37 : g3 ≠ g7 := by omega
  have hn38 : g3 ≠ g8 := by omega
  have hn47 : g4 ≠ g7 := by omega
  have hn48 : g4 ≠ g8 := by omega
  have hn27 : g2 ≠ g7 := by omega
  have hn28 : g2 ≠ g8 := by omega
  have hn73 := hn37.symm
  have hn83 := hn38.symm
  have hn74 := hn47.symm
  have hn84 := hn48.symm
  by_cases hr0 : x.tmod y = 0
  · obtain rfl : nr = 0 := by rw [zr.len, hr0]; rfl
    have HF : Hid (Flo (x.tdiv y) (x.tmod y) x y) := flo_same H0.out (Or.inl hr0)
    clear hr0
    go_upto_region 5 with (fail)
    clear f1 f2 f3 f4 h1 h2 h3 h4 i1 i2 i3 i4
    obtain ⟨f1, f2, f3, f4⟩ := hb7.two
    obtain ⟨h1, h2, h3, h4⟩ := hb8.two
    obtain ⟨i1, i2, i3, i4⟩ := hb3.two
    obtain ⟨k1, k2, k3, k4⟩ := hb4.two
    go_region_held3 (fun w' => w'.cell? ⟨g7, 0, none⟩ = some (.bool sq) ∧ w'.cell? ⟨g7, 1, none⟩ = some (.slice Aq nq cq) ∧ w'.cell? ⟨g8, 0, none⟩ = some (.bool sr) ∧ w'.cell? ⟨g8, 1, none⟩ = some (.slice Ar 0 cr)) (go_keep) (fail)
    all_goals
      go_wp2_with fail
      first
      | (refine bodyPost_ret (res_iie rfl rfl rfl rfl (((hb3.drew).two_set _ _).two_far n34 _ _) (((hb4.drew).two_far n43 _ _).two_set _ _)) rfl ?_
         exact ⟨x.tdiv y, x.tmod y, HF, _, _, _, _, _, _, _, _, rfl, (((zq.ext (Ext.refl _).drew).upd (by omega) (Upd.two _ _)).upd (by omega) (Upd.two _ _)).mono (by omega), (((zr.ext (Ext.refl _).drew).upd (by omega) (Upd.two _ _)).upd (by omega) (Upd.two _ _)).mono (by omega), (Upd.two _ _).ext ((Upd.two _ _).ext e1.drew (by omega)) (by omega)⟩)
      | (refine bodyPost_ret (res_iie rfl rfl rfl rfl (((hb3.drew).two_far n34 _ _).two_set _ _) (((hb4.drew).two_set _ _).two_far n43 _ _)) rfl ?_
         exact ⟨x.tdiv y, x.tmod y, HF, _, _, _, _, _, _, _, _, rfl, (((zq.ext (Ext.refl _).drew).upd (by omega) (Upd.two _ _)).upd (by omega) (Upd.two _ _)).mono (by omega), (((zr.ext (Ext.refl _).drew).upd (by omega) (Upd.two _ _)).upd (by omega) (Upd.two _ _)).mono (by omega), (Upd.two _ _).ext ((Upd.two _ _).ext e1.drew (by omega)) (by omega)⟩)
  · have hnn : 0 < nr := by
      have : nr ≠ 0 := fun e => hr0 (by have h := zr.len; rw [e] at h; have := len_wd_zero.1 h.symm; omega)
      omega
    have hn : 0 < (nr : Int) := by omega
    by_cases hss : sr = t
    · have bs : (sr == t) = true := by rw [hss]; cases t <;> rfl
      have HF : Hid (Flo (x.tdiv y) (x.tmod y) x y) := flo_same H0.out (Or.inr (by rw [← zr.sgn, ← HT.out, hss]))
      clear hr0 hss
      go_upto_region 5 with (fail)
      clear f1 f2 f3 f4 h1 h2 h3 h4 i1 i2 i3 i4
      obtain ⟨f1, f2, f3, f4⟩ := hb7.two
      obtain ⟨h1, h2, h3, h4⟩ := hb8.two
      obtain ⟨i1, i2, i3, i4⟩ := hb3.two
      obtain ⟨k1, k2, k3, k4⟩ := hb4.two
      go_region_held3 (fun w' => w'.cell? ⟨g7, 0, none⟩ = some (.bool sq) ∧ w'.cell? ⟨g7, 1, none⟩ = some (.slice Aq nq cq) ∧ w'.cell? ⟨g8, 0, none⟩ = some (.bool sr) ∧ w'.cell? ⟨g8, 1, none⟩ = some (.slice Ar nr cr)) (go_keep) (fail)
      all_goals
        go_wp2_with fail
        first
        | (refine bodyPost_ret (res_iie rfl rfl rfl rfl (((hb3.drew).two_set _ _).two_far n34 _ _) (((hb4.drew).two_far n43 _ _).two_set _ _)) rfl ?_
           exact ⟨x.tdiv y, x.tmod y, HF, _, _, _, _, _, _, _, _, rfl, (((zq.ext (Ext.refl _).drew).upd (by omega) (Upd.two _ _)).upd (by omega) (Upd.two _ _)).mono (by omega), (((zr.ext (Ext.refl _).drew).upd (by omega) (Upd.two _ _)).upd (by omega) (Upd.two _ _)).mono (by omega), (Upd.two _ _).ext ((Upd.two _ _).ext e1.drew (by omega)) (by omega)⟩)
        | (refine bodyPost_ret (res_iie rfl rfl rfl rfl (((hb3.drew).two_far n34 _ _).two_set _ _) (((hb4.drew).two_set _ _).two_far n43 _ _)) rfl ?_
           exact ⟨x.tdiv y, x.tmod y, HF, _, _, _, _, _, _, _, _, rfl, (((zq.ext (Ext.refl _).drew).upd (by omega) (Upd.two _ _)).upd (by omega) (Upd.two _ _)).mono (by omega), (((zr.ext (Ext.refl _).drew).upd (by omega) (Upd.two _ _)).upd (by omega) (Upd.two _ _)).mono (by omega), (Upd.two _ _).ext ((Upd.two _ _).ext e1.drew (by omega)) (by omega)⟩)
    · have bs : (sr == t) = false := by cases sr <;> cases t <;> simp_all
      have HF : Hid (Flo (x.tdiv y - 1) (x.tmod y + y) x y) := flo_other H0.out hr0 (by rw [← zr.sgn, ← HT.out]; exact hss)
      clear hr0 hss
      go_upto_region 3 with (fail)
      go_region_with (first
        | (go_at_call 49; refine (zint_Of (v := 1) (by omega)).mono ?_; rintro e w5 ⟨s5, A5, n5, c5, rfl, z5, hx5⟩; have b5 : n5 ≤ 1 := z5.le (by decide +kernel); have he5 : Ext v1 w5 := Ext.trans (by repeat (first | exact Ext.refl _ | assumption | apply Ext.drewN | apply Ext.drew | apply Ext.alloc)) hx5; clear f1 f2 f3 f4 h1 h2 h3 h4 i1 i2 i3 i4; obtain ⟨f1, f2, f3, f4⟩ := (hb7.ext he5).two)
        | (go_at_call 57; refine (zint_Sub (zq.zi.ext (by repeat (first | exact Ext.refl _ | assumption | apply Ext.drewN | apply Ext.drew | apply Ext.alloc))) (by omega) z5.zi (by omega)).mono ?_; rintro e w6 ⟨s6, A6, n6, c6, rfl, z6, hx6⟩; have he6 : Ext v1 w6 := he5.trans hx6; clear f1 f2 f3 f4; obtain ⟨f1, f2, f3, f4⟩ := (hb7.ext he6).two))
      all_goals
        clear f1 f2 f3 f4
        obtain ⟨wb, hwb⟩ : ∃ wb, (w6.setCell ⟨g7, 0, none⟩ (.bool s6)).setCell ⟨g7, 1, none⟩ (.slice A6 n6 c6) = wb := ⟨_, rfl⟩
        rw [hwb]
        have sz5 := he5.size
        have q7 : Bk wb g7 26 [.bool s6, .slice A6 n6 c6] := by rw [← hwb]; exact (hb7.ext he6).two_set _ _
        have q8 : Bk wb g8 26 [.bool sr, .slice Ar nr cr] := by rw [← hwb]; exact (hb8.ext he6).two_far n87 _ _
        have q2 : Bk wb g2 26 [.bool t, .slice B m cap'] := by rw [← hwb]; exact (hb2.ext he6).two_far hn27 _ _
        have q3 : Bk wb g3 26 [.bool false, .slice none 0 0] := by rw [← hwb]; exact (hb3.ext he6).two_far hn37 _ _
        have q4 : Bk wb g4 26 [.bool false, .slice none 0 0] := by rw [← hwb]; exact (hb4.ext he6).two_far hn47 _ _
        have y6 : Zr wb w5.heap.size s6 A6 n6 c6 (x.tdiv y - 1) := by rw [← hwb]; exact z6.upd (by omega) (Upd.two _ _)
        have yr : Zr wb wa.heap.size sr Ar nr cr (x.tmod y) := by rw [← hwb]; exact Zr.upd_hi zr1 hs7 (zr.ext he6) (Upd.two _ _)
        have eb : Ext w wb := by rw [← hwb]; exact (Upd.two _ _).ext (e1.trans he6) (by omega)
        have szb : w6.heap.size ≤ wb.heap.size := by rw [← hwb]; simp [World.setCell]
        have sz6 := hx6.size
        clear hwb
        obtain ⟨h1, h2, h3, h4⟩ := q8.two
        obtain ⟨i1, i2, i3, i4⟩ := q2.two
        go_wp2_with fail
        refine (zint_Add yr.zi (by omega) (hy.ext eb) (by omega)).mono ?_
        rintro e w7 ⟨s9, A9, n9, c9, rfl, z9, hx7⟩
        clear h1 h2 h3 h4 i1 i2 i3 i4
        obtain ⟨h1, h2, h3, h4⟩ := (q8.ext hx7).two
        go_upto_region 5 with (fail)
        clear h1 h2 h3 h4
        obtain ⟨wc, hwc⟩ : ∃ wc, (w7.setCell ⟨g8, 0, none⟩ (.bool s9)).setCell ⟨g8, 1, none⟩ (.slice A9 n9 c9) = wc := ⟨_, rfl⟩
        rw [hwc]
        have u7 : Bk wc g7 26 [.bool s6, .slice A6 n6 c6] := by rw [← hwc]; exact (q7.ext hx7).two_far n78 _ _
        have u8 : Bk wc g8 26 [.bool s9, .slice A9 n9 c9] := by rw [← hwc]; exact (q8.ext hx7).two_set _ _
        have u3 : Bk wc g3 26 [.bool false, .slice none 0 0] := by rw [← hwc]; exact (q3.ext hx7).two_far hn38 _ _
        have u4 : Bk wc g4 26 [.bool false, .slice none 0 0] := by rw [← hwc]; exact (q4.ext hx7).two_far hn48 _ _
        have t6 : Zr wc w5.heap.size s6 A6 n6 c6 (x.tdiv y - 1) := by rw [← hwc]; exact (y6.ext hx7).upd (by omega) (Upd.two _ _)
        have t9 : Zr wc wb.heap.size s9 A9 n9 c9 (x.tmod y + y) := by rw [← hwc]; exact z9.upd (by omega) (Upd.two _ _)
        have ec : Ext w wc := by rw [← hwc]; exact (Upd.two _ _).ext (eb.trans hx7) (by omega)
        clear hwc q7 q8 q2 q3 q4
        obtain ⟨f1, f2, f3, f4⟩ := u7.two
        obtain ⟨h1, h2, h3, h4⟩ := u8.two
        obtain ⟨i1, i2, i3, i4⟩ := u3.two
        obtain ⟨k1, k2, k3, k4⟩ := u4.two
        go_region_held3 (fun w' => w'.cell? ⟨g7, 0, none⟩ = some (.bool s6) ∧ w'.cell? ⟨g7, 1, none⟩ = some (.slice A6 n6 c6) ∧ w'.cell? ⟨g8, 0, none⟩ = some (.bool s9) ∧ w'.cell? ⟨g8, 1, none⟩ = some (.slice A9 n9 c9)) (go_keep) (fail)
        all_goals
          go_wp2_with fail
          first
          | (refine bodyPost_ret (res_iie rfl rfl rfl rfl (((u3.drew).two_set _ _).two_far n34 _ _) (((u4.drew).two_far n43 _ _).two_set _ _)) rfl ?_
             exact ⟨x.tdiv y - 1, x.tmod y + y, HF, _, _, _, _, _, _, _, _, rfl, (((t6.ext (Ext.refl _).drew).upd (by omega) (Upd.two _ _)).upd (by omega) (Upd.two _ _)).mono (by omega), (((t9.ext (Ext.refl _).drew).upd (by omega) (Upd.two _ _)).upd (by omega) (Upd.two _ _)).mono (by omega), (Upd.two _ _).ext ((Upd.two _ _).ext ec.drew (by omega)) (by omega)⟩)
          | (refine bodyPost_ret (res_iie rfl rfl rfl rfl (((u3.drew).two_far n34 _ _).two_set _ _) (((u4.drew).two_set _ _).two_far n43 _ _)) rfl ?_
             exact ⟨x.tdiv y - 1, x.tmod y + y, HF, _, _, _, _, _, _, _, _, rfl, (((t6.ext (Ext.refl _).drew).upd (by omega) (Upd.two _ _)).upd (by omega) (Upd.two _ _)).mono (by omega), (((t9.ext (Ext.refl _).drew).upd (by omega) (Upd.two _ _)).upd (by omega) (Upd.two _ _)).mono (by omega), (Upd.two _ _).ext ((Upd.two _ _).ext ec.drew (by omega)) (by omega)⟩)
structure Euc (q r x y:Int):Prop where
 eq:q*y+r=x
 lo:0≤r
 hi:r<y
end Go.Proofs.YthggegdkpalgbaaGreatDoor

namespace Go.Proofs.YthggegdkpalgbaaGreatDoor.Pop
def mk (m:Nat):Nat→Nat
 | 0=>0
 | k+1=>m+256*mk m k
theorem and_byte (a A m M:Nat) (ha:a<256) (hm:m<256):(a+256*A)&&& (m+256*M)=(a&&& m)+256*(A&&& M):=by
 have h1:((a+256*A)&&& (m+256*M))%2^8=a&&& m:=by
  rw [Nat.and_mod_two_pow]
  congr 1 <;> omega
 have h2:((a+256*A)&&& (m+256*M))/2^8=A&&& M:=by
  rw [Nat.and_div_two_pow]
  congr 1 <;> omega
 have h3:=Nat.mod_add_div ((a+256*A)&&& (m+256*M)) (2^8)
 rw [h1,h2] at h3
 exact h3.symm
def f1 (k x:Nat):Nat:=(x/2&&& mk 85 k)+(x&&& mk 85 k)
def f2 (k x:Nat):Nat:=(x/4&&& mk 51 k)+(x&&& mk 51 k)
def f3 (k x:Nat):Nat:=(x/16+x)&&& mk 15 k
def d1 (b:Nat):Nat:=(b/2&&& 85)+(b&&& 85)
def d2 (b:Nat):Nat:=(b/4&&& 51)+(b&&& 51)
def d3 (b:Nat):Nat:=(b/16+b)&&& 15
def pc (b:Nat):Nat:=d3 (d2 (d1 b))
theorem t1:∀b:Fin 256,∀p:Fin 2,((b.val/2+128*p.val)&&& 85)=(b.val/2&&& 85):=by decide+kernel
theorem t2:∀b:Fin 256,∀p:Fin 4,((b.val/4+64*p.val)&&& 51)=(b.val/4&&& 51):=by decide+kernel
theorem t3:∀b:Fin 256,∀p:Fin 5,((d2 (d1 b.val)/16+d2 (d1 b.val)+16*p.val)&&& 15)=pc b.val:=by decide+kernel
theorem t4:∀b:Fin 256,d1 b.val<256∧d2 (d1 b.val)<69∧d2 (d1 b.val)%16≤4∧pc b.val≤8∧(pc b.val=0→b.val=0)∧(128≤b.val→pc b.val≤1→b.val=128):=by decide+kernel
theorem f1_step {k b B:Nat}(hb:b<256):f1 (k+1) (b+256*B)=d1 b+256*f1 k B:=by
 unfold f1 d1
 rw [show mk 85 (k+1)=85+256*mk 85 k from rfl]
 have e:(b+256*B)/2=(b/2+128*(B%2))+256*(B/2):=by omega
 rw [e,and_byte _ _ _ _ (by omega) (by omega),and_byte _ _ _ _ hb (by omega),t1 ⟨b,hb⟩ ⟨B%2,by omega⟩]
 show (b/2&&& 85)+_+_=_
 omega
theorem f2_step {k b B:Nat}(hb:b<256):f2 (k+1) (b+256*B)=d2 b+256*f2 k B:=by
 unfold f2 d2
 rw [show mk 51 (k+1)=51+256*mk 51 k from rfl]
 have e:(b+256*B)/4=(b/4+64*(B%4))+256*(B/4):=by omega
 rw [e,and_byte _ _ _ _ (by omega) (by omega),and_byte _ _ _ _ hb (by omega),t2 ⟨b,hb⟩ ⟨B%4,by omega⟩]
 show (b/4&&& 51)+_+_=_
 omega
theorem steps {k b B:Nat}(hb:b<256) (hB:f2 k (f1 k B)%16≤4):
  f3 (k+1) (f2 (k+1) (f1 (k+1) (b+256*B)))=pc b+256*f3 k (f2 k (f1 k B))∧f2 (k+1) (f1 (k+1) (b+256*B))%16≤4:=by
 obtain⟨h1,h2,h3,_⟩:=t4 ⟨b,hb⟩
 rw [f1_step hb,f2_step h1]
 refine⟨?_,by omega⟩
 generalize f2 k (f1 k B)=C at*
 unfold f3
 rw [show mk 15 (k+1)=15+256*mk 15 k from rfl]
 have e:(d2 (d1 b)+256*C)/16+(d2 (d1 b)+256*C)=(d2 (d1 b)/16+d2 (d1 b)+16*(C%16))+256*(C/16+C):=by omega
 have h2':d2 (d1 b)<69:=h2
 rw [e,and_byte _ _ _ _ (by omega) (by omega),t3 ⟨b,hb⟩ ⟨C%16,by omega⟩]
theorem eight {b0 b1 b2 b3 b4 b5 b6 b7:Nat}(h0:b0<256) (h1:b1<256) (h2:b2<256) (h3:b3<256) (h4:b4<256) (h5:b5<256) (h6:b6<256) (h7:b7<256):
  f3 8 (f2 8 (f1 8 (b0+256*(b1+256*(b2+256*(b3+256*(b4+256*(b5+256*(b6+256*(b7+256*0))))))))))
   =pc b0+256*(pc b1+256*(pc b2+256*(pc b3+256*(pc b4+256*(pc b5+256*(pc b6+256*pc b7)))))):=by
 have s7:=steps (k:=0) (B:=0) h7 (by decide)
 have s6:=steps h6 s7.2
 have s5:=steps h5 s6.2
 have s4:=steps h4 s5.2
 have s3:=steps h3 s4.2
 have s2:=steps h2 s3.2
 have s1:=steps h1 s2.2
 have s0:=steps h0 s1.2
 rw [s0.1,s1.1,s2.1,s3.1,s4.1,s5.1,s6.1,s7.1]
 simp [f3,mk]
theorem folds {p0 p1 p2 p3 p4 p5 p6 p7:Nat}(h0:p0≤8) (h1:p1≤8) (h2:p2≤8) (h3:p3≤8) (h4:p4≤8) (h5:p5≤8) (h6:p6≤8) (h7:p7≤8){x3 x4 x5 x6:Nat}
  (e3:x3=p0+256*(p1+256*(p2+256*(p3+256*(p4+256*(p5+256*(p6+256*p7))))))) (e4:x4=x3+x3/256) (e5:x5=x4+x4/65536) (e6:x6=x5+x5/4294967296):
  x6%128=p0+p1+p2+p3+p4+p5+p6+p7∧x6<18446744073709551616:=by
 have g4:x4=(p0+p1)+256*((p1+p2)+256*((p2+p3)+256*((p3+p4)+256*((p4+p5)+256*((p5+p6)+256*((p6+p7)+256*p7)))))):=by omega
 clear e3 e4
 have g5:x5=(p0+p1+p2+p3)+256*((p1+p2+p3+p4)+256*((p2+p3+p4+p5)+256*((p3+p4+p5+p6)+256*((p4+p5+p6+p7)+256*((p5+p6+p7)+256*((p6+p7)+256*p7)))))):=by omega
 clear g4 e5
 have gq:x5/4294967296=(p4+p5+p6+p7)+256*((p5+p6+p7)+256*((p6+p7)+256*p7)):=by omega
 rw [gq] at e6
 have g6:x6=(p0+p1+p2+p3+p4+p5+p6+p7)+256*(((p1+p2+p3+p4)+256*((p2+p3+p4+p5)+256*((p3+p4+p5+p6)+256*((p4+p5+p6+p7)+256*((p5+p6+p7)+256*((p6+p7)+256*p7))))))+((p5+p6+p7)+256*((p6+p7)+256*p7))):=by omega
 clear gq e6 g5
 omega
theorem one {x x1 x2 x3 x4 x5 x6:Nat}(hx:x<18446744073709551616) (hh:9223372036854775808≤x) (e1:x1=f1 8 x) (e2:x2=f2 8 x1) (e3:x3=f3 8 x2) (e4:x4=x3+x3/256) (e5:x5=x4+x4/65536) (e6:x6=x5+x5/4294967296):
  x6%128=1↔x=9223372036854775808:=by
 obtain⟨b0,q0,hb0,hq0⟩:∃b q,b<256∧x=b+256*q:=⟨x%256,x/256,by omega,by omega⟩
 obtain⟨b1,q1,hb1,hq1⟩:∃b q,b<256∧q0=b+256*q:=⟨q0%256,q0/256,by omega,by omega⟩
 obtain⟨b2,q2,hb2,hq2⟩:∃b q,b<256∧q1=b+256*q:=⟨q1%256,q1/256,by omega,by omega⟩
 obtain⟨b3,q3,hb3,hq3⟩:∃b q,b<256∧q2=b+256*q:=⟨q2%256,q2/256,by omega,by omega⟩
 obtain⟨b4,q4,hb4,hq4⟩:∃b q,b<256∧q3=b+256*q:=⟨q3%256,q3/256,by omega,by omega⟩
 obtain⟨b5,q5,hb5,hq5⟩:∃b q,b<256∧q4=b+256*q:=⟨q4%256,q4/256,by omega,by omega⟩
 obtain⟨b6,b7,hb6,hq6⟩:∃b q,b<256∧q5=b+256*q:=⟨q5%256,q5/256,by omega,by omega⟩
 have hb7:b7<256:=by omega
 have hb7':128≤b7:=by omega
 have e:=eight hb0 hb1 hb2 hb3 hb4 hb5 hb6 hb7
 have ex:x=b0+256*(b1+256*(b2+256*(b3+256*(b4+256*(b5+256*(b6+256*(b7+256*0))))))):=by omega
 rw [←ex,←e1,←e2,←e3] at e
 have p0:=(t4 ⟨b0,hb0⟩).2.2.2
 have p1:=(t4 ⟨b1,hb1⟩).2.2.2
 have p2:=(t4 ⟨b2,hb2⟩).2.2.2
 have p3:=(t4 ⟨b3,hb3⟩).2.2.2
 have p4:=(t4 ⟨b4,hb4⟩).2.2.2
 have p5:=(t4 ⟨b5,hb5⟩).2.2.2
 have p6:=(t4 ⟨b6,hb6⟩).2.2.2
 have p7:=(t4 ⟨b7,hb7⟩).2.2.2
 have hf:=(folds p0.1 p1.1 p2.1 p3.1 p4.1 p5.1 p6.1 p7.1 e e4 e5 e6).1
 simp only at p0 p1 p2 p3 p4 p5 p6 p7
 rw [hf]
 show (pc b0+pc b1+pc b2+pc b3+pc b4+pc b5+pc b6+pc b7=1)↔_
 constructor
 ·intro h
  have h7:pc b7≠0:=fun hz=>by have:=p7.2.1 hz;omega
  have hs:pc b0+pc b1+pc b2+pc b3+pc b4+pc b5+pc b6=0∧pc b7=1:=by clear p0 p1 p2 p3 p4 p5 p6 p7 e e1 e2 e3 e4 e5 e6 ex hq0 hq1 hq2 hq3 hq4 hq5 hq6 hf;omega
  obtain⟨hs,h8⟩:=hs
  have z0:=p0.2.1 (by omega)
  have z1:=p1.2.1 (by omega)
  have z2:=p2.2.1 (by omega)
  have z3:=p3.2.1 (by omega)
  have z4:=p4.2.1 (by omega)
  have z5:=p5.2.1 (by omega)
  have z6:=p6.2.1 (by omega)
  have z7:=p7.2.2 hb7' (by omega)
  omega
 ·intro h
  obtain rfl:b7=128:=by omega
  obtain rfl:b0=0:=by omega
  obtain rfl:b1=0:=by omega
  obtain rfl:b2=0:=by omega
  obtain rfl:b3=0:=by omega
  obtain rfl:b4=0:=by omega
  obtain rfl:b5=0:=by omega
  obtain rfl:b6=0:=by omega
  decide
end Go.Proofs.YthggegdkpalgbaaGreatDoor.Pop

namespace Go.Proofs.YthggegdkpalgbaaGreatDoor
open Go.RowKit
theorem i64_and {x y:Nat}(hx:x≤9223372036854775807) (hy:y≤9223372036854775807) (P:Program) (t:TypeId) (w:World):(binOp .and t (.int .i64 (x:Int)) (.int .i64 (y:Int))).run P w= .ok (.int .i64 ((x&&& y:Nat):Int)) w:=by
 have e:IntKind.i64.wrap ((BitVec.ofInt 64 (x:Int)&&& BitVec.ofInt 64 (y:Int)).toNat:Int)=((x&&& y:Nat):Int):=by
  rw [BitVec.toNat_and,ofInt_64 (by omega),ofInt_64 (by omega),wrap_i64_nat (Nat.le_trans Nat.and_le_left hx)]
 rw [←e];rfl
set_option maxHeartbeats 1000000 in
theorem bits_Ones {x:Nat}(hx:x≤18446744073709551615) (hh:9223372036854775808≤x) (w:World):
  Calls Tryz.prog 117 #[.int .u64 (x:Int)] w fun e w'=>∃c:Nat,e= .returned (.int .i64 (c:Int))∧Hid (c=1↔x=9223372036854775808)∧w=w':=by
 obtain⟨x1,hx1⟩:∃x1,Pop.f1 8 x=x1:=⟨_,rfl⟩
 obtain⟨x2,hx2⟩:∃x2,Pop.f2 8 x1=x2:=⟨_,rfl⟩
 obtain⟨x3,hx3⟩:∃x3,Pop.f3 8 x2=x3:=⟨_,rfl⟩
 obtain⟨x4,hx4⟩:∃x4,x3+x3/256=x4:=⟨_,rfl⟩
 obtain⟨x5,hx5⟩:∃x5,x4+x4/65536=x5:=⟨_,rfl⟩
 obtain⟨x6,hx6⟩:∃x6,x5+x5/4294967296=x6:=⟨_,rfl⟩
 have hone:=Pop.one (x:=x) (by omega) hh hx1.symm hx2.symm hx3.symm hx4.symm hx5.symm hx6.symm
 have m85:Pop.mk 85 8=6148914691236517205:=by decide
 have m51:Pop.mk 51 8=3689348814741910323:=by decide
 have m15:Pop.mk 15 8=1085102592571150095:=by decide
 unfold Pop.f1 at hx1
 unfold Pop.f2 at hx2
 unfold Pop.f3 at hx3
 rw [m85] at hx1
 rw [m51] at hx2
 rw [m15] at hx3
 have c1:x1≤12297829382473034410:=by
  have h1:x/2&&& 6148914691236517205≤6148914691236517205:=Nat.and_le_right
  have h2:x&&& 6148914691236517205≤6148914691236517205:=Nat.and_le_right
  omega
 have c2:x2≤7378697629483820646:=by
  have h1:x1/4&&& 3689348814741910323≤3689348814741910323:=Nat.and_le_right
  have h2:x1&&& 3689348814741910323≤3689348814741910323:=Nat.and_le_right
  omega
 have c3:x3≤1085102592571150095:=by rw [←hx3];exact Nat.and_le_right
 have c4:x4≤1090000000000000000:=by omega
 have c5:x5≤1100000000000000000:=by omega
 have c6:x6≤1200000000000000000:=by omega
 have H1:=Lib.hid hx1
 have H2:=Lib.hid hx2
 have H3:=Lib.hid hx3
 have H4:=Lib.hid hx4
 have H5:=Lib.hid hx5
 have H6:=Lib.hid hx6
 have HO:=Lib.hid hone
 clear hone hx1 hx2 hx3 hx4 hx5 hx6 m85 m51 m15
 have HB:=Lib.hid hh
 clear hh
 go_enter Tryz.func117,Tryz.ntmps117
 go_wp2_with (first
  | ((with_reducible refine at_slot (some 4) ?_);refine wpl_u64 rfl rfl rfl rfl rfl (u64_shr (x:=x) (s:=1) (by omega)) (Nat.le_trans (Nat.div_le_self _ _) hx) ?_;intro r4 h4 b4)
  | ((with_reducible refine at_slot (some 5) ?_);refine wpl_u64 rfl rfl rfl rfl rfl (u64_and (x:=r4) (y:=6148914691236517205) b4 (by omega)) (Nat.le_trans Nat.and_le_right (by omega)) ?_;intro r5 h5 b5)
  | ((with_reducible refine at_slot (some 7) ?_);refine wpl_u64 rfl rfl rfl rfl rfl (u64_and (x:=x) (y:=6148914691236517205) hx (by omega)) (Nat.le_trans Nat.and_le_right (by omega)) ?_;intro r7 h7 b7)
  | ((with_reducible refine at_slot (some 8) ?_);refine wpl_u64 rfl rfl rfl rfl rfl (u64_add (x:=r5) (y:=r7)) (by omega) ?_;intro r8 h8 b8;have e8:x1=r8:=(by have:=H1.out;rw [h8.out,h5.out,h7.out,h4.out,Nat.pow_one,this,Nat.mod_eq_of_lt (by omega)]);clear h8 h5 h7 h4 b8;subst e8)
  | ((with_reducible refine at_slot (some 10) ?_);refine wpl_u64 rfl rfl rfl rfl rfl (u64_shr (x:=x1) (s:=2) (by omega)) (by have:=Nat.div_le_self x1 (2^2);omega) ?_;intro r10 h10 b10)
  | ((with_reducible refine at_slot (some 11) ?_);refine wpl_u64 rfl rfl rfl rfl rfl (u64_and (x:=r10) (y:=3689348814741910323) b10 (by omega)) (Nat.le_trans Nat.and_le_right (by omega)) ?_;intro r11 h11 b11)
  | ((with_reducible refine at_slot (some 13) ?_);refine wpl_u64 rfl rfl rfl rfl rfl (u64_and (x:=x1) (y:=3689348814741910323) (by omega) (by omega)) (Nat.le_trans Nat.and_le_right (by omega)) ?_;intro r13 h13 b13)
  | ((with_reducible refine at_slot (some 14) ?_);refine wpl_u64 rfl rfl rfl rfl rfl (u64_add (x:=r11) (y:=r13)) (by omega) ?_;intro r14 h14 b14;have e14:x2=r14:=(by have:=H2.out;rw [h14.out,h11.out,h13.out,h10.out,show (2:Nat)^2=4 from rfl,this,Nat.mod_eq_of_lt (by omega)]);clear h14 h11 h13 h10 b14;subst e14)
  | ((with_reducible refine at_slot (some 16) ?_);refine wpl_u64 rfl rfl rfl rfl rfl (u64_shr (x:=x2) (s:=4) (by omega)) (by have:=Nat.div_le_self x2 (2^4);omega) ?_;intro r16 h16 b16)
  | ((with_reducible refine at_slot (some 18) ?_);refine wpl_u64 rfl rfl rfl rfl rfl (u64_add (x:=r16) (y:=x2)) (by omega) ?_;intro r18 h18 b18)
  | ((with_reducible refine at_slot (some 19) ?_);refine wpl_u64 rfl rfl rfl rfl rfl (u64_and (x:=r18) (y:=1085102592571150095) b18 (by omega)) (Nat.le_trans Nat.and_le_right (by omega)) ?_;intro r19 h19 b19;have e19:x3=r19:=(by have:=H3.out;have q:r16=x2/16:=h16.out;rw [h19.out,h18.out,q,Nat.mod_eq_of_lt (by omega),this]);clear h19 h18 h16 b19;subst e19)
  | ((with_reducible refine at_slot (some 22) ?_);refine wpl_u64 rfl rfl rfl rfl rfl (u64_shr (x:=x3) (s:=8) (by omega)) (by have:=Nat.div_le_self x3 (2^8);omega) ?_;intro r22 h22 b22)
  | ((with_reducible refine at_slot (some 23) ?_);refine wpl_u64 rfl rfl rfl rfl rfl (u64_add (x:=x3) (y:=r22)) (by omega) ?_;intro r23 h23 b23;have e23:x4=r23:=(by have:=H4.out;have q:r22=x3/256:=h22.out;rw [h23.out,q,this,Nat.mod_eq_of_lt (by omega)]);clear h23 h22 b23;subst e23)
  | ((with_reducible refine at_slot (some 26) ?_);refine wpl_u64 rfl rfl rfl rfl rfl (u64_shr (x:=x4) (s:=16) (by omega)) (by have:=Nat.div_le_self x4 (2^16);omega) ?_;intro r26 h26 b26)
  | ((with_reducible refine at_slot (some 27) ?_);refine wpl_u64 rfl rfl rfl rfl rfl (u64_add (x:=x4) (y:=r26)) (by omega) ?_;intro r27 h27 b27;have e27:x5=r27:=(by have:=H5.out;have q:r26=x4/65536:=h26.out;rw [h27.out,q,this,Nat.mod_eq_of_lt (by omega)]);clear h27 h26 b27;subst e27)
  | ((with_reducible refine at_slot (some 30) ?_);refine wpl_u64 rfl rfl rfl rfl rfl (u64_shr (x:=x5) (s:=32) (by omega)) (by have:=Nat.div_le_self x5 (2^32);omega) ?_;intro r30 h30 b30)
  | ((with_reducible refine at_slot (some 31) ?_);refine wpl_u64 rfl rfl rfl rfl rfl (u64_add (x:=x5) (y:=r30)) (by omega) ?_;intro r31 h31 b31;have e31:x6=r31:=(by have:=H6.out;have q:r30=x5/4294967296:=h30.out;rw [h31.out,q,this,Nat.mod_eq_of_lt (by omega)]);clear h31 h30 b31;subst e31)
  | ((with_reducible refine at_slot (some 34) ?_);refine wpl_i64 rfl rfl rfl rfl rfl (i64_and (x:=x6) (y:=127) (by omega) (by omega)) ?_;intro c hc))
 go_ret
 refine⟨c,rfl,?_,rfl⟩
 show _↔_
 rw [hc.out,show (127:Nat)=2^7-1 from rfl,Nat.and_two_pow_sub_one_eq_mod]
 exact HO.out
theorem first_word {xs:List Nat}(hw:Wf xs) (h:nv xs<WB):xs.getD 0 0=nv xs:=by
 cases xs with
 | nil=>rfl
 | cons x r=>
  rw [nv_cons] at h⊢
  have hr:nv r=0:=by
   refine Nat.eq_zero_of_not_pos (fun hp=>?_)
   have:=Nat.mul_le_mul_left WB hp
   omega
  rw [hr,Nat.mul_zero,Nat.add_zero]
  rfl
def SmallP (w:World) (z:Int) (e:Ending) (w':World):Prop:=
 ∃v er:Int,e= .returned (.tuple #[.int .i64 v,.int .i64 er])∧Hid ((-9223372036854775808≤z∧z≤9223372036854775807→v=z∧er=0)∧(¬(-9223372036854775808≤z∧z≤9223372036854775807)→v=0∧er=5))∧Ext w w'
set_option maxHeartbeats 1000000 in
theorem zint_Small {w:World}{s:Bool}{A:Option Addr}{n cap:Nat}{x:Int}(hx:Zi w s A n cap x) (hl:n≤68719476736):
  Calls Tryz.prog 50 #[.agg #[.bool s,.slice A n cap]] w (SmallP w x):=by
 obtain⟨xs,hr,rfl⟩:=hx
 have hlx:=Lib.hid hr.len
 go_enter Tryz.func50,Tryz.ntmps50
 go_upto_region 1 with (fail)
 have hb1:=Bk.new w 26 [.bool s,.slice A n cap]
 obtain⟨wa,hwa⟩:∃wa,w.alloc (.cells #[.bool s,.slice A n cap] 26)=wa:=⟨_,rfl⟩
 rw [hwa]
 obtain⟨g,hg⟩:∃g,w.heap.size=g:=⟨_,rfl⟩
 rw [hg] at hb1⊢
 have hb1':Bk wa g 26 [.bool s,.slice A n cap]:=by rw [←hwa];exact hb1
 have hea:Ext w wa:=by rw [←hwa];exact (Ext.refl w).alloc _
 clear hwa hg hb1
 obtain⟨f1,f2,f3,f4⟩:=hb1'.two
 go_wp2_with fail
 refine (nat_BitLen (hr.ext hea) (by omega)).mono ?_
 rintro e w1 ⟨b,hb,rfl,hx1'⟩
 have hx1:=hea.trans hx1'
 have hr1:=hr.ext hx1
 clear f1 f2 f3 f4
 obtain⟨f1,f2,f3,f4⟩:=(hb1'.ext hx1').two
 have hbl:=lt_blen (nv xs)
 rw [←hb.out] at hbl
 by_cases h0:b=0
 ·subst h0
  have hz:nv xs=0:=blen_eq_zero.1 hb.out.symm
  have HZ:=Lib.hid hz
  clear hz hbl
  go_wp2_with fail
  go_ret2
  refine⟨0,0,rfl,?_,hx1⟩
  rw [HZ.out,sg_zero]
  exact⟨fun _=>⟨rfl,rfl⟩,fun h=>absurd ⟨by omega,by omega⟩ h⟩
 ·have b0:((b:Int)==0)=false:=by simp;omega
  have hn0:0<n:=by
   refine Nat.pos_of_ne_zero (fun e=>h0 ?_)
   have:xs= []:=List.eq_nil_of_length_eq_zero (by rw [hlx.out,e])
   rw [hb.out,this];rfl
  obtain⟨a,x0,rfl,hxk,hxb,hcx⟩:=hr1.get (i:=0) hn0
  have hcx0:w1.cell? a=some (.int .u64 (x0:Int)):=by simpa [Addr.add] using hcx
  have hni:0<(n:Int):=by omega
  clear hcx
  by_cases h64:b<64
  ·have hi64:(b:Int)<64:=by omega
   have hlt:nv xs<2^63:=Nat.lt_of_lt_of_le hbl (Nat.pow_le_pow_right (by omega) (by omega))
   have hx0:Hid (x0=nv xs):=(show _=_ by rw [←hxk.out];exact first_word hr.wf (by rw [WB_def];omega))
   have hx63:x0≤9223372036854775807:=by rw [hx0.out];omega
   clear hbl hlt h64 h0
   cases s
   ·go_wp2_with fail
    go_ret2
    refine⟨(x0:Int),0,rfl,?_,hx1⟩
    rw [sg_false,←hx0.out]
    exact⟨fun _=>⟨rfl,rfl⟩,fun h=>absurd ⟨by omega,by omega⟩ h⟩
   ·go_wp2_with fail
    go_ret2
    refine⟨-(x0:Int),0,rfl,?_,hx1⟩
    rw [sg_true,←hx0.out]
    exact⟨fun _=>⟨rfl,rfl⟩,fun h=>absurd ⟨by omega,by omega⟩ h⟩
  ·have hi64:¬(b:Int)<64:=by omega
   have hge:2^63≤nv xs:=by
    have h1:=blen_le_self (n:=nv xs) (fun e=>h0 (by rw [hb.out,e];rfl))
    rw [←hb.out] at h1
    exact Nat.le_trans (Nat.pow_le_pow_right (by omega) (by omega)) h1
   by_cases he64:b=64
   ·subst he64
    have hlt:nv xs<WB:=by rw [WB_def];exact hbl
    have hx0:Hid (x0=nv xs):=(show _=_ by rw [←hxk.out];exact first_word hr.wf hlt)
    have hx63:9223372036854775808≤x0:=by rw [hx0.out];omega
    clear hbl hlt h64 h0 hge
    cases s
    ·go_wp2_with fail
     go_ret2
     refine⟨0,5,rfl,?_,hx1⟩
     rw [sg_false,←hx0.out]
     exact⟨fun h=>absurd h.2 (by omega),fun _=>⟨rfl,rfl⟩⟩
    ·go_wp2_with fail
     refine (bits_Ones hxb hx63 _).mono ?_
     rintro e w' ⟨c,rfl,hc,rfl⟩
     by_cases hc1:c=1
     ·have hxx:Hid (x0=9223372036854775808):=hc.out.1 hc1
      subst hc1
      go_wp2_with fail
      go_ret2
      refine⟨-9223372036854775808,0,rfl,?_,hx1⟩
      rw [sg_true,←hx0.out,hxx.out]
      exact⟨fun _=>⟨rfl,rfl⟩,fun h=>absurd ⟨by omega,by omega⟩ h⟩
     ·have bc:((c:Int)==1)=false:=by simp;omega
      have hxx:Hid (x0≠9223372036854775808):=fun e=>hc1 (hc.out.2 e)
      clear hc1
      go_wp2_with fail
      go_ret2
      refine⟨0,5,rfl,?_,hx1⟩
      rw [sg_true,←hx0.out]
      exact⟨fun h=>absurd h.1 (by have:=hxx.out;omega),fun _=>⟨rfl,rfl⟩⟩
   ·have be:((b:Int)==64)=false:=by simp;omega
    have hge2:2^64≤nv xs:=by
     have h1:=blen_le_self (n:=nv xs) (fun e=>h0 (by rw [hb.out,e];rfl))
     rw [←hb.out] at h1
     exact Nat.le_trans (Nat.pow_le_pow_right (by omega) (by omega)) h1
    have HG:=Lib.hid hge2
    clear hbl hge hge2 h0 h64 he64
    go_wp2_with fail
    go_ret2
    refine⟨0,5,rfl,?_,hx1⟩
    have:=HG.out
    refine⟨fun h=>?_,fun _=>⟨rfl,rfl⟩⟩
    cases s
    ·rw [sg_false] at h;omega
    ·rw [sg_true] at h;omega
theorem zint_Of_neg {w:World}{v:Nat}(hv1:1≤v) (hv:v≤9223372036854775808):
  Calls Tryz.prog 49 #[.int .i64 (-(v:Int))] w (RetZ w (-(v:Int))):=by
 have hn: -(v:Int)<0:=by omega
 have w1e:IntKind.u64.wrap (-(v:Int))=18446744073709551616-(v:Int):=by
  simp only [IntKind.wrap,IntKind.bits,IntKind.signed]
  simp
  omega
 have w2e:IntKind.u64.wrap (-(18446744073709551616-(v:Int)))=(v:Int):=by
  simp only [IntKind.wrap,IntKind.bits,IntKind.signed]
  simp
  omega
 have W1:=Lib.hid w1e
 have W2:=Lib.hid w2e
 clear w1e w2e
 go_enter Tryz.func49,Tryz.ntmps49
 go_upto_region 2 with (fail)
 obtain⟨g,hg⟩:∃g,w.heap.size=g:=⟨_,rfl⟩
 obtain⟨wa,hwa⟩:∃wa,w.alloc (.cells #[.bool false,.slice none 0 0] 26)=wa:=⟨_,rfl⟩
 rw [hg,hwa]
 have hb:Bk wa g 26 [.bool false,.slice none 0 0]:=by rw [←hwa,←hg];exact Bk.new w 26 [.bool false,.slice none 0 0]
 have hea:Ext w wa:=by rw [←hwa];exact (Ext.refl w).alloc _
 have hga:w.heap.size≤g:=Nat.le_of_eq hg
 have hgl:g<wa.heap.size:=hb.lt
 clear hwa hg
 obtain⟨k1,k2,k3,k4⟩:=hb.two
 have h1:Rd (wa.alloc (.cells #[.int .u64 (v:Int)] 67)) (some ⟨wa.heap.size,0,none⟩) 1 1 [v]:=Rd.one wa (by omega)
 have w1e:=W1.out
 have w2e:=W2.out
 go_wp2_with fail
 clear w1e w2e
 refine (nat_Least (h1.ext (by repeat (first | exact Ext.refl _ | assumption | apply Ext.drewN | apply Ext.drew | apply Ext.alloc))) (by omega)).mono ?_
 rintro e w1 ⟨A1,n1,c1,rfl,hn1,hr1,ho1,hx1⟩
 rw [nv_one] at hn1 ho1
 have hx1':Ext wa w1:=Ext.trans (by repeat (first | exact Ext.refl _ | assumption | apply Ext.drewN | apply Ext.drew | apply Ext.alloc)) hx1
 have hd:=hb.ext hx1'
 have hsz:=hx1'.size
 go_wp2_with fail
 refine (zint_of hn1.out).mono ?_
 rintro e w2 ⟨s',rfl,hs',hx2⟩
 have hd:=hd.ext hx2
 clear k1 k2 k3 k4
 obtain⟨k1,k2,k3,k4⟩:=hd.two
 go_wp2_with fail
 refine bodyPost_ret (res_int rfl rfl (hd.two_set _ _)) rfl ?_
 exact fin_int hd ((Zr_of hs'.out hn1.out ho1 (sg_true _)).ext hx2) (by simp;omega) (by omega) (hea.trans (hx1'.trans hx2))
theorem zint_OfI {w:World}{v:Int}(h1: -9223372036854775808≤v) (h2:v≤9223372036854775807):Calls Tryz.prog 49 #[.int .i64 v] w (RetZ w v):=by
 by_cases h:0≤v
 ·obtain⟨m,rfl⟩:=Int.eq_ofNat_of_zero_le h
  exact zint_Of (by omega)
 ·obtain⟨m,hm⟩:∃m:Nat,v= -(m:Int):=⟨v.natAbs,by omega⟩
  subst hm
  exact zint_Of_neg (by omega) (by omega)
theorem i64_shr {x s:Nat}(hs:s≤63) (P:Program) (t:TypeId) (w:World):(binOp .shr t (.int .i64 (x:Int)) (.int .i64 (s:Int))).run P w= .ok (.int .i64 ((x/2^s:Nat):Int)) w:=by
 have e:((x:Int)/2^min (s:Int).toNat IntKind.i64.bits)=((x/2^s:Nat):Int):=by
  rw [Int.toNat_natCast,show min s IntKind.i64.bits=s from Nat.min_eq_left (by show s≤64;omega)];simp
 simp only [binOp]
 rw [shift_shr_any _ _ _ _ (by omega),e];rfl
theorem i64_and1 {x:Nat}(hx:x≤9223372036854775807) (P:Program) (t:TypeId) (w:World):(binOp .and t (.int .i64 (x:Int)) (.int .i64 ((1:Nat):Int))).run P w= .ok (.int .i64 ((x%2:Nat):Int)) w:=by
 have e:IntKind.i64.wrap ((BitVec.ofInt 64 (x:Int)&&& BitVec.ofInt 64 ((1:Nat):Int)).toNat:Int)=((x%2:Nat):Int):=by
  rw [BitVec.toNat_and,ofInt_64 (by omega),ofInt_64 (by omega),Nat.and_one_is_mod,wrap_i64_nat (by omega)]
 rw [←e];rfl
theorem pow_half {S n k:Nat}:S^(n/2^k)=S^(n/2^(k+1))*S^(n/2^(k+1))*(if n/2^k%2=1 then S else 1):=by
 have e:n/2^(k+1)=n/2^k/2:=by rw [Nat.pow_succ,Nat.div_div_eq_div_mul]
 rw [e,←Nat.pow_add]
 generalize n/2^k=a
 split
 ·rename_i h
  rw [←Nat.pow_succ]
  congr 1;omega
 ·rename_i h
  rw [Nat.mul_one]
  congr 1;omega
def IsRoot (X k r:Nat):Prop:=r^k≤X∧X<(r+1)^k
theorem IsRoot.le {X k r s:Nat}(h:IsRoot X k r) (hs:X<(s+1)^k):r≤s:=by
 refine Nat.le_of_not_lt (fun hlt=>?_)
 have h1:=Nat.pow_le_pow_left (Nat.succ_le_of_lt hlt) k
 have:=h.1
 rw [Nat.succ_eq_add_one] at h1
 omega
theorem IsRoot.zero {k:Nat}(hk:1≤k):IsRoot 0 k 0:=⟨by rw [Nat.zero_pow (by omega)];exact Nat.le_refl _,by rw [Nat.zero_add,Nat.one_pow];omega⟩
theorem IsRoot.one {X:Nat}:IsRoot X 1 X:=⟨by rw [Nat.pow_one];exact Nat.le_refl _,by rw [Nat.pow_one];omega⟩
theorem aggInt:AggT Tryz.prog 26 2:=⟨fun _=>by kernel_rfl,fun _=>by kernel_rfl⟩
theorem cellBool:∀w,(isAgg 4).run Tryz.prog w= .ok false w:=fun _=>by kernel_rfl
theorem cellWords:∀w,(isAgg 24).run Tryz.prog w= .ok false w:=fun _=>by kernel_rfl
theorem mix:Tryz.prog.follows .mixedOrders=true:=by kernel_rfl
def Is (u v:Value) (_:World):Prop:=v=u
def ZR (b:Nat) (z:Int) (v:Value) (w:World):Prop:=∃s A n c,v= .agg #[.bool s,.slice A n c]∧Zr w b s A n c z
def WR (b:Nat) (m:Nat) (v:Value) (w:World):Prop:=∃A n c,v= .slice A n c∧n=(wd m).length∧Own w b 67 1 A n c ((wd m).map W64)
def Wi (w:World) (A:Option Addr) (n c:Nat) (m:Nat):Prop:=∃xs,Rd w A n c xs∧nv xs=m
theorem Wi.ext {w w':World}{A:Option Addr}{n c m:Nat}(h:Wi w A n c m) (e:Ext w w'):Wi w' A n c m:=by
 obtain⟨xs,h1,h2⟩:=h
 exact⟨xs,h1.ext e,h2⟩
theorem Zi.wi {w:World}{s:Bool}{A:Option Addr}{n c:Nat}{z:Int}(h:Zi w s A n c z):Wi w A n c z.natAbs:=by
 obtain⟨xs,h1,h2⟩:=h
 exact⟨xs,h1,by rw [←h2,sg_abs]⟩
theorem Own.wi {w:World}{b:Nat}{t:TypeId}{A:Option Addr}{n c m:Nat}(h:Own w b t 1 A n c ((wd m).map W64)):Wi w A n c m:=⟨_,h.rd (Wf_wd _),nv_wd m⟩
theorem Wi.zi {w:World}{A:Option Addr}{n c m:Nat}(h:Wi w A n c m) (s:Bool):Zi w s A n c (sg s m):=by
 obtain⟨xs,h1,h2⟩:=h
 exact⟨xs,h1,by rw [h2]⟩
theorem Wi.len {w:World}{A:Option Addr}{n c m:Nat}(h:Wi w A n c m):(wd m).length≤n:=by
 obtain⟨xs,h1,rfl⟩:=h
 have:=len_wd_nv h1.wf
 rw [h1.len] at this;exact this
def PR (b:Nat) (T:TypeId) (vs:List Value) (v:Value) (w:World):Prop:=∃g,v= .pointer (some ⟨g,0,none⟩)∧b≤g∧Bk w g T vs
theorem PR.old {b:Nat}{T:TypeId}{vs:List Value}{v:Value}{w:World}(h:PR b T vs v w):OldIn w v:=by
 obtain⟨g,h1,_,h2⟩:=h
 exact⟨g,h1,h2.lt⟩
theorem Zr_nat {w:World}{b m n c:Nat}{A:Option Addr}(hn:n=(wd m).length) (ho:Own w b 67 1 A n c ((wd m).map W64)):Zr w b false A n c (m:Int):=
 Zr_of (m:=m) (s:=false) (by rw [sg_false];symm;exact decide_eq_false (by omega)) hn ho (sg_false m)
def T2 (R S:Value→World→Prop) (v:Value) (w:World):Prop:=∃a b,v= .tuple #[a,b]∧R a w∧S b w
def T3 (R S T:Value→World→Prop) (v:Value) (w:World):Prop:=∃a b c,v= .tuple #[a,b,c]∧R a w∧S b w∧T c w
def Gv (w:World) (R:Value→World→Prop) (e:Ending) (w':World):Prop:=∃v,e= .returned v∧R v w'∧Ext w w'
section
variable {w w':World}{b:Nat}{z x y:Int}{v u:Value}{R S T:Value→World→Prop}
theorem ZR.ext (h:ZR b z v w) (e:Ext w w'):ZR b z v w':=by
 obtain⟨s,A,n,c,rfl,h⟩:=h
 exact⟨s,A,n,c,rfl,h.ext e⟩
theorem ZR.cast (h:ZR b z v w) (e:z=x):ZR b x v w:=e▸h
theorem Is.ext (h:Is u v w) (_:Ext w w'):Is u v w':=h
theorem gz (hb:b≤w.heap.size) (e:Ending) (w':World) (h:RetZ w z e w'):Gv w (ZR b z) e w':=by
 obtain⟨s,A,n,c,rfl,h1,h2⟩:=h
 exact⟨_,rfl,⟨s,A,n,c,rfl,h1.mono hb⟩,h2⟩
theorem gzze {er:Int}(hb:b≤w.heap.size) (e:Ending) (w':World) (h:RetZZE w x y er e w'):Gv w (T3 (ZR b x) (ZR b y) (Is (.int .i64 er))) e w':=by
 obtain⟨s,A,n,c,s',B,m,c',rfl,h1,h1',h2⟩:=h
 exact⟨_,rfl,⟨_,_,_,rfl,⟨s,A,n,c,rfl,h1.mono hb⟩,⟨s',B,m,c',rfl,h1'.mono hb⟩,rfl⟩,h2⟩
theorem WR.ext {m:Nat}(h:WR b m v w) (e:Ext w w'):WR b m v w':=by
 obtain⟨A,n,c,rfl,h1,h2⟩:=h
 exact⟨A,n,c,rfl,h1,h2.ext e⟩
theorem gw {m:Nat}(hb:b≤w.heap.size) (e:Ending) (w':World) (h:RetW w m e w'):Gv w (WR b m) e w':=by
 obtain⟨A,n,c,rfl,h1,h2,h3,h4⟩:=h
 exact⟨_,rfl,⟨A,n,c,rfl,h1.out,h3.mono hb⟩,h4⟩
theorem gwe {m:Nat}{er:Int}(hb:b≤w.heap.size) (e:Ending) (w':World) (h:RetWE w m er e w'):Gv w (T2 (WR b m) (Is (.int .i64 er))) e w':=by
 obtain⟨A,n,c,rfl,h1,h2,h3,h4⟩:=h
 exact⟨_,rfl,⟨_,_,rfl,⟨A,n,c,rfl,h1.out,h3.mono hb⟩,rfl⟩,h4⟩
theorem Gv.imp (hi:∀v w,R v w→S v w) (e:Ending) (w':World) (h:Gv w R e w'):Gv w S e w':=by
 obtain⟨v,rfl,h1,h2⟩:=h
 exact⟨v,rfl,hi _ _ h1,h2⟩
theorem ZR.imp {b':Nat}(hb:b≤b') (v:Value) (w:World) (h:ZR b' z v w):ZR b z v w:=by
 obtain⟨s,A,n,c,rfl,h⟩:=h
 exact⟨s,A,n,c,rfl,h.mono hb⟩
theorem WR.imp {b' m:Nat}(hb:b≤b') (v:Value) (w:World) (h:WR b' m v w):WR b m v w:=by
 obtain⟨A,n,c,rfl,h1,h2⟩:=h
 exact⟨A,n,c,rfl,h1,h2.mono hb⟩
theorem T2.imp {R' S':Value→World→Prop}(h1:∀v w,R v w→R' v w) (h2:∀v w,S v w→S' v w) (v:Value) (w:World) (h:T2 R S v w):T2 R' S' v w:=by
 obtain⟨a,c,rfl,h3,h4⟩:=h
 exact⟨a,c,rfl,h1 _ _ h3,h2 _ _ h4⟩
theorem T3.imp {R' S' T':Value→World→Prop}(h1:∀v w,R v w→R' v w) (h2:∀v w,S v w→S' v w) (h0:∀v w,T v w→T' v w) (v:Value) (w:World) (h:T3 R S T v w):T3 R' S' T' v w:=by
 obtain⟨a,c,d,rfl,h3,h4,h5⟩:=h
 exact⟨a,c,d,rfl,h1 _ _ h3,h2 _ _ h4,h0 _ _ h5⟩
theorem Is.imp {u:Value}(v:Value) (w:World) (h:Is u v w):Is u v w:=h
theorem gis {u:Value}(e:Ending) (w':World) (h:e= .returned u∧Ext w w'):Gv w (Is u) e w':=⟨_,h.1,rfl,h.2⟩
theorem gsgn (e:Ending) (w':World) (h:SgnP z w e w'):Gv w (Is (.int .i64 z)) e w':=by
 obtain⟨c,h1,_,_,rfl,h2⟩:=h
 exact⟨_,rfl,(show Value.int .i64 c=_ by rw [h1.out]),h2⟩
theorem gbool {c:Bool}(e:Ending) (w':World) (h:BoolP c w e w'):Gv w (Is (.bool c)) e w':=⟨_,h.1,rfl,h.2⟩
end
section
variable {w:World}{b:Nat}(hb:b≤w.heap.size){s t u:Bool}{A B C:Option Addr}{n cap m cap' k cap'':Nat}{x y z:Int}
include hb
theorem g_zint_Add (hx:Zi w s A n cap x) (hl:n≤274877906944) (hy:Zi w t B m cap' y) (hl':m≤274877906944):
  Calls Tryz.prog 56 #[.agg #[.bool s,.slice A n cap],.agg #[.bool t,.slice B m cap']] w (Gv w (ZR b (x+y))):=(zint_Add hx hl hy hl').mono (gz hb)
theorem g_zint_Sub (hx:Zi w s A n cap x) (hl:n≤274877906944) (hy:Zi w t B m cap' y) (hl':m≤274877906944):
  Calls Tryz.prog 57 #[.agg #[.bool s,.slice A n cap],.agg #[.bool t,.slice B m cap']] w (Gv w (ZR b (x-y))):=(zint_Sub hx hl hy hl').mono (gz hb)
theorem g_zint_Mul (hx:Zi w s A n cap x) (hl:n≤68719476736) (hy:Zi w t B m cap' y) (hl':m≤68719476736):
  Calls Tryz.prog 28 #[.agg #[.bool s,.slice A n cap],.agg #[.bool t,.slice B m cap']] w (Gv w (ZR b (x*y))):=(zint_Mul hx hl hy hl').mono (gz hb)
theorem g_zint_MulAdd (hx:Zi w s A n cap x) (hl:n≤68719476736) (hy:Zi w t B m cap' y) (hl':m≤68719476736) (hz:Zi w u C k cap'' z) (hl'':k≤68719476736):
  Calls Tryz.prog 58 #[.agg #[.bool s,.slice A n cap],.agg #[.bool t,.slice B m cap'],.agg #[.bool u,.slice C k cap'']] w (Gv w (ZR b (x*y+z))):=(zint_MulAdd hx hl hy hl' hz hl'').mono (gz hb)
theorem g_zint_Neg (hx:Zi w s A n cap x) (hl:n≤68719476736):Calls Tryz.prog 54 #[.agg #[.bool s,.slice A n cap]] w (Gv w (ZR b (-x))):=(zint_Neg hx hl).mono (gz hb)
theorem g_zint_Abs (hx:Zi w s A n cap x) (hl:n≤68719476736):Calls Tryz.prog 55 #[.agg #[.bool s,.slice A n cap]] w (Gv w (ZR b (x.natAbs:Int))):=(zint_Abs hx hl).mono (gz hb)
theorem g_zint_Least (hx:Zi w s A n cap x) (hl:n≤68719476736):Calls Tryz.prog 48 #[.agg #[.bool s,.slice A n cap]] w (Gv w (ZR b x)):=(zint_Least hx hl).mono (gz hb)
theorem g_zint_Of {v:Int}(h1: -9223372036854775808≤v) (h2:v≤9223372036854775807):Calls Tryz.prog 49 #[.int .i64 v] w (Gv w (ZR b v)):=(zint_OfI h1 h2).mono (gz hb)
theorem g_zint_Trunc (hx:Zi w s A n cap x) (hl:n≤68719476736) (hy:Zi w t B m cap' y) (hl':m≤68719476736) (h0:y≠0):
  Calls Tryz.prog 122 #[.agg #[.bool s,.slice A n cap],.agg #[.bool t,.slice B m cap']] w (Gv w (T3 (ZR b (x.tdiv y)) (ZR b (x.tmod y)) (Is (.int .i64 0)))):=(zint_Trunc hx hl hy hl' h0).mono (gzze hb)
theorem g_zint_Trunc_bad (hx:Zi w s A n cap x) (hl:n≤68719476736) (hy:Zi w t B m cap' y) (hl':m≤68719476736) (h0:y=0):
  Calls Tryz.prog 122 #[.agg #[.bool s,.slice A n cap],.agg #[.bool t,.slice B m cap']] w (Gv w (T3 (ZR b 0) (ZR b 0) (Is (.int .i64 4)))):=(zint_Trunc_bad hx hl hy hl' h0).mono (gzze hb)
omit hb in
theorem g_zint_of {m:Nat}(hn:n=(wd m).length) (ho:Own w b 67 1 A n cap ((wd m).map W64)):Calls Tryz.prog 98 #[.bool s,.slice A n cap] w (Gv w (ZR b (sg s m))):=
 (zint_of hn).mono fun e w' h=>by
  obtain⟨s',rfl,h1,h2⟩:=h
  exact⟨_,rfl,⟨s',A,n,cap,rfl,Zr_of h1.out hn (ho.ext h2) rfl⟩,h2⟩
omit hb in
theorem g_divnat_Exact_bad {i j:Nat}(hy:Wi w B m cap' j) (hl':m≤274877906944) (h0:j=0):
  Calls Tryz.prog 159 #[.slice A n cap,.slice B m cap'] w (Gv w (Is (.tuple #[.slice none 0 0,.int .i64 4]))):=by
 obtain⟨ys,h1,rfl⟩:=hy
 exact (divnat_Exact_bad h1 (by omega) h0).mono gis
omit hb in
theorem g_divnat_Exact_not {i j:Nat}(hx:Wi w A n cap i) (hl:n≤274877906944) (hy:Wi w B m cap' j) (hl':m≤274877906944) (h0:j≠0) (h1:i%j≠0):
  Calls Tryz.prog 159 #[.slice A n cap,.slice B m cap'] w (Gv w (Is (.tuple #[.slice none 0 0,.int .i64 8]))):=by
 obtain⟨ys,hy,rfl⟩:=hy
 obtain⟨xs,hx,rfl⟩:=hx
 exact (divnat_Exact_not hx hl hy hl' h0 h1).mono gis
theorem g_divnat_Exact {i j:Nat}(hx:Wi w A n cap i) (hl:n≤274877906944) (hy:Wi w B m cap' j) (hl':m≤274877906944) (h0:j≠0) (h1:i%j=0):
  Calls Tryz.prog 159 #[.slice A n cap,.slice B m cap'] w (Gv w (T2 (WR b (i/j)) (Is (.int .i64 0)))):=by
 obtain⟨ys,hy,rfl⟩:=hy
 obtain⟨xs,hx,rfl⟩:=hx
 exact (divnat_Exact hx hl hy hl' h0 h1).mono (gwe hb)
end
section
variable {w:World}{s t:Bool}{A B:Option Addr}{n cap m cap':Nat}{x y:Int}
theorem g_zint_Sign (hx:Zi w s A n cap x) (hl:n≤68719476736):Calls Tryz.prog 51 #[.agg #[.bool s,.slice A n cap]] w (Gv w (Is (.int .i64 (scmp x 0)))):=(zint_Sign hx hl).mono gsgn
theorem g_zint_Cmp (hx:Zi w s A n cap x) (hl:n≤68719476736) (hy:Zi w t B m cap' y) (hl':m≤68719476736):
  Calls Tryz.prog 52 #[.agg #[.bool s,.slice A n cap],.agg #[.bool t,.slice B m cap']] w (Gv w (Is (.int .i64 (scmp x y)))):=(zint_Cmp hx hl hy hl').mono gsgn
end
section
variable {P:Program}{Q:Exit→Act→World→Prop}{n:Nat}{l:Fr}{w:World}{ops:Array Oper}{rest:List Oper}{d:Nat}{op:Op}{ty:TypeId}{pos:String}{af:Array Edge}{gd:Option (Nat×Bool)}
theorem wl_bslice (hw:guardB ops l gd=some true) (hk:known l op=true) (hn:d<n){k:Nat}{e:TypeId}(cells:List Value)
  (hr:∀w,(execOp (rho l) ⟨some d,op,ty,pos,af,gd⟩).run P w= .ok (.value (.slice (some ⟨w.heap.size,0,none⟩) k k)) (w.alloc (.cells cells.toArray e)))
  (h:∀g w',NewBk w w' g e cells→wl P ops Q n rest ((d,.slice (some ⟨g,0,none⟩) k k)::l) w'):wl P ops Q n (⟨some d,op,ty,pos,af,gd⟩::rest) l w:=
 wl_val hw hn (fun a ha=>by rw [exec_known hk ha];exact hr w) (h _ _ (NewBk.mk' w e cells))
end
def O1 (b x:Nat) (v:Value) (w:World):Prop:=∃A,v= .slice A 1 1∧Own w b 67 1 A 1 1 [W64 x]
theorem O1.mk_ {w w':World}{g b x:Nat}(h:NewBk w w' g 67 [W64 x]) (hb:b≤w.heap.size):Own w' b 67 1 (some ⟨g,0,none⟩) 1 1 [W64 x]:=
 Own.mk_ (by rw [←h.at_];exact hb) h.bk (Nat.le_refl _) (by rw [len_maxLen];omega) rfl rfl
theorem own1_wi {w:World}{b x:Nat}{A:Option Addr}(h:Own w b 67 1 A 1 1 [W64 x]) (hx:x≤18446744073709551615):Wi w A 1 1 x:=
 ⟨[x],h.rd (Wf_one (by rw [WB_def];omega)),nv_one x⟩
theorem own1_wd {w:World}{b x:Nat}{A:Option Addr}(h:Own w b 67 1 A 1 1 [W64 x]) (hx:x≤18446744073709551615) (h0:x≠0):Own w b 67 1 A 1 1 ((wd x).map W64):=by
 rw [wd_small (by rw [WB_def];omega) h0];exact h
theorem len1 {x:Nat}(hx:x≤18446744073709551615) (h0:x≠0):1=(wd x).length:=by rw [wd_small (by rw [WB_def];omega) h0];rfl
section
variable {P:Program}{Q:Exit→Act→World→Prop}{n:Nat}{l:Fr}{w:World}
def mvL (n:Nat) (ops:Array Oper):Nat→List Oper→Fr→Option (Fr×List Oper)
 | 0,rest,l=>some (l,rest)
 | _+1,[],_=>none
 | k+1,⟨some d,op,_,_,_,gd⟩::rest,l=>
  match Nat.blt d n with
  | true=>
   match guardB ops l gd with
   | some true=>
    match op with
    | .move x=>match evo l x with
     | some v=>mvL n ops k rest ((d,v)::l)
     | none=>none
    | .assign x=>match evo l x with
     | some v=>mvL n ops k rest ((d,v)::l)
     | none=>none
    | _=>none
   | some false=>mvL n ops k rest ((d,undef)::l)
   | none=>none
  | false=>none
 | _+1,_::_,_=>none
theorem mv {ops:Array Oper}:∀(k:Nat){rest rest':List Oper}{l l':Fr},mvL n ops k rest l=some (l',rest')→wl P ops Q n rest' l' w→wl P ops Q n rest l w
 | 0,rest,rest',l,l',h,hw=>by
  simp only [mvL,Option.some.injEq,Prod.mk.injEq] at h
  obtain⟨rfl,rfl⟩:=h
  exact hw
 | k+1,[],rest',l,l',h,hw=>by simp [mvL] at h
 | k+1,⟨none,op,ty,pos,af,gd⟩::rest,rest',l,l',h,hw=>by simp [mvL] at h
 | k+1,⟨some d,op,ty,pos,af,gd⟩::rest,rest',l,l',h,hw=>by
  unfold mvL at h
  split at h
  ·rename_i hd
   have hd':d<n:=Nat.le_of_ble_eq_true hd
   split at h
   ·rename_i hg
    split at h
    ·split at h
     ·rename_i hx
      exact wl_move hg hx hd' (mv k h hw)
     ·cases h
    ·split at h
     ·rename_i hx
      exact wl_assign hg hx hd' (mv k h hw)
     ·cases h
    ·cases h
   ·rename_i hg
    exact wl_off hg hd' (mv k h hw)
   ·cases h
  ·cases h
theorem sr {id:Nat}{ol:List Oper}{y:Code}(h:wl P ol.toArray (Exit.then (fun a w=>y.wp P Q a w) Q) n ol l w):cw P Q n (.seq (.region id ol.toArray false) y) l w:=cw_seq (cw_region h)
theorem ne_ {ops:Array Oper}{y:Code}(h:cw P Q n y l w):wl P ops (Exit.then (fun a w=>y.wp P Q a w) Q) n [] l w:=wl_nil (eo_then h)
theorem pu {ops:Array Oper}{rest:List Oper}{d:Nat}{op:Op}{ty:TypeId}{pos:String}{af:Array Edge}{gd:Option (Nat×Bool)}{v:Value}(hk:(guardB ops l gd==some true&&known l op&&Nat.blt d n)=true) (hr:(execOp (rho l) ⟨some d,op,ty,pos,af,gd⟩).run P w= .ok (.value v) w)
  (h:wl P ops Q n rest ((d,v)::l) w):wl P ops Q n (⟨some d,op,ty,pos,af,gd⟩::rest) l w:=by
 rw [Bool.and_eq_true,Bool.and_eq_true,beq_iff_eq] at hk
 exact wl_pure hk.1.1 hk.1.2 (Nat.le_of_ble_eq_true hk.2) hr h
section
variable {ops:Array Oper}{rest:List Oper}{d:Nat}{ty:TypeId}{pos:String}{af:Array Edge}{gd:Option (Nat×Bool)}{w0:World}
theorem bx {x:Operand}{t:TypeId}{v:Value}(vs:List Value) (h0:Ext w0 w) (hx:evo l x=some v) (hk:(guardB ops l gd==some true&&Nat.blt d n)=true) (hv:v.cells=vs.toArray)
  (h:∀g w',Bk w' g t vs→w0.heap.size≤g→Ext w w'→Ext w0 w'→wl P ops Q n rest ((d,.pointer (some ⟨g,0,none⟩))::l) w'):wl P ops Q n (⟨some d,.box t x,ty,pos,af,gd⟩::rest) l w:=by
 rw [Bool.and_eq_true,beq_iff_eq] at hk
 exact wl_box hk.1 hx hv (Nat.le_of_ble_eq_true hk.2) fun g w' nb=>h g w' nb.bk (by rw [←nb.at_];exact h0.size) nb.ext (h0.trans nb.ext)
theorem bxq {x:Operand}{t:TypeId}{v:Value}{gp:Nat}(vs:List Value) (h0:Ext w0 w) (hq:gp<w.heap.size) (hx:evo l x=some v) (hk:(guardB ops l gd==some true&&Nat.blt d n)=true) (hv:v.cells=vs.toArray)
  (h:∀g w',Bk w' g t vs→w0.heap.size≤g→gp<g→Ext w w'→Ext w0 w'→wl P ops Q n rest ((d,.pointer (some ⟨g,0,none⟩))::l) w'):wl P ops Q n (⟨some d,.box t x,ty,pos,af,gd⟩::rest) l w:=by
 rw [Bool.and_eq_true,beq_iff_eq] at hk
 exact wl_box hk.1 hx hv (Nat.le_of_ble_eq_true hk.2) fun g w' nb=>h g w' nb.bk (by rw [←nb.at_];exact h0.size) (by rw [←nb.at_];exact hq) nb.ext (h0.trans nb.ext)
theorem al {t:TypeId}(vs:List Value) (h0:Ext w0 w) (hz:∀w,(zeroValue t).run P w= .ok (.agg vs.toArray) w) (hk:(guardB ops l gd==some true&&Nat.blt d n)=true)
  (h:∀g w',Bk w' g t vs→w0.heap.size≤g→Ext w w'→Ext w0 w'→wl P ops Q n rest ((d,.pointer (some ⟨g,0,none⟩))::l) w'):wl P ops Q n (⟨some d,.alloc t,ty,pos,af,gd⟩::rest) l w:=by
 rw [Bool.and_eq_true,beq_iff_eq] at hk
 exact wl_alloc hk.1 hz rfl (Nat.le_of_ble_eq_true hk.2) fun g w' nb=>h g w' nb.bk (by rw [←nb.at_];exact h0.size) nb.ext (h0.trans nb.ext)
theorem alq {t:TypeId}{gp:Nat}(vs:List Value) (h0:Ext w0 w) (hq:gp<w.heap.size) (hz:∀w,(zeroValue t).run P w= .ok (.agg vs.toArray) w) (hk:(guardB ops l gd==some true&&Nat.blt d n)=true)
  (h:∀g w',Bk w' g t vs→w0.heap.size≤g→gp<g→Ext w w'→Ext w0 w'→wl P ops Q n rest ((d,.pointer (some ⟨g,0,none⟩))::l) w'):wl P ops Q n (⟨some d,.alloc t,ty,pos,af,gd⟩::rest) l w:=by
 rw [Bool.and_eq_true,beq_iff_eq] at hk
 exact wl_alloc hk.1 hz rfl (Nat.le_of_ble_eq_true hk.2) fun g w' nb=>h g w' nb.bk (by rw [←nb.at_];exact h0.size) (by rw [←nb.at_];exact hq) nb.ext (h0.trans nb.ext)
theorem cl {f:FuncId}{xs:Array Operand}{ts:Array TypeId}{vs:List Value}{R:Value→World→Prop}(h0:Ext w0 w) (hc:Calls P f vs.toArray w (Gv w R))
  (hk:(guardB ops l gd==some true&&known l (.call {callee:= .value (.func f),args:=xs,argTypes:=ts})&&Nat.blt d n)=true)
  (hr:(execOp (rho l) ⟨some d,.call {callee:= .value (.func f),args:=xs,argTypes:=ts},ty,pos,af,gd⟩).run P w= .ok (.enter f vs.toArray) w)
  (h:∀v w',R v w'→Ext w w'→Ext w0 w'→wl P ops Q n rest ((d,v)::l) w'):
  wl P ops Q n (⟨some d,.call {callee:= .value (.func f),args:=xs,argTypes:=ts},ty,pos,af,gd⟩::rest) l w:=by
 rw [Bool.and_eq_true,Bool.and_eq_true,beq_iff_eq] at hk
 refine wl_call hk.1.1 hk.1.2 hr (Nat.le_of_ble_eq_true hk.2) hc ?_
 rintro _ w' ⟨v,rfl,r,e⟩
 exact ret_intro (h v w' r e (h0.trans e))
theorem lo {x:Operand}{T T':TypeId}{k off g:Nat}{vs:List Value}(hT:AggT P T k) (hb:Bk w g T' vs) (us:List Value) (hx:evo l x=some (.pointer (some ⟨g,off,none⟩)))
  (hk:(guardB ops l gd==some true&&Nat.blt d n&&Nat.beq us.length k&&Nat.ble (off+k) vs.length)=true) (he:(vs.drop off).take k=us) (h:wl P ops Q n rest ((d,.agg us.toArray)::l) w):wl P ops Q n (⟨some d,.load T x,ty,pos,af,gd⟩::rest) l w:=by
 rw [Bool.and_eq_true,Bool.and_eq_true,Bool.and_eq_true,beq_iff_eq] at hk
 exact wl_load hk.1.1.1 hx (load_agg hT hb us (Nat.eq_of_beq_eq_true hk.1.2) (Nat.le_of_ble_eq_true hk.2) he) (Nat.le_of_ble_eq_true hk.1.1.2) h
theorem so {x y:Operand}{T T':TypeId}{k g off:Nat}{vs us:List Value}(hT:AggT P T k) (hb:Bk w g T' vs) (us':List Value) (h0:Ext w0 w) (hg:w0.heap.size≤g) (hx:evo l x=some (.pointer (some ⟨g,off,none⟩))) (hy:evo l y=some (.agg us.toArray))
  (hk:(guardB ops l gd==some true&&Nat.beq us.length k&&Nat.ble (off+k) vs.length&&us.all (·.oneCell'))=true) (he:overl vs off us=us')
  (h:∀w',Bk w' g T' us'→Upd g w w'→Ext w0 w'→wl P ops Q n rest l w'):wl P ops Q n (⟨none,.store T x y,ty,pos,af,gd⟩::rest) l w:=by
 rw [Bool.and_eq_true,Bool.and_eq_true,Bool.and_eq_true,beq_iff_eq] at hk
 exact wl_stored hk.1.1.1 hx hy hT (Nat.eq_of_beq_eq_true hk.1.1.2) hb (Nat.le_of_ble_eq_true hk.1.2) hk.2 us' he fun w' b u _=>h w' b u (u.ext h0 hg)
end
theorem dk {ol:List Oper}{Rs:List (Value→World→Prop)}{w0 w1:World}{k:Fr→Prop}{acc:Fr}{j:Nat}{ds:List Nat}{v:Value}{d:Nat}
  (hR:Rs[j]?=some (Is v)) (hd:dstOf ol j=some d) (h:Deps ol Rs w0 w1 k ds ((d,v)::acc)):Deps ol Rs w0 w1 k (j::ds) acc:=
 deps_cons hR hd fun v' _ hr _ _=>by
  obtain rfl:=hr
  exact h
theorem pf {ops:Array Oper}{rest:List Oper}{d:Nat}{op:Op}{ty:TypeId}{pos:String}{af:Array Edge}{gd:Option (Nat×Bool)}(g off:Nat) (hk:(guardB ops l gd==some true&&known l op&&Nat.blt d n)=true) (hr:(execOp (rho l) ⟨some d,op,ty,pos,af,gd⟩).run P w= .ok (.value (.pointer (some ⟨g,off,none⟩))) w)
  (h:wl P ops Q n rest ((d,.pointer (some ⟨g,off,none⟩))::l) w):wl P ops Q n (⟨some d,op,ty,pos,af,gd⟩::rest) l w:=pu hk hr h
theorem bq {m k:Nat}(h:Nat.ble m k=true):m≤k:=Nat.le_of_ble_eq_true h
theorem lx_ {a b c:Nat}(h:a≤b) (k:Nat.ble b c=true):a≤c:=Nat.le_trans h (Nat.le_of_ble_eq_true k)
end
abbrev S0:Value:= .slice none 0 0
abbrev F0:Value:= .bool false
abbrev I0:Value:= .int .i64 0
end Go.Proofs.YthggegdkpalgbaaGreatDoor

namespace Go.Proofs.YthggegdkpalgbaaGreatDoor
open Go.ChangeShapes Go.WideShapes Go.ChangeAt Go.RowKit
theorem own_knob:ownKnob Tryz.prog.godebug=none:=by kernel_rfl
theorem cells_word:Tryz.prog.cellsOf 67=1:=by kernel_rfl
theorem bulk_one {H:Type}(d:DataW H):1≤Rows.uptoBulk d:=by
 cases d with
 | lit l=>cases l <;> simp [Rows.uptoBulk]
 | nil=>simp [Rows.uptoBulk]
 | ptr d=>simp [Rows.uptoBulk]
 | slice elems spare=>simp [Rows.uptoBulk]
 | agg parts=>simp [Rows.uptoBulk]
 | iface t d=>simp [Rows.uptoBulk]
 | map entries=>simp [Rows.uptoBulk]
 | held h=>simp [Rows.uptoBulk]
theorem bulk_len {H:Type}(l:List (DataW H)):l.length≤Rows.uptoBulkAll l:=by
 induction l with
 | nil=>simp [Rows.uptoBulkAll]
 | cons x r ih=>have:=bulk_one x;simp only [Rows.uptoBulkAll,List.length_cons];omega
theorem bulk_slice {H:Type}(elems spare:List (DataW H)):elems.length+spare.length≤Rows.uptoBulk (.slice elems spare):=by
 have h1:=bulk_len elems
 have h2:=bulk_len spare
 simp only [Rows.uptoBulk]
 omega
theorem bulk_bound {H:Type}{l:List (DataW H)}(hk:Rows.uptoSmall H l=true):Rows.uptoBulkAll l≤1048576:=of_decide_eq_true hk
theorem wf_nat {n:Int}(h:(Lit.int .u64 n).wf=true):0≤n∧n≤18446744073709551615:=by
 simpa [Lit.wf,IntKind.min,IntKind.max,IntKind.signed,IntKind.bits] using h
theorem wf_int {n:Int}(h:(Lit.int .i64 n).wf=true): -9223372036854775808≤n∧n≤9223372036854775807:=by
 simpa [Lit.wf,IntKind.min,IntKind.max,IntKind.signed,IntKind.bits] using h
theorem post_of_below {H:Type}{enc:TypeId×Value→H}{P:Program}{f:Func}{s:ChangeSpec}{apart fresh handsOn again:Bool}{W W':World}{args:Array Value}{v:Value}{ds gs:List (DataW H)}{before pa pv:List MemPlace}
  (hW:DataW.Whole enc P f.params.toList s.vars apart W args.toList ds gs before)
  (hres:∀(b:Nat) (sp:Nat→Bool) (hd:Bool),DataW.TrodAll enc P W' b sp hd f.resultTypes.toList (v.resultList f.resultTypes.size) (s.fn H (ds++gs)).results [])
  (hargs:∀sp:Nat→Bool,(∀p∈before,sp p.block=true)→DataW.TrodAll enc P W' 0 sp true f.params.toList args.toList (s.fn H (ds++gs)).args pa)
  (hvars:∀sp:Nat→Bool,(∀p∈before,sp p.block=true)→DataW.TrodVars enc P W' sp s.vars (s.fn H (ds++gs)).vars pv)
  (hps:before=pa++pv) (hb:Below W.heap.size W W')
  (hok:∀(j:Nat) (t:TypeId) (r:Value),f.resultTypes[j]?=some t→(v.resultList f.resultTypes.size)[j]?=some r→Value.okWide P W' .any 0 t r):
  s.post enc P f apart fresh handsOn again W args v W':=by
 have hlt:∀p∈before,p.block<W.heap.size:=fun p hp=>hW.lt p hp
 have hold:∀p∈before,(fun b=>decide (b<W.heap.size)) p.block=true:=fun p hp=>by simpa using hlt p hp
 refine⟨ds,gs,before,[],pa,pv,hW,hres _ _ _,hargs _ hold,hvars _ hold,World.keptBut_mono (fun p hp=>⟨hp,?_⟩) (hb.frame (· ∈before)),fun _=>?_⟩
 ·rw [hps,List.mem_append] at hp
  exact Or.inr hp
 ·obtain⟨_,_,_,_,_,hz,hn⟩:=hW
  refine⟨hok,_,_,([]++pa)++pv,⟨[]++pa,pv,trodAll_append (hargs _ (fun _ _=>rfl)) (hres _ _ _),hvars _ (fun _ _=>rfl),rfl,?_,?_⟩,?_⟩
  ·intro b off hp
   have hin:MemPlace.cell b off∈before:=by rw [hps];simpa using hp
   rw [hb.frozen (hlt _ hin)]
   exact hz b off hin
  ·intro ha
   have:=hn ha
   rw [hps] at this
   simpa using this
  ·intro p hp _
   rw [hps]
   simpa using hp
theorem laid_out:laidOutB Tryz.prog=true:=by kernel_rfl
theorem maps_rowed:mapsRowed Tryz.prog=true:=by kernel_rfl
def sizedB (P:Program):Bool:=(List.range P.types.size).all fun t=>match P.underlying t with
 | some (.slice e)=>decide (0<P.cellsOf e)
 | _=>true
theorem sized_b:sizedB Tryz.prog=true:=by kernel_rfl
theorem sized {t e:TypeId}(ht:t<Tryz.prog.types.size) (hu:Tryz.prog.underlying t=some (.slice e)):0<Tryz.prog.cellsOf e:=by
 have:=List.all_eq_true.1 sized_b t (List.mem_range.2 ht)
 simpa [hu] using this
theorem stays {H:Type}{enc:TypeId×Value→H}{W W':World}{t:TypeId}{v:Value}{d:DataW H}{p:List MemPlace}(ht:t<Tryz.prog.types.size) (h:DataW.Trod enc Tryz.prog W 0 (fun _=>true) true t v d p)
  (he:Ext W W') (hp:∀q∈p,q.block<W.heap.size){sp:Nat→Bool}(hsp:∀q∈p,sp q.block=true):DataW.Trod enc Tryz.prog W' 0 sp true t v d p:=by
 obtain⟨n,hn⟩:=h
 exact⟨n,DataW.trod_stays (kids_rows laid_out maps_rowed) sized (fun h=>by cases h) ht hn (fun q hq=>he.below.same (hp q hq)) hsp⟩
theorem stays_all {H:Type}{enc:TypeId×Value→H}{W W':World}(he:Ext W W'){sp:Nat→Bool}:∀{ts:List TypeId}{vs:List Value}{ds:List (DataW H)}{p:List MemPlace},(∀t∈ts,t<Tryz.prog.types.size)→
  DataW.TrodAll enc Tryz.prog W 0 (fun _=>true) true ts vs ds p→(∀q∈p,q.block<W.heap.size)→(∀q∈p,sp q.block=true)→DataW.TrodAll enc Tryz.prog W' 0 sp true ts vs ds p:=by
 intro ts
 induction ts with
 | nil=>
  intro vs ds p _ h _ _
  obtain⟨rfl,rfl,rfl⟩:=trodAll_nil h
  exact trodAll_mk0
 | cons t ts ih=>
  intro vs ds p ht h hp hsp
  obtain⟨v,vs',d,ds',p1,p2,rfl,rfl,rfl,h1,h2⟩:=trodAll_cons h
  exact trodAll_cons_mk (stays (ht t (by simp)) h1 he (fun q hq=>hp q (by simp [hq])) (fun q hq=>hsp q (by simp [hq]))) (ih (fun t h=>ht t (by simp [h])) h2 (fun q hq=>hp q (by simp [hq])) (fun q hq=>hsp q (by simp [hq])))
end Go.Proofs.YthggegdkpalgbaaGreatDoor

namespace Go.Proofs.YthggegdkpalgbaaGreatDoor
open Go.RowKit
structure Zl (w:World) (A:Option Addr) (n cap:Nat) (zs:List Int) (ms:List Nat):Prop where
 len:zs.length=n
 mlen:ms.length=n
 le:n≤cap
 max:cap≤maxLen
 get:∀i,i<n→∃a s B c,A=some a∧w.cell? (a.add (i*2))=some (.bool s)∧w.cell? (a.add (i*2+1))=some (.slice B (ms.getD i 0) c)∧Zi w s B (ms.getD i 0) c (zs.getD i 0)
theorem Zl.ext {w w':World}{A:Option Addr}{n cap:Nat}{zs:List Int}{ms:List Nat}(h:Zl w A n cap zs ms) (e:Ext w w'):Zl w' A n cap zs ms:=
 ⟨h.len,h.mlen,h.le,h.max,fun i hi=>by
  obtain⟨a,s,B,c,h1,h2,h3,h4⟩:=h.get i hi
  exact⟨a,s,B,c,h1,e.cell h2,e.cell h3,h4.ext e⟩⟩
theorem Zl.take {w:World}{A:Option Addr}{n cap k:Nat}{zs:List Int}{ms:List Nat}(h:Zl w A n cap zs ms) (hk:k≤n):Zl w A k cap (zs.take k) (ms.take k):=
 ⟨by rw [List.length_take,h.len];omega,by rw [List.length_take,h.mlen];omega,Nat.le_trans hk h.le,h.max,fun i hi=>by
  obtain⟨a,s,B,c,h1,h2,h3,h4⟩:=h.get i (by omega)
  have e1:(ms.take k).getD i 0=ms.getD i 0:=by simp [List.getD_eq_getElem?_getD,hi]
  have e2:(zs.take k).getD i 0=zs.getD i 0:=by simp [List.getD_eq_getElem?_getD,hi]
  rw [e1,e2]
  exact⟨a,s,B,c,h1,h2,h3,h4⟩⟩
theorem getD_le_sum:∀(ms:List Nat) (i:Nat),ms.getD i 0≤ms.sum
 | [],i=>by simp
 | m::r,0=>by simp
 | m::r,i+1=>by
  have:=getD_le_sum r i
  simp only [List.getD_cons_succ,List.sum_cons]
  omega
end Go.Proofs.YthggegdkpalgbaaGreatDoor

namespace Go.Proofs.YthggegdkpalgbaaGreatDoor
open Go.ChangeShapes Go.WideShapes Go.ChangeAt Go.RowKit
theorem cells_int:Tryz.prog.cellsOf 26=2:=by kernel_rfl
theorem cells_words:Tryz.prog.cellsOf 24=1:=by kernel_rfl
theorem cells_bool:Tryz.prog.cellsOf 4=1:=by kernel_rfl
theorem fields_int:∃f0 f1:Field,Tryz.prog.underlying 26=some (.struct #[f0,f1])∧f0.type=4∧f0.offset=0∧f1.type=24∧f1.offset=1:=⟨_,_,Tryz.underlying26,rfl,rfl,rfl,rfl⟩
set_option maxRecDepth 20000 in
theorem open_wcell {H:Type}{enc:TypeId×Value→H}{W:World}{v:Value}{d:DataW H}{p:List MemPlace}{fuel:Nat}
  (hf:DataW.trod enc Tryz.prog W 0 (fun _=>true) true fuel 24 [v]=some (d,p)):
  ∃A n cap xs,v= .slice A n cap∧Rd W A n cap xs∧n≤Rows.uptoBulk d∧
   ∀W',Ext W W'→∀sp:Nat→Bool,(∀q∈p,sp q.block=true)→∃fuel',DataW.trod enc Tryz.prog W' 0 sp true fuel' 24 [v]=some (d,p):=by
 rcases open_ints Tryz.underlying24 Tryz.underlying67 cells_word hf with⟨hcs,hx⟩ | ⟨a,n',cap',zs,hcs,_,hl,hm,hz,hx,hcell,hwf⟩
 ·obtain rfl:=List.singleton_inj.1 hcs
  simp only [Prod.mk.injEq] at hx
  obtain⟨rfl,rfl⟩:=hx
  exact⟨none,0,0,[],rfl,Rd.nil W,Nat.zero_le _,fun W' _ sp _=>by obtain⟨fu,h⟩:=shut_slice_nil (enc:=enc) (w:=W') (base:=0) (spare:=sp) (held:=true) Tryz.underlying24;exact⟨fu,h⟩⟩
 ·obtain rfl:=List.singleton_inj.1 hcs
  simp only [Prod.mk.injEq] at hx
  obtain⟨rfl,rfl⟩:=hx
  simp only [if_true] at hz
  have hblk:0<cap'→a.block<W.heap.size:=fun hc=>World.block_lt_of_cell? W (a.add 0) (hcell 0 (by omega)) |> fun h=>by rwa [block_of_add] at h
  have hnn:∀z∈zs,((z.toNat:Nat):Int)=z:=fun z hz'=>Int.toNat_of_nonneg (wf_nat (hwf z hz')).1
  have hlen:(zs.take n').length=n':=by rw [List.length_take];omega
  refine⟨some a,n',cap',(zs.take n').map Int.toNat,rfl,⟨⟨by simp;omega,hl,hm,fun i hi=>⟨a,rfl,?_⟩,fun b hb hc=>by cases hb;exact hblk hc⟩,?_⟩,?_,?_⟩
  ·rw [hcell i (by omega)]
   have hi2:i<zs.length:=by omega
   have hmem:zs[i]∈zs:=List.getElem_mem hi2
   have e:(((zs.take n').map Int.toNat).map W64).getD i undef= .int .u64 ((zs[i].toNat:Nat):Int):=by
    simp [List.getD_eq_getElem?_getD,List.getElem?_map,show i<n' by omega,List.getElem?_eq_getElem hi2]
   rw [e,hnn _ hmem]
   simp [List.getD_eq_getElem?_getD,List.getElem?_eq_getElem hi2]
  ·intro x hx
   obtain⟨z,hz1,rfl⟩:=List.mem_map.1 hx
   have:=wf_nat (hwf z (List.mem_of_mem_take hz1))
   rw [WB_def];omega
  ·have:=bulk_slice (H:=H) (lits .u64 (zs.take n')) (lits .u64 (zs.drop n'))
   have e:(lits (H:=H) .u64 (zs.take n')).length=n':=by simp [lits];omega
   omega
  ·intro W' he sp hsp
   have hcell':∀i,i<zs.length→W'.cell? (a.add i)=some (.int .u64 (zs.getD i 0)):=fun i hi=>he.cell (hcell i hi)
   by_cases hz0:zs.length=0
   ·have hc0:cap'=0:=by omega
    have hl0:n'=0:=by omega
    subst hc0;subst hl0
    have t0:=shut_ints (enc:=enc) (w:=W') (base:=0) (spare:=sp) (held:=true) (a:=a) (len:=0) (cap:=0) (zs:=zs) 0 Tryz.underlying24 Tryz.underlying67 cells_word (Nat.zero_le _) (Nat.le_refl _) hm (by simp [hz0]) hcell' hwf
    exact⟨2,t0⟩
   ·have hspb:sp a.block=true:=hsp (.cell a.block a.off) (MemPlace.mem_row.2 ⟨0,by omega,by simp⟩)
    have t0:=shut_ints (enc:=enc) (w:=W') (base:=0) (spare:=sp) (held:=true) (a:=a) (len:=n') (cap:=cap') (zs:=zs) 0 Tryz.underlying24 Tryz.underlying67 cells_word (Nat.zero_le _) hl hm (by simp [hspb,hz]) hcell' hwf
    exact⟨2,t0⟩
set_option maxRecDepth 20000 in
theorem open_zcells {H:Type}{enc:TypeId×Value→H}{W:World}{c0 c1:Value}{x:DataW H×List MemPlace}{fuel:Nat}
  (h:DataW.trod enc Tryz.prog W 0 (fun _=>true) true fuel 26 [c0,c1]=some x):
  ∃s A n cap z,c0= .bool s∧c1= .slice A n cap∧Zi W s A n cap z∧n+1≤Rows.uptoBulk x.1∧
   ∀W',Ext W W'→∀sp:Nat→Bool,(∀q∈x.2,sp q.block=true)→∃fuel',DataW.trod enc Tryz.prog W' 0 sp true fuel' 26 [c0,c1]=some x:=by
 obtain⟨f0,f1,hu,t0,o0,t1,o1⟩:=fields_int
 obtain⟨y0,y1,n,rfl,hl,h0,h1⟩:=trod_struct2 hu h
 rw [t0,o0,cells_bool] at h0
 rw [t1,o1,cells_words] at h1
 have e0:(([c0,c1]:List Value).drop 0).take 1= [c0]:=rfl
 have e1:(([c0,c1]:List Value).drop 1).take 1= [c1]:=rfl
 rw [e0] at h0
 rw [e1] at h1
 obtain⟨s,hs,rfl⟩:=DataW.trod_bool Tryz.underlying4 h0
 obtain rfl:c0= .bool s:=by simpa using hs
 obtain⟨A,k,cap,xs,rfl,hx,hb,rx⟩:=open_wcell (d:=y1.1) (p:=y1.2) h1
 refine⟨s,A,k,cap,_,rfl,rfl,⟨xs,hx,rfl⟩,?_,?_⟩
 ·simp only [Rows.uptoBulk,Rows.uptoBulkAll];omega
 ·intro W' he sp hsp
  obtain⟨fu,hfu⟩:=rx W' he sp (fun q hq=>hsp q (by simp [hq]))
  refine⟨fu+1+1,trod_struct2_mk (y0:=(.lit (.bool s),[])) (y1:=y1) hu hl ?_ ?_⟩
  ·rw [t0,o0,cells_bool,e0]
   simp [DataW.trod,Tryz.underlying4]
  ·rw [t1,o1,cells_words,e1]
   exact DataW.trod_le (Nat.le_succ _) hfu
theorem sum_map_le {H:Type}(D:Nat→DataW H) (f:Nat→Nat) (n:Nat) (h:∀i,i<n→f i+1≤Rows.uptoBulk (D i)):((List.range n).map f).sum+n≤Rows.uptoBulkAll ((List.range n).map D):=by
 induction n with
 | zero=>simp [Rows.uptoBulkAll]
 | succ n ih=>
  have ih':=ih (fun i hi=>h i (by omega))
  have hn:=h n (by omega)
  rw [List.range_succ,List.map_append,List.map_append,List.sum_append,List.map_singleton,List.map_singleton]
  have e:∀(l:List (DataW H)) (x:DataW H),Rows.uptoBulkAll (l++ [x])=Rows.uptoBulkAll l+Rows.uptoBulk x:=by
   intro l x
   induction l with
   | nil=>simp [Rows.uptoBulkAll]
   | cons y r ihl=>simp only [List.cons_append,Rows.uptoBulkAll,ihl];omega
  rw [e]
  simp only [List.sum_singleton]
  omega
theorem elem_len {l:List Value}(h:l.length=2):∃a b,l= [a,b]:=by
 match l,h with
 | [a,b],_=>exact⟨a,b,rfl⟩
end Go.Proofs.YthggegdkpalgbaaGreatDoor

namespace Go.Proofs.YthggegdkpalgbaaGreatDoor
open Go.RowKit
theorem UpdO.of {w w':World}{A:Option Addr}(h:w.grownBy w' none):UpdO A w w':=⟨⟨h.os,h.tape,h.output,h.size,fun k hk _=>h.block k hk (by simp)⟩⟩
theorem Upd.updO {w w':World}{g:Nat}(h:Upd g w w'){o:Nat}{x:_}:UpdO (some ⟨g,o,x⟩) w w':=⟨h.by_⟩
theorem overl_take {cs us vs:List Value}{k:Nat}(hv:cs.take k=vs) (hk:k≤cs.length):(overl cs k us).take (k+us.length)=vs++us:=by
 unfold overl
 have e:(cs.take k++us).length=k+us.length:=by rw [List.length_append,List.length_take,Nat.min_eq_left hk]
 rw [←e,List.take_left',hv]
 rfl
def Kept (w:World) (A A':Option Addr):Prop:=∀a',A'=some a'→(∃a,A=some a∧a'.block=a.block)∨w.heap.size≤a'.block
section
variable {P:Program}
theorem run_app {t ty e:TypeId}{z:Value}{s bytes:Nat}(ht:P.underlying t=some (.slice e)) (hinfo:(P.info? e).map (fun i=>(i.zero,i.size,i.bytes))=some (some z,s,bytes)) (hzs:z.cells.size=s) (hsz:0<s) (hby:bytes≤64)
  {w:World}{base:Nat}{A:Option Addr}{n cap:Nat}{xs:List Value}(hown:Own w base e s A n cap xs) (hb:base≤w.heap.size){a:Addr}{m c:Nat}{news:List Value}(hl:news.length=m*s) (hnews:∀j u,news[j]?=some u→w.cell? (a.add j)=some u)
  (h1:news.all (·.oneCell')=true) (hm:n+m≤1099511627776):
  ∃A' cap' w',(Builtin.append_ #[t,t] ty #[.slice A n cap,.slice (some a) m c]).run P w= .ok (.slice A' (n+m) cap') w'∧Own w' base e s A' (n+m) cap' (xs++news)∧UpdO A w w'∧Kept w A A':=by
 obtain⟨i,hi,hz,hz1,hz2⟩:=info_parts hinfo
 have h1':∀u∈news,u.oneCell'=true:=by simpa [List.all_eq_true] using h1
 have h63:n+m≤maxLen:=by rw [len_maxLen];omega
 have hbytes:(n+m)*bytes≤140737488355328:=by
  have:(n+m)*bytes≤1099511627776*64:=Nat.mul_le_mul hm hby
  omega
 rcases hown with⟨rfl,rfl,rfl,rfl⟩ | ⟨g,cs,rfl,hg,hk,hn,hcm,hcl,hv⟩
 ·obtain⟨v',w',hr,h2,h3,_⟩:=run_append_own (P:=P) w w.heap.size t ty e i z s bytes ht hi hz hz1 hz2 hzs hsz (.slice none 0 0) 0 [] (World.ownsRow_nil w _ e s) a m c news hl hnews h1' h63 hbytes (Nat.le_refl _)
  obtain⟨A',cap',rfl,ho⟩:=Own.of_row h2
  exact⟨A',cap',w',hr,ho.mono hb,UpdO.of h3,fun a' ha=>Or.inr (ho.block a' ha).1⟩
 ·by_cases hroom:n+m≤cap
  ·have hfit:n*s+news.length≤cs.length:=by rw [hl,hcl,←Nat.add_mul];exact Nat.mul_le_mul_right s hroom
   obtain⟨w',hst,hb2,hu,hs⟩:=store_cells (P:=P) news 0 (n*s) w cs hk (by omega) h1'
   rw [Nat.add_zero] at hb2
   have hfc:=run_firstCells_some (P:=P) w i.size m a m c news (by rw [hz1];exact hl) hnews
   rw [hz1] at hfc
   refine⟨some ⟨g,0,none⟩,cap,w',?_,Or.inr ⟨g,_,rfl,hg,hb2,hroom,hcm,?_,?_⟩,hu.updO,fun a' ha=>Or.inl ⟨_,rfl,by cases ha;rfl⟩⟩
   ·simp [Builtin.append_,run_underlying ht,sizeOf,typeInfo,hi,Builtin.lenOf,hroom,hfc,Addr.add_lit,hz1,hst]
   ·unfold overl
    simp only [List.length_append,List.length_take,List.length_drop]
    omega
   ·rw [Nat.add_mul,←hl]
    exact overl_take hv (by omega)
  ·have hx:=hv
   obtain⟨v',w',hr,h2,h3⟩:=run_append_arg_grows (P:=P) w t ty e i z s bytes ht hi hz hz1 hz2 hzs hsz ⟨g,0,none⟩ n cap xs
    (by rw [←hv,List.length_take];have:=Nat.mul_le_mul_right s hn;omega)
    (fun j u hj=>by
     have hjl:=(List.getElem?_eq_some_iff.1 hj).1
     rw [add_lit0,Nat.zero_add,hk.cell (by rw [←hv,List.length_take] at hjl;omega)]
     rw [←hv,List.getElem?_take] at hj
     split at hj
     ·rw [List.getD_eq_getElem?_getD,hj];rfl
     ·cases hj) a m c news hl hnews (by omega) h63 hbytes
   obtain⟨A',cap',rfl,ho⟩:=Own.of_row h2
   exact⟨A',cap',w',hr,ho.mono hb,UpdO.of h3,fun a' ha=>Or.inr (ho.block a' ha).1⟩
variable {Q:Exit→Act→World→Prop}{n:Nat}{l:Fr}{w:World}{ops:Array Oper}{rest:List Oper}{d:Nat}{ty:TypeId}{pos:String}{af:Array Edge}{gd:Option (Nat×Bool)}
theorem wl_app {x y:Operand}{t e:TypeId}{z:Value}{s bytes k m c cap base:Nat}{A:Option Addr}{a:Addr}{xs:List Value}(hw:guardB ops l gd=some true) (hx:evo l x=some (.slice A k cap)) (hy:evo l y=some (.slice (some a) m c))
  (ht:P.underlying t=some (.slice e)) (hinfo:(P.info? e).map (fun i=>(i.zero,i.size,i.bytes))=some (some z,s,bytes)) (hzs:z.cells.size=s) (hsz:0<s) (hby:bytes≤64)
  (hown:Own w base e s A k cap xs) (hb:base≤w.heap.size) (news:List Value) (hl:news.length=m*s) (hnews:∀j u,news[j]?=some u→w.cell? (a.add j)=some u)
  (h1:news.all (·.oneCell')=true) (hm:k+m≤1099511627776) (hn:d<n)
  (h:∀A' cap' w',Own w' base e s A' (k+m) cap' (xs++news)→UpdO A w w'→Kept w A A'→wl P ops Q n rest ((d,.slice A' (k+m) cap')::l) w'):
  wl P ops Q n (⟨some d,.call {callee:= .builtin .append,args:= #[x,y],argTypes:= #[t,t]},ty,pos,af,gd⟩::rest) l w:=by
 obtain⟨A',cap',w',hr,h2,h3,h4⟩:=run_app (P:=P) (ty:=ty) ht hinfo hzs hsz hby hown hb hl hnews h1 hm
 refine wl_val hw hn (fun a' ha=>?_) (h A' cap' w' h2 h3 h4)
 unfold execOp
 simp only [resolve,invoke,builtin,Sem.run_bind,Sem.run_pure,Result.andThen_ok,List.map_toArray,List.map_cons,List.map_nil,ha.ev hx,ha.ev hy]
 rw [hr]
 rfl
end
theorem Own.updOT {w w':World}{b b':Nat}{t T:TypeId}{s s':Nat}{A B:Option Addr}{n cap m c:Nat}{vs us:List Value}(h:Own w b t s A n cap vs) (ho:Own w b' T s' B m c us) (hT:t≠T) (x:UpdO B w w'):Own w' b t s A n cap vs:=by
 refine h.updO x (fun p q hp hq hg=>?_)
 rcases ho with⟨h1,_⟩ | ⟨k,cs,hB,_,hk,_⟩
 ·rw [h1] at hp;cases hp
 ·rcases h with⟨h2,_⟩ | ⟨k',cs',hA,_,hk',_⟩
  ·rw [h2] at hq;cases hq
  ·rw [hB] at hp;rw [hA] at hq
   cases hp;cases hq
   simp only at hg
   subst hg
   unfold Bk at hk hk'
   rw [hk] at hk'
   injection hk' with hk'
   injection hk' with e1 e2
   exact hT e2.symm
theorem un_wl:Tryz.prog.underlying 39=some (.slice 24):=by kernel_rfl
theorem sz_wl (w:World):(sizeOf 24).run Tryz.prog w= .ok 1 w:=by kernel_rfl
theorem ag_wl (w:World):(isAgg 24).run Tryz.prog w= .ok false w:=by kernel_rfl
section
variable {P:Program}{Q:Exit→Act→World→Prop}{n:Nat}{l:Fr}{w:World}{ops:Array Oper}{rest:List Oper}{d:Nat}{op:Op}{ty:TypeId}{pos:String}{af:Array Edge}{gd:Option (Nat×Bool)}
def notEq:BinOp→Bool
 | .eql=>false
 | .neq=>false
 | _=>true
theorem run_op {o:BinOp}{t:TypeId}{x y:Operand}{u v r:Value}(ho:notEq o=true) (hb:(binOp o t u v).run P w= .ok r w):((do eqGuard o t x y u v;binOp o t u v):Sem Value).run P w= .ok r w:=by
 cases o <;> first | (cases ho;done) | (simp only [eqGuard,Sem.run_bind];exact hb) | (simp [eqGuard,Sem.run_bind,hb])
theorem wl_op {o:BinOp}{t t':TypeId}{x y:Operand}{u v r:Value}(hw:guardB ops l gd=some true) (hx:evo l x=some u) (hy:evo l y=some v) (ho:notEq o=true) (hb:∀w,(binOp o t u v).run P w= .ok r w) (hn:d<n)
  (h:wl P ops Q n rest ((d,r)::l) w):wl P ops Q n (⟨some d,.binOp o t x y t',ty,pos,af,gd⟩::rest) l w:=
 wl_val hw hn (fun a' ha=>by
  have e:((do eqGuard o t x y (a'.eval x) (a'.eval y);binOp o t (a'.eval x) (a'.eval y)):Sem Value).run P w= .ok r w:=by
   rw [ha.ev hx,ha.ev hy];exact run_op ho (hb w)
  show ((((do eqGuard o t x y (a'.eval x) (a'.eval y);binOp o t (a'.eval x) (a'.eval y)):Sem Value)>>=fun r=>pure (Next.value r)):Sem Next).run P w=_
  rw [Sem.run_bind,e];rfl) h
theorem wl_pureE {v v':Value}(hw:guardB ops l gd=some true) (hk:known l op=true) (hn:d<n) (hr:(execOp (rho l) ⟨some d,op,ty,pos,af,gd⟩).run P w= .ok (.value v) w) (e:v=v')
  (h:wl P ops Q n rest ((d,v')::l) w):wl P ops Q n (⟨some d,op,ty,pos,af,gd⟩::rest) l w:=wl_pure hw hk hn hr (by rw [e];exact h)
end
theorem cv_u64 {x:Nat}(h:x≤18446744073709551615):Value.int .u64 (IntKind.u64.wrap (x:Int))= .int .u64 (x:Int):=by rw [IntWalk.u64_in _ ⟨by omega,by omega⟩]
theorem cv_i64 {x:Nat}(h:x≤9223372036854775807):Value.int .i64 (IntKind.i64.wrap (x:Int))= .int .i64 (x:Int):=by rw [IntWalk.i64_in _ ⟨by omega,by omega⟩]
section
variable (P:Program) (n:Nat) (ol:List Oper) (vs:List Value) (ws:List World) (w:World) (dss:List (List Nat)) (l:Fr) (st:List Nat)
def DObV (i t:Nat):Prop:=
 match ol[i]? with
 | some o=>if st.contains i then RunD P n (dfr ol vs l (rch dss i)) o (wv ws w t) (match o.dst with | none=> .skip | some _=> .value ((vs[i]?).getD undef)) (wv ws w (t+1)) else RunD P n (dfr ol vs l (rch dss i)) o (wv ws w t) (.value ((vs[i]?).getD undef)) (wv ws w t)
 | none=>True
def DObsV:List (Nat×Nat)→Prop
 | []=>True
 | (i,t)::r=>DObV P n ol vs ws w dss l st i t∧DObsV r
end
def detOkV (n : Nat) (ol : List Oper) (st : List Nat) (l : Fr) (dss rl : List (List Nat)) (ps : List (Nat × Nat)) : Bool :=
  (ol.zipIdx.all fun (o, i) => (match o.guard with | none => true | some _ => false) && (o.after.toList.all fun e => !Region.binds .any e || decide (e.on < i)) &&
    ((rch rl i).all fun j => decide (j < i) && o.after.toList.any fun e => Region.binds .any e && (e.on == j || (rch rl e.on).contains j)) &&
    ((rch dss i).all fun j => (rch rl i).contains j) &&
    (match o.dst with
     | some d => decide (d < n) && l.all (fun p => p.1 != d) && ol.zipIdx.all (fun (o', j) => j == i || o'.dst != some d)
     | none => st.contains i) &&
    (List.range (st.length + 1)).all (fun t => decide (t < cnt st (rch rl i)) || (t != 0 && (rch rl (st.getD (t - 1) 0)).contains i) || (st.contains i && t != cnt st (rch rl i)) || ps.contains (i, t))) &&
  (List.range st.length).all (fun t => decide (st.getD t 0 < ol.length) && (List.range t).all fun u => (rch rl (st.getD t 0)).contains (st.getD u 0))
structure DetOkV (n:Nat) (ol:List Oper) (st:List Nat) (l:Fr) (dss rl:List (List Nat)) (ps:List (Nat×Nat)):Prop where
 guard:∀(i:Nat) (o:Oper),ol[i]?=some o→o.guard=none
 back:∀(i:Nat) (o:Oper),ol[i]?=some o→∀e∈o.after,Region.binds .any e=true→e.on<i
 reach:∀(i:Nat) (o:Oper),ol[i]?=some o→∀j∈rch rl i,j<i∧∃e∈o.after,Region.binds .any e=true∧(e.on=j∨j∈rch rl e.on)
 deps:∀(i:Nat) (o:Oper),ol[i]?=some o→∀j∈rch dss i,j∈rch rl i
 val:∀(i:Nat) (o:Oper),ol[i]?=some o→∀d,o.dst=some d→d<n∧(∀p∈l,p.1≠d)∧∀(j:Nat) (o':Oper),ol[j]?=some o'→j≠i→o'.dst≠some d
 sto:∀(i:Nat) (o:Oper),ol[i]?=some o→o.dst=none→i∈st
 pair:∀(i:Nat) (o:Oper),ol[i]?=some o→∀t,t≤st.length→cnt st (rch rl i)≤t→(t=0∨i ∉ rch rl (st.getD (t-1) 0))→(i∈st→t=cnt st (rch rl i))→(i,t)∈ps
 inN:∀t,t<st.length→st.getD t 0<ol.length
 ord:∀t,t<st.length→∀u,u<t→st.getD u 0∈rch rl (st.getD t 0)
theorem detOk_specV {n:Nat}{ol:List Oper}{st:List Nat}{l:Fr}{dss rl:List (List Nat)}{ps:List (Nat×Nat)}(h:detOkV n ol st l dss rl ps=true):DetOkV n ol st l dss rl ps:=by
 simp only [detOkV,Bool.and_eq_true] at h
 obtain⟨h1,h2⟩:=h
 have key:=fun (i:Nat) (o:Oper) (ho:ol[i]?=some o)=>all_zipIdx h1 i o ho
 simp only [Bool.and_eq_true] at key
 have key2:∀t,t<st.length→st.getD t 0<ol.length∧∀u,u<t→st.getD u 0∈rch rl (st.getD t 0):=by
  intro t ht
  rw [List.all_eq_true] at h2
  have:=h2 t (List.mem_range.2 ht)
  simp only [Bool.and_eq_true,decide_eq_true_eq,List.all_eq_true,List.mem_range,List.contains_iff_mem] at this
  exact this
 refine⟨fun i o ho=>?_,fun i o ho e he hb=>?_,fun i o ho j hj=>?_,fun i o ho j hj=>?_,fun i o ho d hd=>?_,fun i o ho hd=>?_,fun i o ho t ht hc hz hs=>?_,fun t ht=>(key2 t ht).1,fun t ht=>(key2 t ht).2⟩
 ·have:=(key i o ho).1.1.1.1.1
  cases hg:o.guard with
  | none=>rfl
  | some g=>rw [hg] at this;cases this
 ·have:=(key i o ho).1.1.1.1.2
  rw [List.all_eq_true] at this
  have:=this e (by simpa using he)
  simpa [hb] using this
 ·have:=(key i o ho).1.1.1.2
  rw [List.all_eq_true] at this
  have:=this j hj
  simp only [Bool.and_eq_true,decide_eq_true_eq,List.any_eq_true,Bool.or_eq_true,beq_iff_eq,List.contains_iff_mem] at this
  obtain⟨h3,e,he,hb,h4⟩:=this
  exact⟨h3,e,by simpa using he,hb,h4⟩
 ·have:=(key i o ho).1.1.2
  rw [List.all_eq_true] at this
  simpa using this j hj
 ·have:=(key i o ho).1.2
  rw [hd] at this
  simp only [Bool.and_eq_true,decide_eq_true_eq] at this
  obtain⟨⟨h4,h5⟩,h6⟩:=this
  refine⟨h4,fun p hp=>?_,fun j o' ho' hne e=>?_⟩
  ·rw [List.all_eq_true] at h5
   simpa using h5 p hp
  ·have:=all_zipIdx h6 j o' ho'
   simp only [Bool.or_eq_true,beq_iff_eq,bne_iff_ne] at this
   rcases this with h | h
   ·exact hne h
   ·exact h e
 ·have:=(key i o ho).1.2
  rw [hd] at this
  exact List.contains_iff_mem.1 this
 ·have:=(key i o ho).2
  rw [List.all_eq_true] at this
  have:=this t (List.mem_range.2 (by omega))
  simp only [Bool.or_eq_true,Bool.and_eq_true,decide_eq_true_eq,bne_iff_ne,ne_eq,List.contains_iff_mem] at this
  rcases this with ((h | h) | h) | h
  ·omega
  ·rcases hz with h0 | h0
   ·exact absurd h0 h.1
   ·exact absurd h.2 h0
  ·exact absurd (hs h.1) h.2
  ·exact h
section
variable {P:Program}{Q:Exit→Act→World→Prop}{n:Nat}{ol:List Oper}{vs:List Value}{ws:List World}{w:World}{dss rl:List (List Nat)}{l:Fr}{st:List Nat}{ps:List (Nat×Nat)}
theorem dobs_getV:∀{ps:List (Nat×Nat)},DObsV P n ol vs ws w dss l st ps→∀i t,(i,t)∈ps→DObV P n ol vs ws w dss l st i t
 | [],_,i,t,h=>by cases h
 | (j,u)::r,h,i,t,hm=>by
  rcases List.mem_cons.1 hm with e | e
  ·cases e;exact h.1
  ·exact dobs_getV h.2 i t e
theorem closed_reachV {listed:Array Bool}(hk:DetOkV n ol st l dss rl ps) (h:Closed ol listed):∀(i:Nat) (o:Oper),ol[i]?=some o→(∀e∈o.after,Region.binds .any e=true→listed.getD e.on false=true)→∀j∈rch rl i,listed.getD j false=true:=by
 intro i
 induction i using Nat.strongRecOn with
 | ind i ih=>
  intro o ho hall j hj
  obtain⟨_,e,he,hb,h1⟩:=hk.reach i o ho j hj
  have hlt:=hk.back i o ho e he hb
  rcases h1 with h1 | h1
  ·rw [←h1];exact hall e he hb
  ·have hN:e.on<ol.length:=Nat.lt_trans hlt (List.getElem?_eq_some_iff.1 ho).1
   exact ih e.on hlt _ (List.getElem?_eq_getElem hN) (h e.on _ (List.getElem?_eq_getElem hN) (hall e he hb)) j h1
theorem det_anyV (hk:DetOkV n ol st l dss rl ps) (ho:DObsV P n ol vs ws w dss l st ps) (hfin:eo Q .normal n (allFr ol vs l) (wv ws w st.length)):
  ∀(fuel:Nat) (listed:Array Bool) (a:Act) (t:Nat),unl ol.length listed≤fuel→listed.size=ol.length→Closed ol listed→t≤st.length→(∀u,u<st.length→listed.getD (st.getD u 0) false=decide (u<t))→Rp n l a→
   (∀i,i<ol.length→listed.getD i false=true→∀d,dstOf ol i=some d→a.tmps.getD d undef=(vs[i]?).getD undef)→wpAny P .any ol.toArray Q fuel listed a (wv ws w t):=by
 have fin:∀(listed:Array Bool) (a:Act) (t:Nat),(∀i,i<ol.length→listed.getD i false=true)→t≤st.length→(∀u,u<st.length→listed.getD (st.getD u 0) false=decide (u<t))→Rp n l a→
   (∀i,i<ol.length→listed.getD i false=true→∀d,dstOf ol i=some d→a.tmps.getD d undef=(vs[i]?).getD undef)→Q .normal a (wv ws w t):=by
  intro listed a t hall ht hst hr hv
  have e:t=st.length:=by
   rcases Nat.lt_or_ge t st.length with h | h
   ·have h1:=hst t h
    rw [hall _ (hk.inN t h)] at h1
    simp at h1
   ·omega
  subst e
  exact hfin a (hr.dfr _ fun j hj d hd=>hv j (List.mem_range.1 hj) (hall j (List.mem_range.1 hj)) d hd)
 intro fuel
 induction fuel with
 | zero=>
  intro listed a t hf hs hcl ht hst hr hv
  have hall:∀i,i<ol.length→listed.getD i false=true:=by
   intro i hi
   cases h:listed.getD i false with
   | true=>rfl
   | false=>have:=unl_set hi hs h;omega
  refine⟨?_,fin listed a t hall ht hst hr hv⟩
  refine List.eq_nil_iff_forall_not_mem.2 fun j hj=>?_
  obtain⟨h1,o,hoj,_⟩:=ready_iff.1 hj
  have hjl:j<ol.length:=(List.getElem?_eq_some_iff.1 hoj).1
  rw [getD_tf (by omega),hall j hjl] at h1
  cases h1
 | succ fuel ih=>
  intro listed a t hf hs hcl ht hst hr hv
  refine⟨fun h0=>?_,fun i hir=>?_⟩
  ·refine fin listed a t (fun i hi=>?_) ht hst hr hv
   have key:∀k,k≤ol.length→∀i,i<k→listed.getD i false=true:=by
    intro k
    induction k with
    | zero=>intro _ i hi;omega
    | succ k ihk=>
     intro hk' i hi
     have ih':=ihk (by omega)
     rcases Nat.lt_or_ge i k with h | h
     ·exact ih' i h
     ·have e:i=k:=by omega
      subst e
      cases hb:listed.getD i false with
      | true=>rfl
      | false=>
       have hrdy:i∈Region.ready .any ol.toArray listed:=ready_iff.2 ⟨by rw [getD_tf (by omega)];exact hb,_,List.getElem?_eq_getElem (by omega),fun e he hbb=>ih' _ (hk.back i _ (List.getElem?_eq_getElem (by omega)) e he hbb)⟩
       rw [h0] at hrdy;cases hrdy
   exact key ol.length (Nat.le_refl _) i hi
  ·obtain⟨hun,o,hoi,hall⟩:=ready_iff.1 hir
   have hil:i<ol.length:=(List.getElem?_eq_some_iff.1 hoi).1
   have hun':listed.getD i false=false:=by rw [←getD_tf (by omega)];exact hun
   have hrch:=closed_reachV hk hcl i o hoi hall
   have hcnt:cnt st (rch rl i)≤t:=cnt_le fun u hu1 hu2 hm=>by
    have h1:=hrch _ hm
    rw [hst u hu2] at h1
    simp at h1;omega
   have hzero:t=0∨i ∉ rch rl (st.getD (t-1) 0):=by
    rcases Nat.eq_zero_or_pos t with h | h
    ·exact Or.inl h
    ·refine Or.inr fun hm=>?_
     have h1:=hst (t-1) (by omega)
     rw [decide_eq_true (by omega)] at h1
     have hN:=hk.inN (t-1) (by omega)
     have h2:=closed_reachV hk hcl _ _ (List.getElem?_eq_getElem hN) (fun e he hb=>hcl _ _ (List.getElem?_eq_getElem hN) h1 e he hb) i hm
     rw [hun'] at h2;cases h2
   have hstore:i∈st→t<st.length∧st.getD t 0=i∧t=cnt st (rch rl i):=by
    intro hm
    obtain⟨u,hu,heq⟩:=List.getElem_of_mem hm
    have hg:st.getD u 0=i:=by rw [List.getD_eq_getElem?_getD,List.getElem?_eq_getElem hu];exact heq
    have h1:=hst u hu
    rw [hg,hun'] at h1
    have h2:¬u<t:=by intro h;rw [decide_eq_true h] at h1;cases h1
    have h3:u=t:=by
     rcases Nat.lt_or_ge t u with h | h
     ·have h4:=hk.ord u hu t h
      rw [hg] at h4
      have h5:=hrch _ h4
      rw [hst t (by omega)] at h5
      simp at h5
     ·omega
    subst h3
    refine⟨hu,hg,?_⟩
    have h4:=le_cnt (st:=st) (js:=rch rl i) (t:=u) (by omega) (fun v hv'=>by rw [←hg];exact hk.ord u hu v hv')
    omega
   have hob:=dobs_getV ho i t (hk.pair i o hoi t ht hcnt hzero (fun hm=>(hstore hm).2.2))
   unfold DObV at hob
   rw [hoi] at hob
   simp only at hob
   have hacc:Rp n (dfr ol vs l (rch dss i)) a:=hr.dfr _ fun j hj d hd=>by
    have h1:=hrch j (hk.deps i o hoi j hj)
    have h2:=(hk.reach i o hoi j (hk.deps i o hoi j hj)).1
    exact hv j (by omega) h1 d hd
   have hwant:Region.wanted o (yielded ol.toArray a.tmps)=true:=by simp [Region.wanted,hk.guard i o hoi]
   unfold wpOp
   rw [arr_get,hoi]
   simp only
   rw [if_pos hwant]
   refine Or.inl ?_
   unfold Oper.wp
   cases hd:o.dst with
   | some d=>
    obtain⟨hdn,hfar,hoth⟩:=hk.val i o hoi d hd
    have hslot:∀(v:Value) (hvi:v=(vs[i]?).getD undef),∀j,j<ol.length→(listed.setIfInBounds i true).getD j false=true→∀e,dstOf ol j=some e→(a.put (some d) v).tmps.getD e undef=(vs[j]?).getD undef:=fun v hvi j hj hlj e he=>by
     by_cases hij:i=j
     ·subst hij
      have e1:dstOf ol i=some d:=by unfold dstOf;rw [hoi];exact hd
      rw [e1] at he
      cases he
      rw [←hvi]
      exact slotv_put hr.size hdn _
     ·rw [Go.getD_set_ne false hij] at hlj
      have hne:e≠d:=by
       intro hed
       subst hed
       obtain⟨oj,hoj⟩:∃oj,ol[j]?=some oj:=⟨_,List.getElem?_eq_getElem hj⟩
       refine hoth j oj hoj (Ne.symm hij) ?_
       unfold dstOf at he
       rw [hoj] at he
       exact he
      have:=slotv_far (a:=a) (d:=d) (e:=some e) (fun h=>hne (Option.some.inj h)) v
      exact this.trans (hv j hj hlj e he)
    by_cases hmst:i∈st
    ·obtain⟨htl,hgt,_⟩:=hstore hmst
     rw [if_pos (by simpa using hmst),hd] at hob
     simp only at hob
     rw [hob a hacc]
     simp only [Oper.upon,hd]
     refine ih _ _ (t+1) (by have:=unl_set hil hs hun';omega) (by simpa using hs) (hcl.set hoi hall) (by omega) (fun u hu=>?_) (hr.put_far hfar _) (hslot _ rfl)
     by_cases hut:u=t
     ·subst hut
      rw [hgt]
      simp [hs,hil]
     ·have hne:i≠st.getD u 0:=by
       intro e
       rcases Nat.lt_or_ge u t with h | h
       ·have h1:=hst u hu
        rw [←e,hun',decide_eq_true h] at h1;cases h1
       ·have h4:=hk.ord u hu t (by omega)
        rw [hgt,←e] at h4
        have:=(hk.reach i o hoi i h4).1
        omega
      rw [Go.getD_set_ne false hne,hst u hu]
      congr 1
      simp only [eq_iff_iff]
      omega
    ·rw [if_neg (by simpa using hmst)] at hob
     rw [hob a hacc]
     simp only [Oper.upon,hd]
     refine ih _ _ t (by have:=unl_set hil hs hun';omega) (by simpa using hs) (hcl.set hoi hall) ht (fun u hu=>?_) (hr.put_far hfar _) (hslot _ rfl)
     rw [Go.getD_set_ne false (fun e=>hmst (by rw [e,List.getD_eq_getElem?_getD,List.getElem?_eq_getElem hu];exact List.getElem_mem hu))]
     exact hst u hu
   | none=>
    have hm:=hk.sto i o hoi hd
    obtain⟨htl,hgt,_⟩:=hstore hm
    rw [if_pos (by simpa using hm),hd] at hob
    simp only at hob
    rw [hob a hacc]
    simp only [Oper.upon,hd]
    refine ih _ _ (t+1) (by have:=unl_set hil hs hun';omega) (by simpa using hs) (hcl.set hoi hall) (by omega) (fun u hu=>?_) hr (fun j hj hlj e he=>?_)
    ·by_cases hut:u=t
     ·subst hut
      rw [hgt]
      simp [hs,hil]
     ·have hne:i≠st.getD u 0:=by
       intro e
       rcases Nat.lt_or_ge u t with h | h
       ·have h1:=hst u hu
        rw [←e,hun',decide_eq_true h] at h1;cases h1
       ·have h4:=hk.ord u hu t (by omega)
        rw [hgt,←e] at h4
        have:=(hk.reach i o hoi i h4).1
        omega
      rw [Go.getD_set_ne false hne,hst u hu]
      congr 1
      simp only [eq_iff_iff]
      omega
    ·by_cases hij:i=j
     ·subst hij
      have e1:dstOf ol i=none:=by unfold dstOf;rw [hoi];exact hd
      rw [e1] at he;cases he
     ·rw [Go.getD_set_ne false hij] at hlj
      exact hv j hj hlj e he
theorem cw_detV {id:Nat}(hmix:P.follows .mixedOrders=true) (vs:List Value) (ws:List World) (st:List Nat) (dss rl:List (List Nat)) (ps:List (Nat×Nat)){w0:World}(hk:detOkV n ol st l dss rl ps=true) (hw:wv ws w 0=w0.drew)
  (ho:DObsV P n ol vs ws w dss l st ps) (hfin:eo Q .normal n (allFr ol vs l) (wv ws w st.length)):cw P Q n (.region id ol.toArray true) l w0:=fun a ha=>by
 refine wp_region_any hmix ?_
 have hsz:(Array.replicate ol.toArray.size false).size=ol.length:=by simp
 have hfalse:∀i,(Array.replicate ol.toArray.size false).getD i false=false:=by
  intro i
  simp only [Array.getD_eq_getD_getElem?,Array.getElem?_replicate]
  split <;> rfl
 have:=det_anyV (detOk_specV hk) ho hfin ol.toArray.size _ a 0 (by
  refine Nat.le_trans List.countP_le_length ?_
  simp) hsz (fun i o _ h=>by rw [hfalse] at h;cases h) (Nat.zero_le _) (fun u _=>by rw [hfalse];simp) ha (fun i _ h=>by rw [hfalse] at h;cases h)
 rw [hw] at this
 exact this
theorem dobs_valV {i t:Nat}{ps:List (Nat×Nat)}{o:Oper}{v:Value}{wt:World}(acc:Fr) (ho:ol[i]?=some o) (hs:st.contains i=false) (hv:(vs[i]?).getD undef=v) (hw:wv ws w t=wt) (hacc:dfr ol vs l (rch dss i)=acc) (h:RunD P n acc o wt (.value v) wt)
  (h':DObsV P n ol vs ws w dss l st ps):DObsV P n ol vs ws w dss l st ((i,t)::ps):=⟨by unfold DObV;rw [ho];simp only;rw [hs,if_neg (by simp),hv,hw,hacc];exact h,h'⟩
theorem dobs_actV {i t:Nat}{ps:List (Nat×Nat)}{o:Oper}{d:Nat}{v:Value}{wt wt':World}(acc:Fr) (ho:ol[i]?=some o) (hs:st.contains i=true) (hd:o.dst=some d) (hv:(vs[i]?).getD undef=v) (hw:wv ws w t=wt) (hw':wv ws w (t+1)=wt') (hacc:dfr ol vs l (rch dss i)=acc) (h:RunD P n acc o wt (.value v) wt')
  (h':DObsV P n ol vs ws w dss l st ps):DObsV P n ol vs ws w dss l st ((i,t)::ps):=⟨by unfold DObV;rw [ho];simp only;rw [hs,if_pos rfl,hw,hw',hacc,hd];simp only;rw [hv];exact h,h'⟩
theorem dobs_stoV {i t:Nat}{ps:List (Nat×Nat)}{o:Oper}{wt wt':World}(acc:Fr) (ho:ol[i]?=some o) (hd:o.dst=none) (hs:st.contains i=true) (hw:wv ws w t=wt) (hw':wv ws w (t+1)=wt') (hacc:dfr ol vs l (rch dss i)=acc) (h:RunD P n acc o wt .skip wt')
  (h':DObsV P n ol vs ws w dss l st ps):DObsV P n ol vs ws w dss l st ((i,t)::ps):=⟨by unfold DObV;rw [ho];simp only;rw [hs,if_pos rfl,hw,hw',hacc,hd];exact h,h'⟩
theorem dobs_nilV:DObsV P n ol vs ws w dss l st []:=trivial
end
def sgn (d:Nat):Nat:=if d<10 then 48+d else 87+d
def B8 (x:Nat):Value:= .int .u8 (x:Int)
theorem sgn_zero:sgn 0=48:=rfl
theorem sgn_le {d:Nat}(h:d<36):sgn d≤122:=by unfold sgn;split <;> omega
def strB (bs:List Nat):ByteArray:=⟨(bs.map UInt8.ofNat).toArray⟩
def padTo (l:List Nat) (k:Nat):List Nat:=l++List.replicate (k-l.length) 0
theorem len_padTo (l:List Nat) (k:Nat):(padTo l k).length=max l.length k:=by simp only [padTo,List.length_append,List.length_replicate];omega
def txt (l:List Nat):List Nat:=l.reverse.map sgn
theorem txt_app (l r:List Nat):txt (l++r)=txt r++txt l:=by simp [txt]
theorem txt_len (l:List Nat):(txt l).length=l.length:=by simp [txt]
theorem txt_zeros (k:Nat):txt (List.replicate k 0)=List.replicate k 48:=by simp [txt,sgn_zero]
theorem txt_pad (l:List Nat) (k:Nat):txt (padTo l k)=List.replicate (k-l.length) 48++txt l:=by rw [padTo,txt_app,txt_zeros]
theorem sz_u8 (w:World):(sizeOf 5).run Tryz.prog w= .ok 1 w:=by kernel_rfl
theorem ag_u8 (w:World):(isAgg 5).run Tryz.prog w= .ok false w:=by kernel_rfl
theorem un_u8:Tryz.prog.underlying 139=some (.slice 5):=by kernel_rfl
theorem info8:(Tryz.prog.info? 5).map (fun i=>(i.zero,i.size,i.bytes))=some (some (.int .u8 0),1,1):=by kernel_rfl
theorem ag_int2 (w:World):(isAgg 3).run Tryz.prog w= .ok false w:=by kernel_rfl
theorem map_B8_set (xs:List Nat) (i x:Nat):(xs.map B8).set i (.int .u8 (x:Int))=(xs.set i x).map B8:=by rw [List.map_set];rfl
section
variable {P:Program}{Q:Exit→Act→World→Prop}{n:Nat}{l:Fr}{w:World}{ops:Array Oper}{rest:List Oper}{d:Nat}{op:Op}{ty:TypeId}{pos:String}{af:Array Edge}{gd:Option (Nat×Bool)}
theorem run_indexA {t e:TypeId}{s m:Nat}{a:Addr}{k:IntKind}{i:Int}{j:Nat}{p:Addr}(hT:P.underlying t=some (.array m e)) (hs:∀w,(sizeOf e).run P w= .ok s w) (hi:i=(j:Int)) (hj:j<m) (hp:a.add (j*s)=p):
  (Instr.indexAt t (.pointer (some a)) (.int k i)).run P w= .ok (.pointer (some p)) w:=by
 subst hi hp
 have hu:(underlying t).run P w= .ok (.array m e) w:=run_underlying hT w
 have hsa:(Instr.sureAddr (.pointer (some a))).run P w= .ok a w:=rfl
 unfold Instr.indexAt
 simp only [asIntOf,Sem.run_bind,Sem.run_pure,Result.andThen_ok,hu,hsa]
 rw [if_pos ⟨by omega,by omega⟩]
 simp only [Sem.run_bind,hs w,Result.andThen_ok,Sem.run_pure,Int.toNat_natCast]
theorem wl_idxA (hw:guardB ops l gd=some true){x y:Operand}{t e:TypeId}{s m:Nat}{a:Addr}{k:IntKind}{i:Int}(hx:evo l x=some (.pointer (some a))) (hy:evo l y=some (.int k i)) (hT:P.underlying t=some (.array m e)) (hs:∀w,(sizeOf e).run P w= .ok s w)
  (j:Nat) (hi:i=(j:Int)) (hj:j<m) (p:Addr) (hp:a.add (j*s)=p) (hn:d<n) (h:wl P ops Q n rest ((d,.pointer (some p))::l) w):wl P ops Q n (⟨some d,.indexAddr t x y,ty,pos,af,gd⟩::rest) l w:=
 wl_val hw hn (fun a' ha=>by
  have e:(Instr.indexAt t (a'.eval x) (a'.eval y)).run P w= .ok (.pointer (some p)) w:=by rw [ha.ev hx,ha.ev hy];exact run_indexA hT hs hi hj hp
  show ((Instr.indexAt t (a'.eval x) (a'.eval y)>>=fun r=>pure (Next.value r):Sem Next)).run P w=_
  rw [Sem.run_bind,e];rfl) h
theorem run_sliceA {t e:TypeId}{s m lo:Nat}{a:Addr}(hT:P.underlying t=some (.array m e)) (hs:∀w,(sizeOf e).run P w= .ok s w) (h3:lo≤m):
  (Instr.sliceAt t (.pointer (some a)) (some (.int .i64 (lo:Int))) none none).run P w= .ok (.slice (some (if m=lo then a else a.add (lo*s))) (m-lo) (m-lo)) w:=by
 have hu:(underlying t).run P w= .ok (.array m e) w:=run_underlying hT w
 have hsa:(Instr.sureAddr (.pointer (some a))).run P w= .ok a w:=rfl
 have hb:(Instr.sliceBounds false m m (some (.int .i64 (lo:Int))) none none).run P w= .ok (lo,m,m) w:=by
  unfold Instr.sliceBounds
  simp only [Sem.run_bind,Sem.run_pure,Result.andThen_ok,Option.isSome,run_bound h3]
 unfold Instr.sliceAt
 simp only [Sem.run_bind,hu,Result.andThen_ok,hsa,hb,hs w,Sem.run_pure]
theorem rd_sliceA {x y:Operand}{t e:TypeId}{s m lo:Nat}{a:Addr}{dst:Option Tmp}(hx:evo l x=some (.pointer (some a))) (hy:evo l y=some (.int .i64 (lo:Int))) (hT:P.underlying t=some (.array m e)) (hs:∀w,(sizeOf e).run P w= .ok s w) (h3:lo≤m):
  RunD P n l ⟨dst,.slice t x (some y) none none,ty,pos,af,gd⟩ w (.value (.slice (some (if m=lo then a else a.add (lo*s))) (m-lo) (m-lo))) w:=fun a' ha=>by
 have e:(Instr.sliceAt t (a'.eval x) (some (a'.eval y)) none none).run P w= .ok (.slice (some (if m=lo then a else a.add (lo*s))) (m-lo) (m-lo)) w:=by rw [ha.ev hx,ha.ev hy];exact run_sliceA hT hs h3
 show ((Instr.sliceAt t (a'.eval x) (some (a'.eval y)) none none>>=fun r=>pure (Next.value r):Sem Next)).run P w=_
 rw [Sem.run_bind,e];rfl
theorem rd_app {x y:Operand}{t:TypeId}{u v r:Value}{w':World}{dst:Option Tmp}(hx:evo l x=some u) (hy:evo l y=some v) (hr:(Builtin.append_ #[t,t] ty #[u,v]).run P w= .ok r w'):
  RunD P n l ⟨dst,.call {callee:= .builtin .append,args:= #[x,y],argTypes:= #[t,t]},ty,pos,af,gd⟩ w (.value r) w':=fun a' ha=>by
 unfold execOp
 simp only [resolve,invoke,builtin,Sem.run_bind,Sem.run_pure,Result.andThen_ok,List.map_toArray,List.map_cons,List.map_nil,ha.ev hx,ha.ev hy]
 rw [hr]
 rfl
end
def Signs (w:World):Prop:=∀d,d<36→w.cell? ⟨3,d,none⟩=some (.int .u8 ((sgn d:Nat):Int))
theorem Signs.ext {w w':World}(h:Signs w) (e:Ext w w'):Signs w':=fun d hd=>e.cell (h d hd)
def Wr (w:World) (g base k unit:Nat) (PA:Option Addr) (pn pc:Nat) (OA:Option Addr) (on oc:Nat):Prop:=
 Bk w g 141 [.int .i64 (base:Int),.int .i64 (k:Int),.int .u64 (unit:Int),.slice PA pn pc,.slice OA on oc]
structure UpdW (lb:Nat) (w w':World):Prop where
 os:w'.os=w.os
 tape:w'.tape=w.tape
 output:w'.output=w.output
 size:w.heap.size≤w'.heap.size
 low:∀k,k<lb→k<w.heap.size→w'.heap[k]?=w.heap[k]?
 typ:∀(k:Nat) (cs:Array Value) (t:TypeId) (fr:Nat×Nat),w.heap[k]?=some (.cells cs t fr)→t≠141→t≠5→w'.heap[k]?=some (.cells cs t fr)
section
variable {lb:Nat}{a b c w w':World}
theorem UpdW.refl (lb:Nat) (w:World):UpdW lb w w:=⟨rfl,rfl,rfl,Nat.le_refl _,fun _ _ _=>rfl,fun _ _ _ _ h _ _=>h⟩
theorem UpdW.trans (h:UpdW lb a b) (e:Ext b c):UpdW lb a c:=
 ⟨e.below.os.trans h.os,e.below.tape.trans h.tape,e.below.output.trans h.output,Nat.le_trans h.size e.size,fun k hk hs=>(e.below.block k (Nat.lt_of_lt_of_le hs h.size)).trans (h.low k hk hs),fun k cs t fr ho h1 h2=>e.heap (h.typ k cs t fr ho h1 h2)⟩
theorem UpdW.then (h:UpdW lb a b) (e:UpdW lb b c):UpdW lb a c:=
 ⟨e.os.trans h.os,e.tape.trans h.tape,e.output.trans h.output,Nat.le_trans h.size e.size,fun k hk hs=>(e.low k hk (Nat.lt_of_lt_of_le hs h.size)).trans (h.low k hk hs),fun k cs t fr ho h1 h2=>e.typ k cs t fr (h.typ k cs t fr ho h1 h2) h1 h2⟩
theorem UpdW.upd {g:Nat}(h:UpdW lb a b) (u:Upd g b c) (hg:lb≤g) (hn:∀(cs:Array Value) (t:TypeId) (fr:Nat×Nat),a.heap[g]?=some (.cells cs t fr)→t=141∨t=5):UpdW lb a c:=
 ⟨u.by_.os.trans h.os,u.by_.tape.trans h.tape,u.by_.output.trans h.output,Nat.le_trans h.size u.by_.size,fun k hk hs=>(u.by_.block k (Nat.lt_of_lt_of_le hs h.size) (fun e=>by injection e with e;omega)).trans (h.low k hk hs),fun k cs t fr ho h1 h2=>by
  have hlt:k<a.heap.size:=(Array.getElem?_eq_some_iff.1 ho).1
  refine (u.by_.block k (Nat.lt_of_lt_of_le hlt h.size) (fun e=>?_)).trans (h.typ k cs t fr ho h1 h2)
  injection e with e
  subst e
  rcases hn cs t fr ho with e | e
  ·exact h1 e
  ·exact h2 e⟩
theorem UpdW.updO {A:Option Addr}(h:UpdW lb a b) (u:UpdO A b c) (hA:∀p,A=some p→lb≤p.block) (hn:∀(p:Addr) (cs:Array Value) (t:TypeId) (fr:Nat×Nat),A=some p→a.heap[p.block]?=some (.cells cs t fr)→t=141∨t=5):UpdW lb a c:=
 ⟨u.by_.os.trans h.os,u.by_.tape.trans h.tape,u.by_.output.trans h.output,Nat.le_trans h.size u.by_.size,fun k hk hs=>(u.by_.block k (Nat.lt_of_lt_of_le hs h.size) (fun e=>by
   cases A with
   | none=>cases e
   | some p=>have e':k=p.block:=Option.some.inj e;have:=hA p rfl;omega)).trans (h.low k hk hs),fun k cs t fr ho h1 h2=>by
  have hlt:k<a.heap.size:=(Array.getElem?_eq_some_iff.1 ho).1
  refine (u.by_.block k (Nat.lt_of_lt_of_le hlt h.size) (fun e=>?_)).trans (h.typ k cs t fr ho h1 h2)
  cases A with
  | none=>cases e
  | some p=>
   have e':k=p.block:=Option.some.inj e
   subst e'
   rcases hn p cs t fr rfl ho with e | e
   ·exact h1 e
   ·exact h2 e⟩
theorem UpdW.ext (h:UpdW lb w w') (e:Ext a w) (hl:a.heap.size≤lb):Ext a w':=
 ⟨⟨h.os.trans e.below.os,h.tape.trans e.below.tape,h.output.trans e.below.output,Nat.le_trans e.size h.size,fun k hk=>(h.low k (Nat.lt_of_lt_of_le hk hl) (Nat.lt_of_lt_of_le hk e.size)).trans (e.below.block k hk)⟩⟩
theorem UpdW.bk {g:Nat}{t:TypeId}{vs:List Value}(h:UpdW lb w w') (hb:Bk w g t vs) (h1:t≠141) (h2:t≠5):Bk w' g t vs:=h.typ g _ _ _ hb h1 h2
theorem UpdW.own {base s n cap:Nat}{t:TypeId}{A:Option Addr}{vs:List Value}(h:UpdW lb w w') (ho:Own w base t s A n cap vs) (h1:t≠141) (h2:t≠5):Own w' base t s A n cap vs:=by
 rcases ho with ho | ⟨g,cs,ha,hb,hk,r⟩
 ·exact Or.inl ho
 ·exact Or.inr ⟨g,cs,ha,hb,h.bk hk h1 h2,r⟩
theorem UpdW.cell {p:Addr}{v:Value}(h:UpdW lb w w') (hp:p.block<lb) (hc:w.cell? p=some v):w'.cell? p=some v:=
 (World.cell?_of_block (h.low p.block hp (World.block_lt_of_cell? w p hc))).trans hc
theorem UpdW.signs (h:UpdW lb w w') (hs:Signs w) (hl:3<lb):Signs w':=fun d hd=>h.cell hl (hs d hd)
end
theorem bool_of {w:World}{c:Bool}(e:Ending) (w':World) (h:Gv w (Is (.bool c)) e w'):BoolP c w e w':=by
 obtain⟨v,rfl,h1,h2⟩:=h
 exact⟨by rw [h1],h2⟩
theorem tmod_nat (k m:Nat):(k:Int).tmod (m:Int)=((k%m:Nat):Int):=rfl
structure PieceK (b k:Nat):Prop where
 le:b^k≤18446744073709551615
 gt:18446744073709551615<b^(k+1)
 le64:k≤64
theorem pow_lt_k {b k:Nat}(hb:2≤b) (h:b^k≤18446744073709551615):k<64:=by
 refine Nat.lt_of_not_le (fun hk=>?_)
 have h1:2^64≤b^k:=Nat.le_trans (Nat.pow_le_pow_right (by decide) hk) (Nat.pow_le_pow_left hb k)
 omega
theorem piece_k {b k:Nat}(hb:2≤b) (h:b^(k+1)≤18446744073709551615):k+1≤64:=by have:=pow_lt_k hb h;omega
theorem bk_typ {w:World}{g:Nat}{t t':TypeId}{vs:List Value}{cs:Array Value}{fr:Nat×Nat}(h:Bk w g t vs) (h':w.heap[g]?=some (.cells cs t' fr)):t'=t:=by
 unfold Bk at h
 rw [h] at h'
 injection h' with h'
 injection h' with h1 h2
 exact h2.symm
theorem bk_new {w:World}{g:Nat}{cs:Array Value}{t:TypeId}{fr:Nat×Nat}(h:w.heap.size≤g):¬w.heap[g]?=some (.cells cs t fr):=fun e=>by
 have:=(Array.getElem?_eq_some_iff.1 e).1
 omega
theorem own_ne {w:World}{b t T s n c g:Nat}{A:Option Addr}{us vs:List Value}(h:Own w b t s A n c us) (hb:Bk w g T vs) (hT:t≠T):∀p,A=some p→p.block≠g:=fun p hp e=>by
 rcases h with⟨h,_⟩ | ⟨k,cs,hA,_,hk,_⟩
 ·rw [h] at hp;cases hp
 ·rw [hA] at hp
  cases hp
  simp only at e
  subst e
  unfold Bk at hk hb
  rw [hk] at hb
  injection hb with hb
  injection hb with h1 h2
  exact hT h2
theorem arrA_at (g i:Nat):(⟨g,0,none⟩:Addr).add (i*1)=⟨g,i,none⟩:=by rw [Nat.mul_one,add_lit0,Nat.zero_add]
theorem own_typ {w:World}{b T s n c:Nat}{A:Option Addr}{us:List Value}(h:Own w b T s A n c us):∀(p:Addr) (cs:Array Value) (t:TypeId) (fr:Nat×Nat),A=some p→w.heap[p.block]?=some (.cells cs t fr)→t=T:=fun p cs t fr hp h'=>by
 rcases h with⟨h,_⟩ | ⟨k,cs',hA,_,hk,_⟩
 ·rw [h] at hp;cases hp
 ·rw [hA] at hp;cases hp
  exact bk_typ hk h'
theorem Kept.of {w v:World}{A A':Option Addr}(h:Kept v A A') (hs:w.heap.size≤v.heap.size):Kept w A A':=fun p hp=>(h p hp).imp id (fun e=>Nat.le_trans hs e)
def WrP (w:World) (lb g base k unit:Nat) (PA:Option Addr) (pn pc:Nat) (OA:Option Addr) (bs:List Nat) (e:Ending) (w':World):Prop:=
 e= .returned (.tuple #[])∧∃OA' on' oc',Wr w' g base k unit PA pn pc OA' on' oc'∧Own w' lb 5 1 OA' on' oc' (bs.map B8)∧UpdW lb w w'∧Kept w OA OA'
theorem drop_set_at {l:List Nat}{i x:Nat}(h:i<l.length):(l.set i x).drop i=x::l.drop (i+1):=by
 rw [List.drop_eq_getElem_cons (by rw [List.length_set];exact h),List.getElem_set_self,List.drop_set_of_lt (by omega)]
theorem txt_snoc (l:List Nat) (d:Nat):txt (l++ [d])=sgn d::txt l:=by simp [txt]
theorem word_room {b v vv:Nat}{acc:List Nat}(hb:2≤b) (hv:v≤18446744073709551615) (h:db b v=acc++db b vv) (hn:0<(db b vv).length):acc.length<64:=by
 have h1:(db b v).length≤64:=len_db_le hb (Nat.lt_of_lt_of_le (show v<2^64 by omega) (Nat.pow_le_pow_left hb 64))
 rw [h,List.length_append] at h1
 omega
theorem B8_one (l:List Nat):(l.map B8).all (·.oneCell')=true:=by
 rw [List.all_eq_true]
 intro u hu
 obtain⟨x,_,rfl⟩:=List.mem_map.1 hu
 rfl
theorem arr_news {w:World}{g:Nat}{T:TypeId}{l:List Nat}{lo:Nat}(h:Bk w g T (l.map B8)) (hl:l.length=64) (hlo:lo≤64):∀j u,((l.drop lo).map B8)[j]?=some u→w.cell? ((if 64=lo then (⟨g,0,none⟩:Addr) else (⟨g,0,none⟩:Addr).add (lo*1)).add j)=some u:=by
 intro j u hj
 have hjl:=(List.getElem?_eq_some_iff.1 hj).1
 rw [List.length_map,List.length_drop,hl] at hjl
 rw [if_neg (by omega),arrA_at,add_lit0]
 rw [h.cell (by rw [List.length_map,hl];omega)]
 rw [List.map_drop,List.getElem?_drop] at hj
 rw [List.getD_eq_getElem?_getD,hj];rfl
set_option maxHeartbeats 4000000 in
theorem rx_piece {w:World}{base:Nat}(hbl:2≤base) (hbu:base≤36):
    Calls Tryz.prog 171 #[.int .i64 ((base:Nat):Int)] w (fun e w'=>∃k,PieceK base k∧Gv w (T2 (Is (.int .i64 ((k:Nat):Int))) (Is (.int .u64 ((base^k:Nat):Int)))) e w'):=by
 refine sx_enter Tryz.func171 rfl (n:=19) rfl (bq rfl) (args:= [.int .i64 ((base:Nat):Int)]) (cw_keep [(0,.int .i64 ((base:Nat):Int))] ⟨rfl,trivial⟩ (sr (mv 2 rfl (ne_ (sr (mv 2 rfl (ne_ (cw_seq (cw_block ?_)))))))))
 refine cw_loop (T:=World×Nat×Nat)
  (fun⟨wr,k,p⟩=> [(0,.int .i64 ((base:Nat):Int)),(2,.int .i64 0),(3,.int .u64 0),(4,.int .i64 ((k:Nat):Int)),(5,.int .u64 ((p:Nat):Int))])
  (fun⟨wr,k,p⟩=>wr)
  (fun⟨wr,k,p⟩=>(Ext w wr)∧(p=base^k)∧(p≤18446744073709551615)∧(k≤64))
  (fun⟨wr,k,p⟩=>18446744073709551616-p)
  (⟨w,0,1⟩:World×Nat×Nat) ⟨(Ext.refl w),(Nat.pow_zero base).symm,(by decide),(by decide)⟩ rfl ⟨rfl,rfl,rfl,rfl,rfl,trivial⟩ ?_
 rintro⟨wr,k,p⟩ ⟨hw1,hp,hpm,hk⟩
 refine cw_re [(0,.int .i64 ((base:Nat):Int)),(2,.int .i64 0),(3,.int .u64 0),(4,.int .i64 ((k:Nat):Int)),(5,.int .u64 ((p:Nat):Int))] wr rfl ⟨rfl,rfl,rfl,rfl,rfl,trivial⟩ (cw_seq (cw_seq ?_))
 have hp1:1≤p:=by rw [hp];exact Nat.pow_pos (by omega)
 by_cases htest:p≤18446744073709551615/base
 · 
  have hpb:p*base≤18446744073709551615:=(Nat.le_div_iff_mul_le (by omega)).1 htest
  refine cw_region (mv 2 rfl (wl_pureE rfl rfl (v:= .int .u64 (IntKind.u64.wrap ((base:Nat):Int))) (v':= .int .u64 ((base:Nat):Int)) (by decide) (by kernel_rfl) (cv_u64 (by first | omega | exact hle64)) (wl_ar rfl rfl rfl ((18446744073709551615/base:Nat):Int) (au_quo (a:=18446744073709551615) (b:=base) rfl rfl (by omega) (by omega)) (by decide) (wl_cmp rfl rfl rfl true (cb_le_t (a:=p) (b:=18446744073709551615/base) rfl rfl (by omega)) (by decide) (ne_ (cw_true rfl (cw_skip (eo_then (cw_block (sr (mv 2 rfl (wl_pureE rfl rfl (v:= .int .u64 (IntKind.u64.wrap ((base:Nat):Int))) (v':= .int .u64 ((base:Nat):Int)) (by decide) (by kernel_rfl) (cv_u64 (by first | omega | exact hle64)) (wl_ar rfl rfl rfl ((p*base:Nat):Int) (au_mul (a:=p) (b:=base) rfl rfl (by omega)) (by decide) ?_)))))))))))))
  refine mv 1 rfl (ne_ (cw_region (mv 1 rfl (wl_ar rfl rfl rfl ((k+1:Nat):Int) (ai_add (a:=k) (b:=1) rfl rfl (by omega)) (by decide) (mv 1 rfl (wl_nil (eo_block_normal (eo_round (⟨wr,k+1,p*base⟩:World×Nat×Nat) ⟨hw1,(by rw [hp,Nat.pow_succ]),hpb,(piece_k hbl (by rw [Nat.pow_succ,←hp];exact hpb))⟩ (by show 18446744073709551616-p*base<18446744073709551616-p;have:p*2≤p*base:=Nat.mul_le_mul_left p hbl;omega) rfl ⟨rfl,rfl,rfl,rfl,rfl,trivial⟩))))))))
 · 
  have hpb:18446744073709551615<p*base:=Nat.lt_of_not_le (fun h=>htest ((Nat.le_div_iff_mul_le (by omega)).2 h))
  refine cw_region (mv 2 rfl (wl_pureE rfl rfl (v:= .int .u64 (IntKind.u64.wrap ((base:Nat):Int))) (v':= .int .u64 ((base:Nat):Int)) (by decide) (by kernel_rfl) (cv_u64 (by first | omega | exact hle64)) (wl_ar rfl rfl rfl ((18446744073709551615/base:Nat):Int) (au_quo (a:=18446744073709551615) (b:=base) rfl rfl (by omega) (by omega)) (by decide) (wl_cmp rfl rfl rfl false (cb_le_f (a:=p) (b:=18446744073709551615/base) rfl rfl (by omega)) (by decide) (ne_ (cw_false rfl (cw_exit (eo_thenX (eo_loopX (eo_block_here (eo_then (sr (mv 1 rfl ?_)))))))))))))
  refine mv 3 rfl (ne_ (cw_ret (eo_ret [.int .i64 ((k:Nat):Int),.int .u64 ((p:Nat):Int)] rfl ⟨rfl,rfl,trivial⟩ ?_)))
  exact⟨k,⟨by rw [←hp];exact hpm,by rw [Nat.pow_succ,←hp];exact hpb,hk⟩,_,rfl,⟨_,_,rfl,rfl,(show Value.int .u64 ((p:Nat):Int)=_ by rw [hp])⟩,hw1⟩
set_option maxHeartbeats 4000000 in
theorem rx_word {w:World}{g base k unit:Nat}{PA:Option Addr}{pn pc:Nat}{OA:Option Addr}{on oc lb:Nat}{bs:List Nat}(hS:Signs w) (_hgS:3<lb) (hbl:2≤base) (hbu:base≤36) (hW:Wr w g base k unit PA pn pc OA on oc) (hO:Own w lb 5 1 OA on oc (bs.map B8)) (hgl:lb≤g) (hlb:lb≤w.heap.size){v width:Nat}(hv:v≤18446744073709551615) (hwd:width≤64) (hon:on≤549755813888):
    Calls Tryz.prog 215 #[.pointer (some ⟨g,0,none⟩),.int .u64 ((v:Nat):Int),.int .i64 ((width:Nat):Int)] w (WrP w lb g base k unit PA pn pc OA (bs++txt (padTo (db base v) width))):=by
 refine sx_enter Tryz.func215 rfl (n:=48) rfl (bq rfl) (args:= [.pointer (some ⟨g,0,none⟩),.int .u64 ((v:Nat):Int),.int .i64 ((width:Nat):Int)]) (cw_keep [(0,.pointer (some ⟨g,0,none⟩)),(1,.int .u64 ((v:Nat):Int)),(2,.int .i64 ((width:Nat):Int))] ⟨rfl,rfl,rfl,trivial⟩ (sr (wl_alloc rfl (z:= .agg ((List.replicate 64 0).map B8).toArray) (vs:=(List.replicate 64 0).map B8) (fun _=>by kernel_rfl) rfl (by decide) fun g1 v2 nb=>?_)))
 have hb3:=nb.bk
 have ge4:w.heap.size≤g1:=by rw [←nb.at_];exact (UpdW.refl lb w).size
 have hgd:g<g1:=by rw [←nb.at_];exact hW.lt
 have e5:=nb.ext
 have hw1:UpdW lb w v2:=(UpdW.refl lb w).trans e5
 have hx1:Ext w v2:=(Ext.refl w).trans e5
 refine ne_ (sr (mv 1 rfl (ne_ (cw_seq (cw_block ?_)))))
 refine cw_loop (T:=World×Nat×Nat×List Nat×List Nat)
  (fun⟨wr,vv,n,l,acc⟩=> [(0,.pointer (some ⟨g,0,none⟩)),(2,.int .i64 ((width:Nat):Int)),(6,.pointer (some ⟨g1,0,none⟩)),(1,.int .u64 ((vv:Nat):Int)),(7,.int .i64 ((n:Nat):Int))])
  (fun⟨wr,vv,n,l,acc⟩=>wr)
  (fun⟨wr,vv,n,l,acc⟩=>(UpdW lb w wr)∧(Ext w wr)∧(db base v=acc++db base vv)∧(n+acc.length=64)∧(l.length=64)∧(l.drop n=txt acc)∧(vv≤18446744073709551615)∧(Bk wr g1 173 (l.map B8)))
  (fun⟨wr,vv,n,l,acc⟩=>vv)
  (⟨v2,v,64,List.replicate 64 0,[]⟩:World×Nat×Nat×List Nat×List Nat) ⟨hw1,hx1,rfl,rfl,(List.length_replicate),(by rw [List.drop_eq_nil_of_le (by rw [List.length_replicate];decide)];rfl),hv,hb3⟩ rfl ⟨rfl,rfl,rfl,rfl,rfl,trivial⟩ ?_
 rintro⟨wr,vv,n,l,acc⟩ ⟨hw1,hx1,hacc,hn,hll,hld,hvv,b_d⟩
 refine cw_re [(0,.pointer (some ⟨g,0,none⟩)),(2,.int .i64 ((width:Nat):Int)),(6,.pointer (some ⟨g1,0,none⟩)),(1,.int .u64 ((vv:Nat):Int)),(7,.int .i64 ((n:Nat):Int))] wr rfl ⟨rfl,rfl,rfl,rfl,rfl,trivial⟩ (cw_seq (cw_seq ?_))
 by_cases hv0:vv>0
 · 
  have hdb:=db_pos hbl (show vv≠0 by omega)
  have hal:acc.length<64:=word_room hbl hv hacc (by rw [hdb];simp)
  refine cw_region (mv 1 rfl (wl_cmp rfl rfl rfl true (cb_gt_t (a:=vv) (b:=0) rfl rfl (by omega)) (by decide) (ne_ (cw_true rfl (cw_skip (eo_then (cw_block (sr (mv 1 rfl (wl_ar rfl rfl rfl ((n-1:Nat):Int) (ai_sub (a:=n) (b:=1) rfl rfl (by omega) (by omega)) (by decide) (mv 1 rfl (ne_ (cw_seq ?_)))))))))))))
  refine cw_region (mv 3 rfl (pf g 0 rfl (by kernel_rfl) (pf g 0 rfl (by kernel_rfl) (wl_load rfl rfl (load_cell (fun _=>by kernel_rfl) (hW.ext hx1) rfl) (by decide) (wl_pureE rfl rfl (v:= .int .u64 (IntKind.u64.wrap ((base:Nat):Int))) (v':= .int .u64 ((base:Nat):Int)) (by decide) (by kernel_rfl) (cv_u64 (by first | omega | exact hle64)) (wl_ar rfl rfl rfl ((vv%base:Nat):Int) (au_rem (a:=vv) (b:=base) rfl rfl (by omega)) (by decide) (wl_idxA rfl rfl rfl Tryz.underlying174 sz_u8 (vv%base) rfl (Nat.lt_of_lt_of_le (Nat.mod_lt _ (by omega)) hbu) ⟨3,vv%base,none⟩ (arrA_at _ _) (by decide) (wl_load rfl rfl (load_cell1 ag_u8 ((hS.ext hx1) _ (Nat.lt_of_lt_of_le (Nat.mod_lt _ (by omega)) hbu))) (by decide) (wl_idxA rfl rfl rfl Tryz.underlying173 sz_u8 (n-1) rfl (by omega) ⟨g1,n-1,none⟩ (arrA_at _ _) (by decide) ?_)))))))))
  have hb7:=b_d
  refine wl_stored1 rfl rfl rfl sz_u8 rfl hb7 (len_map (by rw [hll];omega)) rfl ((l.set (n-1) (sgn (vv%base))).map B8) (map_B8_set _ _ _) fun v6 hb8 u9 hs10=>?_
  have hx2:Ext w v6:=u9.ext hx1 ge4
  have hw2:UpdW lb w v6:=hw1.upd u9 (Nat.le_trans hlb ge4) (fun _ _ _ h=>absurd h (bk_new ge4))
  refine ne_ (cw_region (mv 2 rfl (pf g 0 rfl (by kernel_rfl) (pf g 0 rfl (by kernel_rfl) (wl_load rfl rfl (load_cell (fun _=>by kernel_rfl) ((hW.ext hx1).updN u9 (by omega)) rfl) (by decide) (wl_pureE rfl rfl (v:= .int .u64 (IntKind.u64.wrap ((base:Nat):Int))) (v':= .int .u64 ((base:Nat):Int)) (by decide) (by kernel_rfl) (cv_u64 (by first | omega | exact hle64)) (wl_ar rfl rfl rfl ((vv/base:Nat):Int) (au_quo (a:=vv) (b:=base) rfl rfl (by omega) (by omega)) (by decide) (mv 1 rfl (wl_nil (eo_block_normal (eo_round (⟨v6,vv/base,n-1,l.set (n-1) (sgn (vv%base)),acc++ [vv%base]⟩:World×Nat×Nat×List Nat×List Nat) ⟨hw2,hx2,(by rw [hacc,hdb,List.append_assoc];rfl),(by rw [List.length_append,List.length_singleton];omega),(by rw [List.length_set];exact hll),(by rw [drop_set_at (by omega),show n-1+1=n by omega,hld,txt_snoc]),(Nat.le_trans (Nat.div_le_self _ _) hvv),hb8⟩ (Nat.div_lt_self (by omega) (by omega)) rfl ⟨rfl,rfl,rfl,rfl,rfl,trivial⟩)))))))))))
 · 
  refine cw_region (mv 1 rfl (wl_cmp rfl rfl rfl false (cb_gt_f (a:=vv) (b:=0) rfl rfl (by omega)) (by decide) (ne_ (cw_false rfl (cw_exit (eo_thenX (eo_loopX (eo_block_here (eo_then (cw_seq (cw_block ?_)))))))))))
  have hacc0:db base v=acc:=by rw [hacc,show vv=0 by omega,db_zero,List.append_nil]
  refine cw_loop (T:=World×Nat×List Nat×Nat)
   (fun⟨wq,m,l2,z⟩=> [(0,.pointer (some ⟨g,0,none⟩)),(2,.int .i64 ((width:Nat):Int)),(6,.pointer (some ⟨g1,0,none⟩)),(7,.int .i64 ((m:Nat):Int))])
   (fun⟨wq,m,l2,z⟩=>wq)
   (fun⟨wq,m,l2,z⟩=>(UpdW lb w wq)∧(Ext w wq)∧(m+z+acc.length=64)∧(z≤width-acc.length)∧(l2.length=64)∧(l2.drop m=List.replicate z 48++txt acc)∧(Bk wq g1 173 (l2.map B8)))
   (fun⟨wq,m,l2,z⟩=>m)
   (⟨wr,n,l,0⟩:World×Nat×List Nat×Nat) ⟨hw1,hx1,(by omega),(Nat.zero_le _),hll,hld,b_d⟩ rfl ⟨rfl,rfl,rfl,rfl,trivial⟩ ?_
  rintro⟨wq,m,l2,z⟩ ⟨hw1,hx1,hz,hzl,hll2,hld2,b_d⟩
  refine cw_re [(0,.pointer (some ⟨g,0,none⟩)),(2,.int .i64 ((width:Nat):Int)),(6,.pointer (some ⟨g1,0,none⟩)),(7,.int .i64 ((m:Nat):Int))] wq rfl ⟨rfl,rfl,rfl,rfl,trivial⟩ (cw_seq (cw_seq ?_))
  by_cases htw:64-m<width
  · 
   refine cw_region (mv 1 rfl (wl_ar rfl rfl rfl ((64-m:Nat):Int) (ai_sub (a:=64) (b:=m) rfl rfl (by omega) (by omega)) (by decide) (mv 1 rfl (wl_cmp rfl rfl rfl true (cb_lt_t (a:=64-m) (b:=width) rfl rfl (by omega)) (by decide) (ne_ (cw_true rfl (cw_skip (eo_then (cw_block (sr (mv 1 rfl (wl_ar rfl rfl rfl ((m-1:Nat):Int) (ai_sub (a:=m) (b:=1) rfl rfl (by omega) (by omega)) (by decide) (mv 1 rfl ?_)))))))))))))
   refine ne_ (cw_region (mv 1 rfl (wl_idxA rfl rfl rfl Tryz.underlying173 sz_u8 (m-1) rfl (by omega) ⟨g1,m-1,none⟩ (arrA_at _ _) (by decide) ?_)))
   have hb12:=b_d
   refine wl_stored1 rfl rfl rfl sz_u8 rfl hb12 (len_map (by rw [hll2];omega)) rfl ((l2.set (m-1) 48).map B8) (map_B8_set _ _ _) fun v11 hb13 u14 hs15=>?_
   have hx2:Ext w v11:=u14.ext hx1 ge4
   have hw2:UpdW lb w v11:=hw1.upd u14 (Nat.le_trans hlb ge4) (fun _ _ _ h=>absurd h (bk_new ge4))
   refine wl_nil (eo_block_normal (eo_round (⟨v11,m-1,l2.set (m-1) 48,z+1⟩:World×Nat×List Nat×Nat) ⟨hw2,hx2,(by omega),(by omega),(by rw [List.length_set];exact hll2),(by rw [drop_set_at (by omega),show m-1+1=m by omega,hld2,List.replicate_succ];rfl),hb13⟩ (show m-1<m by omega) rfl ⟨rfl,rfl,rfl,rfl,trivial⟩))
  · 
   refine cw_region (mv 1 rfl (wl_ar rfl rfl rfl ((64-m:Nat):Int) (ai_sub (a:=64) (b:=m) rfl rfl (by omega) (by omega)) (by decide) (mv 1 rfl (wl_cmp rfl rfl rfl false (cb_lt_f (a:=64-m) (b:=width) rfl rfl (by omega)) (by decide) (ne_ (cw_false rfl (cw_exit (eo_thenX (eo_loopX (eo_block_here (eo_then (cw_keep [(0,.pointer (some ⟨g,0,none⟩)),(2,.int .i64 ((width:Nat):Int)),(6,.pointer (some ⟨g1,0,none⟩)),(7,.int .i64 ((m:Nat):Int)),(30,.int .i64 ((m:Nat):Int)),(31,.int .i64 ((64-m:Nat):Int)),(32,.int .i64 ((width:Nat):Int)),(33,.bool false)] ⟨rfl,rfl,rfl,rfl,rfl,rfl,rfl,rfl,trivial⟩ ?_))))))))))))
   obtain⟨v16,hv,e17⟩:∃v,v=wq.drew∧Ext wq v:=⟨_,rfl,(Ext.refl _).drew⟩
   have hw2:UpdW lb w v16:=hw1.trans e17
   have hx2:Ext w v16:=hx1.trans e17
   have ow18:=(hO.ext (hx1.trans e17))
   obtain⟨A20,c21,v22,hr23,ho24,uo25,kp26⟩:=run_app (P:=Tryz.prog) (t:=139) (ty:=139) (m:=64-m) (c:=64-m) un_u8 info8 rfl (by decide) (by decide) ow18 (Nat.le_trans hlb hw2.size) (news:=((l2).drop m).map B8) (by rw [List.length_map,List.length_drop,hll2,Nat.mul_one]) (arr_news (b_d.ext e17) (hll2) (by omega)) (B8_one _) (by omega)
   have hw3:UpdW lb w v22:=hw2.updO uo25 (fun p hp=>(ow18.block p hp).1) (fun p cs t fr hp h=>Or.inr ((own_typ hO) p cs t fr hp h))
   have hb28:=((hW.ext (hx1.trans e17)).updO uo25 (own_ne ow18 (hW.ext (hx1.trans e17)) (by decide)))
   obtain⟨v27,hr32,hb29,u30,hs31⟩:=run_store1v (P:=Tryz.prog) (v:= .slice A20 (on+(64-m)) c21) (off:=4) (T:=139) (fun _=>by kernel_rfl) rfl hb28 (bq rfl) rfl [.int .i64 (base:Int),.int .i64 (k:Int),.int .u64 (unit:Int),.slice PA pn pc,.slice A20 (on+(64-m)) c21] rfl
   have hw4:UpdW lb w v27:=hw3.upd u30 hgl (fun _ _ _ h=>Or.inl (bk_typ hW h))
   refine cw_detV mix (w:=v16) [.pointer (some ⟨g,0,none⟩),.pointer (some ⟨g,0,none⟩),.pointer (some ⟨g,0,none⟩),.pointer (some ⟨g,4,none⟩),.slice OA on oc,.int .i64 ((m:Nat):Int),.slice (some (if 64=m then ⟨g1,0,none⟩ else (⟨g1,0,none⟩:Addr).add (m*1))) (64-m) (64-m),.slice A20 (on+(64-m)) c21,.pointer (some ⟨g,0,none⟩),.pointer (some ⟨g,4,none⟩),undef] [v16,v22,v27] [7,10] [[],[],[1],[2],[3],[],[5],[4,6],[0],[8],[7,9]] [[],[],[1],[1,2],[1,2,3],[],[5],[1,2,3,4,5,6],[0,1,2,3,4,5,6,7],[0,1,2,3,4,5,6,7,8],[0,1,2,3,4,5,6,7,8,9]] [(0,0),(0,1),(1,0),(2,0),(3,0),(4,0),(5,0),(6,0),(7,0),(8,1),(9,1),(10,1)] rfl hv ?_ ?_
   · 
    refine dobs_valV _ rfl rfl rfl rfl rfl (rd_move rfl) (dobs_valV _ rfl rfl rfl rfl rfl (rd_move rfl) (dobs_valV _ rfl rfl rfl rfl rfl (rd_move rfl) (dobs_valV _ rfl rfl rfl rfl rfl (rd_pure rfl (by kernel_rfl)) (dobs_valV _ rfl rfl rfl rfl rfl (rd_pure rfl (by kernel_rfl)) (dobs_valV _ rfl rfl rfl rfl rfl (rd_load rfl (load_cell (fun _=>by kernel_rfl) (hW.ext (hx1.trans e17)) rfl)) (dobs_valV _ rfl rfl rfl rfl rfl (rd_move rfl) (dobs_valV _ rfl rfl rfl rfl rfl (rd_sliceA rfl rfl Tryz.underlying173 sz_u8 (by omega)) (dobs_actV _ rfl rfl rfl rfl rfl rfl rfl (rd_app rfl rfl hr23) (dobs_valV _ rfl rfl rfl rfl rfl (rd_pure rfl (by kernel_rfl)) (dobs_valV _ rfl rfl rfl rfl rfl (rd_pure rfl (by kernel_rfl)) (dobs_stoV _ rfl rfl rfl rfl rfl rfl (rd_store rfl rfl hr32) ?_)))))))))))
    exact dobs_nilV
   clear hv
   refine eo_keep [(0,.pointer (some ⟨g,0,none⟩)),(2,.int .i64 ((width:Nat):Int)),(6,.pointer (some ⟨g1,0,none⟩)),(7,.int .i64 ((m:Nat):Int)),(30,.int .i64 ((m:Nat):Int)),(31,.int .i64 ((64-m:Nat):Int)),(32,.int .i64 ((width:Nat):Int)),(33,.bool false),(38,.pointer (some ⟨g,0,none⟩)),(39,.pointer (some ⟨g,0,none⟩)),(40,.pointer (some ⟨g,0,none⟩)),(41,.pointer (some ⟨g,4,none⟩)),(42,.slice OA on oc),(43,.int .i64 ((m:Nat):Int)),(44,.slice (some (if 64=m then ⟨g1,0,none⟩ else (⟨g1,0,none⟩:Addr).add (m*1))) (64-m) (64-m)),(45,.slice A20 (on+(64-m)) c21),(46,.pointer (some ⟨g,0,none⟩)),(47,.pointer (some ⟨g,4,none⟩))] ⟨rfl,rfl,rfl,rfl,rfl,rfl,rfl,rfl,rfl,rfl,rfl,rfl,rfl,rfl,rfl,rfl,rfl,rfl,trivial⟩ (eo_end [] rfl trivial ?_)
   have hfin:bs.map B8++((l2).drop m).map B8=(bs++txt (padTo (db base v) width)).map B8:=by rw [hld2,←hacc0,txt_pad,show z=width-(db base v).length by rw [hacc0];omega];simp only [List.map_append]
   exact⟨rfl,A20,_,_,hb29,hfin▸((ho24.updT hb28 (by decide) u30)),hw4,kp26.of hw2.size⟩
theorem ln_tdiv (x y:Int):ln (x.tdiv y)≤ln x:=ln_mono (by rw [Int.natAbs_tdiv];exact Nat.div_le_self _ _)
theorem ln_tmod (x y:Int):ln (x.tmod y)≤ln x:=ln_mono (by rw [Int.natAbs_tmod];exact Nat.mod_le _ _)
theorem ediv_pos {x y:Int}(h:0≤x.tmod y):x.tdiv y=x/y∧x.tmod y=x%y:=by
 have h1:=Int.tdiv_mul_add_tmod x y
 rcases Int.lt_trichotomy y 0 with hy | hy | hy
 ·have h2:x.tmod y< -y:=by have:=tmod_abs (x:=x) (y:=y) (by omega);omega
  have e:x.tmod y=x%y:=by
   have:x%y=(x.tmod y+y*x.tdiv y)%y:=by rw [Int.mul_comm y];congr 1;omega
   rw [this,Int.add_mul_emod_self_left,←Int.emod_neg,Int.emod_eq_of_lt h h2]
  refine⟨?_,e⟩
  have h3:=Int.mul_ediv_add_emod x y
  rw [←e] at h3
  refine Int.eq_of_mul_eq_mul_left (a:=y) (by omega) ?_
  rw [Int.mul_comm y (x.tdiv y)];omega
 ·subst hy;simp
 ·have h2:=Int.tmod_lt_of_pos x hy
  have e:x.tmod y=x%y:=by
   have:x%y=(x.tmod y+y*x.tdiv y)%y:=by rw [Int.mul_comm y];congr 1;omega
   rw [this,Int.add_mul_emod_self_left,Int.emod_eq_of_lt h h2]
  refine⟨?_,e⟩
  have h3:=Int.mul_ediv_add_emod x y
  rw [←e] at h3
  refine Int.eq_of_mul_eq_mul_left (a:=y) (by omega) ?_
  rw [Int.mul_comm y (x.tdiv y)];omega
theorem ediv_neg' {x y:Int}(h:x.tmod y<0) (hy:y<0):x.tdiv y+1=x/y∧x.tmod y-y=x%y:=by
 have h1:=Int.tdiv_mul_add_tmod x y
 have h2: -(x.tmod y)< -y:=by have:=tmod_abs (x:=x) (y:=y) (by omega);omega
 have e:x.tmod y-y=x%y:=by
  have:x%y=((x.tmod y-y)+y*(x.tdiv y+1))%y:=by rw [Int.mul_add,Int.mul_comm y];congr 1;omega
  rw [this,Int.add_mul_emod_self_left,←Int.emod_neg,Int.emod_eq_of_lt (by omega) (by omega)]
 refine⟨?_,e⟩
 have h3:=Int.mul_ediv_add_emod x y
 rw [←e] at h3
 refine Int.eq_of_mul_eq_mul_left (a:=y) (by omega) ?_
 rw [Int.mul_add,Int.mul_comm y (x.tdiv y)];omega
theorem ediv_pos' {x y:Int}(h:x.tmod y<0) (hy:0<y):x.tdiv y-1=x/y∧x.tmod y+y=x%y:=by
 have h1:=Int.tdiv_mul_add_tmod x y
 have h2: -(x.tmod y)<y:=by have:=tmod_abs (x:=x) (y:=y) (by omega);omega
 have e:x.tmod y+y=x%y:=by
  have:x%y=((x.tmod y+y)+y*(x.tdiv y-1))%y:=by rw [Int.mul_sub,Int.mul_comm y];congr 1;omega
  rw [this,Int.add_mul_emod_self_left,Int.emod_eq_of_lt (by omega) (by omega)]
 refine⟨?_,e⟩
 have h3:=Int.mul_ediv_add_emod x y
 rw [←e] at h3
 refine Int.eq_of_mul_eq_mul_left (a:=y) (by omega) ?_
 rw [Int.mul_sub,Int.mul_comm y (x.tdiv y)];omega
set_option maxHeartbeats 4000000 in
theorem g_zint_EuclidI {w:World}{sa:Bool}{Aa:Option Addr}{na ca:Nat}{x:Int}{sb:Bool}{Ab:Option Addr}{nb cb:Nat}{y:Int}(hx:Zi w sa Aa na ca x) (la:na≤68719476736) (hy:Zi w sb Ab nb cb y) (lb:nb≤68719476736) (h0:y≠0):
    Calls Tryz.prog 124 #[.agg #[.bool sa,.slice Aa na ca],.agg #[.bool sb,.slice Ab nb cb]] w (Gv w (T3 (ZR w.heap.size (x/y)) (ZR w.heap.size (x%y)) (Is (.int .i64 0)))):=by
 have Lx:ln x≤68719476736:=Nat.le_trans hx.ln la
 have Ly:ln y≤68719476736:=Nat.le_trans hy.ln lb
 refine sx_enter Tryz.func124 rfl (n:=41) rfl (bq rfl) (args:= [.agg #[.bool sa,.slice Aa na ca],.agg #[.bool sb,.slice Ab nb cb]]) (cw_keep [(0,.agg #[.bool sa,.slice Aa na ca]),(1,.agg #[.bool sb,.slice Ab nb cb])] ⟨rfl,rfl,trivial⟩ (sr (bx [.bool sa,.slice Aa na ca] (Ext.refl w) rfl rfl rfl fun g1 v2 hb4 ge5 e3 hw1=>(bxq [.bool sb,.slice Ab nb cb] hw1 hb4.lt rfl rfl rfl fun g6 v7 hb9 ge10 q11 e8 hw2=>(alq [F0,S0] hw2 hb9.lt (fun _=>by kernel_rfl) rfl fun g12 v13 hb15 ge16 q17 e14 hw3=>(alq [F0,S0] hw3 hb15.lt (fun _=>by kernel_rfl) rfl fun g18 v19 hb21 ge22 q23 e20 hw4=>(mv 1 rfl (ne_ (sr (lo aggInt (hb4.ext (e8.trans (e14.trans e20))) [.bool sa,.slice Aa na ca] rfl rfl rfl (lo aggInt (hb9.ext (e14.trans e20)) [.bool sb,.slice Ab nb cb] rfl rfl rfl ?_)))))))))))
 have L24:ln ((x).tdiv y)≤68719476736:=Nat.le_trans (ln_tdiv _ _) Lx
 have L25:ln ((x).tmod y)≤68719476736:=Nat.le_trans (ln_tmod _ _) Lx
 refine cl (vs:= [.agg #[.bool sa,.slice Aa na ca],.agg #[.bool sb,.slice Ab nb cb]]) hw4 (g_zint_Trunc hw4.size (hx.ext hw4) (lx_ la rfl) (hy.ext hw4) (lx_ lb rfl) h0) rfl (by kernel_rfl) fun xr28 v26 r28 e27 hw5=>?_
 obtain⟨_,_,_,rfl,⟨s30,A30,n30,c30,rfl,z30⟩,⟨s31,A31,n31,c31,rfl,z31⟩,rfl⟩:=r28
 refine mv 1 rfl (pu (v:= .agg #[.bool s30,.slice A30 n30 c30]) rfl (by kernel_rfl) (pu (v:= .agg #[.bool s31,.slice A31 n31 c31]) rfl (by kernel_rfl) (pu (v:= .int .i64 0) rfl (by kernel_rfl) (alq [F0,S0] hw5 (hb21.ext e27).lt (fun _=>by kernel_rfl) rfl fun g32 v33 hb35 ge36 q37 e34 hw6=>(alq [F0,S0] hw6 hb35.lt (fun _=>by kernel_rfl) rfl fun g38 v39 hb41 ge42 q43 e40 hw7=>?_)))))
 have hb45:=(hb35.ext e40)
 refine so aggInt hb45 [.bool s30,.slice A30 n30 c30] hw7 ge36 rfl rfl rfl rfl fun v44 hb46 u47 hw8=>?_
 have hb50:=(hb41.updN u47 (by omega))
 refine so aggInt hb50 [.bool s31,.slice A31 n31 c31] hw8 ge42 rfl rfl rfl rfl fun v49 hb51 u52 hw9=>(mv 1 rfl (ne_ (cw_seq (cw_seq ?_))))
 by_cases hr:x.tmod y<0
 · 
  obtain rfl:s31=true:=by rw [z31.sgn];exact decide_eq_true hr
  refine cw_region (mv 1 rfl (pu (v:= .bool false) rfl (by kernel_rfl) (mv 1 rfl (pf g38 0 rfl (by kernel_rfl) (wl_load rfl rfl (load_cell cellBool hb51 rfl) (by decide) (pu (v:= .bool false) rfl (by kernel_rfl) (pu (v:= .bool false) rfl (by kernel_rfl) (ne_ (cw_false rfl (cw_skip (eo_then (cw_seq (cw_seq ?_)))))))))))))
  by_cases hyn:y<0
  · 
   obtain rfl:sb=true:=by rw [hy.sgn h0];exact decide_eq_true hyn
   have hq:=ediv_neg' hr hyn
   refine cw_region (pf g6 0 rfl (by kernel_rfl) (wl_load rfl rfl (load_cell cellBool (((hb9.ext (e14.trans (e20.trans (e27.trans (e34.trans e40))))).updN u47 (by omega)).updN u52 (by omega)) rfl) (by decide) (ne_ (cw_true rfl (cw_seq ?_)))))
   have L55:ln ((x.tdiv y)+1)≤68719476737:=Nat.le_trans (ln_add L24 (show ln (1)≤1 by decide+kernel)) (by decide)
   have L57:ln ((x.tmod y)-y)≤68719476737:=Nat.le_trans (ln_sub L25 Ly) (by decide)
   refine cw_draw mix 6 [] [Is (.agg #[.bool s30,.slice A30 n30 c30]),ZR w.heap.size (1),ZR w.heap.size ((x.tdiv y)+1),Is (.agg #[.bool true,.slice A31 n31 c31]),Is (.agg #[.bool true,.slice Ab nb cb]),ZR w.heap.size ((x.tmod y)-y)] [[],[],[0,1],[],[],[3,4]] [[],[],[0,1],[],[],[0,1,2,3,4],[0,1,2,3,4,5],[0,1,2,3,4,5,6],[0,1,2,3,4,5,6,7]] rfl
    (obs_cons rfl rfl (hob rfl rfl ?_) (obs_cons rfl rfl (hob rfl rfl ?_) (obs_cons rfl rfl (hob rfl rfl ?_) (obs_cons rfl rfl (hob rfl rfl ?_) (obs_cons rfl rfl (hob rfl rfl ?_) (obs_cons rfl rfl (hob rfl rfl ?_) obs_nil)))))) ?_
   · 
    exact fun _ e60=>deps_nil (lo aggInt ((hb46.updN u52 (by omega)).ext e60) [.bool s30,.slice A30 n30 c30] rfl rfl rfl (pi_done rfl (Ext.refl _) rfl))
   · 
    intro v61 e62
    have hw10:=hw9.trans e62
    refine deps_nil (cl (vs:= [.int .i64 1]) hw10 (g_zint_Of hw10.size (by decide) (by decide)) rfl (by kernel_rfl) fun xr65 v63 r65 e64 hw11=>?_)
    obtain⟨s66,A66,n66,c66,rfl,z66⟩:=r65
    exact pi_done rfl e64 ⟨_,_,_,_,rfl,z66⟩
   · 
    intro v67 e68
    have hw10:=hw9.trans e68
    refine dk rfl rfl (deps_cons rfl rfl fun x74 y75 h76 e77 f78=>?_)
    obtain⟨s79,A79,n79,c79,rfl,z79⟩:=h76
    have z79:=z79.ext f78
    refine deps_nil ?_
    have L80:ln ((x.tdiv y)+1)≤68719476737:=Nat.le_trans (ln_add L24 (show ln (1)≤1 by decide+kernel)) (by decide)
    refine cl (vs:= [.agg #[.bool s30,.slice A30 n30 c30],.agg #[.bool s79,.slice A79 n79 c79]]) hw10 (g_zint_Add hw10.size ((((z30.ext (e34.trans e40)).updT hb45 u47).updT hb50 u52).ext e68).zi (z30.le (lx_ L24 rfl)) z79.zi (z79.le (Nat.le_trans (show ln (1)≤1 by decide+kernel) (by decide)))) rfl (by kernel_rfl) fun xr83 v81 r83 e82 hw11=>?_
    obtain⟨s84,A84,n84,c84,rfl,z84⟩:=r83
    exact pi_done rfl e82 ⟨_,_,_,_,rfl,z84⟩
   · 
    exact fun _ e86=>deps_nil (lo aggInt (hb51.ext e86) [.bool true,.slice A31 n31 c31] rfl rfl rfl (pi_done rfl (Ext.refl _) rfl))
   · 
    exact fun _ e88=>deps_nil (lo aggInt ((((hb9.ext (e14.trans (e20.trans (e27.trans (e34.trans e40))))).updN u47 (by omega)).updN u52 (by omega)).ext e88) [.bool true,.slice Ab nb cb] rfl rfl rfl (pi_done rfl (Ext.refl _) rfl))
   · 
    intro v89 e90
    have hw10:=hw9.trans e90
    refine dk rfl rfl (dk rfl rfl (deps_nil ?_))
    have L101:ln ((x.tmod y)-y)≤68719476737:=Nat.le_trans (ln_sub L25 Ly) (by decide)
    refine cl (vs:= [.agg #[.bool true,.slice A31 n31 c31],.agg #[.bool true,.slice Ab nb cb]]) hw10 (g_zint_Sub hw10.size ((((z31.ext (e34.trans e40)).updT hb45 u47).updT hb50 u52).ext e90).zi (z31.le (lx_ L25 rfl)) (hy.ext hw10) (lx_ lb rfl)) rfl (by kernel_rfl) fun xr104 v102 r104 e103 hw11=>?_
    obtain⟨s105,A105,n105,c105,rfl,z105⟩:=r104
    exact pi_done rfl e103 ⟨_,_,_,_,rfl,z105⟩
   · 
    intro v106 e107
    have hw10:=hw9.trans e107
    refine dk rfl rfl (deps_cons rfl rfl fun x113 y114 h115 e116 f117=>?_)
    obtain⟨s118,A118,n118,c118,rfl,z118⟩:=h115
    have z118:=z118.ext f117
    refine deps_cons rfl rfl fun x119 y120 h121 e122 f123=>?_
    obtain⟨s124,A124,n124,c124,rfl,z124⟩:=h121
    have z124:=z124.ext f123
    refine dk rfl rfl (dk rfl rfl (deps_cons rfl rfl fun x135 y136 h137 e138 f139=>?_))
    obtain⟨s140,A140,n140,c140,rfl,z140⟩:=h137
    have z140:=z140.ext f139
    refine deps_nil ?_
    have hb142:=((((hb15.ext (e20.trans (e27.trans (e34.trans e40)))).updN u47 (by omega)).updN u52 (by omega)).ext e107)
    refine so aggInt hb142 [.bool s124,.slice A124 n124 c124] hw10 ge16 rfl rfl rfl rfl fun v141 hb143 u144 hw11=>?_
    have hb147:=(((((hb21.ext (e27.trans (e34.trans e40))).updN u47 (by omega)).updN u52 (by omega)).ext e107).updN u144 (by omega))
    refine so aggInt hb147 [.bool s140,.slice A140 n140 c140] hw11 ge22 rfl rfl rfl rfl fun v146 hb148 u149 hw12=>(mv 1 rfl (wl_nil (eo_np (eo_then (cw_ret (eo_thenR (eo_ret [.agg #[.bool s124,.slice A124 n124 c124],.agg #[.bool s140,.slice A140 n140 c140],I0] rfl ⟨⟨_,rfl,load_agg aggInt (hb143.updN u149 (by omega)) [.bool s124,.slice A124 n124 c124] rfl (bq rfl) rfl⟩,⟨_,rfl,load_agg aggInt hb148 [.bool s140,.slice A140 n140 c140] rfl (bq rfl) rfl⟩,rfl,trivial⟩ ?_)))))))
    exact⟨_,rfl,⟨_,_,_,rfl,⟨_,_,_,_,rfl,(((z124.updT hb142 u144).updT hb147 u149)).cast (hq.1)⟩,⟨_,_,_,_,rfl,(((z140.updT hb142 u144).updT hb147 u149)).cast (hq.2)⟩,rfl⟩,hw12⟩
  · 
   obtain rfl:sb=false:=by rw [hy.sgn h0];exact decide_eq_false hyn
   have hq:=ediv_pos' hr (by omega)
   refine cw_region (pf g6 0 rfl (by kernel_rfl) (wl_load rfl rfl (load_cell cellBool (((hb9.ext (e14.trans (e20.trans (e27.trans (e34.trans e40))))).updN u47 (by omega)).updN u52 (by omega)) rfl) (by decide) (ne_ (cw_false rfl (cw_skip (eo_then (cw_seq ?_)))))))
   have L152:ln ((x.tdiv y)-1)≤68719476737:=Nat.le_trans (ln_sub L24 (show ln (1)≤1 by decide+kernel)) (by decide)
   have L154:ln ((x.tmod y)+y)≤68719476737:=Nat.le_trans (ln_add L25 Ly) (by decide)
   refine cw_draw mix 6 [] [Is (.agg #[.bool s30,.slice A30 n30 c30]),ZR w.heap.size (1),ZR w.heap.size ((x.tdiv y)-1),Is (.agg #[.bool true,.slice A31 n31 c31]),Is (.agg #[F0,.slice Ab nb cb]),ZR w.heap.size ((x.tmod y)+y)] [[],[],[0,1],[],[],[3,4]] [[],[],[0,1],[],[],[0,1,2,3,4],[0,1,2,3,4,5],[0,1,2,3,4,5,6],[0,1,2,3,4,5,6,7]] rfl
    (obs_cons rfl rfl (hob rfl rfl ?_) (obs_cons rfl rfl (hob rfl rfl ?_) (obs_cons rfl rfl (hob rfl rfl ?_) (obs_cons rfl rfl (hob rfl rfl ?_) (obs_cons rfl rfl (hob rfl rfl ?_) (obs_cons rfl rfl (hob rfl rfl ?_) obs_nil)))))) ?_
   · 
    exact fun _ e157=>deps_nil (lo aggInt ((hb46.updN u52 (by omega)).ext e157) [.bool s30,.slice A30 n30 c30] rfl rfl rfl (pi_done rfl (Ext.refl _) rfl))
   · 
    intro v158 e159
    have hw10:=hw9.trans e159
    refine deps_nil (cl (vs:= [.int .i64 1]) hw10 (g_zint_Of hw10.size (by decide) (by decide)) rfl (by kernel_rfl) fun xr162 v160 r162 e161 hw11=>?_)
    obtain⟨s163,A163,n163,c163,rfl,z163⟩:=r162
    exact pi_done rfl e161 ⟨_,_,_,_,rfl,z163⟩
   · 
    intro v164 e165
    have hw10:=hw9.trans e165
    refine dk rfl rfl (deps_cons rfl rfl fun x171 y172 h173 e174 f175=>?_)
    obtain⟨s176,A176,n176,c176,rfl,z176⟩:=h173
    have z176:=z176.ext f175
    refine deps_nil ?_
    have L177:ln ((x.tdiv y)-1)≤68719476737:=Nat.le_trans (ln_sub L24 (show ln (1)≤1 by decide+kernel)) (by decide)
    refine cl (vs:= [.agg #[.bool s30,.slice A30 n30 c30],.agg #[.bool s176,.slice A176 n176 c176]]) hw10 (g_zint_Sub hw10.size ((((z30.ext (e34.trans e40)).updT hb45 u47).updT hb50 u52).ext e165).zi (z30.le (lx_ L24 rfl)) z176.zi (z176.le (Nat.le_trans (show ln (1)≤1 by decide+kernel) (by decide)))) rfl (by kernel_rfl) fun xr180 v178 r180 e179 hw11=>?_
    obtain⟨s181,A181,n181,c181,rfl,z181⟩:=r180
    exact pi_done rfl e179 ⟨_,_,_,_,rfl,z181⟩
   · 
    exact fun _ e183=>deps_nil (lo aggInt (hb51.ext e183) [.bool true,.slice A31 n31 c31] rfl rfl rfl (pi_done rfl (Ext.refl _) rfl))
   · 
    exact fun _ e185=>deps_nil (lo aggInt ((((hb9.ext (e14.trans (e20.trans (e27.trans (e34.trans e40))))).updN u47 (by omega)).updN u52 (by omega)).ext e185) [F0,.slice Ab nb cb] rfl rfl rfl (pi_done rfl (Ext.refl _) rfl))
   · 
    intro v186 e187
    have hw10:=hw9.trans e187
    refine dk rfl rfl (dk rfl rfl (deps_nil ?_))
    have L198:ln ((x.tmod y)+y)≤68719476737:=Nat.le_trans (ln_add L25 Ly) (by decide)
    refine cl (vs:= [.agg #[.bool true,.slice A31 n31 c31],.agg #[F0,.slice Ab nb cb]]) hw10 (g_zint_Add hw10.size ((((z31.ext (e34.trans e40)).updT hb45 u47).updT hb50 u52).ext e187).zi (z31.le (lx_ L25 rfl)) (hy.ext hw10) (lx_ lb rfl)) rfl (by kernel_rfl) fun xr201 v199 r201 e200 hw11=>?_
    obtain⟨s202,A202,n202,c202,rfl,z202⟩:=r201
    exact pi_done rfl e200 ⟨_,_,_,_,rfl,z202⟩
   · 
    intro v203 e204
    have hw10:=hw9.trans e204
    refine dk rfl rfl (deps_cons rfl rfl fun x210 y211 h212 e213 f214=>?_)
    obtain⟨s215,A215,n215,c215,rfl,z215⟩:=h212
    have z215:=z215.ext f214
    refine deps_cons rfl rfl fun x216 y217 h218 e219 f220=>?_
    obtain⟨s221,A221,n221,c221,rfl,z221⟩:=h218
    have z221:=z221.ext f220
    refine dk rfl rfl (dk rfl rfl (deps_cons rfl rfl fun x232 y233 h234 e235 f236=>?_))
    obtain⟨s237,A237,n237,c237,rfl,z237⟩:=h234
    have z237:=z237.ext f236
    refine deps_nil ?_
    have hb239:=((((hb15.ext (e20.trans (e27.trans (e34.trans e40)))).updN u47 (by omega)).updN u52 (by omega)).ext e204)
    refine so aggInt hb239 [.bool s221,.slice A221 n221 c221] hw10 ge16 rfl rfl rfl rfl fun v238 hb240 u241 hw11=>?_
    have hb244:=(((((hb21.ext (e27.trans (e34.trans e40))).updN u47 (by omega)).updN u52 (by omega)).ext e204).updN u241 (by omega))
    refine so aggInt hb244 [.bool s237,.slice A237 n237 c237] hw11 ge22 rfl rfl rfl rfl fun v243 hb245 u246 hw12=>(mv 1 rfl (wl_nil (eo_np (eo_then (cw_ret (eo_ret [.agg #[.bool s221,.slice A221 n221 c221],.agg #[.bool s237,.slice A237 n237 c237],I0] rfl ⟨⟨_,rfl,load_agg aggInt (hb240.updN u246 (by omega)) [.bool s221,.slice A221 n221 c221] rfl (bq rfl) rfl⟩,⟨_,rfl,load_agg aggInt hb245 [.bool s237,.slice A237 n237 c237] rfl (bq rfl) rfl⟩,rfl,trivial⟩ ?_))))))
    exact⟨_,rfl,⟨_,_,_,rfl,⟨_,_,_,_,rfl,(((z221.updT hb239 u241).updT hb244 u246)).cast (hq.1)⟩,⟨_,_,_,_,rfl,(((z237.updT hb239 u241).updT hb244 u246)).cast (hq.2)⟩,rfl⟩,hw12⟩
 · 
  obtain rfl:s31=false:=by rw [z31.sgn];exact decide_eq_false hr
  refine cw_region (mv 1 rfl (pu (v:= .bool false) rfl (by kernel_rfl) (mv 1 rfl (pf g38 0 rfl (by kernel_rfl) (wl_load rfl rfl (load_cell cellBool hb51 rfl) (by decide) (pu (v:= .bool true) rfl (by kernel_rfl) (pu (v:= .bool true) rfl (by kernel_rfl) (ne_ (cw_true rfl (cw_seq (cw_keep [(0,.agg #[.bool sa,.slice Aa na ca]),(1,.agg #[.bool sb,.slice Ab nb cb]),(2,.pointer (some ⟨g1,0,none⟩)),(3,.pointer (some ⟨g6,0,none⟩)),(4,.pointer (some ⟨g12,0,none⟩)),(5,.pointer (some ⟨g18,0,none⟩)),(11,.agg #[.bool sa,.slice Aa na ca]),(12,.agg #[.bool sb,.slice Ab nb cb]),(13,.tuple #[.agg #[.bool s30,.slice A30 n30 c30],.agg #[F0,.slice A31 n31 c31],I0]),(10,.tuple #[.agg #[.bool s30,.slice A30 n30 c30],.agg #[F0,.slice A31 n31 c31],I0]),(14,.agg #[.bool s30,.slice A30 n30 c30]),(15,.agg #[F0,.slice A31 n31 c31]),(16,.int .i64 0),(7,.pointer (some ⟨g32,0,none⟩)),(8,.pointer (some ⟨g38,0,none⟩)),(9,.int .i64 0),(17,.int .i64 0),(18,.bool false),(19,.bool false),(20,.pointer (some ⟨g38,0,none⟩)),(21,.bool false),(22,.bool true),(23,.bool true)] ⟨rfl,rfl,rfl,rfl,rfl,rfl,rfl,rfl,rfl,rfl,rfl,rfl,rfl,rfl,rfl,rfl,rfl,rfl,rfl,rfl,rfl,rfl,rfl,trivial⟩ ?_)))))))))))
  obtain⟨v248,hv,e249⟩:∃v,v=v49.drew∧Ext v49 v:=⟨_,rfl,(Ext.refl _).drew⟩
  have hw10:=hw9.trans e249
  have hb251:=((((hb15.ext (e20.trans (e27.trans (e34.trans e40)))).updN u47 (by omega)).updN u52 (by omega)).ext e249)
  obtain⟨v250,hr255,hb252,u253,hs254⟩:=run_stored (P:=Tryz.prog) (us:= [.bool s30,.slice A30 n30 c30]) (off:=0) aggInt rfl hb251 (bq rfl) rfl [.bool s30,.slice A30 n30 c30] rfl
  have hw11:=u253.ext hw10 ge16
  have hb257:=(((((hb21.ext (e27.trans (e34.trans e40))).updN u47 (by omega)).updN u52 (by omega)).ext e249).updN u253 (by omega))
  obtain⟨v256,hr261,hb258,u259,hs260⟩:=run_stored (P:=Tryz.prog) (us:= [F0,.slice A31 n31 c31]) (off:=0) aggInt rfl hb257 (bq rfl) rfl [F0,.slice A31 n31 c31] rfl
  have hw12:=u259.ext hw11 ge22
  refine cw_det mix (w:=v248) [.agg #[.bool s30,.slice A30 n30 c30],.agg #[F0,.slice A31 n31 c31],I0,undef,undef,I0] [v248,v250,v256] [3,4] [[],[],[],[0],[1],[2]] [[],[],[],[0],[0,1,3],[0,1,2,3,4]] [(0,0),(1,0),(1,1),(2,0),(2,1),(2,2),(3,0),(4,1),(5,2)] rfl hv ?_ ?_
  · 
   refine dobs_val _ rfl rfl rfl rfl rfl (rd_load rfl (load_agg aggInt ((hb46.updN u52 (by omega)).ext e249) [.bool s30,.slice A30 n30 c30] rfl (bq rfl) rfl)) (dobs_val _ rfl rfl rfl rfl rfl (rd_load rfl (load_agg aggInt (hb51.ext e249) [F0,.slice A31 n31 c31] rfl (bq rfl) rfl)) (dobs_val _ rfl rfl rfl rfl rfl (rd_load rfl (load_agg aggInt ((hb51.ext e249).updN u253 (by omega)) [F0,.slice A31 n31 c31] rfl (bq rfl) rfl)) (dobs_val _ rfl rfl rfl rfl rfl (rd_move rfl) (dobs_val _ rfl rfl rfl rfl rfl (rd_move rfl) (dobs_val _ rfl rfl rfl rfl rfl (rd_move rfl) (dobs_sto _ rfl rfl rfl rfl rfl (rd_store rfl rfl hr255) (dobs_sto _ rfl rfl rfl rfl rfl (rd_store rfl rfl hr261) (dobs_val _ rfl rfl rfl rfl rfl (rd_assign rfl) ?_))))))))
   exact dobs_nil
  clear hv
  refine eo_keep [(0,.agg #[.bool sa,.slice Aa na ca]),(1,.agg #[.bool sb,.slice Ab nb cb]),(2,.pointer (some ⟨g1,0,none⟩)),(3,.pointer (some ⟨g6,0,none⟩)),(4,.pointer (some ⟨g12,0,none⟩)),(5,.pointer (some ⟨g18,0,none⟩)),(11,.agg #[.bool sa,.slice Aa na ca]),(12,.agg #[.bool sb,.slice Ab nb cb]),(13,.tuple #[.agg #[.bool s30,.slice A30 n30 c30],.agg #[F0,.slice A31 n31 c31],I0]),(10,.tuple #[.agg #[.bool s30,.slice A30 n30 c30],.agg #[F0,.slice A31 n31 c31],I0]),(14,.agg #[.bool s30,.slice A30 n30 c30]),(15,.agg #[F0,.slice A31 n31 c31]),(16,.int .i64 0),(7,.pointer (some ⟨g32,0,none⟩)),(8,.pointer (some ⟨g38,0,none⟩)),(9,.int .i64 0),(17,.int .i64 0),(18,.bool false),(19,.bool false),(20,.pointer (some ⟨g38,0,none⟩)),(21,.bool false),(22,.bool true),(23,.bool true),(24,.agg #[.bool s30,.slice A30 n30 c30]),(25,.agg #[F0,.slice A31 n31 c31]),(26,.int .i64 0),(6,.int .i64 0)] ⟨rfl,rfl,rfl,rfl,rfl,rfl,rfl,rfl,rfl,rfl,rfl,rfl,rfl,rfl,rfl,rfl,rfl,rfl,rfl,rfl,rfl,rfl,rfl,rfl,rfl,rfl,rfl,trivial⟩ (eo_then (cw_ret (eo_thenR (eo_ret [.agg #[.bool s30,.slice A30 n30 c30],.agg #[F0,.slice A31 n31 c31],I0] rfl ⟨⟨_,rfl,load_agg aggInt (hb252.updN u259 (by omega)) [.bool s30,.slice A30 n30 c30] rfl (bq rfl) rfl⟩,⟨_,rfl,load_agg aggInt hb258 [F0,.slice A31 n31 c31] rfl (bq rfl) rfl⟩,rfl,trivial⟩ ?_))))
  exact⟨_,rfl,⟨_,_,_,rfl,⟨_,_,_,_,rfl,(((((((z30.ext (e34.trans e40)).updT hb45 u47).updT hb50 u52).ext e249).updT hb251 u253).updT hb257 u259)).cast ((ediv_pos (by omega)).1)⟩,⟨_,_,_,_,rfl,(((((((z31.ext (e34.trans e40)).updT hb45 u47).updT hb50 u52).ext e249).updT hb251 u253).updT hb257 u259)).cast ((ediv_pos (by omega)).2)⟩,rfl⟩,hw12⟩
theorem g_zint_Euclid {w:World}{sa:Bool}{Aa:Option Addr}{na ca:Nat}{x:Int}{sb:Bool}{Ab:Option Addr}{nb cb:Nat}{y:Int}{b:Nat}(hb:b≤w.heap.size) (hx:Zi w sa Aa na ca x) (la:na≤68719476736) (hy:Zi w sb Ab nb cb y) (lb:nb≤68719476736) (h0:y≠0):
  Calls Tryz.prog 124 #[.agg #[.bool sa,.slice Aa na ca],.agg #[.bool sb,.slice Ab nb cb]] w (Gv w (T3 (ZR b (x/y)) (ZR b (x%y)) (Is (.int .i64 0)))):=(g_zint_EuclidI hx la hy lb h0).mono (Gv.imp (T3.imp (ZR.imp hb) (ZR.imp hb) Is.imp))
theorem Zi.sg_ {w:World}{s:Bool}{A:Option Addr}{n c:Nat}{z:Int}(h:Zi w s A n c z):sg s z.natAbs=z:=by
 obtain⟨xs,h1,rfl⟩:=h
 rw [sg_abs]
theorem ln_emod {x y:Int}(h:y≠0):ln (x%y)≤ln y:=by
 refine ln_mono ?_
 have h1:=Int.emod_nonneg x h
 have h2:=Int.emod_lt x h
 omega
set_option maxHeartbeats 4000000 in
theorem g_zint_Exact_badI {w:World}{sa:Bool}{Aa:Option Addr}{na ca:Nat}{x:Int}{sb:Bool}{Ab:Option Addr}{nb cb:Nat}{y:Int}(hx:Zi w sa Aa na ca x) (la:na≤68719476736) (hy:Zi w sb Ab nb cb y) (lb:nb≤68719476736) (h0:y=0):
    Calls Tryz.prog 125 #[.agg #[.bool sa,.slice Aa na ca],.agg #[.bool sb,.slice Ab nb cb]] w (Gv w (T2 (ZR w.heap.size (0)) (Is (.int .i64 4)))):=by
 have Lx:ln x≤68719476736:=Nat.le_trans hx.ln la
 have Ly:ln y≤68719476736:=Nat.le_trans hy.ln lb
 refine sx_enter Tryz.func125 rfl (n:=27) rfl (bq rfl) (args:= [.agg #[.bool sa,.slice Aa na ca],.agg #[.bool sb,.slice Ab nb cb]]) (cw_keep [(0,.agg #[.bool sa,.slice Aa na ca]),(1,.agg #[.bool sb,.slice Ab nb cb])] ⟨rfl,rfl,trivial⟩ (sr (bx [.bool sa,.slice Aa na ca] (Ext.refl w) rfl rfl rfl fun g1 v2 hb4 ge5 e3 hw1=>(bxq [.bool sb,.slice Ab nb cb] hw1 hb4.lt rfl rfl rfl fun g6 v7 hb9 ge10 q11 e8 hw2=>(alq [F0,S0] hw2 hb9.lt (fun _=>by kernel_rfl) rfl fun g12 v13 hb15 ge16 q17 e14 hw3=>(mv 1 rfl (ne_ (sr (pf g1 1 rfl (by kernel_rfl) (wl_load rfl rfl (load_cell cellWords (hb4.ext (e8.trans e14)) rfl) (by decide) (pf g6 1 rfl (by kernel_rfl) (wl_load rfl rfl (load_cell cellWords (hb9.ext e14) rfl) (by decide) (cl (vs:= [.slice Aa na ca,.slice Ab nb cb]) hw3 (g_divnat_Exact_bad (i:=0) (hy.ext hw3).wi (lx_ lb rfl) (by omega)) rfl (by kernel_rfl) fun xr20 v18 r20 e19 hw4=>?_)))))))))))))
 obtain rfl:=r20
 refine mv 1 rfl (pu (v:= .slice none 0 0) rfl (by kernel_rfl) (pu (v:= .int .i64 4) rfl (by kernel_rfl) (mv 2 rfl (ne_ (cw_seq (sr (mv 1 rfl (pu (v:= .bool true) rfl (by kernel_rfl) (ne_ (cw_true rfl (sr (pu (v:= .agg #[F0,S0]) rfl (by kernel_rfl) (mv 1 rfl ?_)))))))))))))
 have hb22:=(hb15.ext e19)
 refine so aggInt hb22 [F0,S0] hw4 ge16 rfl rfl rfl rfl fun v21 hb23 u24 hw5=>(mv 1 rfl (ne_ (cw_ret (eo_thenR (eo_ret [.agg #[F0,S0],.int .i64 4] rfl ⟨⟨_,rfl,load_agg aggInt hb23 [F0,S0] rfl (bq rfl) rfl⟩,rfl,trivial⟩ ?_)))))
 exact⟨_,rfl,⟨_,_,rfl,⟨_,_,_,_,rfl,((Zr.zero (w:=v18) (base:=w.heap.size)).updT hb22 u24)⟩,rfl⟩,hw5⟩
theorem g_zint_Exact_bad {w:World}{sa:Bool}{Aa:Option Addr}{na ca:Nat}{x:Int}{sb:Bool}{Ab:Option Addr}{nb cb:Nat}{y:Int}{b:Nat}(hb:b≤w.heap.size) (hx:Zi w sa Aa na ca x) (la:na≤68719476736) (hy:Zi w sb Ab nb cb y) (lb:nb≤68719476736) (h0:y=0):
  Calls Tryz.prog 125 #[.agg #[.bool sa,.slice Aa na ca],.agg #[.bool sb,.slice Ab nb cb]] w (Gv w (T2 (ZR b (0)) (Is (.int .i64 4)))):=(g_zint_Exact_badI hx la hy lb h0).mono (Gv.imp (T2.imp (ZR.imp hb) Is.imp))
set_option maxHeartbeats 4000000 in
theorem g_zint_Exact_notI {w:World}{sa:Bool}{Aa:Option Addr}{na ca:Nat}{x:Int}{sb:Bool}{Ab:Option Addr}{nb cb:Nat}{y:Int}(hx:Zi w sa Aa na ca x) (la:na≤68719476736) (hy:Zi w sb Ab nb cb y) (lb:nb≤68719476736) (h0:y≠0) (hd:x.natAbs%y.natAbs≠0):
    Calls Tryz.prog 125 #[.agg #[.bool sa,.slice Aa na ca],.agg #[.bool sb,.slice Ab nb cb]] w (Gv w (T2 (ZR w.heap.size (0)) (Is (.int .i64 8)))):=by
 have Lx:ln x≤68719476736:=Nat.le_trans hx.ln la
 have Ly:ln y≤68719476736:=Nat.le_trans hy.ln lb
 refine sx_enter Tryz.func125 rfl (n:=27) rfl (bq rfl) (args:= [.agg #[.bool sa,.slice Aa na ca],.agg #[.bool sb,.slice Ab nb cb]]) (cw_keep [(0,.agg #[.bool sa,.slice Aa na ca]),(1,.agg #[.bool sb,.slice Ab nb cb])] ⟨rfl,rfl,trivial⟩ (sr (bx [.bool sa,.slice Aa na ca] (Ext.refl w) rfl rfl rfl fun g1 v2 hb4 ge5 e3 hw1=>(bxq [.bool sb,.slice Ab nb cb] hw1 hb4.lt rfl rfl rfl fun g6 v7 hb9 ge10 q11 e8 hw2=>(alq [F0,S0] hw2 hb9.lt (fun _=>by kernel_rfl) rfl fun g12 v13 hb15 ge16 q17 e14 hw3=>(mv 1 rfl (ne_ (sr (pf g1 1 rfl (by kernel_rfl) (wl_load rfl rfl (load_cell cellWords (hb4.ext (e8.trans e14)) rfl) (by decide) (pf g6 1 rfl (by kernel_rfl) (wl_load rfl rfl (load_cell cellWords (hb9.ext e14) rfl) (by decide) (cl (vs:= [.slice Aa na ca,.slice Ab nb cb]) hw3 (g_divnat_Exact_not (hx.ext hw3).wi (lx_ la rfl) (hy.ext hw3).wi (lx_ lb rfl) (by omega) hd) rfl (by kernel_rfl) fun xr20 v18 r20 e19 hw4=>?_)))))))))))))
 obtain rfl:=r20
 refine mv 1 rfl (pu (v:= .slice none 0 0) rfl (by kernel_rfl) (pu (v:= .int .i64 8) rfl (by kernel_rfl) (mv 2 rfl (ne_ (cw_seq (sr (mv 1 rfl (pu (v:= .bool true) rfl (by kernel_rfl) (ne_ (cw_true rfl (sr (pu (v:= .agg #[F0,S0]) rfl (by kernel_rfl) (mv 1 rfl ?_)))))))))))))
 have hb22:=(hb15.ext e19)
 refine so aggInt hb22 [F0,S0] hw4 ge16 rfl rfl rfl rfl fun v21 hb23 u24 hw5=>(mv 1 rfl (ne_ (cw_ret (eo_thenR (eo_ret [.agg #[F0,S0],.int .i64 8] rfl ⟨⟨_,rfl,load_agg aggInt hb23 [F0,S0] rfl (bq rfl) rfl⟩,rfl,trivial⟩ ?_)))))
 exact⟨_,rfl,⟨_,_,rfl,⟨_,_,_,_,rfl,((Zr.zero (w:=v18) (base:=w.heap.size)).updT hb22 u24)⟩,rfl⟩,hw5⟩
theorem g_zint_Exact_not {w:World}{sa:Bool}{Aa:Option Addr}{na ca:Nat}{x:Int}{sb:Bool}{Ab:Option Addr}{nb cb:Nat}{y:Int}{b:Nat}(hb:b≤w.heap.size) (hx:Zi w sa Aa na ca x) (la:na≤68719476736) (hy:Zi w sb Ab nb cb y) (lb:nb≤68719476736) (h0:y≠0) (hd:x.natAbs%y.natAbs≠0):
  Calls Tryz.prog 125 #[.agg #[.bool sa,.slice Aa na ca],.agg #[.bool sb,.slice Ab nb cb]] w (Gv w (T2 (ZR b (0)) (Is (.int .i64 8)))):=(g_zint_Exact_notI hx la hy lb h0 hd).mono (Gv.imp (T2.imp (ZR.imp hb) Is.imp))
set_option maxHeartbeats 4000000 in
theorem g_zint_Exact_okI {w:World}{sa:Bool}{Aa:Option Addr}{na ca:Nat}{x:Int}{sb:Bool}{Ab:Option Addr}{nb cb:Nat}{y:Int}(hx:Zi w sa Aa na ca x) (la:na≤68719476736) (hy:Zi w sb Ab nb cb y) (lb:nb≤68719476736) (h0:y≠0) (hd:x.natAbs%y.natAbs=0):
    Calls Tryz.prog 125 #[.agg #[.bool sa,.slice Aa na ca],.agg #[.bool sb,.slice Ab nb cb]] w (Gv w (T2 (ZR w.heap.size (x.tdiv y)) (Is (.int .i64 0)))):=by
 have Lx:ln x≤68719476736:=Nat.le_trans hx.ln la
 have Ly:ln y≤68719476736:=Nat.le_trans hy.ln lb
 refine sx_enter Tryz.func125 rfl (n:=27) rfl (bq rfl) (args:= [.agg #[.bool sa,.slice Aa na ca],.agg #[.bool sb,.slice Ab nb cb]]) (cw_keep [(0,.agg #[.bool sa,.slice Aa na ca]),(1,.agg #[.bool sb,.slice Ab nb cb])] ⟨rfl,rfl,trivial⟩ (sr (bx [.bool sa,.slice Aa na ca] (Ext.refl w) rfl rfl rfl fun g1 v2 hb4 ge5 e3 hw1=>(bxq [.bool sb,.slice Ab nb cb] hw1 hb4.lt rfl rfl rfl fun g6 v7 hb9 ge10 q11 e8 hw2=>(alq [F0,S0] hw2 hb9.lt (fun _=>by kernel_rfl) rfl fun g12 v13 hb15 ge16 q17 e14 hw3=>(mv 1 rfl (ne_ (sr (pf g1 1 rfl (by kernel_rfl) (wl_load rfl rfl (load_cell cellWords (hb4.ext (e8.trans e14)) rfl) (by decide) (pf g6 1 rfl (by kernel_rfl) (wl_load rfl rfl (load_cell cellWords (hb9.ext e14) rfl) (by decide) ?_))))))))))))
 have L1:(wd (x.natAbs/y.natAbs)).length≤68719476736:=Nat.le_trans (len_wd_mono (Nat.div_le_self _ _)) Lx
 refine cl (vs:= [.slice Aa na ca,.slice Ab nb cb]) hw3 (g_divnat_Exact hw3.size (hx.ext hw3).wi (lx_ la rfl) (hy.ext hw3).wi (lx_ lb rfl) (by omega) hd) rfl (by kernel_rfl) fun xr20 v18 r20 e19 hw4=>?_
 obtain⟨_,_,rfl,⟨A22,n22,c22,rfl,j22,o22⟩,rfl⟩:=r20
 refine mv 1 rfl (pu (v:= .slice A22 n22 c22) rfl (by kernel_rfl) (pu (v:= .int .i64 0) rfl (by kernel_rfl) (mv 2 rfl (ne_ (cw_seq (sr (mv 1 rfl (pu (v:= .bool false) rfl (by kernel_rfl) (ne_ (cw_false rfl (cw_skip (eo_then (cw_seq ?_)))))))))))))
 refine cw_region (pf g1 0 rfl (by kernel_rfl) (wl_load rfl rfl (load_cell cellBool (hb4.ext (e8.trans (e14.trans e19))) rfl) (by decide) (pf g6 0 rfl (by kernel_rfl) (wl_load rfl rfl (load_cell cellBool (hb9.ext (e14.trans e19)) rfl) (by decide) (pu (v:= .bool (!(sa==sb))) rfl (by kernel_rfl) (mv 1 rfl ?_))))))
 have L23:ln (sg (!(sa==sb)) (Int.natAbs x/Int.natAbs y))≤68719476736:=(show (wd (sg _ _).natAbs).length≤_ by rw [sg_abs];exact L1)
 refine cl (vs:= [.bool (!(sa==sb)),.slice A22 n22 c22]) hw4 (g_zint_of j22 o22) rfl (by kernel_rfl) fun xr26 v24 r26 e25 hw5=>?_
 obtain⟨s27,A27,n27,c27,rfl,z27⟩:=r26
 have hb29:=(hb15.ext (e19.trans e25))
 refine so aggInt hb29 [.bool s27,.slice A27 n27 c27] hw5 ge16 rfl rfl rfl rfl fun v28 hb30 u31 hw6=>(mv 1 rfl (ne_ (cw_ret (eo_ret [.agg #[.bool s27,.slice A27 n27 c27],I0] rfl ⟨⟨_,rfl,load_agg aggInt hb30 [.bool s27,.slice A27 n27 c27] rfl (bq rfl) rfl⟩,rfl,trivial⟩ ?_))))
 exact⟨_,rfl,⟨_,_,rfl,⟨_,_,_,_,rfl,((z27.updT hb29 u31)).cast (by rw [show (!(sa==sb))=(sa != sb) from rfl,sg_tdiv,hx.sg_,hy.sg_])⟩,rfl⟩,hw6⟩
theorem g_zint_Exact_ok {w:World}{sa:Bool}{Aa:Option Addr}{na ca:Nat}{x:Int}{sb:Bool}{Ab:Option Addr}{nb cb:Nat}{y:Int}{b:Nat}(hb:b≤w.heap.size) (hx:Zi w sa Aa na ca x) (la:na≤68719476736) (hy:Zi w sb Ab nb cb y) (lb:nb≤68719476736) (h0:y≠0) (hd:x.natAbs%y.natAbs=0):
  Calls Tryz.prog 125 #[.agg #[.bool sa,.slice Aa na ca],.agg #[.bool sb,.slice Ab nb cb]] w (Gv w (T2 (ZR b (x.tdiv y)) (Is (.int .i64 0)))):=(g_zint_Exact_okI hx la hy lb h0 hd).mono (Gv.imp (T2.imp (ZR.imp hb) Is.imp))
structure ZC where
 s:Bool
 A:Option Addr
 n:Nat
 c:Nat
structure ExtI (x y r0 r1 m0 m1:Int):Prop where
 nn0:0≤r0
 nn1:0≤r1
 gcd:Int.gcd r0 r1=Int.gcd x y
 d0:y∣r0-m0*x.natAbs
 d1:y∣r1-m1*x.natAbs
 bal:m1.natAbs*r0.natAbs+m0.natAbs*r1.natAbs=y.natAbs
 sgn:m0*m1≤0
 b0:r0.natAbs≤max x.natAbs y.natAbs
 b1:r1.natAbs≤y.natAbs
 mb0:m0.natAbs≤y.natAbs
 mb1:m1.natAbs≤y.natAbs
theorem natAbs_opp {a b c:Int}(h:a*b≤0) (hc:0≤c):(a-c*b).natAbs=a.natAbs+c.natAbs*b.natAbs:=by
 rw [←Int.natAbs_mul]
 have h2:a*(c*b)≤0:=by
  have:a*(c*b)=c*(a*b):=by grind
  rw [this]
  exact Int.mul_nonpos_of_nonneg_of_nonpos hc h
 rcases Int.lt_trichotomy a 0 with ha | ha | ha
 ·have:0≤c*b:=by
   refine Int.le_of_not_gt fun hl=>?_
   have:=Int.mul_pos_of_neg_of_neg ha hl
   omega
  omega
 ·subst ha;simp
 ·have:c*b≤0:=by
   refine Int.le_of_not_gt fun hl=>?_
   have:=Int.mul_pos ha hl
   omega
  omega
theorem ExtI.step {x y r0 r1 m0 m1:Int}(h:ExtI x y r0 r1 m0 m1) (hr:r1≠0):ExtI x y r1 (r0.tmod r1) m1 (m0-r0.tdiv r1*m1):=by
 have e:=Int.tdiv_mul_add_tmod r0 r1
 have nn:=Int.tmod_nonneg r1 h.nn0
 have hq:0≤r0.tdiv r1:=Int.tdiv_nonneg h.nn0 h.nn1
 have hlt:r0.tmod r1<r1:=Int.tmod_lt_of_pos _ (by have:=h.nn1;omega)
 have hab:=natAbs_opp h.sgn hq
 have hbal:(m0-r0.tdiv r1*m1).natAbs*r1.natAbs+m1.natAbs*(r0.tmod r1).natAbs=y.natAbs:=by
  rw [hab,←h.bal]
  have e2:r0.natAbs=(r0.tdiv r1).natAbs*r1.natAbs+(r0.tmod r1).natAbs:=by
   rw [←Int.natAbs_mul,←Int.natAbs_add_of_nonneg (Int.mul_nonneg hq h.nn1) nn,e]
  rw [e2]
  grind
 refine⟨h.nn1,nn,?_,h.d1,?_,hbal,?_,Nat.le_trans h.b1 (Nat.le_max_right _ _),?_,h.mb1,?_⟩
 ·rw [←h.gcd]
  have:Int.gcd r0 r1=Int.gcd (r0.tmod r1+r1*r0.tdiv r1) r1:=by
   congr 1
   rw [Int.mul_comm];omega
  rw [this,Int.gcd_add_mul_left_left,Int.gcd_comm]
 ·have e3:r0.tmod r1-(m0-r0.tdiv r1*m1)*x.natAbs=(r0-m0*x.natAbs)-r0.tdiv r1*(r1-m1*x.natAbs):=by
   have:r0.tmod r1=r0-r0.tdiv r1*r1:=by omega
   rw [this];grind
  rw [e3]
  exact Int.dvd_sub h.d0 (Int.dvd_mul_of_dvd_right h.d1)
 ·have e4:m1*(m0-r0.tdiv r1*m1)=m0*m1-r0.tdiv r1*(m1*m1):=by grind
  rw [e4]
  have h1:0≤m1*m1:=by
   rcases Int.le_total 0 m1 with h | h
   ·exact Int.mul_nonneg h h
   ·exact Int.mul_nonneg_of_nonpos_of_nonpos h h
  have:=Int.mul_nonneg hq h1
  have:=h.sgn
  omega
 ·have:=h.b1
  have h2:(r0.tmod r1).natAbs≤r1.natAbs:=by omega
  omega
 ·have h1:1≤r1.natAbs:=by omega
  have h2:(m0-r0.tdiv r1*m1).natAbs≤(m0-r0.tdiv r1*m1).natAbs*r1.natAbs:=Nat.le_mul_of_pos_right _ h1
  omega
structure Bez (x y u v:Int):Prop where
 zero:y=0→u=x.sign∧v=0
 eq:x*u+y*v=Int.gcd x y
 lo:y≠0→0≤u
 hi:y≠0→u*Int.gcd x y<y.natAbs
theorem ExtI.done {x y r0 m0 m1 z:Int}(h:ExtI x y r0 0 m0 m1) (hy:y≠0) (hz:z=if x<0 then-m0 else m0):
  r0=(Int.gcd x y:Int)∧r0≠0∧y.tdiv r0≠0∧y.natAbs%r0.natAbs=0∧(r0-x*(z%y.tdiv r0)).natAbs%y.natAbs=0∧Bez x y (z%y.tdiv r0) ((r0-x*(z%y.tdiv r0)).tdiv y):=by
 have hg:=h.gcd
 rw [Int.gcd_zero_right] at hg
 have e0:r0=(Int.gcd x y:Int):=by have:=h.nn0;omega
 have hpos:0<Int.gcd x y:=Int.gcd_pos_of_ne_zero_right x hy
 have hr0:r0≠0:=by omega
 obtain⟨p,hp⟩:=Int.gcd_dvd_right x y
 obtain⟨q,hq⟩:=Int.gcd_dvd_left x y
 rw [←e0] at hp hq
 have hpd:y.tdiv r0=p:=by rw [hp];exact Int.mul_tdiv_cancel_left _ hr0
 have hp0:p≠0:=fun e=>hy (by rw [hp,e,Int.mul_zero])
 have hz1:y∣r0-x*z:=by
  have hd:=h.d0
  have hx:x*z=m0*x.natAbs:=by
   rw [hz]
   by_cases hn:x<0
   ·rw [if_pos hn]
    have:(x.natAbs:Int)= -x:=by omega
    rw [this];grind
   ·rw [if_neg hn]
    have:(x.natAbs:Int)=x:=by omega
    rw [this];grind
  rw [hx];exact hd
 have hm:=Int.mul_ediv_add_emod z p
 have hdvd:y∣r0-x*(z%p):=by
  have e1:r0-x*(z%p)=(r0-x*z)+y*(q*(z/p)):=by
   have e2:z%p=z-p*(z/p):=by omega
   have e3:x*(p*(z/p))=y*(q*(z/p)):=by
    calc x*(p*(z/p))=(r0*q)*(p*(z/p)):=by rw [←hq]
     _=(r0*p)*(q*(z/p)):=by grind
     _=y*(q*(z/p)):=by rw [←hp]
   rw [e2,Int.mul_sub,e3]
   omega
  rw [e1]
  exact Int.dvd_add hz1 (Int.dvd_mul_right _ _)
 refine⟨e0,hr0,by rw [hpd];exact hp0,?_,?_,?_⟩
 ·refine Nat.mod_eq_zero_of_dvd (Int.natAbs_dvd_natAbs.2 ⟨p,hp⟩)
 ·rw [hpd]
  exact Nat.mod_eq_zero_of_dvd (Int.natAbs_dvd_natAbs.2 hdvd)
 ·rw [hpd]
  refine⟨fun e=>absurd e hy,?_,fun _=>Int.emod_nonneg _ hp0,fun _=>?_⟩
  ·have:=Int.mul_tdiv_cancel' hdvd
   rw [←e0]
   omega
  ·rw [←e0]
   have h1:=Int.emod_lt z hp0
   have h2:(z%p)*r0<p.natAbs*r0:=Int.mul_lt_mul_of_pos_right h1 (by omega)
   have h3:(y.natAbs:Int)=p.natAbs*r0:=by
    rw [hp,Int.natAbs_mul]
    have:(r0.natAbs:Int)=r0:=by omega
    rw [Int.natCast_mul,this,Int.mul_comm]
   omega
theorem scmp_i64 (x y:Int): -9223372036854775808≤scmp x y∧scmp x y≤9223372036854775807:=by have:=scmp_bd x y;omega
theorem elemI:Tryz.prog.underlying 27=some (.slice 26):=by kernel_rfl
theorem infoI:(Tryz.prog.info? 26).map (fun i=>(i.zero,i.size,i.bytes))=some (some (.agg #[.bool false,.slice none 0 0]),2,32):=by kernel_rfl
def ZC.zero:ZC:=⟨false,none,0,0⟩
def zcell (e:ZC):List Value:= [.bool e.s,.slice e.A e.n e.c]
def zcells:List ZC→List Value
 | []=> []
 | e::r=> .bool e.s:: .slice e.A e.n e.c::zcells r
theorem zcells_len:∀es:List ZC,(zcells es).length=es.length*2
 | []=>rfl
 | e::r=>by simp only [zcells,List.length_cons,zcells_len r];omega
theorem zcells_get0:∀(es:List ZC) (i:Nat),i<es.length→(zcells es)[i*2]?=some (.bool (es.getD i ZC.zero).s)
 | [],i,h=>by simp at h
 | e::r,0,h=>rfl
 | e::r,i+1,h=>by
  have:=zcells_get0 r i (by simpa using h)
  simpa [zcells,Nat.add_mul] using this
theorem zcells_get1:∀(es:List ZC) (i:Nat),i<es.length→(zcells es)[i*2+1]?=some (.slice (es.getD i ZC.zero).A (es.getD i ZC.zero).n (es.getD i ZC.zero).c)
 | [],i,h=>by simp at h
 | e::r,0,h=>rfl
 | e::r,i+1,h=>by
  have:=zcells_get1 r i (by simpa using h)
  simpa [zcells,Nat.add_mul] using this
theorem zcells_set:∀(es:List ZC) (i:Nat) (e:ZC),i<es.length→overl (zcells es) (i*2) (zcell e)=zcells (es.set i e)
 | [],i,e,h=>by simp at h
 | a::r,0,e,h=>by simp [zcells,overl,zcell]
 | a::r,i+1,e,h=>by
  have:=zcells_set r i e (by simpa using h)
  simp only [overl,zcell,List.length_cons,List.length_nil] at this⊢
  rw [show (i+1)*2=i*2+1+1 by omega,show i*2+1+1+(0+1+1)=i*2+(0+1+1)+1+1 by omega]
  simp only [zcells,List.take_succ_cons,List.drop_succ_cons,List.cons_append,List.set_cons_succ,this]
theorem Zl.at {w:World}{A:Option Addr}{n cap:Nat}{zs:List Int}{ms:List Nat}(h:Zl w A n cap zs ms){i:Nat}(hi:i<n):
  ∃p s B c,A.map (·.add (i*2))=some p∧(∀w',Ext w w'→∀(P:Program) (T:TypeId),AggT P T 2→(loadVar T p).run P w'= .ok (.agg #[.bool s,.slice B (ms.getD i 0) c]) w')∧Zi w s B (ms.getD i 0) c (zs.getD i 0):=by
 obtain⟨a,s,B,c,rfl,h1,h2,h3⟩:=h.get i hi
 refine⟨a.add (i*2),s,B,c,rfl,fun w' e P T hT=>load_at hT [.bool s,.slice B (ms.getD i 0) c] rfl (fun j hj=>?_),h3⟩
 rw [add_of_add]
 match j,hj with
 | 0,_=>exact e.cell h1
 | 1,_=>exact e.cell h2
theorem Zr.updOT {w w':World}{b b':Nat}{s:Bool}{A B:Option Addr}{n cap m c s':Nat}{z:Int}{T:TypeId}{us:List Value}(h:Zr w b s A n cap z) (ho:Own w b' T s' B m c us) (x:UpdO B w w') (hT:67≠T:=by decide):Zr w' b s A n cap z:=
 ⟨h.sgn,h.len,h.own.updOT ho hT x⟩
def Zo (w:World) (b:Nat) (s:Bool) (A:Option Addr) (n cap:Nat) (z:Int):Prop:=∃xs,Own w b 67 1 A n cap (xs.map W64)∧Wf xs∧sg s (nv xs)=z
section
variable {w w':World}{b:Nat}{s:Bool}{A:Option Addr}{n cap:Nat}{z:Int}
theorem Zo.zi (h:Zo w b s A n cap z):Zi w s A n cap z:=by obtain⟨xs,h1,h2,h3⟩:=h;exact⟨xs,h1.rd h2,h3⟩
theorem Zo.ext (h:Zo w b s A n cap z) (x:Ext w w'):Zo w' b s A n cap z:=by obtain⟨xs,h1,h2⟩:=h;exact⟨xs,h1.ext x,h2⟩
theorem Zo.mono {b':Nat}(h:Zo w b s A n cap z) (x:b'≤b):Zo w b' s A n cap z:=by obtain⟨xs,h1,h2⟩:=h;exact⟨xs,h1.mono x,h2⟩
theorem Zo.updT {g:Nat}{T:TypeId}{us:List Value}(h:Zo w b s A n cap z) (hb:Bk w g T us) (x:Upd g w w') (hT:67≠T:=by decide):Zo w' b s A n cap z:=by obtain⟨xs,h1,h2⟩:=h;exact⟨xs,h1.updT hb hT x,h2⟩
theorem Zo.updOT {b':Nat}{B:Option Addr}{m c s':Nat}{T:TypeId}{us:List Value}(h:Zo w b s A n cap z) (ho:Own w b' T s' B m c us) (x:UpdO B w w') (hT:67≠T:=by decide):Zo w' b s A n cap z:=by obtain⟨xs,h1,h2⟩:=h;exact⟨xs,h1.updOT ho hT x,h2⟩
end
def El (m:Option World) (b:Nat) (w:World) (e:ZC) (z:Int):Prop:=Zr w b e.s e.A e.n e.c z∨∃w0,m=some w0∧(Zi w0 e.s e.A e.n e.c z∨Zo w b e.s e.A e.n e.c z)
theorem El.ext {m:Option World}{b:Nat}{w w':World}{e:ZC}{z:Int}(h:El m b w e z) (x:Ext w w'):El m b w' e z:=h.imp (·.ext x) (fun⟨w0,h1,h2⟩=>⟨w0,h1,h2.imp id (·.ext x)⟩)
theorem El.updT {m:Option World}{b g:Nat}{w w':World}{e:ZC}{z:Int}{T:TypeId}{us:List Value}(h:El m b w e z) (hb:Bk w g T us) (x:Upd g w w') (hT:67≠T:=by decide):El m b w' e z:=h.imp (·.updT hb x hT) (fun⟨w0,h1,h2⟩=>⟨w0,h1,h2.imp id (·.updT hb x hT)⟩)
theorem El.mono {m:Option World}{b b':Nat}{w:World}{e:ZC}{z:Int}(h:El m b w e z) (x:b'≤b):El m b' w e z:=h.imp (·.mono x) (fun⟨w0,h1,h2⟩=>⟨w0,h1,h2.imp id (·.mono x)⟩)
theorem El.updOT {m:Option World}{b b':Nat}{w w':World}{e:ZC}{z:Int}{B:Option Addr}{n c s':Nat}{T:TypeId}{us:List Value}(h:El m b w e z) (ho:Own w b' T s' B n c us) (x:UpdO B w w') (hT:67≠T:=by decide):El m b w' e z:=h.imp (·.updOT ho x hT) (fun⟨w0,h1,h2⟩=>⟨w0,h1,h2.imp id (·.updOT ho x hT)⟩)
theorem El.zi {w0:World}{b:Nat}{w:World}{e:ZC}{z:Int}(h:El (some w0) b w e z) (x:Ext w0 w):Zi w e.s e.A e.n e.c z:=by
 rcases h with h | ⟨w1,h1,h2⟩
 ·exact h.zi
 ·cases h1;exact h2.elim (·.ext x) (·.zi)
theorem El.zr {b:Nat}{w:World}{e:ZC}{z:Int}(h:El none b w e z):Zr w b e.s e.A e.n e.c z:=by
 rcases h with h | ⟨w1,h1,h2⟩
 ·exact h
 ·cases h1
def Lz (m:Option World) (K b:Nat) (w:World) (lb:Nat) (A:Option Addr) (n cap:Nat) (zs:List Int):Prop:=
 ∃es,Own w lb 26 2 A n cap (zcells es)∧es.length=n∧zs.length=n∧∀i,i<n→(es.getD i ZC.zero).n≤K∧El m b w (es.getD i ZC.zero) (zs.getD i 0)
section
variable {m:Option World}{K b lb:Nat}{w w':World}{A:Option Addr}{n cap:Nat}{zs:List Int}
theorem Lz.own (h:Lz m K b w lb A n cap zs):∃vs,Own w lb 26 2 A n cap vs:=by obtain⟨es,h1,_⟩:=h;exact⟨_,h1⟩
theorem Lz.block (h:Lz m K b w lb A n cap zs):∀a,A=some a→lb≤a.block∧a.block<w.heap.size:=by obtain⟨vs,h⟩:=h.own;exact h.block
theorem Lz.len (h:Lz m K b w lb A n cap zs):zs.length=n:=by obtain⟨es,h1,h2,h3,h4⟩:=h;exact h3
theorem Lz.le (h:Lz m K b w lb A n cap zs):n≤cap:=by obtain⟨vs,h⟩:=h.own;exact h.rv.le
theorem Lz.ext (h:Lz m K b w lb A n cap zs) (x:Ext w w'):Lz m K b w' lb A n cap zs:=by
 obtain⟨es,h1,h2,h3,h4⟩:=h
 exact⟨es,h1.ext x,h2,h3,fun i hi=>⟨(h4 i hi).1,(h4 i hi).2.ext x⟩⟩
theorem Lz.updT {g:Nat}{T:TypeId}{us:List Value}(h:Lz m K b w lb A n cap zs) (hb:Bk w g T us) (x:Upd g w w') (hne:∀p,A=some p→p.block≠g) (hT:67≠T:=by decide):Lz m K b w' lb A n cap zs:=by
 obtain⟨es,h1,h2,h3,h4⟩:=h
 exact⟨es,h1.upd x hne,h2,h3,fun i hi=>⟨(h4 i hi).1,(h4 i hi).2.updT hb x hT⟩⟩
theorem Lz.updO {B:Option Addr}{lb' c k:Nat}{us:List Value}(h:Lz m K b w lb A n cap zs) (ho:Own w lb' 26 2 B k c us) (x:UpdO B w w') (hne:∀p q,B=some p→A=some q→p.block≠q.block):Lz m K b w' lb A n cap zs:=by
 obtain⟨es,h1,h2,h3,h4⟩:=h
 exact⟨es,h1.updO x hne,h2,h3,fun i hi=>⟨(h4 i hi).1,(h4 i hi).2.updOT ho x⟩⟩
theorem Lz.nil (m:Option World) (K b:Nat) (w:World) (lb:Nat):Lz m K b w lb none 0 0 []:=⟨[],Own.nil _ _ _ _,rfl,rfl,fun i hi=>by omega⟩
theorem Lz.mono {K' b' lb':Nat}(h:Lz m K b w lb A n cap zs) (hK:K≤K') (hb:b'≤b) (hl:lb'≤lb):Lz m K' b' w lb' A n cap zs:=by
 obtain⟨es,h1,h2,h3,h4⟩:=h
 exact⟨es,h1.mono hl,h2,h3,fun i hi=>⟨Nat.le_trans (h4 i hi).1 hK,(h4 i hi).2.mono hb⟩⟩
theorem Lz.at (h:Lz m K b w lb A n cap zs){i:Nat}(hi:i<n):
  ∃p s B k c,A.map (·.add (i*2))=some p∧(∀w',Ext w w'→∀(P:Program) (T:TypeId),AggT P T 2→(loadVar T p).run P w'= .ok (.agg #[.bool s,.slice B k c]) w')∧k≤K∧El m b w ⟨s,B,k,c⟩ (zs.getD i 0):=by
 obtain⟨es,h1,h2,h3,h4⟩:=h
 obtain⟨a,ha,hc⟩:=h1.rv.get (i*2) (by omega)
 obtain⟨a',ha',hc'⟩:=h1.rv.get (i*2+1) (by omega)
 rw [ha] at ha';cases ha'
 have g0:=zcells_get0 es i (by omega)
 have g1:=zcells_get1 es i (by omega)
 rw [List.getD_eq_getElem?_getD,g0] at hc
 rw [List.getD_eq_getElem?_getD,g1] at hc'
 refine⟨a.add (i*2),_,_,_,_,by rw [ha];rfl,fun w' e P T hT=>load_at hT [.bool (es.getD i ZC.zero).s,.slice (es.getD i ZC.zero).A (es.getD i ZC.zero).n (es.getD i ZC.zero).c] rfl (fun j hj=>?_),(h4 i hi).1,(h4 i hi).2⟩
 rw [add_of_add]
 match j,hj with
 | 0,_=>exact e.cell hc
 | 1,_=>exact e.cell hc'
theorem Lz.zl {w0:World}(h:Lz (some w0) K b w lb A n cap zs) (x:Ext w0 w):∃ms,Zl w A n cap zs ms∧∀i,ms.getD i 0≤K:=by
 obtain⟨es,h1,h2,h3,h4⟩:=h
 have hms:∀i,i<n→(es.map (·.n)).getD i 0=(es.getD i ZC.zero).n:=fun i hi=>by
  simp [List.getD_eq_getElem?_getD,List.getElem?_map,List.getElem?_eq_getElem (show i<es.length by omega)]
 refine⟨es.map (·.n),⟨h3,by rw [List.length_map,h2],h1.rv.le,h1.rv.max,fun i hi=>?_⟩,fun i=>?_⟩
 ·obtain⟨a,ha,hc⟩:=h1.rv.get (i*2) (by omega)
  obtain⟨a',ha',hc'⟩:=h1.rv.get (i*2+1) (by omega)
  rw [ha] at ha';cases ha'
  have g0:=zcells_get0 es i (by omega)
  have g1:=zcells_get1 es i (by omega)
  rw [List.getD_eq_getElem?_getD,g0] at hc
  rw [List.getD_eq_getElem?_getD,g1] at hc'
  rw [hms i hi]
  exact⟨a,_,_,_,ha,hc,hc',(h4 i hi).2.zi x⟩
 ·by_cases hi:i<n
  ·rw [hms i hi];exact (h4 i hi).1
  ·rw [List.getD_eq_getElem?_getD,List.getElem?_eq_none (by rw [List.length_map];omega)];exact Nat.zero_le _
theorem getD_app_l {α:Type}{l r:List α}{i:Nat}{d:α}(h:i<l.length):(l++r).getD i d=l.getD i d:=by
 rw [List.getD_eq_getElem?_getD,List.getD_eq_getElem?_getD,List.getElem?_append_left h]
theorem getD_app_m {α:Type}{l r:List α}{a d:α}:(l++a::r).getD l.length d=a:=by
 rw [List.getD_eq_getElem?_getD,List.getElem?_append_right (Nat.le_refl _),Nat.sub_self];rfl
end
section
variable {Q:Exit→Act→World→Prop}{N:Nat}{l:Fr}{w:World}{ops:Array Oper}{rest:List Oper}{d:Nat}{ty:TypeId}{pos:String}{af:Array Edge}{gd:Option (Nat×Bool)}
theorem wl_setI {m:Option World}{K b lb:Nat}{A:Option Addr}{n cap i:Nat}{zs:List Int}{x y:Operand}{p:Addr}{e:ZC}{z:Int}(hw:guardB ops l gd=some true) (hx:evo l x=some (.pointer (some p))) (hy:evo l y=some (.agg #[.bool e.s,.slice e.A e.n e.c]))
  (hp:A.map (·.add (i*2))=some p) (hi:i<n) (h:Lz m K b w lb A n cap zs) (he:El m b w e z) (hK:e.n≤K)
  (k:∀w',Lz m K b w' lb A n cap (zs.set i z)→UpdO A w w'→wl Tryz.prog ops Q N rest l w'):
  wl Tryz.prog ops Q N (⟨none,.store 26 x y,ty,pos,af,gd⟩::rest) l w:=by
 obtain⟨es,h1,h2,h3,h4⟩:=h
 have h1':=h1
 rcases h1 with⟨rfl,_⟩ | ⟨g,cs,rfl,hg,hk,hn,hcm,hcl,hv⟩
 ·cases hp
 ·have hp':p=⟨g,i*2,none⟩:=by
   injection hp with hp
   rw [←hp]
   show (⟨g,0,none⟩:Addr).add (i*2)=_
   rw [add_lit0,Nat.zero_add]
  subst hp'
  have hle:=Nat.mul_le_mul_right 2 hn
  refine wl_stored hw hx (us:=zcell e) hy aggInt rfl hk (by omega) rfl _ rfl fun w' hb2 hu hs=>k w' ⟨es.set i e,Or.inr ⟨g,_,rfl,hg,hb2,hn,hcm,?_,?_⟩,by simp [h2],by simp [h3],fun j hj=>?_⟩ hu.updO
  ·unfold overl
   simp only [List.length_append,List.length_take,List.length_drop,zcell,List.length_cons,List.length_nil]
   omega
  ·rw [←zcells_set es i e (by omega),←hv]
   have hi2:i*2+2≤n*2:=by omega
   have hz:(zcell e).length=2:=rfl
   unfold overl
   rw [hz,List.take_append,List.take_append,List.take_take,List.take_take,List.length_append,List.length_take,Nat.min_eq_left (by omega:i*2≤cs.length),hz,Nat.min_eq_right (by omega),Nat.min_eq_left (by omega)]
   congr 1
   ·congr 1
    exact List.take_of_length_le (by rw [hz];omega)
   ·rw [List.drop_take]
  ·by_cases hji:j=i
   ·subst hji
    have e1:(es.set j e).getD j ZC.zero=e:=by simp [List.getD_eq_getElem?_getD,h2,hj]
    have e2:(zs.set j z).getD j 0=z:=by simp [List.getD_eq_getElem?_getD,h3,hj]
    rw [e1,e2]
    exact⟨hK,he.updOT h1' hu.updO⟩
   ·have e1:(es.set i e).getD j ZC.zero=es.getD j ZC.zero:=by simp [List.getD_eq_getElem?_getD,Ne.symm hji]
    have e2:(zs.set i z).getD j 0=zs.getD j 0:=by simp [List.getD_eq_getElem?_getD,Ne.symm hji]
    rw [e1,e2]
    exact⟨(h4 j hj).1,(h4 j hj).2.updOT h1' hu.updO⟩
end
end Go.Proofs.YthggegdkpalgbaaGreatDoor
