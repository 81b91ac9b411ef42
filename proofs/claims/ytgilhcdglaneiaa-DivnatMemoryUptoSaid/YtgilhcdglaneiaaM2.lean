/- Parts Long, LongB, DivC, Gcd, Int, Same, Sxz, Sxl, Sxw, IntD, IntE, IntF, Pop, Power, Root, Zg, Sxb, Ab, Upto, Ref3, Ref3b, Ref3c, Ref3d, Ref3e, joined. -/
import Derived.Test.YtgilhcdglaneiaaM1
import Derived.IntWalk
import Derived.KernelRfl
import Derived.Test.YtgilhcdglaneiaaRows
import Derived.WalkKit
import Derived.ProofKit
import Derived.OpenShut
import Derived.JoinedCond
import Derived.ChangeSame
import Derived.ChangeSlices

namespace Go.Proofs.Ytgilhcdglaneiaa
open Go.RowKit
def RetQR (w:World) (q r:Nat) (e:Ending) (w':World):Prop:=
 ∃A n cap B m cap',e= .returned (.tuple #[.slice A n cap,.slice B m cap'])∧Hid (n=(wd q).length)∧Rd w' A n cap (wd q)∧Own w' w.heap.size 24 1 A n cap ((wd q).map W64)∧
  Hid (m=(wd r).length)∧Rd w' B m cap' (wd r)∧Own w' w.heap.size 24 1 B m cap' ((wd r).map W64)∧Ext w w'
def RetQRA (w:World) (q r:Nat) (e:Ending) (w':World):Prop:=
 ∃A n cap B m cap',e= .returned (.tuple #[.slice A n cap,.slice B m cap'])∧Hid (n=(wd q).length)∧Rd w' A n cap (wd q)∧Own w' w.heap.size 24 1 A n cap ((wd q).map W64)∧
  Hid (m=(wd r).length)∧Rd w' B m cap' (wd r)∧Own w' w.heap.size 24 1 B m cap' ((wd r).map W64)∧Ext w w'∧∀p p',A=some p→B=some p'→p.block≠p'.block
theorem RetQRA.old {w:World}{q r:Nat}{e:Ending}{w':World}(h:RetQRA w q r e w'):RetQR w q r e w':=by
 obtain⟨A,n,cap,B,m,cap',h1,h2,h3,h4,h5,h6,h7,h8,_⟩:=h
 exact⟨A,n,cap,B,m,cap',h1,h2,h3,h4,h5,h6,h7,h8⟩
theorem guess_near {U V M Uh Vh d:Nat}(hM:0<M) (hUh:Uh=U/M) (hVh:Vh=V/M) (hbig:WB≤Vh) (hd:d<WB) (h1:d*Vh≤Uh) (h2:d=18446744073709551615∨Uh<(d+1)*Vh) (hU:U<V*WB):U/V≤d∧d≤U/V+1:=by
 have hV:0<V:=by
  rcases Nat.eq_zero_or_pos V with h | h
  ·rw [h,Nat.zero_mul] at hU;omega
  ·exact h
 constructor
 ·rcases h2 with h | h
  ·have:U/V<WB:=Nat.div_lt_of_lt_mul hU
   rw [WB_def] at this
   omega
  ·have h3:U/V*Vh≤Uh:=by
    rw [hUh,Nat.le_div_iff_mul_le hM]
    have h4:Vh*M≤V:=by rw [hVh];exact Nat.div_mul_le_self _ _
    have h5:=Nat.mul_le_mul_left (U/V) h4
    have h6:=Nat.div_mul_le_self U V
    rw [←Nat.mul_assoc] at h5
    omega
   have h7:U/V*Vh<(d+1)*Vh:=by omega
   have:=Nat.lt_of_mul_lt_mul_right h7
   omega
 ·refine Nat.le_of_not_lt (fun hlt=>?_)
  have h3:d*Vh*M≤U:=by
   have:=Nat.mul_le_mul_right M h1
   have h4:Uh*M≤U:=by rw [hUh];exact Nat.div_mul_le_self _ _
   omega
  have h4:V<(Vh+1)*M:=by rw [hVh,Nat.mul_comm];exact Nat.lt_mul_div_succ V hM
  have h5:U<(U/V+1)*V:=by rw [Nat.mul_comm];exact Nat.lt_mul_div_succ U hV
  have h6:(U/V+1)*V≤(d-1)*V:=Nat.mul_le_mul_right V (by omega)
  have h7:(d-1)*V≤(d-1)*((Vh+1)*M):=Nat.mul_le_mul_left _ (Nat.le_of_lt h4)
  have h8:d*Vh*M<(d-1)*(Vh+1)*M:=by
   rw [Nat.mul_assoc (d-1)]
   exact Nat.lt_of_le_of_lt h3 (Nat.lt_of_lt_of_le h5 (Nat.le_trans h6 h7))
  have h9:=Nat.lt_of_mul_lt_mul_right h8
  have hd0:0<d:=Nat.lt_of_le_of_lt (Nat.zero_le _) hlt
  clear hlt h3 h4 h5 h6 h7 h8
  obtain⟨d,rfl⟩:∃e,d=e+1:=⟨d-1,by omega⟩
  rw [Nat.add_sub_cancel,Nat.succ_mul,Nat.mul_add,Nat.mul_one] at h9
  omega
theorem long_case {D L K L1 d c:Nat}(hD:0<D) (hd1:L/D≤d) (hd2:d≤L/D+1) (_hK:L<K) (hL1:L1<K) (h:L1+d*D=L+K*c) (hc:c≤1):
  (c=0→d=L/D∧L1=L%D)∧(c=1→d=L/D+1∧∀L2 c2,c2≤1→L2<K→L2+K*c2=L1+D→L2=L%D):=by
 have e1:=Nat.div_add_mod L D
 have e2:=Nat.mod_lt L hD
 generalize L/D=q at*
 generalize L%D=r at*
 have hdd:d=q∨d=q+1:=by omega
 have e3:d*D=D*q∨d*D=D*q+D∧d=q+1:=by
  rcases hdd with rfl | rfl
  ·left;exact Nat.mul_comm _ _
  ·right;exact⟨by rw [Nat.succ_mul,Nat.mul_comm],rfl⟩
 have e4:d*D=D*q+D∨d*D=D*q∧d=q:=by
  rcases hdd with rfl | rfl
  ·right;exact⟨Nat.mul_comm _ _,rfl⟩
  ·left;rw [Nat.succ_mul,Nat.mul_comm]
 generalize d*D=a at*
 generalize D*q=b at*
 constructor
 ·rintro rfl
  rw [Nat.mul_zero,Nat.add_zero] at h
  rcases e4 with e4 | ⟨e4,e5⟩
  ·omega
  ·exact⟨e5,by omega⟩
 ·rintro rfl
  rw [Nat.mul_one] at h
  rcases e3 with e3 | ⟨e3,e5⟩
  ·omega
  ·refine⟨e5,fun L2 c2 hc2 hL2 h2=>?_⟩
   rcases (show c2=0∨c2=1 by omega) with rfl | rfl <;> omega
structure Lg (V U0 k:Nat) (l ql:List Nat):Prop where
 eq:U0=WB^k*nv (ql.drop k)*V+nv l
 lt:nv l<V*WB^k
theorem Lg.step {V U0 j q:Nat}{l l2 ql:List Nat}(h:Lg V U0 (j+1) l ql) (hj:j<ql.length) (hV:0<V) (hq:q=nv l/(WB^j*V)) (hl2:nv l2=nv l%(WB^j*V)):Lg V U0 j l2 (ql.set j q):=by
 have hD:0<WB^j*V:=Nat.mul_pos (Nat.pow_pos WB_pos) hV
 have e2:(ql.set j q).drop j=q::ql.drop (j+1):=by
  rw [List.drop_eq_getElem_cons (by rw [List.length_set];exact hj)]
  congr 1
  ·simp
  ·rw [List.drop_set_of_lt (by omega)]
 refine⟨?_,?_⟩
 ·have e3:=Nat.div_add_mod (nv l) (WB^j*V)
  rw [←hq,←hl2] at e3
  rw [h.eq,e2,nv_cons,Nat.mul_add,Nat.add_mul,Nat.pow_succ,Nat.mul_assoc (WB^j) WB,←e3]
  have e4:WB^j*q*V=WB^j*V*q:=Nat.mul_right_comm _ _ _
  omega
 ·rw [hl2,Nat.mul_comm V];exact Nat.mod_lt _ hD
theorem top_three {l:List Nat}{j n:Nat}(hn:2≤n) (hl:j+n+1≤l.length) (hw:Wf l) (hlt:nv l<WB^(j+n+1)):
  nv l/WB^(j+n-2)=(l.getD (j+n) 0*WB+l.getD (j+n-1) 0)*WB+l.getD (j+n-2) 0:=by
 obtain⟨m,rfl⟩:∃m,n=m+2:=⟨n-2,by omega⟩
 have e0:=nv_split l (j+(m+2)+1) hl
 have e00:nv l=nv (l.take (j+(m+2)+1)):=by
  rcases Nat.eq_zero_or_pos (nv (l.drop (j+(m+2)+1))) with h | h
  ·rw [h,Nat.mul_zero,Nat.add_zero] at e0;exact e0
  ·have:=Nat.le_mul_of_pos_right (WB^(j+(m+2)+1)) h
   omega
 have e1:=nv_take_snoc l (j+(m+2)) (by omega)
 have e2:=nv_take_snoc l (j+m+1) (by omega)
 have e3:=nv_take_snoc l (j+m) (by omega)
 rw [show j+m+1+1=j+(m+2) from by omega] at e2
 rw [show j+(m+2)-2=j+m from by omega,show j+(m+2)-1=j+m+1 from by omega,e00,e1,e2,e3]
 have h4:=nv_take_lt hw (j+m)
 rw [show WB^(j+(m+2))=WB^(j+m)*(WB*WB) from by rw [show j+(m+2)=j+m+1+1 from by omega,Nat.pow_succ,Nat.pow_succ,Nat.mul_assoc],show WB^(j+m+1)=WB^(j+m)*WB from Nat.pow_succ _ _]
 generalize l.getD (j+(m+2)) 0=u2
 generalize l.getD (j+m+1) 0=u1
 generalize l.getD (j+m) 0=u0
 have e5:nv (l.take (j+m))+WB^(j+m)*u0+WB^(j+m)*WB*u1+WB^(j+m)*(WB*WB)*u2=WB^(j+m)*((u2*WB+u1)*WB+u0)+nv (l.take (j+m)):=by
  have e6:WB^(j+m)*WB*u1=WB^(j+m)*(u1*WB):=by rw [Nat.mul_assoc,Nat.mul_comm WB u1]
  have e7:WB^(j+m)*(WB*WB)*u2=WB^(j+m)*(u2*WB*WB):=by rw [Nat.mul_assoc,Nat.mul_comm (WB*WB),←Nat.mul_assoc u2]
  rw [e6,e7,Nat.add_mul,Nat.mul_add,Nat.mul_add]
  omega
 rw [e5,Nat.mul_add_div (Nat.pow_pos WB_pos),Nat.div_eq_of_lt h4,Nat.add_zero]
theorem top_two {l:List Nat}{n:Nat}(hn:2≤n) (hl:l.length=n) (hw:Wf l):nv l/WB^(n-2)=l.getD (n-1) 0*WB+l.getD (n-2) 0:=by
 obtain⟨m,rfl⟩:∃m,n=m+2:=⟨n-2,by omega⟩
 have e0:nv l=nv (l.take (m+1+1)):=by rw [List.take_of_length_le (by omega)]
 have e1:=nv_take_snoc l (m+1) (by omega)
 have e2:=nv_take_snoc l m (by omega)
 have h4:=nv_take_lt hw m
 rw [show m+2-2=m from rfl,show m+2-1=m+1 from rfl,e0,e1,e2,Nat.pow_succ]
 generalize l.getD (m+1) 0=u1
 generalize l.getD m 0=u0
 have e5:nv (l.take m)+WB^m*u0+WB^m*WB*u1=WB^m*(u1*WB+u0)+nv (l.take m):=by
  rw [Nat.mul_assoc,Nat.mul_comm WB u1,Nat.mul_add];omega
 rw [e5,Nat.mul_add_div (Nat.pow_pos WB_pos),Nat.div_eq_of_lt h4,Nat.add_zero]
theorem long_guess {V U0 j n d:Nat}{l vs ql:List Nat}(h:Lg V U0 (j+1) l ql) (hn:2≤n) (hl:j+n+1≤l.length) (hw:Wf l) (hvl:vs.length=n) (hvw:Wf vs) (hV:nv vs=V) (hv1:0<vs.getD (n-1) 0):
  nv l<WB^(j+n+1)∧l.getD (j+n) 0≤vs.getD (n-1) 0∧(d≤18446744073709551615→d*(vs.getD (n-1) 0*WB+vs.getD (n-2) 0)≤(l.getD (j+n) 0*WB+l.getD (j+n-1) 0)*WB+l.getD (j+n-2) 0→
   (d=18446744073709551615∨(l.getD (j+n) 0*WB+l.getD (j+n-1) 0)*WB+l.getD (j+n-2) 0<(d+1)*(vs.getD (n-1) 0*WB+vs.getD (n-2) 0))→nv l/(WB^j*V)≤d∧d≤nv l/(WB^j*V)+1):=by
 have hVlt:V<WB^n:=by rw [←hV,←hvl];exact nv_lt hvw
 have hlt:nv l<WB^(j+n+1):=by
  have h1:=h.lt
  have h2:V*WB^(j+1)≤WB^n*WB^(j+1):=Nat.mul_le_mul_right _ (Nat.le_of_lt hVlt)
  rw [←Nat.pow_add,show n+(j+1)=j+n+1 from by omega] at h2
  omega
 have t3:=top_three hn hl hw hlt
 have t2:=top_two hn hvl hvw
 rw [hV] at t2
 refine⟨hlt,?_,?_⟩
 ·have h1:WB^(j+n)*l.getD (j+n) 0≤nv l:=by
   have e0:=nv_split l (j+n+1) hl
   have e1:=nv_take_snoc l (j+n) (by omega)
   omega
  have h2:V<WB^(n-1)*(vs.getD (n-1) 0+1):=by
   have e1:=nv_take_snoc vs (n-1) (by omega)
   rw [Nat.sub_add_cancel (by omega),List.take_of_length_le (by omega),hV] at e1
   have e2:=nv_take_lt hvw (n-1)
   rw [e1,Nat.mul_add,Nat.mul_one]
   omega
  have h3:V*WB^(j+1)<WB^(n-1)*(vs.getD (n-1) 0+1)*WB^(j+1):=Nat.mul_lt_mul_of_pos_right h2 (Nat.pow_pos WB_pos)
  rw [Nat.mul_right_comm,←Nat.pow_add,show n-1+(j+1)=j+n from by omega] at h3
  have h4:=h.lt
  have h5:WB^(j+n)*l.getD (j+n) 0<WB^(j+n)*(vs.getD (n-1) 0+1):=by omega
  have:=Nat.lt_of_mul_lt_mul_left h5
  omega
 ·intro hd h1 h2
  rw [←t3] at h1 h2
  rw [←t2] at h1 h2
  have hVh:V/WB^(n-2)=(WB^j*V)/WB^(j+n-2):=by
   rw [show j+n-2=j+(n-2) from by omega,Nat.pow_add,Nat.mul_div_mul_left _ _ (Nat.pow_pos WB_pos)]
  refine guess_near (M:=WB^(j+n-2)) (Nat.pow_pos WB_pos) rfl hVh ?_ (by rw [WB_def];omega) h1 h2 ?_
  ·rw [t2]
   have:=Nat.le_mul_of_pos_left WB hv1
   omega
  ·have:=h.lt
   rw [Nat.pow_succ,←Nat.mul_assoc,Nat.mul_comm V] at this
   exact this
theorem long_end {X Y s Q L:Nat}(hY:0<Y) (h:X*2^s=Q*(Y*2^s)+L) (hL:L<Y*2^s):Q=X/Y∧L/2^s=X%Y:=by
 have hp:=Nat.two_pow_pos s
 have h1:X*2^s/(Y*2^s)=Q:=by rw [h,Nat.mul_comm Q,Nat.mul_add_div (Nat.mul_pos hY hp),Nat.div_eq_of_lt hL,Nat.add_zero]
 have h2:X*2^s%(Y*2^s)=L:=by rw [h,Nat.mul_comm Q,Nat.mul_add_mod,Nat.mod_eq_of_lt hL]
 rw [Nat.mul_div_mul_right _ _ hp] at h1
 rw [Nat.mul_mod_mul_right] at h2
 exact⟨h1.symm,by rw [←h2,Nat.mul_div_cancel _ hp]⟩
theorem long_start {xs ys:List Nat}{N n s y:Nat}(hx:Wf xs) (hy:Wf ys) (hxl:xs.length=N) (hyl:ys.length=n) (hn:1≤n) (hnN:n≤N) (hyk:ys.getD (n-1) 0=y) (hy0:y≠0) (hyb:y≤18446744073709551615) (hs:s+blen y=64):
  s<64∧nv ys*2^s<WB^n∧nv xs*2^s<WB^(N+1)∧0<nv ys*2^s∧WB^(n-1)≤nv ys*2^s∧nv xs*2^s<nv ys*2^s*WB^(N+1-n):=by
 have hb:blen y≠0:=fun h=>hy0 (blen_eq_zero.1 h)
 have hp:=Nat.two_pow_pos s
 have e1:=nv_take_snoc ys (n-1) (by omega)
 rw [Nat.sub_add_cancel hn,List.take_of_length_le (by omega),hyk] at e1
 have h1:=nv_take_lt hy (n-1)
 have h2:WB^(n-1)≤nv ys:=by
  have:=Nat.le_mul_of_pos_right (WB^(n-1)) (show 0<y by omega)
  omega
 have h3:nv ys≤nv ys*2^s:=Nat.le_mul_of_pos_right _ hp
 have h4:=lt_blen y
 have hX:=nv_lt hx
 rw [hxl] at hX
 have hpw:=Nat.pow_pos (n:=n-1) WB_pos
 refine⟨by omega,?_,?_,by omega,by omega,?_⟩
 ·have h5:nv ys<WB^(n-1)*(y+1):=by rw [Nat.mul_add,Nat.mul_one];omega
  have h6:WB^(n-1)*(y+1)≤WB^(n-1)*2^blen y:=Nat.mul_le_mul_left _ h4
  have h7:nv ys*2^s<WB^(n-1)*2^blen y*2^s:=Nat.mul_lt_mul_of_pos_right (by omega) hp
  rw [Nat.mul_assoc,←Nat.pow_add,Nat.add_comm (blen y),hs,←WB_pow,←Nat.pow_succ,Nat.succ_eq_add_one,Nat.sub_add_cancel hn] at h7
  exact h7
 ·rw [Nat.pow_succ]
  have h5:2^s≤WB:=by rw [WB_pow];exact Nat.pow_le_pow_right (by omega) (by omega)
  have h6:=Nat.mul_lt_mul_of_pos_right hX hp
  have h7:=Nat.mul_le_mul_left (WB^N) h5
  omega
 ·have h5:WB^N≤nv ys*WB^(N+1-n):=by
   have:=Nat.mul_le_mul_right (WB^(N+1-n)) h2
   rw [←Nat.pow_add,show n-1+(N+1-n)=N from by omega] at this
   exact this
  rw [Nat.mul_right_comm]
  exact Nat.mul_lt_mul_of_pos_right (by omega) hp
theorem guess_quiet {u2 u1 u0 v1 v0 D:Nat}(h2:u2≤v1) (h1:u1≤18446744073709551615) (h0:u0≤18446744073709551615) (hv1:v1≤18446744073709551615) (hv0:v0≤18446744073709551615) (hpos:0<v1)
  (k1:D≤18446744073709551615) (k2:D*(v1*WB+v0)≤(u2*WB+u1)*WB+u0) (k3:D=18446744073709551615∨(u2*WB+u1)*WB+u0<(D+1)*(v1*WB+v0)) (w:World) (n:Nat):
  Calls Try.prog 108 #[.int .u64 (u2:Int),.int .u64 (u1:Int),.int .u64 (u0:Int),.int .u64 (v1:Int),.int .u64 (v0:Int)] (w.drewN n) (fun e w''=>e= .returned (.int .u64 (D:Int))∧∃m,w''=w.drewN m):=by
 refine Calls.quiet_of ((divnat_guess h2 h1 h0 hv1 hv0 hpos (w.drewN n)).mono ?_)
 rintro e w' ⟨d,rfl,a,b,c,m,rfl⟩
 rw [guess_only a b.out c.out k1 k2 k3]
 exact⟨rfl,m,rfl⟩
theorem lt_of_drop {l l1:List Nat}{K:Nat}(hl:K≤l.length) (hl1:K≤l1.length) (hw:Wf l1) (hd:l1.drop K=l.drop K) (h:nv l<WB^K):nv l1<WB^K:=by
 have e1:=nv_split l K hl
 have e2:=nv_split l1 K hl1
 have h3:=nv_take_lt hw K
 rw [hd] at e2
 rcases Nat.eq_zero_or_pos (nv (l.drop K)) with h0 | h0
 ·rw [h0,Nat.mul_zero] at e2;omega
 ·have:=Nat.le_mul_of_pos_right (WB^K) h0
  omega
set_option maxRecDepth 10000 in
set_option maxHeartbeats 8000000 in
theorem divnat_longA {w:World}{A B:Option Addr}{N cap n cap':Nat}{xs ys:List Nat}(hx:Rd w A N cap xs) (hN:N≤274877906944) (hy:Rd w B n cap' ys) (hn:2≤n) (hnN:n≤N) (htop:ys.getD (n-1) 0≠0):
  Calls Try.prog 84 #[.slice A N cap,.slice B n cap'] w (RetQRA w (nv xs/nv ys) (nv xs%nv ys)):=by
 obtain⟨b,y,rfl,hyk,hyb,hcy⟩:=hy.get (i:=n-1) (by omega)
 have hlx:=Lib.hid hx.len
 have hly:=Lib.hid hy.len
 have hyp:(0:Int)<(n:Int):=by omega
 go_enter Try.func84,Try.ntmps84
 go_wp2_with fail
 refine (bits_LeadingZeros64 y hyb _).mono ?_
 rintro e w' ⟨s,hs,hs64',rfl,rfl⟩
 have hstart:=long_start hx.wf hy.wf hlx.out hly.out (by omega) hnN hyk.out (by rw [←hyk.out];exact htop) hyb hs.out
 obtain⟨hs64,hVfit,hUfit,hVpos,hVlow,hUV⟩:=hstart
 have HVfit:=Lib.hid hVfit
 have HUfit:=Lib.hid hUfit
 have HVpos:=Lib.hid hVpos
 have HVlow:=Lib.hid hVlow
 have HUV:=Lib.hid hUV
 clear hVfit hUfit hVpos hVlow hUV htop
 go_wp2_with fail
 refine (divnat_shifted hy (by omega) hs64 (by omega) (Nat.le_refl _) HVfit.out).mono ?_
 rintro e w1 ⟨gv,vs,rfl,hgv,hbv,hwv,hlv,hvv,hx1⟩
 go_wp2_with fail
 refine (divnat_shifted (n:=N+1) (hx.ext hx1) (by omega) hs64 (by omega) (by omega) HUfit.out).mono ?_
 rintro e w2 ⟨gu,us,rfl,hgu,hbu,hwu,hlu,hvu,hx2⟩
 obtain⟨M,hM1,hM2⟩:∃M,M+n≤N+1∧N+1≤M+n:=⟨N+1-n,by omega,by omega⟩
 have hmk:=run_make1 (P:=Try.prog) Try.underlying22 info64 rfl (by decide) ((N:Int)-(n:Int)+1) (by omega) (by omega)
 have et:((N:Int)-(n:Int)+1).toNat=M:=by omega
 rw [et] at hmk
 clear et
 go_wp2_with fail
 clear hmk
 have hbv2:=hbv.ext hx2
 have hguv:gv<gu:=Nat.lt_of_lt_of_le hbv.lt hgu
 obtain⟨gq,hgq⟩:∃gq,w2.heap.size=gq:=⟨_,rfl⟩
 rw [hgq]
 have hguq:gu<gq:=by rw [←hgq];exact hbu.lt
 obtain⟨wa,hwa⟩:∃wa,w2.alloc (.cells (zc (.int .u64 0) M) 24)=wa:=⟨_,rfl⟩
 rw [hwa]
 have hbq:Bk wa gq 24 ((List.replicate M 0).map W64):=by
  rw [←hwa,←hgq,←replicate_W64];exact Bk.new' _ _ _
 have hea:Ext w2 wa:=by rw [←hwa];exact (Ext.refl w2).alloc _
 have hgw:w.heap.size≤gv:=hgv
 have hgw2:w.heap.size≤gu:=by omega
 have hgw3:w.heap.size≤gq:=by omega
 have hbva:=hbv2.ext hea
 have hbua:=hbu.ext hea
 have hexa:Ext w wa:=(hx1.trans hx2).trans hea
 clear hgq hwa hbv hbu hbv2 hea hcy
 have hL0:Hid (Lg (nv ys*2^s) (nv xs*2^s) M us (List.replicate M 0)):=by
  refine⟨?_,?_⟩
  ·rw [List.drop_of_length_le (by rw [List.length_replicate];exact Nat.le_refl _),hvu.out];simp [nv]
  ·rw [hvu.out,show M=N+1-n from by omega];exact HUV.out
 have hv1:Hid (0<vs.getD (n-1) 0):=by
  refine Nat.pos_of_ne_zero (fun h0=>?_)
  have e1:=nv_take_zero vs (n-1) (by rw [hlv.out];omega) h0
  rw [Nat.sub_add_cancel (by omega),List.take_of_length_le (by rw [hlv.out];exact Nat.le_refl _),hvv.out] at e1
  have e2:=nv_take_lt hwv (n-1)
  have:=HVlow.out
  omega
 go_loopw [11] (fun u wr=>∃(k:Nat) (l ql:List Nat),k≤M∧u= .int .i64 ((k:Int)-1)∧Hid (l.length=N+1)∧Wf l∧Hid (ql.length=M)∧Wf ql∧Bk wr gv 24 (vs.map W64)∧Bk wr gu 24 (l.map W64)∧Bk wr gq 24 (ql.map W64)∧
  Hid (Lg (nv ys*2^s) (nv xs*2^s) k l ql)∧Ext w wr) (fun u wr=>(intOf u+1).toNat)
 case atStart=>exact⟨M,us,_,Nat.le_refl _,val_int (by omega),hlu,hwu,List.length_replicate,Wf_zeros _,hbva,hbua,hbq,hL0,hexa⟩
 case round=>
  obtain⟨k,l,ql,hk,rfl,hll,hwl,hlq,hwq,hbv,hbu,hbq',hL,hr⟩:=hrel
  clear hbva hbua hbq hexa hL0 hlu hvu
  by_cases hk0:0<k
  ·obtain⟨j,rfl⟩:∃j,k=j+1:=⟨k-1,by omega⟩
   have ek:((j+1:Nat):Int)-1=(j:Int):=by omega
   rw [ek]
   obtain⟨u2,hu2k,hu2b,hcu2⟩:=hbu.word hwl (i:=j+n) (by rw [hll.out];omega)
   obtain⟨u1,hu1k,hu1b,hcu1⟩:=hbu.word hwl (i:=j+n-1) (by rw [hll.out];omega)
   obtain⟨u0,hu0k,hu0b,hcu0⟩:=hbu.word hwl (i:=j+n-2) (by rw [hll.out];omega)
   obtain⟨v1,hv1k,hv1b,hcv1⟩:=hbv.word hwv (i:=n-1) (by rw [hlv.out];omega)
   obtain⟨v0,hv0k,hv0b,hcv0⟩:=hbv.word hwv (i:=n-2) (by rw [hlv.out];omega)
   have hgs:=fun d=>long_guess (d:=d) hL.out hn (by rw [hll.out];omega) hwl hlv.out hwv hvv.out hv1.out
   rw [hu2k.out,hu1k.out,hu0k.out,hv1k.out,hv0k.out] at hgs
   have hu2v:u2≤v1:=(hgs 0).2.1
   have hv1p:0<v1:=by rw [←hv1k.out];exact hv1.out
   have HGS:=Lib.hid hgs
   clear hgs
   have hfin:∀(q:Nat) (l2:List Nat) (wr2:World),q=nv l/(WB^j*(nv ys*2^s))→nv l2=nv l%(WB^j*(nv ys*2^s))→q≤18446744073709551615→l2.length=N+1→Wf l2→Bk wr2 gv 24 (vs.map W64)→Bk wr2 gu 24 (l2.map W64)→Bk wr2 gq 24 ((ql.set j q).map W64)→Ext w wr2→
     ∃(k:Nat) (l ql:List Nat),k≤M∧Value.int .i64 ((j:Int)-1)= .int .i64 ((k:Int)-1)∧Hid (l.length=N+1)∧Wf l∧Hid (ql.length=M)∧Wf ql∧Bk wr2 gv 24 (vs.map W64)∧Bk wr2 gu 24 (l.map W64)∧Bk wr2 gq 24 (ql.map W64)∧
      Hid (Lg (nv ys*2^s) (nv xs*2^s) k l ql)∧Ext w wr2:=by
    intro q l2 wr2 h1 h2 h3 h4 h5 h6 h7 h8 h9
    exact⟨j,l2,ql.set j q,by omega,rfl,h4,h5,(show _=_ by rw [List.length_set];exact hlq.out),Wf_set hwq j (by rw [WB_def];omega),h6,h7,h8,hL.out.step (by rw [hlq.out];omega) HVpos.out h1 h2,h9⟩
   have FIN:=Lib.hid hfin
   clear hfin
   go_upto_region 9 with (fail)
   obtain⟨d,hdb,hd1,hd2⟩:=guess_is ((u2*WB+u1)*WB+u0) (v1*WB+v0) (by rw [WB_def];omega)
   have hdd:=Lib.hid ((HGS.out d).2.2 hdb hd1 hd2)
   have HLT:=Lib.hid (HGS.out d).1
   have HD1:=Lib.hid hd1
   have HD2:=Lib.hid hd2
   clear hd1 hd2 HGS
   have w1e:IntKind.i64.wrap ((j:Int)+(n:Int))=(j:Int)+(n:Int):=IntWalk.i64_in _ (by omega)
   have w2e:IntKind.i64.wrap ((j:Int)+(n:Int)-1)=(j:Int)+(n:Int)-1:=IntWalk.i64_in _ (by omega)
   have w3e:IntKind.i64.wrap ((j:Int)+(n:Int)-2)=(j:Int)+(n:Int)-2:=IntWalk.i64_in _ (by omega)
   have w4e:IntKind.i64.wrap ((n:Int)-1)=(n:Int)-1:=IntWalk.i64_in _ (by omega)
   have w5e:IntKind.i64.wrap ((n:Int)-2)=(n:Int)-2:=IntWalk.i64_in _ (by omega)
   have t1:((j:Int)+(n:Int)).toNat=j+n:=by omega
   have t2:((j:Int)+(n:Int)-1).toNat=j+n-1:=by omega
   have t3:((j:Int)+(n:Int)-2).toNat=j+n-2:=by omega
   have t4:((n:Int)-1).toNat=n-1:=by omega
   have t5:((n:Int)-2).toNat=n-2:=by omega
   have b1:0≤(j:Int)+(n:Int):=by omega
   have b2:0≤(j:Int)+(n:Int)-1:=by omega
   have b3:0≤(j:Int)+(n:Int)-2:=by omega
   have b4:0≤(n:Int)-1:=by omega
   have b5:0≤(n:Int)-2:=by omega
   have c1:(j:Int)+(n:Int)<(N:Int)+1:=by omega
   have c2:(j:Int)+(n:Int)-1<(N:Int)+1:=by omega
   have c3:(j:Int)+(n:Int)-2<(N:Int)+1:=by omega
   have c4:(n:Int)-1<(n:Int):=by omega
   have c5:(n:Int)-2<(n:Int):=by omega
   go_quiet (exact guess_quiet hu2v hu1b hu0b hv1b hv0b hv1p hdb HD1.out HD2.out _ _)
   clear w1e w2e w3e w4e w5e t1 t2 t3 t4 t5 b1 b2 b3 b4 b5 c1 c2 c3 c4 c5
   obtain⟨wd,hwd⟩:∃wd,wr.drewN nq=wd:=⟨_,rfl⟩
   rw [hwd]
   have hbu1:Bk wd gu 24 (l.map W64):=by rw [←hwd];exact hbu.drewN nq
   have hbv1:Bk wd gv 24 (vs.map W64):=by rw [←hwd];exact hbv.drewN nq
   have hbq1:Bk wd gq 24 (ql.map W64):=by rw [←hwd];exact hbq'.drewN nq
   have hr1:Ext w wd:=by rw [←hwd];exact hr.drewN nq
   clear hwd hcu2 hcu1 hcu0 hcv1 hcv0
   have hvrd:=hbv1.rd hwv (o:=0) (n:=n) (cap:=n) (Nat.le_refl _) (by rw [hlv.out];omega) (by rw [len_maxLen];omega)
   rw [List.drop_zero,List.take_of_length_le (by rw [hlv.out];exact Nat.le_refl _)] at hvrd
   go_wp2_with fail
   rw [show j+n+1-j=n+1 from by omega]
   refine (divnat_take (o:=j) (m:=n) hbu1 hwl hvrd (fun a ha=>by cases ha;show gv≠gu;omega) (by rw [hll.out];omega) (by omega) (by omega) hdb).mono ?_
   rintro e w4 ⟨bb,rfl,l1,c,hb4,hw4,hll4,hdr4,hc4,hP4,hu4⟩
   have hll4':Hid (l1.length=N+1):=(show _=_ by rw [hll4.out,hll.out])
   have hL1:Hid (nv l1<WB^(j+n+1)):=lt_of_drop (by rw [hll.out];omega) (by rw [hll4'.out];omega) hw4 hdr4.out HLT.out
   have hcase:=long_case (D:=WB^j*(nv ys*2^s)) (Nat.mul_pos (Nat.pow_pos WB_pos) HVpos.out) hdd.out.1 hdd.out.2 HLT.out hL1.out (by
    have h:=hP4.out.2
    rw [hvv.out,Nat.mul_left_comm] at h
    exact h) hc4
   have hbc:=hP4.out.1
   have hbv4:=hbv1.upd hu4 (by omega)
   have hbq4:=hbq1.upd hu4 (by omega)
   have hr4:=hu4.ext hr1 hgw2
   have hbb:bb=false∧c=0∨bb=true∧c=1:=by
    rcases bb with _ | _
    ·left;refine⟨rfl,?_⟩;simp at hbc;omega
    ·right;exact⟨rfl,hbc.1 rfl⟩
   clear hP4 hbc hc4 hbv hbu hbq' hbu1 hbv1 hbq1 hr hr1 hvrd
   rcases hbb with⟨rfl,hc⟩ | ⟨rfl,hc⟩
   ·have h0:=Lib.hid (hcase.1 hc)
    clear hcase hc
    obtain⟨z,hz,_,hcz⟩:=hbq4.word hwq (i:=j) (by rw [hlq.out];omega)
    have hfz:=hbq4.frozen j
    have hjM:(j:Int)<(M:Int):=by omega
    go_wp2_with fail
    go_roundw
    case rel=>exact FIN.out d l1 _ h0.out.1 h0.out.2 hdb hll4'.out hw4 (hbv4.far (by show gv≠gq;omega) _) (hb4.far (by show gu≠gq;omega) _) (by rw [←map_W64_set];exact hbq4.set _ _) (hr4.setCell hgw3 _)
    case measure=>simp [intOf]
   ·have h0:=Lib.hid (hcase.2 hc)
    clear hcase hc
    obtain⟨q,rfl⟩:∃q,d=q+1:=⟨_,h0.out.1⟩
    have hq:Hid (q=nv l/(WB^j*(nv ys*2^s))):=(show _=_ from Nat.succ.inj h0.out.1)
    have hvrd:=hbv4.rd hwv (o:=0) (n:=n) (cap:=n) (Nat.le_refl _) (by rw [hlv.out];omega) (by rw [len_maxLen];omega)
    rw [List.drop_zero,List.take_of_length_le (by rw [hlv.out];exact Nat.le_refl _)] at hvrd
    go_wp2_with fail
    rw [show j+n+1-j=n+1 from by omega]
    refine (divnat_give (o:=j) (m:=n) hb4 hw4 hvrd (fun a ha=>by cases ha;show gv≠gu;omega) (by rw [hll4'.out];omega) (by omega) (by omega)).mono ?_
    rintro e w5 ⟨rfl,l2,c2,hb5,hw5,hll5,hdr5,hc5,hP5,hu5⟩
    have hll5':Hid (l2.length=N+1):=(show _=_ by rw [hll5.out,hll4'.out])
    have hL2:Hid (nv l2<WB^(j+n+1)):=lt_of_drop (by rw [hll4'.out];omega) (by rw [hll5'.out];omega) hw5 hdr5.out hL1.out
    have hfin2:Hid (nv l2=nv l%(WB^j*(nv ys*2^s))):=h0.out.2 (nv l2) c2 hc5 hL2.out (by have h:=hP5.out;rw [hvv.out] at h;exact h)
    have hbv5:=hbv4.upd hu5 (by omega)
    have hbq5:=hbq4.upd hu5 (by omega)
    have hr5:=hu5.ext hr4 hgw2
    clear hP5 hc5 hbv4 hbq4 hr4 hb4 hvrd h0
    obtain⟨z,hz,_,hcz⟩:=hbq5.word hwq (i:=j) (by rw [hlq.out];omega)
    have hfz:=hbq5.frozen j
    have hjM:(j:Int)<(M:Int):=by omega
    go_wp2_with fail
    go_roundw
    case rel=>exact FIN.out q l2 _ hq.out hfin2.out (by omega) hll5'.out hw5 (hbv5.far (by show gv≠gq;omega) _) (hb5.far (by show gu≠gq;omega) _) (by rw [←map_W64_set];exact hbq5.set _ _) (hr5.setCell hgw3 _)
    case measure=>simp [intOf]
  ·obtain rfl:k=0:=by omega
   have ek:((0:Nat):Int)-1= -1:=rfl
   rw [ek]
   have hLv:Hid (nv l<nv ys*2^s):=by
    have:=hL.out.lt
    rw [Nat.pow_zero,Nat.mul_one] at this
    exact this
   have hQ:=long_end (X:=nv xs) (Y:=nv ys) (s:=s) (Q:=nv ql) (L:=nv l) (Nat.pos_of_mul_pos_right HVpos.out) (by have:=hL.out.eq;simpa using this) hLv.out
   have hln:Hid (nv (l.take n)=nv l):=by
    show _=_
    have e1:=nv_split l n (by rw [hll.out];omega)
    rcases Nat.eq_zero_or_pos (nv (l.drop n)) with h0 | h0
    ·rw [h0,Nat.mul_zero,Nat.add_zero] at e1;exact e1.symm
    ·have:=Nat.le_mul_of_pos_right (WB^n) h0
     have h2:=hLv.out
     have h3:=HVfit.out
     omega
   have HQ:=Lib.hid hQ
   clear hQ
   have hurd:=hbu.rd hwl (o:=0) (n:=n) (cap:=N+1) (by omega) (by rw [hll.out];omega) (by rw [len_maxLen];omega)
   rw [List.drop_zero] at hurd
   go_wp2_with fail
   refine (nat_Shr hurd (by omega) (by omega)).mono ?_
   rintro e w6 ⟨A6,n6,c6,rfl,hn6,hr6,ho6,hx6⟩
   rw [hln.out,HQ.out.2] at hn6 hr6 ho6
   have hqrd:=(hbq'.ext hx6).rd hwq (o:=0) (n:=M) (cap:=M) (Nat.le_refl _) (by rw [hlq.out];omega) (by rw [len_maxLen];omega)
   rw [List.drop_zero,List.take_of_length_le (by rw [hlq.out];exact Nat.le_refl _)] at hqrd
   go_wp2_with fail
   refine (nat_Least hqrd (by omega)).mono ?_
   rintro e w7 ⟨A7,n7,c7,rfl,hn7,hr7,ho7,hx7⟩
   rw [HQ.out.1] at hn7 hr7 ho7
   go_wp2_with fail
   go_ret2
   exact⟨A7,n7,c7,A6,n6,c6,rfl,hn7,hr7,ho7.mono (hr.trans hx6).size,hn6,hr6.ext hx7,(ho6.mono hr.size).ext hx7,(hr.trans hx6).trans hx7,fun p p' hp hp'=>by have h1:=ho7.block p hp;have h2:=ho6.block p' hp';omega⟩
def RetQRE (w:World) (q r:Nat) (er:Int) (e:Ending) (w':World):Prop:=
 ∃A n cap B m cap',e= .returned (.tuple #[.slice A n cap,.slice B m cap',.int .i64 er])∧Hid (n=(wd q).length)∧Rd w' A n cap (wd q)∧Own w' w.heap.size 24 1 A n cap ((wd q).map W64)∧
  Hid (m=(wd r).length)∧Rd w' B m cap' (wd r)∧Own w' w.heap.size 24 1 B m cap' ((wd r).map W64)∧Ext w w'
def RetQREA (w:World) (q r:Nat) (er:Int) (e:Ending) (w':World):Prop:=
 ∃A n cap B m cap',e= .returned (.tuple #[.slice A n cap,.slice B m cap',.int .i64 er])∧Hid (n=(wd q).length)∧Rd w' A n cap (wd q)∧Own w' w.heap.size 24 1 A n cap ((wd q).map W64)∧
  Hid (m=(wd r).length)∧Rd w' B m cap' (wd r)∧Own w' w.heap.size 24 1 B m cap' ((wd r).map W64)∧Ext w w'∧∀p p',A=some p→B=some p'→p.block≠p'.block
theorem RetQREA.old {w:World}{q r:Nat}{er:Int}{e:Ending}{w':World}(h:RetQREA w q r er e w'):RetQRE w q r er e w':=by
 obtain⟨A,n,cap,B,m,cap',h1,h2,h3,h4,h5,h6,h7,h8,_⟩:=h
 exact⟨A,n,cap,B,m,cap',h1,h2,h3,h4,h5,h6,h7,h8⟩
theorem wd_top {m:Nat}(h:m≠0):(wd m).getD ((wd m).length-1) 0≠0:=by
 intro h0
 have hl:0<(wd m).length:=Nat.pos_of_ne_zero (fun e=>h (len_wd_zero.1 e))
 have e1:=nv_take_zero (wd m) ((wd m).length-1) (by omega) h0
 rw [Nat.sub_add_cancel (by omega),List.take_of_length_le (Nat.le_refl _),nv_wd] at e1
 have h2:=nv_take_lt (Wf_wd m) ((wd m).length-1)
 have h3:=pow_len_le h
 omega
theorem wd_len_one {m v:Nat}(h:1=(wd m).length) (hv:(wd m).getD 0 0=v):m=v:=by
 have e1:=nv_take_snoc (wd m) 0 (by omega)
 rw [List.take_of_length_le (by omega),nv_wd,hv] at e1
 simpa [nv] using e1
theorem divnat_DivMod_bad {w:World}{A B:Option Addr}{n cap n' cap':Nat}{ys:List Nat}(hy:Rd w B n' cap' ys) (hl':n'≤1099511627775) (h0:nv ys=0):
  Calls Try.prog 57 #[.slice A n cap,.slice B n' cap'] w (fun e w'=>e= .returned (.tuple #[.slice none 0 0,.slice none 0 0,.int .i64 4])∧Ext w w'):=by
 go_enter Try.func57,Try.ntmps57
 go_wp2_with fail
 refine (nat_Least hy (by omega)).mono ?_
 rintro e w1 ⟨A1,n1,c1,rfl,hn1,hr1,ho1,hx1⟩
 obtain rfl:n1=0:=by rw [hn1.out,h0];rfl
 go_wp2_with fail
 go_ret3
 exact⟨rfl,hx1⟩
theorem divnat_DivModA {w:World}{A B:Option Addr}{n cap n' cap':Nat}{xs ys:List Nat}(hx:Rd w A n cap xs) (hl:n≤274877906944) (hy:Rd w B n' cap' ys) (hl':n'≤274877906944) (h0:nv ys≠0):
  Calls Try.prog 57 #[.slice A n cap,.slice B n' cap'] w (RetQREA w (nv xs/nv ys) (nv xs%nv ys) 0):=by
 go_enter Try.func57,Try.ntmps57
 go_wp2_with fail
 refine (nat_Least hy (by omega)).mono ?_
 rintro e w1 ⟨A1,n1,c1,rfl,hn1,hr1,ho1,hx1⟩
 have hn1p:0<n1:=by
  rw [hn1.out];exact Nat.pos_of_ne_zero (fun e=>h0 (len_wd_zero.1 e))
 have hn1b:n1≤n':=by
  have:=len_wd_nv hy.wf
  rw [hn1.out,←hy.len];exact this
 have b0:((n1:Int)==0)=false:=by simp;omega
 by_cases h1:n1=1
 ·subst h1
  obtain⟨a,v,rfl,hvk,hvb,hcv⟩:=hr1.get (i:=0) (by omega)
  have hv:Hid (nv ys=v):=wd_len_one hn1.out hvk.out
  have hcv0:w1.cell? a=some (.int .u64 (v:Int)):=by simpa [Addr.add] using hcv
  go_wp2_with fail
  refine (divnat_Word (hx.ext hx1) (by omega) (v:=v) (by rw [←hv.out];exact h0) hvb).mono ?_
  rintro e w2 ⟨A2,n2,c2,r,rfl,hr,hrb,hn2,hr2,ho2,hx2⟩
  go_wp2_with fail
  have hone:=Rd.one w2 hrb
  refine (nat_Least hone (by omega)).mono ?_
  rintro e w3 ⟨A3,n3,c3,rfl,hn3,hr3,ho3,hx3⟩
  rw [nv_one,hr.out,←hv.out] at hn3 hr3 ho3
  rw [←hv.out] at hn2 hr2 ho2
  have hal:Ext w2 w3:=((Ext.refl w2).alloc _).trans hx3
  go_wp2_with fail
  go_ret3
  exact⟨A2,n2,c2,A3,n3,c3,rfl,hn2,hr2.ext hal,(ho2.mono hx1.size).ext hal,hn3,hr3,ho3.mono (Nat.le_trans (hx1.trans hx2).size (by simp)),(hx1.trans hx2).trans hal,fun p p' hp hp'=>by have h1:=ho2.block p hp;have h2:=ho3.block p' hp';simp only [World.alloc,Array.size_push] at h2;omega⟩
 ·have b1:((n1:Int)==1)=false:=by simp;omega
  go_wp2_with fail
  refine (nat_Least (hx.ext hx1) (by omega)).mono ?_
  rintro e w2 ⟨A2,n2,c2,rfl,hn2,hr2,ho2,hx2⟩
  have hn2b:n2≤n:=by
   have:=len_wd_nv hx.wf
   rw [hn2.out,←hx.len];exact this
  go_wp2_with fail
  refine (nat_Cmp hr2 (by omega) (hr1.ext hx2) (by omega)).mono ?_
  rintro e w3 ⟨c,hc,hcl,hch,rfl,hx3⟩
  rw [nv_wd,nv_wd] at hc
  by_cases hlt:nv xs<nv ys
  ·have hneg:c<0:=by rw [hc.out];exact cmp3_neg.2 hlt
   go_wp2_with fail
   go_ret3
   rw [Nat.div_eq_of_lt hlt,Nat.mod_eq_of_lt hlt]
   exact⟨none,0,0,A2,n2,c2,rfl,rfl,Rd.nil _,Own.nil _ _ _ _,hn2,hr2.ext hx3,(ho2.mono hx1.size).ext hx3,(hx1.trans hx2).trans hx3,fun p p' hp=>by cases hp⟩
  ·have hneg:¬c<0:=by rw [hc.out,cmp3_neg];exact hlt
   have HL:=Lib.hid hlt
   have hn12:n1≤n2:=by rw [hn1.out,hn2.out];exact len_wd_mono (by omega)
   clear hlt
   go_wp2_with fail
   refine (divnat_longA (hr2.ext hx3) (by omega) ((hr1.ext hx2).ext hx3) (by omega) hn12 (by rw [hn1.out];exact wd_top h0)).mono ?_
   rintro e w4 ⟨A4,n4,c4,A5,n5,c5,rfl,hn4,hr4,ho4,hn5,hr5,ho5,hx4,hap⟩
   rw [nv_wd,nv_wd] at hn4 hr4 ho4 hn5 hr5 ho5
   go_wp2_with fail
   go_ret3
   have hs:=((hx1.trans hx2).trans hx3)
   exact⟨A4,n4,c4,A5,n5,c5,rfl,hn4,hr4,ho4.mono hs.size,hn5,hr5,ho5.mono hs.size,hs.trans hx4,hap⟩
theorem divnat_DivMod {w:World}{A B:Option Addr}{n cap n' cap':Nat}{xs ys:List Nat}(hx:Rd w A n cap xs) (hl:n≤274877906944) (hy:Rd w B n' cap' ys) (hl':n'≤274877906944) (h0:nv ys≠0):
  Calls Try.prog 57 #[.slice A n cap,.slice B n' cap'] w (RetQRE w (nv xs/nv ys) (nv xs%nv ys) 0):=(divnat_DivModA hx hl hy hl' h0).mono fun e w' h=>h.old
theorem divnat_Exact_bad {w:World}{A B:Option Addr}{n cap n' cap':Nat}{ys:List Nat}(hy:Rd w B n' cap' ys) (hl':n'≤1099511627775) (h0:nv ys=0):
  Calls Try.prog 66 #[.slice A n cap,.slice B n' cap'] w (fun e w'=>e= .returned (.tuple #[.slice none 0 0,.int .i64 4])∧Ext w w'):=by
 go_enter Try.func66,Try.ntmps66
 go_wp2_with fail
 refine (divnat_DivMod_bad hy hl' h0).mono ?_
 rintro e w1 ⟨rfl,hx1⟩
 go_wp2_with fail
 go_ret2
 exact⟨rfl,hx1⟩
theorem divnat_Exact_not {w:World}{A B:Option Addr}{n cap n' cap':Nat}{xs ys:List Nat}(hx:Rd w A n cap xs) (hl:n≤274877906944) (hy:Rd w B n' cap' ys) (hl':n'≤274877906944) (h0:nv ys≠0) (h1:nv xs%nv ys≠0):
  Calls Try.prog 66 #[.slice A n cap,.slice B n' cap'] w (fun e w'=>e= .returned (.tuple #[.slice none 0 0,.int .i64 8])∧Ext w w'):=by
 go_enter Try.func66,Try.ntmps66
 go_wp2_with fail
 refine (divnat_DivMod hx hl hy hl' h0).mono ?_
 rintro e w1 ⟨A4,n4,c4,A5,n5,c5,rfl,hn4,hr4,ho4,hn5,hr5,ho5,hx4⟩
 have hp:0<n5:=by rw [hn5.out];exact Nat.pos_of_ne_zero (fun e=>h1 (len_wd_zero.1 e))
 go_wp2_with fail
 go_ret2
 exact⟨rfl,hx4⟩
theorem divnat_Exact {w:World}{A B:Option Addr}{n cap n' cap':Nat}{xs ys:List Nat}(hx:Rd w A n cap xs) (hl:n≤274877906944) (hy:Rd w B n' cap' ys) (hl':n'≤274877906944) (h0:nv ys≠0) (h1:nv xs%nv ys=0):
  Calls Try.prog 66 #[.slice A n cap,.slice B n' cap'] w (RetWE w (nv xs/nv ys) 0):=by
 go_enter Try.func66,Try.ntmps66
 have H1:=Lib.hid h1
 clear h1
 go_wp2_with fail
 refine (divnat_DivMod hx hl hy hl' h0).mono ?_
 rintro e w1 ⟨A4,n4,c4,A5,n5,c5,rfl,hn4,hr4,ho4,hn5,hr5,ho5,hx4⟩
 obtain rfl:n5=0:=by rw [hn5.out,H1.out];rfl
 go_wp2_with fail
 go_ret2
 exact⟨A4,n4,c4,rfl,hn4,hr4,ho4,hx4⟩
def wordOf:Option Value→Nat
 | some (.int _ z)=>z.toNat
 | _=>0
def numAt (w:World):Value→Nat
 | .slice (some a) n _=>nv ((List.range n).map fun i=>wordOf (w.cell? (a.add i)))
 | _=>0
theorem Rd.numAt {w:World}{A:Option Addr}{n cap:Nat}{xs:List Nat}(h:Rd w A n cap xs):Go.Proofs.Ytgilhcdglaneiaa.numAt w (.slice A n cap)=nv xs:=by
 have hlen:=h.len
 cases A with
 | none=>
  have hn:n=0:=by
   rcases Nat.eq_zero_or_pos n with h0 | h0
   ·exact h0
   ·obtain⟨a,ha,_⟩:=h.rv.get 0 (by omega)
    cases ha
  have:xs= []:=List.eq_nil_of_length_eq_zero (by omega)
  subst this
  rfl
 | some a=>
  show nv _=_
  congr 1
  apply List.ext_getElem
  ·simp [hlen]
  ·intro i h1 h2
   obtain⟨a',x,ha,hx,hxb,hc⟩:=h.get (i:=i) (by omega)
   cases ha
   have e:xs[i]=x:=by
    have:=hx.out
    simpa [List.getD_eq_getElem?_getD,List.getElem?_eq_getElem h2] using this
   simp [hc,wordOf,e]
theorem gcd_step (a b:Nat):Nat.gcd a b=Nat.gcd b (a%b):=by
 rw [Nat.gcd_comm a b,Nat.gcd_rec b a,Nat.gcd_comm]
def OneP (w:World) (x:Nat) (e:Ending) (w':World):Prop:=
 ∃g,e= .returned (.slice (some ⟨g,0,none⟩) 1 1)∧w.heap.size≤g∧Bk w' g 24 ([x].map W64)∧x≤18446744073709551615∧Ext w w'
theorem divnat_words {x y:Nat}(hx:x≤18446744073709551615) (hy:y≤18446744073709551615) (w:World):
  Calls Try.prog 97 #[.int .u64 (x:Int),.int .u64 (y:Int)] w (OneP w (Nat.gcd x y)):=by
 go_enter Try.func97,Try.ntmps97
 go_wp2_with fail
 go_loopw [0,1] (fun u v wr=>∃a b:Nat,u= .int .u64 (a:Int)∧v= .int .u64 (b:Int)∧a≤18446744073709551615∧b≤18446744073709551615∧Hid (Nat.gcd a b=Nat.gcd x y)∧Ext w wr) (fun u v wr=>(intOf v).toNat)
 case atStart=>exact⟨x,y,rfl,rfl,hx,hy,rfl,Ext.refl w⟩
 case round=>
  obtain⟨a,b,rfl,rfl,ha,hb,hg,hr⟩:=hrel
  by_cases h0:b=0
  ·subst h0
   have b0:((0:Int) != 0)=false:=rfl
   go_wp2_with fail
   go_ret
   have e:Nat.gcd x y=a:=by rw [←hg.out,Nat.gcd_zero_right]
   rw [e]
   exact⟨wr.heap.size,rfl,hr.size,Bk.new wr 24 [.int .u64 (a:Int)],ha,hr.alloc _⟩
  ·have b0:((b:Int) != 0)=true:=by simp;omega
   have b1:((b:Int)==0)=false:=by simp;omega
   have h2:¬(b:Int)≤0:=by omega
   have h5:=Int.emod_nonneg (a:Int) (b:=(b:Int)) (by omega)
   have h6:=Int.emod_lt_of_pos (a:Int) (b:=(b:Int)) (by omega)
   have HM:=Lib.hid (Nat.mod_lt a (show 0<b by omega))
   go_wp2_with fail
   go_quiet (fail)
   go_wp2_with fail
   go_roundw
   case rel=>exact⟨b,a%b,rfl,val_int (by simp),hb,by have:=HM.out;omega,(show _=_ by rw [←hg.out,←gcd_step]),hr.drewN _⟩
   case measure=>have:=HM.out;simp [intOf];omega
set_option maxHeartbeats 2000000 in
theorem divnat_Gcd {w:World}{A B:Option Addr}{n cap n' cap':Nat}{xs ys:List Nat}(hx:Rd w A n cap xs) (hl:n≤274877906944) (hy:Rd w B n' cap' ys) (hl':n'≤274877906944):
  Calls Try.prog 67 #[.slice A n cap,.slice B n' cap'] w (RetW w (Nat.gcd (nv xs) (nv ys))):=by
 go_enter Try.func67,Try.ntmps67
 go_wp2_with fail
 refine (nat_Least hx (by omega)).mono ?_
 rintro e w1 ⟨A1,n1,c1,rfl,hn1,hr1,ho1,hx1⟩
 have hn1b:n1≤274877906944:=by rw [hn1.out];exact Nat.le_trans (by have:=len_wd_nv hx.wf;rw [hx.len] at this;exact this) hl
 go_wp2_with fail
 refine (nat_Least (hy.ext hx1) (by omega)).mono ?_
 rintro e w2 ⟨A2,n2,c2,rfl,hn2,hr2,ho2,hx2⟩
 have hn2b:n2≤274877906944:=by rw [hn2.out];exact Nat.le_trans (by have:=len_wd_nv hy.wf;rw [hy.len] at this;exact this) hl'
 go_wp2_with fail
 go_loopw [5,6] (fun u v wr=>∃(A B:Option Addr) (n cap m cap' a b:Nat),u= .slice A n cap∧v= .slice B m cap'∧n≤274877906944∧m≤274877906944∧Hid (n=(wd a).length)∧Hid (m=(wd b).length)∧Rd wr A n cap (wd a)∧Own wr w.heap.size 24 1 A n cap ((wd a).map W64)∧
  Rd wr B m cap' (wd b)∧Own wr w.heap.size 24 1 B m cap' ((wd b).map W64)∧Hid (Nat.gcd a b=Nat.gcd (nv xs) (nv ys))∧Ext w wr) (fun u v wr=>numAt wr v)
 case atStart=>exact⟨A1,A2,n1,c1,n2,c2,nv xs,nv ys,rfl,rfl,hn1b,hn2b,hn1,hn2,hr1.ext hx2,ho1.ext hx2,hr2,ho2.mono hx1.size,rfl,hx1.trans hx2⟩
 case round=>
  obtain⟨A,B,n,cap,m,cap',a,b,rfl,rfl,hnb,hmb,hn,hm,hra,hoa,hrb,hob,hg,hr⟩:=hrel
  clear hr1 hr2 ho1 ho2 hx hy hn1 hn2
  by_cases hm0:0<m
  ·have hb0:b≠0:=fun h=>by rw [hm.out,h] at hm0;simp [wd_zero] at hm0
   have HB:=Lib.hid hb0
   clear hb0
   by_cases hcase:n=1∧m=1
   ·obtain⟨rfl,rfl⟩:=hcase
    obtain⟨p,x,rfl,hxk,hxb,hcx⟩:=hra.get (i:=0) (by omega)
    obtain⟨q,y,rfl,hyk,hyb,hcy⟩:=hrb.get (i:=0) (by omega)
    have ea:Hid (a=x):=wd_len_one hn.out hxk.out
    have eb:Hid (b=y):=wd_len_one hm.out hyk.out
    have hcx0:wr.cell? p=some (.int .u64 (x:Int)):=by simpa [Addr.add] using hcx
    have hcy0:wr.cell? q=some (.int .u64 (y:Int)):=by simpa [Addr.add] using hcy
    clear hcx hcy
    go_wp2_with fail
    go_region_with (first
     | (go_at_call 97;refine (divnat_words hxb hyb _).mono ?_;rintro er w5 ⟨g5,rfl,hg5,hb5,hx5b,hx5⟩))
    all_goals
     go_wp2_with fail
     go_ret
     have h5:Ext w w5:=hr.trans (Ext.trans (by repeat (first | exact Ext.refl _ | assumption | apply Ext.drewN | apply Ext.drew | apply Ext.alloc)) hx5)
     have hgs:wr.heap.size≤g5:=hg5
     have hne:Nat.gcd x y≠0:=by
      have:=Nat.gcd_pos_of_pos_right x (n:=y) (Nat.pos_of_ne_zero (by rw [←eb.out];exact HB.out))
      omega
     have e6:Nat.gcd (nv xs) (nv ys)=Nat.gcd x y:=by rw [←hg.out,ea.out,eb.out]
     rw [e6]
     exact RetW_mk (ys:= [Nat.gcd x y]) (Nat.le_trans hr.size hgs) hb5 rfl (Nat.le_refl _) (by rw [len_maxLen];omega) (by rw [wd_small (by rw [WB_def];omega) hne];rfl) h5
   ·have hd:decide ((n:Int)=1)=false∨decide ((m:Int)=1)=false:=by
     by_cases h:n=1
     ·right;simp;omega
     ·left;simp;omega
    have key:∀(Q' R':Option Addr) (nq cq nr cr:Nat) (w5:World),Hid (nr=(wd (a%b)).length)→Rd w5 R' nr cr (wd (a%b))→Own w5 wr.heap.size 24 1 R' nr cr ((wd (a%b)).map W64)→Ext wr w5→
      (∃(A B':Option Addr) (n cap m' cap'' a b:Nat),Value.slice B m cap'= .slice A n cap∧Value.slice R' nr cr= .slice B' m' cap''∧n≤274877906944∧m'≤274877906944∧Hid (n=(wd a).length)∧Hid (m'=(wd b).length)∧Rd w5 A n cap (wd a)∧Own w5 w.heap.size 24 1 A n cap ((wd a).map W64)∧
       Rd w5 B' m' cap'' (wd b)∧Own w5 w.heap.size 24 1 B' m' cap'' ((wd b).map W64)∧Hid (Nat.gcd a b=Nat.gcd (nv xs) (nv ys))∧Ext w w5)∧numAt w5 (.slice R' nr cr)<numAt wr (.slice B m cap'):=by
     intro Q' R' nq cq nr cr w5 h1 h2 h3 h4
     have hmod:a%b<b:=Nat.mod_lt a (Nat.pos_of_ne_zero HB.out)
     refine⟨⟨B,R',m,cap',nr,cr,b,a%b,rfl,rfl,hmb,?_,hm,h1,hrb.ext h4,hob.ext h4,h2,h3.mono hr.size,(show _=_ by rw [←hg.out,←gcd_step]),hr.trans h4⟩,?_⟩
     ·rw [h1.out]
      refine Nat.le_trans (len_wd_mono (Nat.le_of_lt hmod)) ?_
      rw [←hm.out];exact hmb
     ·rw [h2.numAt,hrb.numAt,nv_wd,nv_wd];exact hmod
    have KEY:=Lib.hid key
    clear key
    by_cases hn1':n=1
    ·have hm1:((m:Int)==1)=false:=by
      have:¬m=1:=fun h=>hcase ⟨hn1',h⟩
      simp;omega
     have bn1:((n:Int)==1)=true:=by simp;omega
     clear hcase hd hn1'
     go_wp2_with fail
     refine (divnat_DivMod hra (by omega) hrb (by omega) (by rw [nv_wd];exact HB.out)).mono ?_
     rintro e w5 ⟨Aq,nq,cq,Ar,nr,cr,rfl,hnq,hrq,hoq,hnr,hrr,hor,hx5⟩
     rw [nv_wd,nv_wd] at hnr hrr hor
     go_wp2_with fail
     go_roundw
     case rel=>exact (KEY.out Aq Ar nq cq nr cr w5 hnr hrr hor hx5).1
     case measure=>exact (KEY.out Aq Ar nq cq nr cr w5 hnr hrr hor hx5).2
    ·have bn1:((n:Int)==1)=false:=by simp;omega
     clear hcase hd hn1'
     go_wp2_with fail
     refine (divnat_DivMod hra (by omega) hrb (by omega) (by rw [nv_wd];exact HB.out)).mono ?_
     rintro e w5 ⟨Aq,nq,cq,Ar,nr,cr,rfl,hnq,hrq,hoq,hnr,hrr,hor,hx5⟩
     rw [nv_wd,nv_wd] at hnr hrr hor
     go_wp2_with fail
     go_roundw
     case rel=>exact (KEY.out Aq Ar nq cq nr cr w5 hnr hrr hor hx5).1
     case measure=>exact (KEY.out Aq Ar nq cq nr cr w5 hnr hrr hor hx5).2
  ·have hb0:b=0:=len_wd_zero.1 (by rw [←hm.out];omega)
   have e:Nat.gcd (nv xs) (nv ys)=a:=by rw [←hg.out,hb0,Nat.gcd_zero_right]
   have HE:=Lib.hid e
   clear e hb0
   go_wp2_with fail
   go_ret
   rw [HE.out]
   exact⟨A,n,cap,rfl,hn,hra,hoa,hr⟩
def sg (s:Bool) (m:Nat):Int:=if s then-(m:Int) else m
theorem sg_abs (s:Bool) (m:Nat):(sg s m).natAbs=m:=by cases s <;> simp [sg]
theorem sg_eq_zero {s:Bool}{m:Nat}:sg s m=0↔m=0:=by cases s <;> simp [sg]
theorem sg_not (s:Bool) (m:Nat):sg (!s) m= -sg s m:=by cases s <;> simp [sg]
theorem sg_lt (s:Bool) (m:Nat):decide (sg s m<0)=(s&&decide (0<m)):=by
 cases s
 ·simp [sg]
 ·by_cases h:0<m
  ·simp [sg,h]
  ·have:m=0:=by omega
   subst this
   simp [sg]
def ln (z:Int):Nat:=(wd z.natAbs).length
def Zi (w:World) (s:Bool) (A:Option Addr) (n cap:Nat) (z:Int):Prop:=∃xs,Rd w A n cap xs∧sg s (nv xs)=z
theorem Zi.ext {w w':World}{s:Bool}{A:Option Addr}{n cap:Nat}{z:Int}(h:Zi w s A n cap z) (e:Ext w w'):Zi w' s A n cap z:=by
 obtain⟨xs,h1,h2⟩:=h
 exact⟨xs,h1.ext e,h2⟩
theorem Zi.ln {w:World}{s:Bool}{A:Option Addr}{n cap:Nat}{z:Int}(h:Zi w s A n cap z):Go.Proofs.Ytgilhcdglaneiaa.ln z≤n:=by
 obtain⟨xs,h1,rfl⟩:=h
 have:=len_wd_nv h1.wf
 rw [h1.len] at this
 unfold Go.Proofs.Ytgilhcdglaneiaa.ln
 rw [sg_abs]
 exact this
theorem Zi.not {w:World}{s:Bool}{A:Option Addr}{n cap:Nat}{z:Int}(h:Zi w s A n cap z):Zi w (!s) A n cap (-z):=by
 obtain⟨xs,h1,rfl⟩:=h
 exact⟨xs,h1,sg_not _ _⟩
structure Zr (w:World) (base:Nat) (s:Bool) (A:Option Addr) (n cap:Nat) (z:Int):Prop where
 sgn:s=decide (z<0)
 len:n=ln z
 own:Own w base 24 1 A n cap ((wd z.natAbs).map W64)
theorem Zr.rd {w:World}{base:Nat}{s:Bool}{A:Option Addr}{n cap:Nat}{z:Int}(h:Zr w base s A n cap z):Rd w A n cap (wd z.natAbs):=h.own.rd (Wf_wd _)
theorem Zr.ext {w w':World}{base:Nat}{s:Bool}{A:Option Addr}{n cap:Nat}{z:Int}(h:Zr w base s A n cap z) (e:Ext w w'):Zr w' base s A n cap z:=⟨h.sgn,h.len,h.own.ext e⟩
theorem Zr.mono {w:World}{base base':Nat}{s:Bool}{A:Option Addr}{n cap:Nat}{z:Int}(h:Zr w base s A n cap z) (e:base'≤base):Zr w base' s A n cap z:=⟨h.sgn,h.len,h.own.mono e⟩
theorem Zr.upd {w w':World}{base g:Nat}{s:Bool}{A:Option Addr}{n cap:Nat}{z:Int}(h:Zr w base s A n cap z) (hg:g<base) (e:Upd g w w'):Zr w' base s A n cap z:=
 ⟨h.sgn,h.len,h.own.upd e (fun a ha=>by have:=(h.own.block a ha).1;omega)⟩
theorem Zr.le {w:World}{base:Nat}{s:Bool}{A:Option Addr}{n cap:Nat}{z:Int}(h:Zr w base s A n cap z){b:Nat}(hb:ln z≤b):n≤b:=by rw [h.len];exact hb
theorem Zr.zero {w:World}{base:Nat}:Zr w base false none 0 0 0:=⟨by decide,rfl,Own.nil _ _ _ _⟩
theorem Bk.two {w:World}{g:Nat}{t:TypeId}{a b:Value}(h:Bk w g t [a,b]):w.cell? ⟨g,0,none⟩=some a∧w.cell? ⟨g,1,none⟩=some b∧w.frozen? ⟨g,0,none⟩=false∧w.frozen? ⟨g,1,none⟩=false:=
 ⟨h.cell (i:=0) (by simp),h.cell (i:=1) (by simp),h.frozen 0,h.frozen 1⟩
theorem Upd.two {w:World}{g:Nat}(u v:Value):Upd g w ((w.setCell ⟨g,0,none⟩ u).setCell ⟨g,1,none⟩ v):=((Upd.refl g w).setCell 0 u).setCell 1 v
def BoolP (b:Bool) (w:World) (e:Ending) (w':World):Prop:=e= .returned (.bool b)∧Ext w w'
theorem ref1_Same {w:World}{A B:Option Addr}{n cap n' cap':Nat}{xs ys:List Nat}(hx:Rd w A n cap xs) (hl:n≤1099511627776) (hy:Rd w B n' cap' ys) (hl':n'≤1099511627776):
  Calls Try.prog 71 #[.slice A n cap,.slice B n' cap'] w (BoolP (decide (xs=ys)) w):=by
 have hlx:=Lib.hid hx.len
 have hly:=Lib.hid hy.len
 by_cases hn:n=n'
 ·subst hn
  have h1:((n:Int) != (n:Int))=false:=by simp
  go_enter Try.func71,Try.ntmps71
  go_wp2_with fail
  go_loopw [5] (fun u wr=>∃i:Nat,i≤n∧u= .int .i64 (i:Int)∧Hid (xs.take i=ys.take i)∧Ext w wr) (fun u wr=>n-(intOf u).toNat)
  case atStart=>exact⟨0,Nat.zero_le _,rfl,rfl,Ext.refl w⟩
  case round=>
   obtain⟨i,hi,rfl,hv,hext⟩:=hrel
   by_cases h0:i<n
   ·obtain⟨a,p,rfl,hxk,hxb,hc⟩:=(hx.ext hext).get (i:=i) (by omega)
    obtain⟨b,q,rfl,hyk,hyb,hd⟩:=(hy.ext hext).get (i:=i) (by omega)
    by_cases hpq:p=q
    ·subst hpq
     have h2:((p:Int) != (p:Int))=false:=by simp
     go_wp2_with fail
     go_quiet (fail)
     go_wp2_with fail
     go_roundw
     case rel=>
      refine⟨i+1,by omega,by go_num,?_,(by repeat (first | exact Ext.refl _ | assumption | apply Ext.drewN | apply Ext.drew | apply Ext.alloc))⟩
      show _=_
      rw [take_snoc xs i (by rw [hlx.out];omega) 0,take_snoc ys i (by rw [hly.out];omega) 0,hv.out,hxk.out,hyk.out]
     case measure=>simp [intOf];omega
    ·have h2:((p:Int) != (q:Int))=true:=by simp;omega
     go_wp2_with fail
     go_quiet (fail)
     go_wp2_with fail
     go_ret
     have hne:decide (xs=ys)=false:=by
      refine decide_eq_false (fun e=>hpq ?_)
      rw [←hxk.out,←hyk.out,e]
     rw [hne]
     exact⟨rfl,(by repeat (first | exact Ext.refl _ | assumption | apply Ext.drewN | apply Ext.drew | apply Ext.alloc))⟩
   ·go_wp2_with fail
    go_ret
    have he:decide (xs=ys)=true:=by
     refine decide_eq_true ?_
     have h:=hv.out
     rwa [List.take_of_length_le (by rw [hlx.out];omega),List.take_of_length_le (by rw [hly.out];omega)] at h
    rw [he]
    exact⟨rfl,hext⟩
 ·have h1:((n:Int) != (n':Int))=true:=by simp;omega
  go_enter Try.func71,Try.ntmps71
  go_wp2_with fail
  go_ret
  have hne:decide (xs=ys)=false:=decide_eq_false (fun e=>hn (by rw [←hlx.out,←hly.out,e]))
  rw [hne]
  exact⟨rfl,Ext.refl w⟩
theorem Own.updT {w w':World}{base:Nat}{t T:TypeId}{s:Nat}{A:Option Addr}{n cap:Nat}{vs us:List Value}{g:Nat}(h:Own w base t s A n cap vs) (hb:Bk w g T us) (hT:t≠T) (e:Upd g w w'):Own w' base t s A n cap vs:=by
 refine h.upd e (fun a ha hg=>?_)
 rcases h with⟨h,_⟩ | ⟨k,cs,hA,_,hk,_⟩
 ·rw [h] at ha;cases ha
 ·rw [hA] at ha
  cases ha
  simp only at hg
  subst hg
  unfold Bk at hk hb
  rw [hk] at hb
  injection hb with hb
  injection hb with h1 h2
  exact hT h2
theorem Zr.updT {w w':World}{base:Nat}{s:Bool}{A:Option Addr}{n cap:Nat}{z:Int}{g:Nat}{T:TypeId}{us:List Value}(h:Zr w base s A n cap z) (hb:Bk w g T us) (e:Upd g w w') (hT:24≠T:=by decide):Zr w' base s A n cap z:=
 ⟨h.sgn,h.len,h.own.updT hb hT e⟩
theorem Bk.updN {w w':World}{g g':Nat}{T:TypeId}{vs:List Value}(h:Bk w g T vs) (e:Upd g' w w') (hne:g≠g'):Bk w' g T vs:=h.upd e hne
structure AggT (P:Program) (T:TypeId) (k:Nat):Prop where
 agg:∀w,(isAgg T).run P w= .ok true w
 size:∀w,(sizeOf T).run P w= .ok k w
theorem run_load1 {P:Program}{w:World}{p:Addr}{v:Value}(h:w.cell? p=some v):(load p).run P w= .ok v w:=by
 simp only [load,Sem.run,h]
theorem run_store1 {P:Program}{w:World}{p:Addr}{u v:Value}(h:w.cell? p=some u) (hf:w.frozen? p=false) (h1:v.oneCell'=true):(store p v).run P w= .ok () (w.setCell p v):=by
 rw [run_store P w p v .plain h1,h,hf];rfl
theorem run_loadCells {P:Program}{w:World}{p:Addr}:∀(vs:List Value) (i:Nat) (acc:Array Value),(∀j,j<vs.length→w.cell? (p.add (i+j))=some (vs.getD j undef))→
  (loadCellsFrom p i vs.length acc).run P w= .ok (acc++vs.toArray) w
 | [],i,acc,_=>by simp [loadCellsFrom]
 | v::vs,i,acc,h=>by
  have h0:=h 0 (by simp)
  simp only [Nat.add_zero,List.getD_cons_zero] at h0
  have ih:=run_loadCells (P:=P) (p:=p) vs (i+1) (acc.push v) (fun j hj=>by
   have:=h (j+1) (by simpa using hj)
   rw [show i+1+j=i+(j+1) by omega]
   simpa using this)
  show ((load (p.add i)>>=fun v=>loadCellsFrom p (i+1) vs.length (acc.push v):Sem (Array Value))).run P w=_
  have e:(load (p.add i)).run P w= .ok v w:=run_load1 h0
  rw [Sem.run_bind,e]
  simp only [Result.andThen_ok,ih]
  simp
theorem load_agg {P:Program}{w:World}{T T':TypeId}{k off g:Nat}{vs:List Value}(hT:AggT P T k) (hb:Bk w g T' vs) (us:List Value) (hu:us.length=k) (hle:off+k≤vs.length) (he:(vs.drop off).take k=us):
  (loadVar T ⟨g,off,none⟩).run P w= .ok (.agg us.toArray) w:=by
 subst hu
 have h1:=run_loadCells (P:=P) (w:=w) (p:=⟨g,off,none⟩) us 0 #[] (fun j hj=>by
  rw [Nat.zero_add,add_lit0,hb.cell (by omega)]
  congr 1
  rw [←he]
  simp only [List.getD_eq_getElem?_getD,List.getElem?_take,List.getElem?_drop]
  rw [if_pos hj])
 unfold loadVar loadCells
 rw [Sem.run_bind,hT.agg w]
 simp only [Result.andThen_ok,if_true,Sem.run_bind,hT.size w,h1]
 simp
theorem load_cell {P:Program}{w:World}{T T':TypeId}{g i:Nat}{vs:List Value}{v:Value}(hT:∀w,(isAgg T).run P w= .ok false w) (hb:Bk w g T' vs) (hv:vs[i]?=some v):(loadVar T ⟨g,i,none⟩).run P w= .ok v w:=by
 have hi:i<vs.length:=(List.getElem?_eq_some_iff.1 hv).1
 have hc:=hb.cell hi
 rw [List.getD_eq_getElem?_getD,hv] at hc
 unfold loadVar
 rw [Sem.run_bind,hT w]
 simp only [Result.andThen_ok,Bool.false_eq_true,if_false]
 exact run_load1 hc
def overl (vs:List Value) (off:Nat) (us:List Value):List Value:=vs.take off++us++vs.drop (off+us.length)
theorem store_cells {P:Program}{g:Nat}{T:TypeId}:∀(us:List Value) (i off:Nat) (w:World) (vs:List Value),Bk w g T vs→off+i+us.length≤vs.length→(∀u∈us,u.oneCell'=true)→
  ∃w',(storeCells ⟨g,off,none⟩ us i).run P w= .ok () w'∧Bk w' g T (overl vs (off+i) us)∧Upd g w w'∧w'.heap.size=w.heap.size
 | [],i,off,w,vs,hb,_,_=>⟨w,rfl,by simpa [overl] using hb,Upd.refl g w,rfl⟩
 | u::us,i,off,w,vs,hb,hle,h1=>by
  have hi:off+i<vs.length:=by simp at hle;omega
  have hc:=hb.cell hi
  have hf:=hb.frozen (off+i)
  have hb1:=hb.set (off+i) u
  obtain⟨w',hr,hb2,hu,hs⟩:=store_cells (P:=P) us (i+1) off (w.setCell ⟨g,off+i,none⟩ u) (vs.set (off+i) u) hb1 (by simp at hle⊢;omega) (fun x hx=>h1 x (by simp [hx]))
  refine⟨w',?_,?_,((Upd.refl g w).setCell (off+i) u).trans hu,by rw [hs];simp [World.setCell]⟩
  ·show ((store ((⟨g,off,none⟩:Addr).add i) u>>=fun _=>storeCells ⟨g,off,none⟩ us (i+1):Sem Unit)).run P w=_
   rw [add_lit0,Sem.run_bind,run_store1 hc hf (h1 u (by simp))]
   exact hr
  ·have e:overl (vs.set (off+i) u) (off+(i+1)) us=overl vs (off+i) (u::us):=by
    unfold overl
    have e1:(vs.set (off+i) u).take (off+(i+1))=vs.take (off+i)++ [u]:=by
     rw [show off+(i+1)=off+i+1 by omega,take_snoc _ _ (by simpa using hi) undef,List.take_set_of_le (Nat.le_refl _)]
     congr 2
     rw [List.getD_eq_getElem?_getD,List.getElem?_set_self hi];rfl
    rw [e1,List.drop_set_of_lt (by omega)]
    simp only [List.length_cons,List.append_assoc,List.cons_append,List.nil_append]
    rw [show off+(i+1)+us.length=off+i+(us.length+1) by omega]
   rw [←e];exact hb2
theorem run_stored {P:Program}{w:World}{T T':TypeId}{k g off:Nat}{vs us:List Value}(hT:AggT P T k) (hk:us.length=k)
  (hb:Bk w g T' vs) (hle:off+k≤vs.length) (h1:us.all (·.oneCell')=true) (us':List Value) (he:overl vs off us=us'):
  ∃w',(storeVar T ⟨g,off,none⟩ (.agg us.toArray)).run P w= .ok () w'∧Bk w' g T' us'∧Upd g w w'∧w'.heap.size=w.heap.size:=by
 subst hk
 obtain⟨w',hr,hb2,hu,hs⟩:=store_cells (P:=P) us 0 off w vs hb (by omega) (by simpa [List.all_eq_true] using h1)
 rw [Nat.add_zero,he] at hb2
 refine⟨w',?_,hb2,hu,hs⟩
 unfold storeVar
 rw [Sem.run_bind]
 show ((sizeOf T).run P w).andThen _=_
 rw [hT.size w]
 have e:(Value.agg us.toArray).cells=us.toArray:=rfl
 simp only [Result.andThen_ok,e,List.size_toArray,ne_eq,not_true,if_false]
 exact hr
theorem wl_stored {P:Program}{Q:Exit→Act→World→Prop}{n:Nat}{l:Fr}{w:World}{ops:Array Oper}{rest:List Oper}{ty:TypeId}{pos:String}{af:Array Edge}{gd:Option (Nat×Bool)}
  (hw:guardB ops l gd=some true){x y:Operand}{T T':TypeId}{k g off:Nat}{vs us:List Value}(hx:evo l x=some (.pointer (some ⟨g,off,none⟩))) (hy:evo l y=some (.agg us.toArray)) (hT:AggT P T k) (hk:us.length=k)
  (hb:Bk w g T' vs) (hle:off+k≤vs.length) (h1:us.all (·.oneCell')=true) (us':List Value) (he:overl vs off us=us')
  (h:∀w',Bk w' g T' us'→Upd g w w'→w'.heap.size=w.heap.size→wl P ops Q n rest l w'):wl P ops Q n (⟨none,.store T x y,ty,pos,af,gd⟩::rest) l w:=by
 obtain⟨w',hr,hb2,hu,hs⟩:=run_stored (P:=P) hT hk hb hle h1 us' he
 exact wl_store hw (p:=⟨g,off,none⟩) hx hy (w':=w') hr (h w' hb2 hu hs)
theorem wl_stored1 {P:Program}{Q:Exit→Act→World→Prop}{n:Nat}{l:Fr}{w:World}{ops:Array Oper}{rest:List Oper}{ty:TypeId}{pos:String}{af:Array Edge}{gd:Option (Nat×Bool)}
  (hw:guardB ops l gd=some true){x y:Operand}{T T':TypeId}{g off:Nat}{vs:List Value}{v:Value}(hx:evo l x=some (.pointer (some ⟨g,off,none⟩))) (hy:evo l y=some v) (hT:∀w,(sizeOf T).run P w= .ok 1 w) (hv:v.cells= #[v])
  (hb:Bk w g T' vs) (hle:off<vs.length) (h1:v.oneCell'=true) (us':List Value) (he:vs.set off v=us')
  (h:∀w',Bk w' g T' us'→Upd g w w'→w'.heap.size=w.heap.size→wl P ops Q n rest l w'):wl P ops Q n (⟨none,.store T x y,ty,pos,af,gd⟩::rest) l w:=by
 have hb2:=hb.set off v
 rw [he] at hb2
 refine wl_store hw (p:=⟨g,off,none⟩) hx hy (w':=w.setCell ⟨g,off,none⟩ v) ?_ (h _ hb2 ((Upd.refl g w).setCell off v) (by simp [World.setCell]))
 unfold storeVar
 rw [Sem.run_bind]
 show ((sizeOf T).run P w).andThen _=_
 rw [hT w]
 simp only [Result.andThen_ok,hv,List.size_toArray,List.length_cons,List.length_nil,ne_eq,not_true,Nat.zero_add,if_false]
 show ((store ((⟨g,off,none⟩:Addr).add 0) v>>=fun _=>storeCells ⟨g,off,none⟩ [] (0+1):Sem Unit)).run P w=_
 rw [add_lit0,Nat.add_zero,Sem.run_bind,run_store1 (hb.cell hle) (hb.frozen off) h1]
 rfl
section
variable {P:Program}{Q:Exit→Act→World→Prop}{n:Nat}{l:Fr}{w:World}{ops:Array Oper}{rest:List Oper}{d:Nat}{ty:TypeId}{pos:String}{af:Array Edge}{gd:Option (Nat×Bool)}
theorem run_index {t e:TypeId}{s m c:Nat}{a:Addr}{k:IntKind}{i:Int}(hT:P.underlying t=some (.slice e)) (hs:∀w,(sizeOf e).run P w= .ok s w) (h0:0≤i) (h1:i<m):
  (Instr.indexAt t (.slice (some a) m c) (.int k i)).run P w= .ok (.pointer (some (a.add (i.toNat*s)))) w:=by
 have hu:(underlying t).run P w= .ok (.slice e) w:=run_underlying hT w
 unfold Instr.indexAt
 simp only [asIntOf,Sem.run_bind,Sem.run_pure,Result.andThen_ok,hu]
 rw [if_pos ⟨h0,h1⟩]
 simp only [Sem.run_bind,hs w,Result.andThen_ok,Sem.run_pure]
def optIs (v:Option Value) (k:Nat) (dflt:Nat):Prop:=(v=none∧k=dflt)∨v=some (.int .i64 (k:Int))
theorem run_bound {i cap:Nat}{k:BoundsCode}(h:i≤cap):(Instr.sliceBound (.int .i64 (i:Int)) cap k).run P w= .ok i w:=by
 unfold Instr.sliceBound
 simp only [asIntOf,Sem.run_bind,Sem.run_pure,Result.andThen_ok]
 rw [if_pos ⟨by omega,by omega⟩]
 rfl
theorem run_slice {t e:TypeId}{s m c lo hi:Nat}{A:Option Addr}{low high:Option Value}(hT:P.underlying t=some (.slice e)) (hs:∀w,(sizeOf e).run P w= .ok s w) (h1:optIs low lo 0) (h2:optIs high hi m) (h3:lo≤hi) (h4:hi≤c):
  (Instr.sliceAt t (.slice A m c) low high none).run P w= .ok (.slice (if c=lo then A else A.map (·.add (lo*s))) (hi-lo) (c-lo)) w:=by
 have hu:(underlying t).run P w= .ok (.slice e) w:=run_underlying hT w
 have hb:(Instr.sliceBounds true m c low high none).run P w= .ok (lo,hi,c) w:=by
  unfold Instr.sliceBounds
  rcases h1 with⟨rfl,rfl⟩ | rfl <;> rcases h2 with⟨rfl,rfl⟩ | rfl
  ·simp only [Sem.run_bind,Sem.run_pure,Result.andThen_ok]
  ·simp only [Sem.run_bind,Sem.run_pure,Result.andThen_ok,run_bound h4,if_true]
  ·simp only [Sem.run_bind,Sem.run_pure,Result.andThen_ok,Option.isSome,run_bound h3]
  ·simp only [Sem.run_bind,Sem.run_pure,Result.andThen_ok,Option.isSome,run_bound h4,run_bound h3,if_true]
 unfold Instr.sliceAt
 simp only [Sem.run_bind,hu,Result.andThen_ok]
 unfold Instr.slice
 simp only [Sem.run_bind,hu,Result.andThen_ok,hb,hs w,Sem.run_pure]
theorem wl_slice (hw:guardB ops l gd=some true){x:Operand}{lo' hi':Option Operand}{t e:TypeId}{s m c lo hi:Nat}{A:Option Addr}(hx:evo l x=some (.slice A m c)) (hT:P.underlying t=some (.slice e)) (hs:∀w,(sizeOf e).run P w= .ok s w)
  (h1:match lo' with | none=>lo=0 | some y=>evo l y=some (.int .i64 (lo:Int))) (h2:match hi' with | none=>hi=m | some y=>evo l y=some (.int .i64 (hi:Int))) (h3:lo≤hi) (h4:hi≤c)
  {v:Value}(hv:Value.slice (if c=lo then A else A.map (·.add (lo*s))) (hi-lo) (c-lo)=v) (hn:d<n) (h:wl P ops Q n rest ((d,v)::l) w):wl P ops Q n (⟨some d,.slice t x lo' hi' none,ty,pos,af,gd⟩::rest) l w:=
 wl_val hw hn (fun a' ha=>by
  have e:(Instr.sliceAt t (a'.eval x) (lo'.map a'.eval) (hi'.map a'.eval) (Option.map a'.eval none)).run P w= .ok v w:=by
   rw [ha.ev hx,←hv]
   refine run_slice hT hs ?_ ?_ h3 h4
   ·cases lo' with
    | none=>exact Or.inl ⟨rfl,h1⟩
    | some y=>exact Or.inr (by show some (a'.eval y)=_;rw [ha.ev h1])
   ·cases hi' with
    | none=>exact Or.inl ⟨rfl,h2⟩
    | some y=>exact Or.inr (by show some (a'.eval y)=_;rw [ha.ev h2])
  show ((Instr.sliceAt t (a'.eval x) (lo'.map a'.eval) (hi'.map a'.eval) (Option.map a'.eval none)>>=fun r=>pure (Next.value r):Sem Next)).run P w=_
  rw [Sem.run_bind,e];rfl) h
theorem load_cell1 {T:TypeId}{p:Addr}{v:Value}(hT:∀w,(isAgg T).run P w= .ok false w) (hc:w.cell? p=some v):(loadVar T p).run P w= .ok v w:=by
 unfold loadVar
 rw [Sem.run_bind,hT w]
 simp only [Result.andThen_ok,Bool.false_eq_true,if_false]
 exact run_load1 hc
end
theorem add_zero_addr (a:Addr):a.add 0=a:=by simp [Addr.add]
theorem ge_t {a b:Int}(h:b≤a):cmpB .geq a b=some true:=by simp only [cmpB,Option.some.injEq,decide_eq_true_eq];omega
theorem ge_f {a b:Int}(h:a<b):cmpB .geq a b=some false:=by simp only [cmpB,Option.some.injEq,decide_eq_false_iff_not];omega
theorem lt_t {a b:Int}(h:a<b):cmpB .lss a b=some true:=by simp only [cmpB,Option.some.injEq,decide_eq_true_eq];omega
theorem lt_f {a b:Int}(h:b≤a):cmpB .lss a b=some false:=by simp only [cmpB,Option.some.injEq,decide_eq_false_iff_not];omega
theorem gt_t {a b:Int}(h:b<a):cmpB .gtr a b=some true:=by simp only [cmpB,Option.some.injEq,decide_eq_true_eq];omega
theorem gt_f {a b:Int}(h:a≤b):cmpB .gtr a b=some false:=by simp only [cmpB,Option.some.injEq,decide_eq_false_iff_not];omega
theorem le_t {a b:Int}(h:a≤b):cmpB .leq a b=some true:=by simp only [cmpB,Option.some.injEq,decide_eq_true_eq];omega
theorem le_f {a b:Int}(h:b<a):cmpB .leq a b=some false:=by simp only [cmpB,Option.some.injEq,decide_eq_false_iff_not];omega
theorem eq_t {a b:Int}(h:a=b):cmpB .eql a b=some true:=by subst h;simp [cmpB]
theorem eq_f {a b:Int}(h:a≠b):cmpB .eql a b=some false:=by simp only [cmpB,Option.some.injEq,beq_eq_false_iff_ne,ne_eq];exact h
theorem ne_t {a b:Int}(h:a≠b):cmpB .neq a b=some true:=by simp only [cmpB,Option.some.injEq,bne_iff_ne,ne_eq];exact h
theorem ne_f {a b:Int}(h:a=b):cmpB .neq a b=some false:=by subst h;simp [cmpB]
theorem ar_i64 {a b c:Int}(h:a+b=c) (h1: -9223372036854775808≤c) (h2:c≤9223372036854775807):arB .add .i64 a b=some c:=by
 simp only [arB,Option.some.injEq];rw [h];exact IntWalk.i64_in _ ⟨h1,h2⟩
theorem ar_i64s {a b c:Int}(h:a-b=c) (h1: -9223372036854775808≤c) (h2:c≤9223372036854775807):arB .sub .i64 a b=some c:=by
 simp only [arB,Option.some.injEq];rw [h];exact IntWalk.i64_in _ ⟨h1,h2⟩
theorem ar_i64m {a b c:Int}(h:a*b=c) (h1: -9223372036854775808≤c) (h2:c≤9223372036854775807):arB .mul .i64 a b=some c:=by
 simp only [arB,Option.some.injEq];rw [h];exact IntWalk.i64_in _ ⟨h1,h2⟩
theorem ar_i64q {a b c:Int}(hb:b≠0) (h:a.tdiv b=c) (h1: -9223372036854775808≤c) (h2:c≤9223372036854775807):arB .quo .i64 a b=some c:=by
 simp only [arB];rw [if_neg hb,h,Option.some.injEq];exact IntWalk.i64_in _ ⟨h1,h2⟩
theorem Rd.at {w:World}{A:Option Addr}{n c:Nat}{xs:List Nat}(h:Rd w A n c xs){i:Nat}(hi:i<n):
  ∃p,A.map (·.add (i*1))=some p∧w.cell? p=some (.int .u64 ((xs.getD i 0:Nat):Int))∧xs.getD i 0≤18446744073709551615:=by
 obtain⟨a,x,rfl,hk,hb,hc⟩:=h.get hi
 refine⟨a.add i,by rw [Nat.mul_one];rfl,?_,by rw [hk.out];exact hb⟩
 rw [hk.out];exact hc
theorem Rd.updL {w w':World}{A:Option Addr}{n c:Nat}{xs:List Nat}{g:Nat}(h:Rd w A n c xs) (e:Upd g w w') (hne:0<c→∀a,A=some a→a.block≠g):Rd w' A n c xs:=
 ⟨⟨h.rv.len,h.rv.le,h.rv.max,fun i hi=>by
  obtain⟨a,ha,hc⟩:=h.rv.get i hi
  exact⟨a,ha,e.cell hc (by rw [block_of_add];exact hne (by have:=h.rv.le;omega) a ha)⟩,fun a ha hc=>Nat.lt_of_lt_of_le (h.rv.blk a ha hc) e.size⟩,h.wf⟩
theorem arr_at (g i:Nat):(some (⟨g,0,none⟩:Addr)).map (·.add (i*1))=some ⟨g,i,none⟩:=by
 rw [Nat.mul_one]
 show some ((⟨g,0,none⟩:Addr).add i)=_
 rw [add_lit0,Nat.zero_add]
section
variable {P:Program}{Q:Exit→Act→World→Prop}{n:Nat}{l:Fr}{w:World}{ops:Array Oper}{rest:List Oper}{d:Nat}{op:Op}{ty:TypeId}{pos:String}{af:Array Edge}{gd:Option (Nat×Bool)}
theorem run_idx {t e:TypeId}{s m c:Nat}{A:Option Addr}{k:IntKind}{i:Int}{j:Nat}{p:Addr}(hT:P.underlying t=some (.slice e)) (hs:∀w,(sizeOf e).run P w= .ok s w) (hi:i=(j:Int)) (hj:j<m) (hp:A.map (·.add (j*s))=some p):
  (Instr.indexAt t (.slice A m c) (.int k i)).run P w= .ok (.pointer (some p)) w:=by
 subst hi
 cases A with
 | none=>cases hp
 | some a=>
  have h:=run_index (P:=P) (w:=w) (t:=t) (e:=e) (s:=s) (m:=m) (c:=c) (a:=a) (k:=k) (i:=(j:Int)) hT hs (by omega) (by omega)
  rw [h]
  rw [Int.toNat_natCast]
  injection hp with hp
  rw [←hp]
theorem wl_idx (hw:guardB ops l gd=some true){x y:Operand}{t e:TypeId}{s m c:Nat}{A:Option Addr}{k:IntKind}{i:Int}(hx:evo l x=some (.slice A m c)) (hy:evo l y=some (.int k i)) (hT:P.underlying t=some (.slice e)) (hs:∀w,(sizeOf e).run P w= .ok s w)
  (j:Nat) (hi:i=(j:Int)) (hj:j<m) (p:Addr) (hp:A.map (·.add (j*s))=some p) (hn:d<n) (h:wl P ops Q n rest ((d,.pointer (some p))::l) w):wl P ops Q n (⟨some d,.indexAddr t x y,ty,pos,af,gd⟩::rest) l w:=
 wl_val hw hn (fun a' ha=>by
  have e:(Instr.indexAt t (a'.eval x) (a'.eval y)).run P w= .ok (.pointer (some p)) w:=by rw [ha.ev hx,ha.ev hy];exact run_idx hT hs hi hj hp
  show ((Instr.indexAt t (a'.eval x) (a'.eval y)>>=fun r=>pure (Next.value r):Sem Next)).run P w=_
  rw [Sem.run_bind,e];rfl) h
theorem rd_idx {x y:Operand}{t e:TypeId}{s m c:Nat}{A:Option Addr}{k:IntKind}{i:Int}{dst:Option Tmp}(hx:evo l x=some (.slice A m c)) (hy:evo l y=some (.int k i)) (hT:P.underlying t=some (.slice e)) (hs:∀w,(sizeOf e).run P w= .ok s w)
  (j:Nat) (hi:i=(j:Int)) (hj:j<m) (p:Addr) (hp:A.map (·.add (j*s))=some p):RunD P n l ⟨dst,.indexAddr t x y,ty,pos,af,gd⟩ w (.value (.pointer (some p))) w:=fun a' ha=>by
 have e:(Instr.indexAt t (a'.eval x) (a'.eval y)).run P w= .ok (.pointer (some p)) w:=by rw [ha.ev hx,ha.ev hy];exact run_idx hT hs hi hj hp
 show ((Instr.indexAt t (a'.eval x) (a'.eval y)>>=fun r=>pure (Next.value r):Sem Next)).run P w=_
 rw [Sem.run_bind,e];rfl
theorem rd_cmp {o:BinOp}{t t':TypeId}{x y:Operand}{k:IntKind}{a b:Int}{dst:Option Tmp}(hx:evo l x=some (.int k a)) (hy:evo l y=some (.int k b)) (c:Bool) (hc:cmpB o a b=some c):RunD P n l ⟨dst,.binOp o t x y t',ty,pos,af,gd⟩ w (.value (.bool c)) w:=fun a' ha=>by
 have e:((do eqGuard o t x y (a'.eval x) (a'.eval y);binOp o t (a'.eval x) (a'.eval y)):Sem Value).run P w= .ok (.bool c) w:=by
  rw [ha.ev hx,ha.ev hy];exact run_cmp hc
 show ((((do eqGuard o t x y (a'.eval x) (a'.eval y);binOp o t (a'.eval x) (a'.eval y)):Sem Value)>>=fun r=>pure (Next.value r)):Sem Next).run P w=_
 rw [Sem.run_bind,e];rfl
theorem rd_ar {o:BinOp}{t t':TypeId}{x y:Operand}{k:IntKind}{a b:Int}{dst:Option Tmp}(hx:evo l x=some (.int k a)) (hy:evo l y=some (.int k b)) (c:Int) (hc:arB o k a b=some c):RunD P n l ⟨dst,.binOp o t x y t',ty,pos,af,gd⟩ w (.value (.int k c)) w:=fun a' ha=>by
 have e:((do eqGuard o t x y (a'.eval x) (a'.eval y);binOp o t (a'.eval x) (a'.eval y)):Sem Value).run P w= .ok (.int k c) w:=by
  rw [ha.ev hx,ha.ev hy];exact run_ar hc
 show ((((do eqGuard o t x y (a'.eval x) (a'.eval y);binOp o t (a'.eval x) (a'.eval y)):Sem Value)>>=fun r=>pure (Next.value r)):Sem Next).run P w=_
 rw [Sem.run_bind,e];rfl
theorem run_store1v {w:World}{T T':TypeId}{g off:Nat}{vs:List Value}{v:Value}(hT:∀w,(sizeOf T).run P w= .ok 1 w) (hv:v.cells= #[v]) (hb:Bk w g T' vs) (hle:off<vs.length) (h1:v.oneCell'=true) (us':List Value) (he:vs.set off v=us'):
  ∃w',(storeVar T ⟨g,off,none⟩ v).run P w= .ok () w'∧Bk w' g T' us'∧Upd g w w'∧w'.heap.size=w.heap.size:=by
 have hb2:=hb.set off v
 rw [he] at hb2
 refine⟨w.setCell ⟨g,off,none⟩ v,?_,hb2,(Upd.refl g w).setCell off v,by simp [World.setCell]⟩
 unfold storeVar
 rw [Sem.run_bind]
 show ((sizeOf T).run P w).andThen _=_
 rw [hT w]
 simp only [Result.andThen_ok,hv,List.size_toArray,List.length_cons,List.length_nil,ne_eq,not_true,Nat.zero_add,if_false]
 show ((store ((⟨g,off,none⟩:Addr).add 0) v>>=fun _=>storeCells ⟨g,off,none⟩ [] (0+1):Sem Unit)).run P w=_
 rw [add_lit0,Nat.add_zero,Sem.run_bind,run_store1 (hb.cell hle) (hb.frozen off) h1]
 rfl
theorem wl_make {t e:TypeId}{z:Value}{bytes:Nat}{x y:Operand}(hw:guardB ops l gd=some true){i:Int}{k:Nat}(hx:evo l x=some (.int .i64 i)) (hy:evo l y=some (.int .i64 i)) (hi:i=(k:Int)) (ht:P.underlying t=some (.slice e))
  (hinfo:(P.info? e).map (fun i=>(i.zero,i.size,i.bytes))=some (some z,1,bytes)) (hz:z.cells= #[z]) (hby:bytes≤64) (hk:k≤1099511627776) (hn:d<n)
  (h:∀g w',w.heap.size=g→Bk w' g e (List.replicate k z)→Ext w w'→wl P ops Q n rest ((d,.slice (some ⟨g,0,none⟩) k k)::l) w'):wl P ops Q n (⟨some d,.makeSlice t x y,ty,pos,af,gd⟩::rest) l w:=by
 subst hi
 have hm:=run_make1 (P:=P) ht hinfo hz hby (k:Int) (by omega) (by omega) w
 rw [Int.toNat_natCast] at hm
 refine wl_val hw hn (fun a' ha=>?_) (h _ (w.alloc (.cells (zc z k) e)) rfl (Bk.new' _ _ _) ((Ext.refl w).alloc _))
 have e':(Instr.makeSlice t (a'.eval x) (a'.eval y)).run P w= .ok (.slice (some ⟨w.heap.size,0,none⟩) k k) (w.alloc (.cells (zc z k) e)):=by rw [ha.ev hx,ha.ev hy];exact hm
 show ((Instr.makeSlice t (a'.eval x) (a'.eval y)>>=fun r=>pure (Next.value r):Sem Next)).run P w=_
 rw [Sem.run_bind,e'];rfl
end
theorem load_word {P:Program}{w:World}{T T':TypeId}{g i:Nat}{l:List Nat}(hT:∀w,(isAgg T).run P w= .ok false w) (hb:Bk w g T' (l.map W64)) (hi:i<l.length):(loadVar T ⟨g,i,none⟩).run P w= .ok (.int .u64 ((l.getD i 0:Nat):Int)) w:=by
 refine load_cell hT hb ?_
 simp [List.getD_eq_getElem?_getD,List.getElem?_eq_getElem hi]
theorem len_set {l:List Nat}{N i x:Nat}(h:l.length=N):(l.set i x).length=N:=by rw [List.length_set];exact h
theorem len_map {f:Nat→Value}{l:List Nat}{i:Nat}(h:i<l.length):i<(l.map f).length:=by rw [List.length_map];exact h
theorem cb_lt_t {A B:Int}{a b:Nat}(ha:A=(a:Int)) (hb:B=(b:Int)) (h:a<b):cmpB .lss A B=some true:=by subst ha hb;exact lt_t (by omega)
theorem cb_lt_f {A B:Int}{a b:Nat}(ha:A=(a:Int)) (hb:B=(b:Int)) (h:b≤a):cmpB .lss A B=some false:=by subst ha hb;exact lt_f (by omega)
theorem cb_le_t {A B:Int}{a b:Nat}(ha:A=(a:Int)) (hb:B=(b:Int)) (h:a≤b):cmpB .leq A B=some true:=by subst ha hb;exact le_t (by omega)
theorem cb_le_f {A B:Int}{a b:Nat}(ha:A=(a:Int)) (hb:B=(b:Int)) (h:b<a):cmpB .leq A B=some false:=by subst ha hb;exact le_f (by omega)
theorem cb_gt_t {A B:Int}{a b:Nat}(ha:A=(a:Int)) (hb:B=(b:Int)) (h:b<a):cmpB .gtr A B=some true:=by subst ha hb;exact gt_t (by omega)
theorem cb_gt_f {A B:Int}{a b:Nat}(ha:A=(a:Int)) (hb:B=(b:Int)) (h:a≤b):cmpB .gtr A B=some false:=by subst ha hb;exact gt_f (by omega)
theorem cb_ge_t {A B:Int}{a b:Nat}(ha:A=(a:Int)) (hb:B=(b:Int)) (h:b≤a):cmpB .geq A B=some true:=by subst ha hb;exact ge_t (by omega)
theorem cb_ge_f {A B:Int}{a b:Nat}(ha:A=(a:Int)) (hb:B=(b:Int)) (h:a<b):cmpB .geq A B=some false:=by subst ha hb;exact ge_f (by omega)
theorem cb_eq_t {A B:Int}{a b:Nat}(ha:A=(a:Int)) (hb:B=(b:Int)) (h:a=b):cmpB .eql A B=some true:=by subst ha hb;exact eq_t (by omega)
theorem cb_eq_f {A B:Int}{a b:Nat}(ha:A=(a:Int)) (hb:B=(b:Int)) (h:a≠b):cmpB .eql A B=some false:=by subst ha hb;exact eq_f (by omega)
theorem cb_ne_t {A B:Int}{a b:Nat}(ha:A=(a:Int)) (hb:B=(b:Int)) (h:a≠b):cmpB .neq A B=some true:=by subst ha hb;exact ne_t (by omega)
theorem cb_ne_f {A B:Int}{a b:Nat}(ha:A=(a:Int)) (hb:B=(b:Int)) (h:a=b):cmpB .neq A B=some false:=by subst ha hb;exact ne_f (by omega)
theorem au_add {A B:Int}{a b:Nat}(ha:A=(a:Int)) (hb:B=(b:Int)) (h:a+b≤18446744073709551615):arB .add .u64 A B=some ((a+b:Nat):Int):=by
 subst ha hb;simp only [arB,Option.some.injEq];rw [←Int.natCast_add];exact IntWalk.u64_in _ ⟨by omega,by omega⟩
theorem au_sub {A B:Int}{a b:Nat}(ha:A=(a:Int)) (hb:B=(b:Int)) (h:b≤a) (h2:a≤18446744073709551615):arB .sub .u64 A B=some ((a-b:Nat):Int):=by
 subst ha hb;simp only [arB,Option.some.injEq];rw [show (a:Int)-(b:Int)=((a-b:Nat):Int) by omega];exact IntWalk.u64_in _ ⟨by omega,by omega⟩
theorem au_mul {A B:Int}{a b:Nat}(ha:A=(a:Int)) (hb:B=(b:Int)) (h:a*b≤18446744073709551615):arB .mul .u64 A B=some ((a*b:Nat):Int):=by
 subst ha hb;simp only [arB,Option.some.injEq];rw [←Int.natCast_mul];exact IntWalk.u64_in _ ⟨by omega,by omega⟩
theorem au_quo {A B:Int}{a b:Nat}(ha:A=(a:Int)) (hb:B=(b:Int)) (h:b≠0) (h2:a≤18446744073709551615):arB .quo .u64 A B=some ((a/b:Nat):Int):=by
 subst ha hb
 have e:((a:Int)).tdiv (b:Int)=((a/b:Nat):Int):=rfl
 have h3:a/b≤a:=Nat.div_le_self a b
 have h4:(0:Int)≤((a/b:Nat):Int):=Int.natCast_nonneg _
 have h5:((a/b:Nat):Int)≤(a:Int):=Int.ofNat_le.2 h3
 simp only [arB];rw [if_neg (by omega),e,Option.some.injEq]
 generalize ((a/b:Nat):Int)=q at h4 h5
 exact IntWalk.u64_in _ ⟨by omega,by omega⟩
theorem au_rem {k:IntKind}{A B:Int}{a b:Nat}(ha:A=(a:Int)) (hb:B=(b:Int)) (h:b≠0):arB .rem k A B=some ((a%b:Nat):Int):=by
 subst ha hb
 have e:((a:Int)).tmod (b:Int)=((a%b:Nat):Int):=rfl
 simp only [arB];rw [if_neg (by omega),e]
theorem ai_add {A B:Int}{a b:Nat}(ha:A=(a:Int)) (hb:B=(b:Int)) (h:a+b≤9223372036854775807):arB .add .i64 A B=some ((a+b:Nat):Int):=by
 subst ha hb;exact ar_i64 (by omega) (by omega) (by omega)
theorem ai_sub {A B:Int}{a b:Nat}(ha:A=(a:Int)) (hb:B=(b:Int)) (h:b≤a) (h2:a≤9223372036854775807):arB .sub .i64 A B=some ((a-b:Nat):Int):=by
 subst ha hb;exact ar_i64s (by omega) (by omega) (by omega)
theorem ai_mul {A B:Int}{a b:Nat}(ha:A=(a:Int)) (hb:B=(b:Int)) (h:a*b≤9223372036854775807):arB .mul .i64 A B=some ((a*b:Nat):Int):=by
 subst ha hb;exact ar_i64m (by rw [←Int.natCast_mul]) (by omega) (by omega)
theorem ai_quo {A B:Int}{a b:Nat}(ha:A=(a:Int)) (hb:B=(b:Int)) (h:b≠0) (h2:a≤9223372036854775807):arB .quo .i64 A B=some ((a/b:Nat):Int):=by
 subst ha hb
 have h3:a/b≤a:=Nat.div_le_self a b
 have h4:(0:Int)≤((a/b:Nat):Int):=Int.natCast_nonneg _
 have h5:((a/b:Nat):Int)≤(a:Int):=Int.ofNat_le.2 h3
 refine ar_i64q (by omega) rfl ?_ ?_
 ·show _≤((a/b:Nat):Int)
  generalize ((a/b:Nat):Int)=q at h4 h5
  omega
 ·show ((a/b:Nat):Int)≤_
  generalize ((a/b:Nat):Int)=q at h4 h5
  omega
theorem sz_u64 (w:World):(sizeOf 24).run Try.prog w= .ok 1 w:=by kernel_rfl
theorem ag_u64 (w:World):(isAgg 24).run Try.prog w= .ok false w:=by kernel_rfl
theorem un_u64:Try.prog.underlying 22=some (.slice 24):=Try.underlying22
structure Flo (q r x y:Int):Prop where
 eq:q*y+r=x
 pos:0<y→0≤r∧r<y
 neg:y<0→y<r∧r≤0
theorem Zi.sgn {w:World}{s:Bool}{A:Option Addr}{n cap:Nat}{z:Int}(h:Zi w s A n cap z) (h0:z≠0):s=decide (z<0):=by
 obtain⟨xs,_,rfl⟩:=h
 have hm:nv xs≠0:=fun e=>h0 (sg_eq_zero.2 e)
 rw [sg_lt,decide_eq_true (show 0<nv xs by omega),Bool.and_true]
structure Euc (q r x y:Int):Prop where
 eq:q*y+r=x
 lo:0≤r
 hi:r<y
end Go.Proofs.Ytgilhcdglaneiaa

namespace Go.Proofs.Ytgilhcdglaneiaa.Pop
def mk (m:Nat):Nat→Nat
 | 0=>0
 | k+1=>m+256*mk m k
theorem and_byte (a A m M:Nat) (ha:a<256) (hm:m<256):(a+256*A)&&& (m+256*M)=(a&&& m)+256*(A&&& M):=by
 have h1:((a+256*A)&&& (m+256*M))%2^8=a&&& m:=by
  rw [Nat.and_mod_two_pow]
  congr 1 <;> omega
 have h2:((a+256*A)&&& (m+256*M))/2^8=A&&& M:=by
  rw [Nat.and_div_two_pow]
  congr 1 <;> omega
 have h3:=Nat.mod_add_div ((a+256*A)&&& (m+256*M)) (2^8)
 rw [h1,h2] at h3
 exact h3.symm
def f1 (k x:Nat):Nat:=(x/2&&& mk 85 k)+(x&&& mk 85 k)
def f2 (k x:Nat):Nat:=(x/4&&& mk 51 k)+(x&&& mk 51 k)
def f3 (k x:Nat):Nat:=(x/16+x)&&& mk 15 k
def d1 (b:Nat):Nat:=(b/2&&& 85)+(b&&& 85)
def d2 (b:Nat):Nat:=(b/4&&& 51)+(b&&& 51)
def d3 (b:Nat):Nat:=(b/16+b)&&& 15
def pc (b:Nat):Nat:=d3 (d2 (d1 b))
theorem t1:∀b:Fin 256,∀p:Fin 2,((b.val/2+128*p.val)&&& 85)=(b.val/2&&& 85):=by decide+kernel
theorem t2:∀b:Fin 256,∀p:Fin 4,((b.val/4+64*p.val)&&& 51)=(b.val/4&&& 51):=by decide+kernel
theorem t3:∀b:Fin 256,∀p:Fin 5,((d2 (d1 b.val)/16+d2 (d1 b.val)+16*p.val)&&& 15)=pc b.val:=by decide+kernel
theorem t4:∀b:Fin 256,d1 b.val<256∧d2 (d1 b.val)<69∧d2 (d1 b.val)%16≤4∧pc b.val≤8∧(pc b.val=0→b.val=0)∧(128≤b.val→pc b.val≤1→b.val=128):=by decide+kernel
theorem f1_step {k b B:Nat}(hb:b<256):f1 (k+1) (b+256*B)=d1 b+256*f1 k B:=by
 unfold f1 d1
 rw [show mk 85 (k+1)=85+256*mk 85 k from rfl]
 have e:(b+256*B)/2=(b/2+128*(B%2))+256*(B/2):=by omega
 rw [e,and_byte _ _ _ _ (by omega) (by omega),and_byte _ _ _ _ hb (by omega),t1 ⟨b,hb⟩ ⟨B%2,by omega⟩]
 show (b/2&&& 85)+_+_=_
 omega
theorem f2_step {k b B:Nat}(hb:b<256):f2 (k+1) (b+256*B)=d2 b+256*f2 k B:=by
 unfold f2 d2
 rw [show mk 51 (k+1)=51+256*mk 51 k from rfl]
 have e:(b+256*B)/4=(b/4+64*(B%4))+256*(B/4):=by omega
 rw [e,and_byte _ _ _ _ (by omega) (by omega),and_byte _ _ _ _ hb (by omega),t2 ⟨b,hb⟩ ⟨B%4,by omega⟩]
 show (b/4&&& 51)+_+_=_
 omega
theorem steps {k b B:Nat}(hb:b<256) (hB:f2 k (f1 k B)%16≤4):
  f3 (k+1) (f2 (k+1) (f1 (k+1) (b+256*B)))=pc b+256*f3 k (f2 k (f1 k B))∧f2 (k+1) (f1 (k+1) (b+256*B))%16≤4:=by
 obtain⟨h1,h2,h3,_⟩:=t4 ⟨b,hb⟩
 rw [f1_step hb,f2_step h1]
 refine⟨?_,by omega⟩
 generalize f2 k (f1 k B)=C at*
 unfold f3
 rw [show mk 15 (k+1)=15+256*mk 15 k from rfl]
 have e:(d2 (d1 b)+256*C)/16+(d2 (d1 b)+256*C)=(d2 (d1 b)/16+d2 (d1 b)+16*(C%16))+256*(C/16+C):=by omega
 have h2':d2 (d1 b)<69:=h2
 rw [e,and_byte _ _ _ _ (by omega) (by omega),t3 ⟨b,hb⟩ ⟨C%16,by omega⟩]
theorem eight {b0 b1 b2 b3 b4 b5 b6 b7:Nat}(h0:b0<256) (h1:b1<256) (h2:b2<256) (h3:b3<256) (h4:b4<256) (h5:b5<256) (h6:b6<256) (h7:b7<256):
  f3 8 (f2 8 (f1 8 (b0+256*(b1+256*(b2+256*(b3+256*(b4+256*(b5+256*(b6+256*(b7+256*0))))))))))
   =pc b0+256*(pc b1+256*(pc b2+256*(pc b3+256*(pc b4+256*(pc b5+256*(pc b6+256*pc b7)))))):=by
 have s7:=steps (k:=0) (B:=0) h7 (by decide)
 have s6:=steps h6 s7.2
 have s5:=steps h5 s6.2
 have s4:=steps h4 s5.2
 have s3:=steps h3 s4.2
 have s2:=steps h2 s3.2
 have s1:=steps h1 s2.2
 have s0:=steps h0 s1.2
 rw [s0.1,s1.1,s2.1,s3.1,s4.1,s5.1,s6.1,s7.1]
 simp [f3,mk]
theorem folds {p0 p1 p2 p3 p4 p5 p6 p7:Nat}(h0:p0≤8) (h1:p1≤8) (h2:p2≤8) (h3:p3≤8) (h4:p4≤8) (h5:p5≤8) (h6:p6≤8) (h7:p7≤8){x3 x4 x5 x6:Nat}
  (e3:x3=p0+256*(p1+256*(p2+256*(p3+256*(p4+256*(p5+256*(p6+256*p7))))))) (e4:x4=x3+x3/256) (e5:x5=x4+x4/65536) (e6:x6=x5+x5/4294967296):
  x6%128=p0+p1+p2+p3+p4+p5+p6+p7∧x6<18446744073709551616:=by
 have g4:x4=(p0+p1)+256*((p1+p2)+256*((p2+p3)+256*((p3+p4)+256*((p4+p5)+256*((p5+p6)+256*((p6+p7)+256*p7)))))):=by omega
 clear e3 e4
 have g5:x5=(p0+p1+p2+p3)+256*((p1+p2+p3+p4)+256*((p2+p3+p4+p5)+256*((p3+p4+p5+p6)+256*((p4+p5+p6+p7)+256*((p5+p6+p7)+256*((p6+p7)+256*p7)))))):=by omega
 clear g4 e5
 have gq:x5/4294967296=(p4+p5+p6+p7)+256*((p5+p6+p7)+256*((p6+p7)+256*p7)):=by omega
 rw [gq] at e6
 have g6:x6=(p0+p1+p2+p3+p4+p5+p6+p7)+256*(((p1+p2+p3+p4)+256*((p2+p3+p4+p5)+256*((p3+p4+p5+p6)+256*((p4+p5+p6+p7)+256*((p5+p6+p7)+256*((p6+p7)+256*p7))))))+((p5+p6+p7)+256*((p6+p7)+256*p7))):=by omega
 clear gq e6 g5
 omega
theorem one {x x1 x2 x3 x4 x5 x6:Nat}(hx:x<18446744073709551616) (hh:9223372036854775808≤x) (e1:x1=f1 8 x) (e2:x2=f2 8 x1) (e3:x3=f3 8 x2) (e4:x4=x3+x3/256) (e5:x5=x4+x4/65536) (e6:x6=x5+x5/4294967296):
  x6%128=1↔x=9223372036854775808:=by
 obtain⟨b0,q0,hb0,hq0⟩:∃b q,b<256∧x=b+256*q:=⟨x%256,x/256,by omega,by omega⟩
 obtain⟨b1,q1,hb1,hq1⟩:∃b q,b<256∧q0=b+256*q:=⟨q0%256,q0/256,by omega,by omega⟩
 obtain⟨b2,q2,hb2,hq2⟩:∃b q,b<256∧q1=b+256*q:=⟨q1%256,q1/256,by omega,by omega⟩
 obtain⟨b3,q3,hb3,hq3⟩:∃b q,b<256∧q2=b+256*q:=⟨q2%256,q2/256,by omega,by omega⟩
 obtain⟨b4,q4,hb4,hq4⟩:∃b q,b<256∧q3=b+256*q:=⟨q3%256,q3/256,by omega,by omega⟩
 obtain⟨b5,q5,hb5,hq5⟩:∃b q,b<256∧q4=b+256*q:=⟨q4%256,q4/256,by omega,by omega⟩
 obtain⟨b6,b7,hb6,hq6⟩:∃b q,b<256∧q5=b+256*q:=⟨q5%256,q5/256,by omega,by omega⟩
 have hb7:b7<256:=by omega
 have hb7':128≤b7:=by omega
 have e:=eight hb0 hb1 hb2 hb3 hb4 hb5 hb6 hb7
 have ex:x=b0+256*(b1+256*(b2+256*(b3+256*(b4+256*(b5+256*(b6+256*(b7+256*0))))))):=by omega
 rw [←ex,←e1,←e2,←e3] at e
 have p0:=(t4 ⟨b0,hb0⟩).2.2.2
 have p1:=(t4 ⟨b1,hb1⟩).2.2.2
 have p2:=(t4 ⟨b2,hb2⟩).2.2.2
 have p3:=(t4 ⟨b3,hb3⟩).2.2.2
 have p4:=(t4 ⟨b4,hb4⟩).2.2.2
 have p5:=(t4 ⟨b5,hb5⟩).2.2.2
 have p6:=(t4 ⟨b6,hb6⟩).2.2.2
 have p7:=(t4 ⟨b7,hb7⟩).2.2.2
 have hf:=(folds p0.1 p1.1 p2.1 p3.1 p4.1 p5.1 p6.1 p7.1 e e4 e5 e6).1
 simp only at p0 p1 p2 p3 p4 p5 p6 p7
 rw [hf]
 show (pc b0+pc b1+pc b2+pc b3+pc b4+pc b5+pc b6+pc b7=1)↔_
 constructor
 ·intro h
  have h7:pc b7≠0:=fun hz=>by have:=p7.2.1 hz;omega
  have hs:pc b0+pc b1+pc b2+pc b3+pc b4+pc b5+pc b6=0∧pc b7=1:=by clear p0 p1 p2 p3 p4 p5 p6 p7 e e1 e2 e3 e4 e5 e6 ex hq0 hq1 hq2 hq3 hq4 hq5 hq6 hf;omega
  obtain⟨hs,h8⟩:=hs
  have z0:=p0.2.1 (by omega)
  have z1:=p1.2.1 (by omega)
  have z2:=p2.2.1 (by omega)
  have z3:=p3.2.1 (by omega)
  have z4:=p4.2.1 (by omega)
  have z5:=p5.2.1 (by omega)
  have z6:=p6.2.1 (by omega)
  have z7:=p7.2.2 hb7' (by omega)
  omega
 ·intro h
  obtain rfl:b7=128:=by omega
  obtain rfl:b0=0:=by omega
  obtain rfl:b1=0:=by omega
  obtain rfl:b2=0:=by omega
  obtain rfl:b3=0:=by omega
  obtain rfl:b4=0:=by omega
  obtain rfl:b5=0:=by omega
  obtain rfl:b6=0:=by omega
  decide
end Go.Proofs.Ytgilhcdglaneiaa.Pop

namespace Go.Proofs.Ytgilhcdglaneiaa
open Go.RowKit
theorem mean_ge (t s:Nat):∀m:Nat,(m+1)*t*s^m≤t^(m+1)+m*s^(m+1):=by
 intro m
 induction m with
 | zero=>simp
 | succ m ih=>
  have h1:=Nat.mul_le_mul_left t ih
  have hsq:2*(t*s)≤t*t+s*s:=by
   rcases Nat.le_total t s with h | h
   ·obtain⟨d,rfl⟩:=Nat.exists_eq_add_of_le h
    have e1:(t+d)*(t+d)=t*t+t*d+(t*d+d*d):=by rw [Nat.add_mul,Nat.mul_add,Nat.mul_add,Nat.mul_comm d t]
    have e2:t*(t+d)=t*t+t*d:=Nat.mul_add _ _ _
    rw [e1,e2]
    omega
   ·obtain⟨d,rfl⟩:=Nat.exists_eq_add_of_le h
    have e1:(s+d)*(s+d)=s*s+s*d+(s*d+d*d):=by rw [Nat.add_mul,Nat.mul_add,Nat.mul_add,Nat.mul_comm d s]
    have e2:(s+d)*s=s*s+s*d:=by rw [Nat.add_mul,Nat.mul_comm d s]
    rw [e1,e2]
    omega
  have h2:=Nat.mul_le_mul_left ((m+1)*s^m) hsq
  have e1:t*((m+1)*t*s^m)=(m+1)*s^m*(t*t):=by
   simp only [Nat.mul_comm,Nat.mul_left_comm,Nat.mul_assoc]
  have e2:t*(t^(m+1)+m*s^(m+1))=t^(m+1+1)+m*(t*s^(m+1)):=by
   rw [Nat.mul_add,Nat.pow_succ t (m+1),Nat.mul_comm t (t^(m+1)),Nat.mul_left_comm]
  have e3:(m+1)*s^m*(2*(t*s))=2*((m+1)*(t*s^(m+1))):=by
   rw [Nat.pow_succ];simp only [Nat.mul_comm,Nat.mul_left_comm,Nat.mul_assoc]
  have e4:(m+1)*s^m*(t*t+s*s)=(m+1)*s^m*(t*t)+(m+1)*s^(m+1+1):=by
   rw [Nat.mul_add,Nat.pow_succ,Nat.pow_succ];simp only [Nat.mul_comm,Nat.mul_assoc]
  rw [e1,e2] at h1
  rw [e3,e4] at h2
  have e5:(m+1+1)*t*s^(m+1)=m*(t*s^(m+1))+2*(t*s^(m+1)):=by
   rw [Nat.mul_assoc,←Nat.add_mul]
  have e6:(m+1)*(t*s^(m+1))=m*(t*s^(m+1))+t*s^(m+1):=Nat.succ_mul _ _
  rw [e5]
  rw [e6] at h2
  omega
theorem newton_above {X s q m:Nat}(hq:X<(q+1)*s^m):X<(((s*m+q)/(m+1))+1)^(m+1):=by
 have h1:=mean_ge (((s*m+q)/(m+1))+1) s m
 have h2:s*m+q+1≤(m+1)*((s*m+q)/(m+1)+1):=by
  have:=Nat.lt_mul_div_succ (s*m+q) (show 0<m+1 by omega)
  exact this
 have h3:=Nat.mul_le_mul_right (s^m) h2
 have e:(s*m+q+1)*s^m=m*s^(m+1)+(q+1)*s^m:=by
  rw [Nat.add_assoc,Nat.add_mul,Nat.pow_succ]
  congr 1
  rw [Nat.mul_comm s m,Nat.mul_assoc,Nat.mul_comm s (s^m)]
 rw [e] at h3
 omega
theorem newton_stop {X s q m:Nat}(hs:0<s) (hq:q=X/s^m) (h:s≤(s*m+q)/(m+1)):s^(m+1)≤X:=by
 have h1:s*(m+1)≤s*m+q:=(Nat.le_div_iff_mul_le (by omega)).1 h
 have h2:s≤q:=by rw [Nat.mul_succ] at h1;omega
 rw [hq] at h2
 have:=(Nat.le_div_iff_mul_le (Nat.pow_pos hs)).1 h2
 rw [Nat.pow_succ,Nat.mul_comm]
 exact this
theorem i64_shr {x s:Nat}(hs:s≤63) (P:Program) (t:TypeId) (w:World):(binOp .shr t (.int .i64 (x:Int)) (.int .i64 (s:Int))).run P w= .ok (.int .i64 ((x/2^s:Nat):Int)) w:=by
 have e:((x:Int)/2^min (s:Int).toNat IntKind.i64.bits)=((x/2^s:Nat):Int):=by
  rw [Int.toNat_natCast,show min s IntKind.i64.bits=s from Nat.min_eq_left (by show s≤64;omega)];simp
 simp only [binOp]
 rw [shift_shr_any _ _ _ _ (by omega),e];rfl
theorem i64_and1 {x:Nat}(hx:x≤9223372036854775807) (P:Program) (t:TypeId) (w:World):(binOp .and t (.int .i64 (x:Int)) (.int .i64 ((1:Nat):Int))).run P w= .ok (.int .i64 ((x%2:Nat):Int)) w:=by
 have e:IntKind.i64.wrap ((BitVec.ofInt 64 (x:Int)&&& BitVec.ofInt 64 ((1:Nat):Int)).toNat:Int)=((x%2:Nat):Int):=by
  rw [BitVec.toNat_and,ofInt_64 (by omega),ofInt_64 (by omega),Nat.and_one_is_mod,wrap_i64_nat (by omega)]
 rw [←e];rfl
theorem pow_half {S n k:Nat}:S^(n/2^k)=S^(n/2^(k+1))*S^(n/2^(k+1))*(if n/2^k%2=1 then S else 1):=by
 have e:n/2^(k+1)=n/2^k/2:=by rw [Nat.pow_succ,Nat.div_div_eq_div_mul]
 rw [e,←Nat.pow_add]
 generalize n/2^k=a
 split
 ·rename_i h
  rw [←Nat.pow_succ]
  congr 1;omega
 ·rename_i h
  rw [Nat.mul_one]
  congr 1;omega
theorem pow_le_whole {S n k:Nat}:S^(n/2^k)≤S^n+1:=by
 rcases Nat.eq_zero_or_pos S with h | h
 ·subst h
  have:(0:Nat)^(n/2^k)≤1:=by
   rcases Nat.eq_zero_or_pos (n/2^k) with e | e
   ·rw [e];simp
   ·rw [Nat.zero_pow e];omega
  generalize (0:Nat)^n=z
  omega
 ·have:=Nat.pow_le_pow_right h (Nat.div_le_self n (2^k))
  omega
set_option maxHeartbeats 1000000 in
theorem divnat_power {w:World}{A:Option Addr}{n cap:Nat}{xs:List Nat}(hx:Rd w A n cap xs) (hl:n≤17179869184){k:Nat}(hk:k≤4611686018427387904) (hL:(wd (nv xs^k)).length≤17179869184):
  Calls Try.prog 113 #[.slice A n cap,.int .i64 (k:Int)] w (RetW w (nv xs^k)):=by
 have HL:=Lib.hid hL
 clear hL
 have small:∀j,(wd (nv xs^(k/2^j))).length≤17179869185:=by
  intro j
  refine Nat.le_trans (len_wd_mono pow_le_whole) ?_
  have h1:=len_wd_add (nv xs^k) 1
  have h2:(wd 1).length=1:=by decide+kernel
  have:=HL.out
  omega
 have SM:=Lib.hid small
 clear small
 go_enter Try.func113,Try.ntmps113
 go_wp2_with fail
 refine (bits_Len k (by omega) _).mono ?_
 rintro e w' ⟨b,hb,hb64,rfl,rfl⟩
 obtain⟨wa,hwa⟩:∃wa,w.alloc (.cells #[.int .u64 1] 24)=wa:=⟨_,rfl⟩
 rw [hwa]
 have h1:Own wa w.heap.size 24 1 (some ⟨w.heap.size,0,none⟩) 1 1 ((wd 1).map W64):=by
  have e1:wd 1= [1]:=by decide+kernel
  rw [e1,←hwa]
  exact Own.mk_ (Nat.le_refl _) (Bk.new w 24 [.int .u64 1]) (Nat.le_refl _) (by rw [len_maxLen];omega) rfl rfl
 have he:Ext w wa:=by rw [←hwa];exact (Ext.refl w).alloc _
 have hstart:Hid (nv xs^(k/2^b)=1):=by
  show _=_
  rw [Nat.div_eq_of_lt (by rw [hb.out];exact lt_blen k)];rfl
 clear hwa
 go_wp2_with fail
 go_loopw [5,6] (fun u v wr=>∃(P:Option Addr) (m c j:Nat),u= .slice P m c∧v= .int .i64 ((j:Int)-1)∧j≤b∧Hid (m=(wd (nv xs^(k/2^j))).length)∧Own wr w.heap.size 24 1 P m c ((wd (nv xs^(k/2^j))).map W64)∧Ext w wr) (fun u v wr=>(intOf v+1).toNat)
 case atStart=>exact⟨_,1,1,b,rfl,rfl,Nat.le_refl _,(show _=_ by rw [hstart.out];decide+kernel),by rw [hstart.out];exact h1,he⟩
 case round=>
  obtain⟨P,m,c,j,rfl,rfl,hj,hm,ho,hr⟩:=hrel
  clear h1 he hstart
  by_cases hj0:0<j
  ·obtain⟨j,rfl⟩:∃i,j=i+1:=⟨j-1,by omega⟩
   have ek:((j+1:Nat):Int)-1=(j:Int):=by omega
   rw [ek]
   have hmb:m≤17179869185:=by rw [hm.out];exact SM.out _
   have hph:=Lib.hid (@pow_half (nv xs) k j)
   have hrd:=ho.rd (Wf_wd _)
   go_wp2_with fail
   refine (mulnat_Square hrd (by omega)).mono ?_
   rintro e w2 ⟨A2,n2,c2,rfl,hn2,hr2,ho2,hx2⟩
   rw [nv_wd] at hn2 hr2 ho2
   have hn2b:n2≤34359738370:=by
    have:=len_wd_mul (nv xs^(k/2^(j+1))) (nv xs^(k/2^(j+1)))
    have h3:=SM.out (j+1)
    rw [hn2.out];omega
   by_cases hodd:k/2^j%2=1
   ·have HO:=Lib.hid hodd
    clear hodd
    go_wp2_with (first
     | ((with_reducible refine at_slot (some 20) ?_);refine wpl_i64 rfl rfl rfl rfl rfl (i64_shr (x:=k) (s:=j) (by omega)) ?_;intro d hd)
     | ((with_reducible refine at_slot (some 21) ?_);refine wpl_i64 rfl rfl rfl rfl rfl (i64_and1 (x:=d) (by rw [hd.out];exact Nat.le_trans (Nat.div_le_self _ _) (by omega))) ?_;intro b2 hb2;have bt:((b2:Int)==1)=true:=(by rw [hb2.out,hd.out,HO.out];rfl)))
    refine (mulnat_Mul hr2 (hx.ext (hr.trans hx2)) (by omega)).mono ?_
    rintro e w3 ⟨A3,n3,c3,rfl,hn3,hr3,ho3,hx3⟩
    have ep:nv xs^(k/2^(j+1))*nv xs^(k/2^(j+1))*nv xs=nv xs^(k/2^j):=by
     have:=hph.out
     rw [if_pos HO.out] at this
     exact this.symm
    rw [nv_wd,ep] at hn3 hr3 ho3
    have HE:=(hr.trans hx2).size
    clear ep
    go_wp2_with fail
    go_roundw
    case rel=>exact⟨A3,n3,c3,j,rfl,rfl,by omega,hn3,ho3.mono HE,(hr.trans hx2).trans hx3⟩
    case measure=>simp [intOf]
   ·have HO:=Lib.hid hodd
    clear hodd
    go_wp2_with (first
     | ((with_reducible refine at_slot (some 20) ?_);refine wpl_i64 rfl rfl rfl rfl rfl (i64_shr (x:=k) (s:=j) (by omega)) ?_;intro d hd)
     | ((with_reducible refine at_slot (some 21) ?_);refine wpl_i64 rfl rfl rfl rfl rfl (i64_and1 (x:=d) (by rw [hd.out];exact Nat.le_trans (Nat.div_le_self _ _) (by omega))) ?_;intro b2 hb2;have bt:((b2:Int)==1)=false:=(by have h1:=hb2.out;have h2:=HO.out;rw [←hd.out] at h2;simp;omega)))
    have ep:nv xs^(k/2^(j+1))*nv xs^(k/2^(j+1))=nv xs^(k/2^j):=by
     have:=hph.out
     rw [if_neg HO.out,Nat.mul_one] at this
     exact this.symm
    rw [ep] at hn2 ho2
    go_roundw
    case rel=>exact⟨A2,n2,c2,j,rfl,rfl,by omega,hn2,ho2.mono hr.size,hr.trans hx2⟩
    case measure=>simp [intOf]
  ·obtain rfl:j=0:=by omega
   have ek:((0:Nat):Int)-1= -1:=rfl
   rw [ek]
   have e0:k/2^0=k:=by rw [Nat.pow_zero,Nat.div_one]
   rw [e0] at hm ho
   clear e0
   go_wp2_with fail
   go_ret
   exact⟨P,m,c,rfl,hm,ho.rd (Wf_wd _),ho,hr⟩
theorem i64_quo' {a b:Int}{x y:Nat}(ha:a=(x:Int)) (hb:b=(y:Int)) (hy:y≠0) (hx:x≤9223372036854775807) (P:Program) (t:TypeId) (w:World):(binOp .quo t (.int .i64 a) (.int .i64 b)).run P w= .ok (.int .i64 ((x/y:Nat):Int)) w:=by
 subst ha;subst hb
 exact i64_quo hy hx P t w
theorem u64_shl_i {x s:Nat}(hs:s≤64) (P:Program) (t:TypeId) (w:World):(binOp .shl t (.int .u64 (x:Int)) (.int .i64 (s:Int))).run P w= .ok (.int .u64 ((x*2^s%18446744073709551616:Nat):Int)) w:=by
 have e:((x:Int)*2^min (s:Int).toNat IntKind.u64.bits)=((x*2^s:Nat):Int):=by
  rw [Int.toNat_natCast,show min s IntKind.u64.bits=s from Nat.min_eq_left hs];simp
 simp only [binOp]
 rw [shift_shl_any _ _ _ _ (by omega),e,wrap_u64_nat];rfl
theorem len_two_pow {m L:Nat}(h:m<64*L){x:Nat}(hx:x≤2^m):(wd x).length≤L:=by
 refine len_wd_le ?_
 rw [WB_pow,←Nat.pow_mul]
 exact Nat.lt_of_le_of_lt hx (Nat.pow_lt_pow_right (by omega) h)
def IsRoot (X k r:Nat):Prop:=r^k≤X∧X<(r+1)^k
theorem IsRoot.le {X k r s:Nat}(h:IsRoot X k r) (hs:X<(s+1)^k):r≤s:=by
 refine Nat.le_of_not_lt (fun hlt=>?_)
 have h1:=Nat.pow_le_pow_left (Nat.succ_le_of_lt hlt) k
 have:=h.1
 rw [Nat.succ_eq_add_one] at h1
 omega
theorem IsRoot.uniq {X k r s:Nat}(h:IsRoot X k r) (g:IsRoot X k s):r=s:=Nat.le_antisymm (h.le g.2) (g.le h.2)
def RootP (w:World) (X k:Nat) (e:Ending) (w':World):Prop:=∃r,Hid (IsRoot X k r)∧RetW w r e w'
theorem root_start {X T k:Nat}(hk:1≤k) (hT:T=(blen X+k-1)/k):X<(2^T+1)^k:=by
 have h1:=lt_blen X
 have h3:blen X≤T*k:=by
  have h2:=Nat.lt_mul_div_succ (blen X+k-1) (show 0<k by omega)
  rw [←hT,Nat.mul_add,Nat.mul_one,Nat.mul_comm k] at h2
  omega
 refine Nat.lt_of_lt_of_le h1 (Nat.le_trans (Nat.pow_le_pow_right (by omega) h3) ?_)
 rw [Nat.pow_mul]
 exact Nat.pow_le_pow_left (by omega) k
theorem divnat_root_zero {w:World}{A:Option Addr}{n cap:Nat}{xs:List Nat}(hx:Rd w A n cap xs) (hl:n≤1099511627775) (h0:nv xs=0){k:Int}:
  Calls Try.prog 98 #[.slice A n cap,.int .i64 k] w (RetW w 0):=by
 go_enter Try.func98,Try.ntmps98
 go_wp2_with fail
 refine (nat_BitLen hx hl).mono ?_
 rintro e w1 ⟨b,hb,rfl,hx1⟩
 obtain rfl:b=0:=by rw [hb.out,h0];rfl
 go_wp2_with fail
 go_ret
 exact RetW_nil rfl hx1
theorem set_pow {q s:Nat}:nv ((List.replicate (q+1) 0).set q (2^s))=2^(64*q+s):=by
 have h:=nv_set (l:=List.replicate (q+1) 0) (k:=q) (by rw [List.length_replicate];omega) (2^s)
 have e:(List.replicate (q+1) 0).getD q 0=0:=by
  simp [List.getD_eq_getElem?_getD]
 rw [nv_zeros,e,Nat.mul_zero,Nat.add_zero,Nat.zero_add] at h
 rw [h,WB_pow,←Nat.pow_mul,←Nat.pow_add]
set_option maxHeartbeats 8000000 in
theorem divnat_root {w:World}{A:Option Addr}{n cap:Nat}{xs:List Nat}(hx:Rd w A n cap xs) (hl:n≤67108864) (h0:nv xs≠0){m K:Nat}(hm:1≤m) (hm2:m≤blen (nv xs)) (hK1:m+1≤K) (hK2:K≤m+1):
  Calls Try.prog 98 #[.slice A n cap,.int .i64 (K:Int)] w (RootP w (nv xs) K):=by
 have hbl:blen (nv xs)≤64*n:=blen_le (by rw [Nat.pow_mul,←WB_pow,←hx.len];exact nv_lt hx.wf)
 have H0:=Lib.hid h0
 have HK:Hid (K=m+1):=Nat.le_antisymm hK2 hK1
 clear h0
 go_enter Try.func98,Try.ntmps98
 go_wp2_with fail
 refine (nat_BitLen hx (by omega)).mono ?_
 rintro e w1 ⟨b,hb,rfl,hx1⟩
 have hb1:b≤64*n:=by rw [hb.out];exact hbl
 have hb2:m≤b:=by rw [hb.out];exact hm2
 have bz:((b:Int)==0)=false:=by simp;omega
 clear hbl hm2
 obtain⟨t,ht⟩:∃t,(b+m)/K=t:=⟨_,rfl⟩
 have htb:t≤b:=by
  rw [←ht,HK.out]
  refine Nat.le_of_lt_succ ((Nat.div_lt_iff_lt_mul (by omega)).2 ?_)
  have h3:(b+1)*(m+1)=b*m+b+m+1:=by rw [Nat.add_mul,Nat.mul_add];omega
  rw [Nat.succ_eq_add_one,h3]
  generalize b*m=z
  omega
 obtain⟨q,hq⟩:∃q,t/64=q:=⟨_,rfl⟩
 obtain⟨s,hs⟩:∃s,t%64=s:=⟨_,rfl⟩
 have hqb:q≤n:=by omega
 have hqt:t=64*q+s:=by omega
 have hs64:s<64:=by omega
 have Q24:∀(P:Program) (t':TypeId) (w:World),(binOp .quo t' (.int .i64 ((b:Int)+(K:Int)-1)) (.int .i64 (K:Int))).run P w= .ok (.int .i64 ((t:Nat):Int)) w:=by
  rw [←ht]
  exact i64_quo' (a:=(b:Int)+(K:Int)-1) (b:=(K:Int)) (x:=b+m) (y:=K) (by omega) rfl (by omega) (by omega)
 have Q25:∀(P:Program) (t':TypeId) (w:World),(binOp .quo t' (.int .i64 (t:Int)) (.int .i64 64)).run P w= .ok (.int .i64 ((q:Nat):Int)) w:=by
  rw [←hq]
  exact i64_quo (x:=t) (y:=64) (by omega) (by omega)
 have Q38:∀(P:Program) (t':TypeId) (w:World),(binOp .rem t' (.int .i64 (t:Int)) (.int .i64 64)).run P w= .ok (.int .i64 ((s:Nat):Int)) w:=by
  rw [←hs]
  exact i64_rem (x:=t) (y:=64) (by omega) (by omega)
 have hp:2^s≤2^63:=Nat.pow_le_pow_right (by omega) (by omega)
 obtain⟨z,hz⟩:∃z,2^s=z:=⟨_,rfl⟩
 have hzb:z≤18446744073709551615:=by omega
 have Q39:∀(P:Program) (t':TypeId) (w:World),(binOp .shl t' (.int .u64 1) (.int .i64 (s:Int))).run P w= .ok (.int .u64 ((z:Nat):Int)) w:=by
  have:=u64_shl_i (x:=1) (s:=s) (by omega)
  rw [Nat.one_mul,Nat.mod_eq_of_lt (by omega),hz] at this
  exact this
 have HT:Hid (t=(blen (nv xs)+K-1)/K):=by
  show _=_
  rw [←ht,←hb.out];congr 1
  omega
 have HTK:Hid (t*m≤2*b):=by
  have h1:=Nat.div_mul_le_self (b+m) K
  rw [ht,HK.out,Nat.mul_succ] at h1
  show _≤_
  omega
 have HZ:=Lib.hid hz
 have HQT:=Lib.hid hqt
 have hmk:=run_make1 (P:=Try.prog) Try.underlying22 info64 rfl (by decide) ((q:Int)+1) (by omega) (by omega)
 have et:((q:Int)+1).toNat=q+1:=by omega
 rw [et] at hmk
 clear et ht hq hs hp hz hqt
 go_upto_region 6 with (first
  | ((with_reducible refine at_slot (some 24) ?_);refine wpl_i64 rfl rfl rfl rfl rfl Q24 ?_;intro r hr;obtain rfl:t=r:=hr.out.symm;clear hr)
  | ((with_reducible refine at_slot (some 25) ?_);refine wpl_i64 rfl rfl rfl rfl rfl Q25 ?_;intro r hr;obtain rfl:q=r:=hr.out.symm;clear hr)
  | ((with_reducible refine at_slot (some 33) ?_);refine wpl_i64 rfl rfl rfl rfl rfl Q24 ?_;intro r hr;obtain rfl:t=r:=hr.out.symm;clear hr))
 clear hmk
 obtain⟨g,hg⟩:∃g,w1.heap.size=g:=⟨_,rfl⟩
 rw [hg]
 obtain⟨wa,hwa⟩:∃wa,w1.alloc (.cells (zc (.int .u64 0) (q+1)) 24)=wa:=⟨_,rfl⟩
 rw [hwa]
 have hbk:Bk wa g 24 ((List.replicate (q+1) 0).map W64):=by
  rw [←hwa,←hg,←replicate_W64];exact Bk.new' _ _ _
 have hea:Ext w wa:=by rw [←hwa];exact hx1.alloc _
 have hgs:w.heap.size≤g:=by rw [←hg];exact hx1.size
 clear hg hwa
 obtain⟨o,ho,_,hco⟩:=hbk.word (Wf_zeros _) (i:=q) (by rw [List.length_replicate];omega)
 have hfr:=hbk.frozen q
 go_upto_region 7 with (first
  | ((with_reducible refine at_slot (some 36) ?_);refine wpl_i64 rfl rfl rfl rfl rfl Q25 ?_;intro r hr;obtain rfl:q=r:=hr.out.symm;clear hr)
  | ((with_reducible refine at_slot (some 38) ?_);refine wpl_i64 rfl rfl rfl rfl rfl Q38 ?_;intro r hr;obtain rfl:s=r:=hr.out.symm;clear hr)
  | ((with_reducible refine at_slot (some 39) ?_);refine wpl_u64 rfl rfl rfl rfl rfl Q39 (by omega) ?_;intro r hr hrb;obtain rfl:z=r:=hr.out.symm;clear hr hrb))
 have hRd:Rd (wa.setCell ⟨g,q,none⟩ (.int .u64 (z:Int))) (some ⟨g,0,none⟩) (q+1) (q+1) ((List.replicate (q+1) 0).set q z):=by
  have hB:Bk (wa.setCell ⟨g,q,none⟩ (.int .u64 (z:Int))) g 24 (((List.replicate (q+1) 0).set q z).map W64):=by
   rw [←map_W64_set];exact hbk.set _ _
  have:=hB.rd (Wf_set (Wf_zeros _) q (by rw [WB_def];omega)) (o:=0) (n:=q+1) (cap:=q+1) (Nat.le_refl _) (by rw [List.length_set,List.length_replicate];omega) (by rw [len_maxLen];omega)
  rw [List.drop_zero,List.take_of_length_le (by rw [List.length_set,List.length_replicate];omega)] at this
  exact this
 have hN0:Hid (nv ((List.replicate (q+1) 0).set q z)=2^t):=by
  show _=_
  rw [←HZ.out,set_pow,←HQT.out]
 have ek:=Lib.hid (show (K:Int)-1=(m:Int) by omega)
 have hXn:Hid ((wd (nv xs)).length≤n):=by
  have:=len_wd_nv hx.wf
  rw [hx.len] at this
  exact this
 have hPL:∀S,S≤2^t→(wd (S^m)).length≤2*n+1:=by
  intro S hS
  refine len_two_pow (m:=2*b) (by omega) ?_
  refine Nat.le_trans (Nat.pow_le_pow_left hS m) ?_
  rw [←Nat.pow_mul]
  exact Nat.pow_le_pow_right (by omega) HTK.out
 have HPL:=Lib.hid hPL
 have hWm:Hid ((wd m).length≤1):=len_wd_le (by rw [WB_def,Nat.pow_one];omega)
 have hSL:∀S,S≤2^t→(wd S).length≤q+1:=by
  intro S hS
  exact len_two_pow (m:=t) (by rw [HQT.out];omega) hS
 have HSL:=Lib.hid hSL
 clear hPL hSL hbk hco hfr ho
 go_loopw [6] (fun u wr=>∃(A':Option Addr) (n' c' S:Nat) (l:List Nat),u= .slice A' n' c'∧n'≤q+1∧Rd wr A' n' c' l∧Hid (nv l=S)∧Hid (0<S)∧Hid (nv xs<(S+1)^K)∧Hid (S≤2^t)∧Ext w wr) (fun u wr=>numAt wr u)
 case atStart=>exact⟨_,q+1,q+1,2^t,_,rfl,Nat.le_refl _,hRd,hN0,Nat.two_pow_pos t,root_start (by omega) HT.out,Nat.le_refl _,hea.setCell hgs _⟩
 case round=>
  obtain⟨A2,n2,c2,S,l,rfl,hn2,hrd,hS,hS0,hup,hST,hr⟩:=hrel
  clear hRd hN0 hea hgs hx1
  have hP0:Hid (S^m≠0):=Nat.ne_of_gt (Nat.pow_pos hS0.out)
  go_wp2_with fail
  rw [ek.out]
  refine (divnat_power hrd (by omega) (k:=m) (by omega) (by rw [hS.out];exact Nat.le_trans (HPL.out S hST.out) (by omega))).mono ?_
  rintro e w3 ⟨A3,n3,c3,rfl,hn3,hr3,ho3,hx3⟩
  rw [hS.out] at hn3 hr3
  have hn3b:n3≤2*n+1:=by rw [hn3.out];exact HPL.out S hST.out
  go_wp2_with fail
  refine (divnat_DivMod (hx.ext (hr.trans hx3)) (by omega) hr3 (by omega) (by rw [nv_wd];exact hP0.out)).mono ?_
  rintro e w4 ⟨Aq,nq,cq,Ar,nr,cr,rfl,hnq,hrq,hoq,hnr,hrr,hor,hx4⟩
  rw [nv_wd] at hnq hrq
  have hnqb:nq≤n:=by rw [hnq.out];exact Nat.le_trans (len_wd_mono (Nat.div_le_self _ _)) hXn.out
  clear ho3 hoq hnr hrr hor
  go_wp2_with fail
  rw [ek.out]
  refine (mulnat_Word (hrd.ext (hx3.trans hx4)) (by omega) (x:=m) (by omega)).mono ?_
  rintro e w5 ⟨A5,n5,c5,rfl,hn5,hr5,ho5,hx5⟩
  rw [hS.out] at hn5 hr5
  have hn5b:n5≤q+2:=by
   have h1:=len_wd_mul S m
   have h2:=HSL.out S hST.out
   have h3:=hWm.out
   rw [hn5.out];omega
  go_wp2_with fail
  refine (nat_Add hr5 (by omega) (hrq.ext hx5) (by omega)).mono ?_
  rintro e w6 ⟨A6,n6,c6,rfl,hn6,hr6,ho6,hx6⟩
  rw [nv_wd,nv_wd] at hn6 hr6
  have hn6b:n6≤q+n+3:=by
   have h1:=len_wd_add (S*m) (nv xs/S^m)
   rw [←hn5.out,←hnq.out,←hn6.out] at h1
   omega
  clear ho5 ho6
  go_wp2_with fail
  refine (divnat_Word hr6 (by omega) (v:=K) (by omega) (by omega)).mono ?_
  rintro e w7 ⟨A7,n7,c7,r7,rfl,hr7k,hr7b,hn7,hr7,ho7,hx7⟩
  rw [nv_wd] at hn7 hr7
  have hx37:Ext wr w7:=hx3.trans (hx4.trans (hx5.trans (hx6.trans hx7)))
  have hn7b:n7≤q+n+3:=by
   rw [hn7.out];exact Nat.le_trans (len_wd_mono (Nat.div_le_self _ _)) (by rw [←hn6.out];exact hn6b)
  obtain⟨N,hN⟩:∃N,(S*m+nv xs/S^m)/K=N:=⟨_,rfl⟩
  rw [hN] at hn7 hr7
  have HN:=Lib.hid hN
  clear hr7k ho7 hN
  go_wp2_with fail
  refine (nat_Cmp hr7 (by omega) (hrd.ext hx37) (by omega)).mono ?_
  rintro e w8 ⟨c,hc,hcl,hch,rfl,hx8⟩
  rw [nv_wd,hS.out] at hc
  by_cases hlt:c<0
  ·have hNS:N<S:=by rw [hc.out] at hlt;exact cmp3_neg.1 hlt
   have HNS:=Lib.hid hNS
   clear hNS
   have hab:Hid (nv xs<(N+1)^K):=by
    have h1:=newton_above (X:=nv xs) (s:=S) (q:=nv xs/S^m) (m:=m) (by
     have:=Nat.lt_mul_div_succ (nv xs) (Nat.pos_of_ne_zero hP0.out)
     rw [Nat.mul_comm] at this
     exact this)
    rw [←HK.out,HN.out] at h1
    exact h1
   go_wp2_with fail
   go_roundw
   case rel=>
    refine⟨A7,n7,c7,N,wd N,rfl,?_,hr7.ext hx8,nv_wd N,?_,hab,Nat.le_trans (Nat.le_of_lt HNS.out) hST.out,hr.trans (hx37.trans hx8)⟩
    ·rw [hn7.out];exact HSL.out N (Nat.le_trans (Nat.le_of_lt HNS.out) hST.out)
    ·refine Nat.pos_of_ne_zero (fun e=>?_)
     have:=hab.out
     rw [e,Nat.zero_add,Nat.one_pow] at this
     exact H0.out (by omega)
   case measure=>
    rw [(hr7.ext hx8).numAt,hrd.numAt,nv_wd,hS.out]
    exact HNS.out
  ·have hge:0≤c:=by omega
   have hNS:Hid (S≤N):=by
    rw [hc.out] at hlt
    exact Nat.le_of_not_lt (fun h=>hlt (cmp3_neg.2 h))
   go_wp2_with fail
   refine (nat_Least (hrd.ext (hx37.trans hx8)) (by omega)).mono ?_
   rintro e w9 ⟨A9,n9,c9,rfl,hn9,hr9,ho9,hx9⟩
   rw [hS.out] at hn9 hr9 ho9
   go_wp2_with fail
   go_ret
   have hx08:=hr.trans (hx37.trans hx8)
   refine⟨S,⟨?_,hup.out⟩,A9,n9,c9,rfl,hn9,hr9,ho9.mono hx08.size,hx08.trans hx9⟩
   rw [HK.out]
   refine newton_stop hS0.out rfl ?_
   rw [←HK.out,HN.out]
   exact hNS.out
theorem blen_pos {X:Nat}(h:X≠0):1≤blen X:=Nat.pos_of_ne_zero (fun e=>h (blen_eq_zero.1 e))
theorem IsRoot.zero {k:Nat}(hk:1≤k):IsRoot 0 k 0:=⟨by rw [Nat.zero_pow (by omega)];exact Nat.le_refl _,by rw [Nat.zero_add,Nat.one_pow];omega⟩
theorem IsRoot.one {X:Nat}:IsRoot X 1 X:=⟨by rw [Nat.pow_one];exact Nat.le_refl _,by rw [Nat.pow_one];omega⟩
theorem IsRoot.le_self {X k r:Nat}(hk:1≤k) (h:IsRoot X k r):r≤X:=by
 refine Nat.le_trans ?_ h.1
 rcases Nat.eq_zero_or_pos r with e | e
 ·omega
 ·have:=Nat.pow_le_pow_right e hk
  rw [Nat.pow_one] at this
  exact this
def SqrtPA (w:World) (X:Nat) (e:Ending) (w':World):Prop:=∃r,Hid (IsRoot X 2 r)∧RetQRA w r (X-r*r) e w'
theorem divnat_SqrtA {w:World}{A:Option Addr}{n cap:Nat}{xs:List Nat}(hx:Rd w A n cap xs) (hl:n≤67108864):
  Calls Try.prog 68 #[.slice A n cap] w (SqrtPA w (nv xs)):=by
 have hXn:Hid ((wd (nv xs)).length≤n):=by
  have:=len_wd_nv hx.wf
  rw [hx.len] at this
  exact this
 go_enter Try.func68,Try.ntmps68
 go_wp2_with fail
 refine (nat_Least hx (by omega)).mono ?_
 rintro e w1 ⟨A1,n1,c1,rfl,hn1,hr1,ho1,hx1⟩
 have hn1b:n1≤n:=by rw [hn1.out];exact hXn.out
 go_wp2_with fail
 have hroot:Calls Try.prog 98 #[.slice A1 n1 c1,.int .i64 2] w1 (RootP w1 (nv xs) 2):=by
  by_cases h0:nv xs=0
  ·refine (divnat_root_zero hr1 (by omega) (by rw [nv_wd];exact h0)).mono ?_
   intro e w2 h
   exact⟨0,(show IsRoot _ _ _ by rw [h0];exact IsRoot.zero (by omega)),h⟩
  ·have:=divnat_root hr1 (by omega) (by rw [nv_wd];exact h0) (m:=1) (K:=2) (Nat.le_refl _) (by rw [nv_wd];exact blen_pos h0) (by omega) (by omega)
   rw [nv_wd] at this
   exact this
 refine hroot.mono ?_
 rintro e w2 ⟨r,hir,A2,n2,c2,rfl,hn2,hr2,ho2,hx2⟩
 have hrr:Hid (r*r≤nv xs):=by
  have:=hir.out.1
  rw [Nat.pow_two] at this
  exact this
 have hn2b:n2≤n:=by rw [hn2.out];exact Nat.le_trans (len_wd_mono (hir.out.le_self (by omega))) hXn.out
 clear hroot
 go_wp2_with fail
 refine (mulnat_Square hr2 (by omega)).mono ?_
 rintro e w3 ⟨A3,n3,c3,rfl,hn3,hr3,ho3,hx3⟩
 rw [nv_wd] at hn3 hr3
 have hn3b:n3≤n:=by rw [hn3.out];exact Nat.le_trans (len_wd_mono hrr.out) hXn.out
 go_wp2_with fail
 refine (nat_Sub (hx.ext (hx1.trans (hx2.trans hx3))) (by omega) hr3 (by omega) (by rw [nv_wd];exact hrr.out)).mono ?_
 rintro e w4 ⟨A4,n4,c4,rfl,hn4,hr4,ho4,hx4⟩
 rw [nv_wd] at hn4 hr4 ho4
 go_wp2_with fail
 go_ret2
 have hx34:=hx3.trans hx4
 exact⟨r,hir,A2,n2,c2,A4,n4,c4,rfl,hn2,hr2.ext hx34,(ho2.ext hx34).mono hx1.size,hn4,hr4,ho4.mono (hx1.trans (hx2.trans hx3)).size,hx1.trans (hx2.trans hx34),fun p p' hp hp'=>by have h1:=ho2.block p hp;have h2:=ho4.block p' hp';have h3:=hx3.size;omega⟩
theorem divnat_Root_bad {w:World}{A:Option Addr}{n cap:Nat}{k:Int}(hk:k<1):
  Calls Try.prog 70 #[.slice A n cap,.int .i64 k] w (fun e w'=>e= .returned (.tuple #[.slice none 0 0,.int .i64 3])∧w=w'):=by
 go_enter Try.func70,Try.ntmps70
 go_wp2_with fail
 go_ret2
 exact⟨rfl,rfl⟩
def RootE (w:World) (X k:Nat) (e:Ending) (w':World):Prop:=∃r,Hid (IsRoot X k r)∧RetWE w r 0 e w'
theorem divnat_Root {w:World}{A:Option Addr}{n cap:Nat}{xs:List Nat}(hx:Rd w A n cap xs) (hl:n≤67108864){K:Nat}(hK:1≤K) (hK2:K≤9223372036854775807):
  Calls Try.prog 70 #[.slice A n cap,.int .i64 (K:Int)] w (RootE w (nv xs) K):=by
 have hXn:Hid ((wd (nv xs)).length≤n):=by
  have:=len_wd_nv hx.wf
  rw [hx.len] at this
  exact this
 have hk1:¬(K:Int)<1:=by omega
 have hk2:1≤(K:Int):=by omega
 go_enter Try.func70,Try.ntmps70
 go_wp2_with fail
 refine (nat_Least hx (by omega)).mono ?_
 rintro e w1 ⟨A1,n1,c1,rfl,hn1,hr1,ho1,hx1⟩
 have hn1b:n1≤n:=by rw [hn1.out];exact hXn.out
 go_wp2_with fail
 refine (nat_BitLen hr1 (by omega)).mono ?_
 rintro e w2 ⟨b,hb,rfl,hx2⟩
 rw [nv_wd] at hb
 by_cases h0:b=0
 ·subst h0
  have hX0:nv xs=0:=blen_eq_zero.1 hb.out.symm
  have HX0:=Lib.hid hX0
  clear hX0
  go_wp2_with fail
  go_ret2
  refine⟨nv xs,(show IsRoot _ _ _ by rw [HX0.out];exact IsRoot.zero hK),A1,n1,c1,rfl,hn1,hr1.ext hx2,ho1.ext hx2,hx1.trans hx2⟩
 ·have bz:((b:Int)==0)=false:=by simp;omega
  by_cases h1:K=1
  ·subst h1
   go_wp2_with fail
   go_ret2
   exact⟨nv xs,IsRoot.one,A1,n1,c1,rfl,hn1,hr1.ext hx2,ho1.ext hx2,hx1.trans hx2⟩
  ·have bk:((K:Int)==1)=false:=by simp;omega
   have hX0:nv xs≠0:=fun e=>h0 (by rw [hb.out,e];rfl)
   have HX0:=Lib.hid hX0
   have hK3:2≤K:=by omega
   clear hX0 h0 h1
   by_cases hkb:b≤K
   ·go_wp2_with fail
    go_ret2
    have e1:wd 1= [1]:=by decide+kernel
    refine⟨1,⟨by rw [Nat.one_pow];exact Nat.pos_of_ne_zero HX0.out,?_⟩,some ⟨w2.heap.size,0,none⟩,1,1,rfl,?_,?_,?_,?_⟩
    ·have h1:=lt_blen (nv xs)
     rw [←hb.out] at h1
     exact Nat.lt_of_lt_of_le h1 (Nat.pow_le_pow_right (by omega) hkb)
    ·show _=_;rw [e1];rfl
    ·rw [e1];exact Rd.one w2 (x:=1) (by omega)
    ·rw [e1];exact Own.mk_ (hx1.trans hx2).size (Bk.new w2 24 [.int .u64 1]) (Nat.le_refl _) (by rw [len_maxLen];omega) rfl rfl
    ·exact (hx1.trans hx2).alloc _
   ·have hkb2:¬(b:Int)≤(K:Int):=by omega
    have hm:Hid (K-1≤blen (nv xs)):=(show _≤_ by rw [←hb.out];omega)
    go_wp2_with fail
    have hroot:Calls Try.prog 98 #[.slice A1 n1 c1,.int .i64 (K:Int)] w2 (RootP w2 (nv xs) K):=by
     have:=divnat_root (hr1.ext hx2) (by omega) (by rw [nv_wd];exact HX0.out) (m:=K-1) (K:=K) (by omega) (by rw [nv_wd];exact hm.out) (by omega) (by omega)
     rw [nv_wd] at this
     exact this
    refine hroot.mono ?_
    rintro e w3 ⟨r,hir,A3,n3,c3,rfl,hn3,hr3,ho3,hx3⟩
    clear hroot
    go_wp2_with fail
    go_ret2
    exact⟨r,hir,A3,n3,c3,rfl,hn3,hr3,ho3.mono (hx1.trans hx2).size,hx1.trans (hx2.trans hx3)⟩
theorem mix:Try.prog.follows .mixedOrders=true:=by kernel_rfl
def Is (u v:Value) (_:World):Prop:=v=u
def ZR (b:Nat) (z:Int) (v:Value) (w:World):Prop:=∃s A n c,v= .agg #[.bool s,.slice A n c]∧Zr w b s A n c z
def WR (b:Nat) (m:Nat) (v:Value) (w:World):Prop:=∃A n c,v= .slice A n c∧n=(wd m).length∧Own w b 24 1 A n c ((wd m).map W64)
def Wi (w:World) (A:Option Addr) (n c:Nat) (m:Nat):Prop:=∃xs,Rd w A n c xs∧nv xs=m
theorem Wi.ext {w w':World}{A:Option Addr}{n c m:Nat}(h:Wi w A n c m) (e:Ext w w'):Wi w' A n c m:=by
 obtain⟨xs,h1,h2⟩:=h
 exact⟨xs,h1.ext e,h2⟩
theorem Zi.wi {w:World}{s:Bool}{A:Option Addr}{n c:Nat}{z:Int}(h:Zi w s A n c z):Wi w A n c z.natAbs:=by
 obtain⟨xs,h1,h2⟩:=h
 exact⟨xs,h1,by rw [←h2,sg_abs]⟩
theorem Own.wi {w:World}{b:Nat}{t:TypeId}{A:Option Addr}{n c m:Nat}(h:Own w b t 1 A n c ((wd m).map W64)):Wi w A n c m:=⟨_,h.rd (Wf_wd _),nv_wd m⟩
theorem Wi.len {w:World}{A:Option Addr}{n c m:Nat}(h:Wi w A n c m):(wd m).length≤n:=by
 obtain⟨xs,h1,rfl⟩:=h
 have:=len_wd_nv h1.wf
 rw [h1.len] at this;exact this
def PR (b:Nat) (T:TypeId) (vs:List Value) (v:Value) (w:World):Prop:=∃g,v= .pointer (some ⟨g,0,none⟩)∧b≤g∧Bk w g T vs
theorem PR.old {b:Nat}{T:TypeId}{vs:List Value}{v:Value}{w:World}(h:PR b T vs v w):OldIn w v:=by
 obtain⟨g,h1,_,h2⟩:=h
 exact⟨g,h1,h2.lt⟩
def T2 (R S:Value→World→Prop) (v:Value) (w:World):Prop:=∃a b,v= .tuple #[a,b]∧R a w∧S b w
def T3 (R S T:Value→World→Prop) (v:Value) (w:World):Prop:=∃a b c,v= .tuple #[a,b,c]∧R a w∧S b w∧T c w
def Gv (w:World) (R:Value→World→Prop) (e:Ending) (w':World):Prop:=∃v,e= .returned v∧R v w'∧Ext w w'
section
variable {w w':World}{b:Nat}{z x y:Int}{v u:Value}{R S T:Value→World→Prop}
theorem ZR.ext (h:ZR b z v w) (e:Ext w w'):ZR b z v w':=by
 obtain⟨s,A,n,c,rfl,h⟩:=h
 exact⟨s,A,n,c,rfl,h.ext e⟩
theorem Is.ext (h:Is u v w) (_:Ext w w'):Is u v w':=h
theorem WR.ext {m:Nat}(h:WR b m v w) (e:Ext w w'):WR b m v w':=by
 obtain⟨A,n,c,rfl,h1,h2⟩:=h
 exact⟨A,n,c,rfl,h1,h2.ext e⟩
theorem gw {m:Nat}(hb:b≤w.heap.size) (e:Ending) (w':World) (h:RetW w m e w'):Gv w (WR b m) e w':=by
 obtain⟨A,n,c,rfl,h1,h2,h3,h4⟩:=h
 exact⟨_,rfl,⟨A,n,c,rfl,h1.out,h3.mono hb⟩,h4⟩
theorem gwe {m:Nat}{er:Int}(hb:b≤w.heap.size) (e:Ending) (w':World) (h:RetWE w m er e w'):Gv w (T2 (WR b m) (Is (.int .i64 er))) e w':=by
 obtain⟨A,n,c,rfl,h1,h2,h3,h4⟩:=h
 exact⟨_,rfl,⟨_,_,rfl,⟨A,n,c,rfl,h1.out,h3.mono hb⟩,rfl⟩,h4⟩
theorem Gv.imp (hi:∀v w,R v w→S v w) (e:Ending) (w':World) (h:Gv w R e w'):Gv w S e w':=by
 obtain⟨v,rfl,h1,h2⟩:=h
 exact⟨v,rfl,hi _ _ h1,h2⟩
theorem ZR.imp {b':Nat}(hb:b≤b') (v:Value) (w:World) (h:ZR b' z v w):ZR b z v w:=by
 obtain⟨s,A,n,c,rfl,h⟩:=h
 exact⟨s,A,n,c,rfl,h.mono hb⟩
theorem WR.imp {b' m:Nat}(hb:b≤b') (v:Value) (w:World) (h:WR b' m v w):WR b m v w:=by
 obtain⟨A,n,c,rfl,h1,h2⟩:=h
 exact⟨A,n,c,rfl,h1,h2.mono hb⟩
theorem T2.imp {R' S':Value→World→Prop}(h1:∀v w,R v w→R' v w) (h2:∀v w,S v w→S' v w) (v:Value) (w:World) (h:T2 R S v w):T2 R' S' v w:=by
 obtain⟨a,c,rfl,h3,h4⟩:=h
 exact⟨a,c,rfl,h1 _ _ h3,h2 _ _ h4⟩
theorem T3.imp {R' S' T':Value→World→Prop}(h1:∀v w,R v w→R' v w) (h2:∀v w,S v w→S' v w) (h0:∀v w,T v w→T' v w) (v:Value) (w:World) (h:T3 R S T v w):T3 R' S' T' v w:=by
 obtain⟨a,c,d,rfl,h3,h4,h5⟩:=h
 exact⟨a,c,d,rfl,h1 _ _ h3,h2 _ _ h4,h0 _ _ h5⟩
theorem Is.imp {u:Value}(v:Value) (w:World) (h:Is u v w):Is u v w:=h
theorem gis {u:Value}(e:Ending) (w':World) (h:e= .returned u∧Ext w w'):Gv w (Is u) e w':=⟨_,h.1,rfl,h.2⟩
theorem gbool {c:Bool}(e:Ending) (w':World) (h:BoolP c w e w'):Gv w (Is (.bool c)) e w':=⟨_,h.1,rfl,h.2⟩
end
section
variable {w:World}{b:Nat}(hb:b≤w.heap.size){s t u:Bool}{A B C:Option Addr}{n cap m cap' k cap'':Nat}{x y z:Int}
include hb
omit hb in
theorem g_divnat_Exact_bad {i j:Nat}(hy:Wi w B m cap' j) (hl':m≤274877906944) (h0:j=0):
  Calls Try.prog 66 #[.slice A n cap,.slice B m cap'] w (Gv w (Is (.tuple #[.slice none 0 0,.int .i64 4]))):=by
 obtain⟨ys,h1,rfl⟩:=hy
 exact (divnat_Exact_bad h1 (by omega) h0).mono gis
omit hb in
theorem g_divnat_Exact_not {i j:Nat}(hx:Wi w A n cap i) (hl:n≤274877906944) (hy:Wi w B m cap' j) (hl':m≤274877906944) (h0:j≠0) (h1:i%j≠0):
  Calls Try.prog 66 #[.slice A n cap,.slice B m cap'] w (Gv w (Is (.tuple #[.slice none 0 0,.int .i64 8]))):=by
 obtain⟨ys,hy,rfl⟩:=hy
 obtain⟨xs,hx,rfl⟩:=hx
 exact (divnat_Exact_not hx hl hy hl' h0 h1).mono gis
theorem g_divnat_Exact {i j:Nat}(hx:Wi w A n cap i) (hl:n≤274877906944) (hy:Wi w B m cap' j) (hl':m≤274877906944) (h0:j≠0) (h1:i%j=0):
  Calls Try.prog 66 #[.slice A n cap,.slice B m cap'] w (Gv w (T2 (WR b (i/j)) (Is (.int .i64 0)))):=by
 obtain⟨ys,hy,rfl⟩:=hy
 obtain⟨xs,hx,rfl⟩:=hx
 exact (divnat_Exact hx hl hy hl' h0 h1).mono (gwe hb)
end
section
variable {w:World}{s t:Bool}{A B:Option Addr}{n cap m cap':Nat}{x y:Int}
end
section
variable {P:Program}{Q:Exit→Act→World→Prop}{n:Nat}{l:Fr}{w:World}{ops:Array Oper}{rest:List Oper}{d:Nat}{op:Op}{ty:TypeId}{pos:String}{af:Array Edge}{gd:Option (Nat×Bool)}
theorem wl_bslice (hw:guardB ops l gd=some true) (hk:known l op=true) (hn:d<n){k:Nat}{e:TypeId}(cells:List Value)
  (hr:∀w,(execOp (rho l) ⟨some d,op,ty,pos,af,gd⟩).run P w= .ok (.value (.slice (some ⟨w.heap.size,0,none⟩) k k)) (w.alloc (.cells cells.toArray e)))
  (h:∀g w',NewBk w w' g e cells→wl P ops Q n rest ((d,.slice (some ⟨g,0,none⟩) k k)::l) w'):wl P ops Q n (⟨some d,op,ty,pos,af,gd⟩::rest) l w:=
 wl_val hw hn (fun a ha=>by rw [exec_known hk ha];exact hr w) (h _ _ (NewBk.mk' w e cells))
end
def O1 (b x:Nat) (v:Value) (w:World):Prop:=∃A,v= .slice A 1 1∧Own w b 24 1 A 1 1 [W64 x]
theorem O1.mk_ {w w':World}{g b x:Nat}(h:NewBk w w' g 24 [W64 x]) (hb:b≤w.heap.size):Own w' b 24 1 (some ⟨g,0,none⟩) 1 1 [W64 x]:=
 Own.mk_ (by rw [←h.at_];exact hb) h.bk (Nat.le_refl _) (by rw [len_maxLen];omega) rfl rfl
theorem own1_wi {w:World}{b x:Nat}{A:Option Addr}(h:Own w b 24 1 A 1 1 [W64 x]) (hx:x≤18446744073709551615):Wi w A 1 1 x:=
 ⟨[x],h.rd (Wf_one (by rw [WB_def];omega)),nv_one x⟩
theorem own1_wd {w:World}{b x:Nat}{A:Option Addr}(h:Own w b 24 1 A 1 1 [W64 x]) (hx:x≤18446744073709551615) (h0:x≠0):Own w b 24 1 A 1 1 ((wd x).map W64):=by
 rw [wd_small (by rw [WB_def];omega) h0];exact h
theorem len1 {x:Nat}(hx:x≤18446744073709551615) (h0:x≠0):1=(wd x).length:=by rw [wd_small (by rw [WB_def];omega) h0];rfl
section
variable {P:Program}{Q:Exit→Act→World→Prop}{n:Nat}{l:Fr}{w:World}
def mvL (n:Nat) (ops:Array Oper):Nat→List Oper→Fr→Option (Fr×List Oper)
 | 0,rest,l=>some (l,rest)
 | _+1,[],_=>none
 | k+1,⟨some d,op,_,_,_,gd⟩::rest,l=>
  match Nat.blt d n with
  | true=>
   match guardB ops l gd with
   | some true=>
    match op with
    | .move x=>match evo l x with
     | some v=>mvL n ops k rest ((d,v)::l)
     | none=>none
    | .assign x=>match evo l x with
     | some v=>mvL n ops k rest ((d,v)::l)
     | none=>none
    | _=>none
   | some false=>mvL n ops k rest ((d,undef)::l)
   | none=>none
  | false=>none
 | _+1,_::_,_=>none
theorem mv {ops:Array Oper}:∀(k:Nat){rest rest':List Oper}{l l':Fr},mvL n ops k rest l=some (l',rest')→wl P ops Q n rest' l' w→wl P ops Q n rest l w
 | 0,rest,rest',l,l',h,hw=>by
  simp only [mvL,Option.some.injEq,Prod.mk.injEq] at h
  obtain⟨rfl,rfl⟩:=h
  exact hw
 | k+1,[],rest',l,l',h,hw=>by simp [mvL] at h
 | k+1,⟨none,op,ty,pos,af,gd⟩::rest,rest',l,l',h,hw=>by simp [mvL] at h
 | k+1,⟨some d,op,ty,pos,af,gd⟩::rest,rest',l,l',h,hw=>by
  unfold mvL at h
  split at h
  ·rename_i hd
   have hd':d<n:=Nat.le_of_ble_eq_true hd
   split at h
   ·rename_i hg
    split at h
    ·split at h
     ·rename_i hx
      exact wl_move hg hx hd' (mv k h hw)
     ·cases h
    ·split at h
     ·rename_i hx
      exact wl_assign hg hx hd' (mv k h hw)
     ·cases h
    ·cases h
   ·rename_i hg
    exact wl_off hg hd' (mv k h hw)
   ·cases h
  ·cases h
theorem sr {id:Nat}{ol:List Oper}{y:Code}(h:wl P ol.toArray (Exit.then (fun a w=>y.wp P Q a w) Q) n ol l w):cw P Q n (.seq (.region id ol.toArray false) y) l w:=cw_seq (cw_region h)
theorem ne_ {ops:Array Oper}{y:Code}(h:cw P Q n y l w):wl P ops (Exit.then (fun a w=>y.wp P Q a w) Q) n [] l w:=wl_nil (eo_then h)
theorem pu {ops:Array Oper}{rest:List Oper}{d:Nat}{op:Op}{ty:TypeId}{pos:String}{af:Array Edge}{gd:Option (Nat×Bool)}{v:Value}(hk:(guardB ops l gd==some true&&known l op&&Nat.blt d n)=true) (hr:(execOp (rho l) ⟨some d,op,ty,pos,af,gd⟩).run P w= .ok (.value v) w)
  (h:wl P ops Q n rest ((d,v)::l) w):wl P ops Q n (⟨some d,op,ty,pos,af,gd⟩::rest) l w:=by
 rw [Bool.and_eq_true,Bool.and_eq_true,beq_iff_eq] at hk
 exact wl_pure hk.1.1 hk.1.2 (Nat.le_of_ble_eq_true hk.2) hr h
section
variable {ops:Array Oper}{rest:List Oper}{d:Nat}{ty:TypeId}{pos:String}{af:Array Edge}{gd:Option (Nat×Bool)}{w0:World}
theorem bx {x:Operand}{t:TypeId}{v:Value}(vs:List Value) (h0:Ext w0 w) (hx:evo l x=some v) (hk:(guardB ops l gd==some true&&Nat.blt d n)=true) (hv:v.cells=vs.toArray)
  (h:∀g w',Bk w' g t vs→w0.heap.size≤g→Ext w w'→Ext w0 w'→wl P ops Q n rest ((d,.pointer (some ⟨g,0,none⟩))::l) w'):wl P ops Q n (⟨some d,.box t x,ty,pos,af,gd⟩::rest) l w:=by
 rw [Bool.and_eq_true,beq_iff_eq] at hk
 exact wl_box hk.1 hx hv (Nat.le_of_ble_eq_true hk.2) fun g w' nb=>h g w' nb.bk (by rw [←nb.at_];exact h0.size) nb.ext (h0.trans nb.ext)
theorem bxq {x:Operand}{t:TypeId}{v:Value}{gp:Nat}(vs:List Value) (h0:Ext w0 w) (hq:gp<w.heap.size) (hx:evo l x=some v) (hk:(guardB ops l gd==some true&&Nat.blt d n)=true) (hv:v.cells=vs.toArray)
  (h:∀g w',Bk w' g t vs→w0.heap.size≤g→gp<g→Ext w w'→Ext w0 w'→wl P ops Q n rest ((d,.pointer (some ⟨g,0,none⟩))::l) w'):wl P ops Q n (⟨some d,.box t x,ty,pos,af,gd⟩::rest) l w:=by
 rw [Bool.and_eq_true,beq_iff_eq] at hk
 exact wl_box hk.1 hx hv (Nat.le_of_ble_eq_true hk.2) fun g w' nb=>h g w' nb.bk (by rw [←nb.at_];exact h0.size) (by rw [←nb.at_];exact hq) nb.ext (h0.trans nb.ext)
theorem al {t:TypeId}(vs:List Value) (h0:Ext w0 w) (hz:∀w,(zeroValue t).run P w= .ok (.agg vs.toArray) w) (hk:(guardB ops l gd==some true&&Nat.blt d n)=true)
  (h:∀g w',Bk w' g t vs→w0.heap.size≤g→Ext w w'→Ext w0 w'→wl P ops Q n rest ((d,.pointer (some ⟨g,0,none⟩))::l) w'):wl P ops Q n (⟨some d,.alloc t,ty,pos,af,gd⟩::rest) l w:=by
 rw [Bool.and_eq_true,beq_iff_eq] at hk
 exact wl_alloc hk.1 hz rfl (Nat.le_of_ble_eq_true hk.2) fun g w' nb=>h g w' nb.bk (by rw [←nb.at_];exact h0.size) nb.ext (h0.trans nb.ext)
theorem alq {t:TypeId}{gp:Nat}(vs:List Value) (h0:Ext w0 w) (hq:gp<w.heap.size) (hz:∀w,(zeroValue t).run P w= .ok (.agg vs.toArray) w) (hk:(guardB ops l gd==some true&&Nat.blt d n)=true)
  (h:∀g w',Bk w' g t vs→w0.heap.size≤g→gp<g→Ext w w'→Ext w0 w'→wl P ops Q n rest ((d,.pointer (some ⟨g,0,none⟩))::l) w'):wl P ops Q n (⟨some d,.alloc t,ty,pos,af,gd⟩::rest) l w:=by
 rw [Bool.and_eq_true,beq_iff_eq] at hk
 exact wl_alloc hk.1 hz rfl (Nat.le_of_ble_eq_true hk.2) fun g w' nb=>h g w' nb.bk (by rw [←nb.at_];exact h0.size) (by rw [←nb.at_];exact hq) nb.ext (h0.trans nb.ext)
theorem cl {f:FuncId}{xs:Array Operand}{ts:Array TypeId}{vs:List Value}{R:Value→World→Prop}(h0:Ext w0 w) (hc:Calls P f vs.toArray w (Gv w R))
  (hk:(guardB ops l gd==some true&&known l (.call {callee:= .value (.func f),args:=xs,argTypes:=ts})&&Nat.blt d n)=true)
  (hr:(execOp (rho l) ⟨some d,.call {callee:= .value (.func f),args:=xs,argTypes:=ts},ty,pos,af,gd⟩).run P w= .ok (.enter f vs.toArray) w)
  (h:∀v w',R v w'→Ext w w'→Ext w0 w'→wl P ops Q n rest ((d,v)::l) w'):
  wl P ops Q n (⟨some d,.call {callee:= .value (.func f),args:=xs,argTypes:=ts},ty,pos,af,gd⟩::rest) l w:=by
 rw [Bool.and_eq_true,Bool.and_eq_true,beq_iff_eq] at hk
 refine wl_call hk.1.1 hk.1.2 hr (Nat.le_of_ble_eq_true hk.2) hc ?_
 rintro _ w' ⟨v,rfl,r,e⟩
 exact ret_intro (h v w' r e (h0.trans e))
theorem lo {x:Operand}{T T':TypeId}{k off g:Nat}{vs:List Value}(hT:AggT P T k) (hb:Bk w g T' vs) (us:List Value) (hx:evo l x=some (.pointer (some ⟨g,off,none⟩)))
  (hk:(guardB ops l gd==some true&&Nat.blt d n&&Nat.beq us.length k&&Nat.ble (off+k) vs.length)=true) (he:(vs.drop off).take k=us) (h:wl P ops Q n rest ((d,.agg us.toArray)::l) w):wl P ops Q n (⟨some d,.load T x,ty,pos,af,gd⟩::rest) l w:=by
 rw [Bool.and_eq_true,Bool.and_eq_true,Bool.and_eq_true,beq_iff_eq] at hk
 exact wl_load hk.1.1.1 hx (load_agg hT hb us (Nat.eq_of_beq_eq_true hk.1.2) (Nat.le_of_ble_eq_true hk.2) he) (Nat.le_of_ble_eq_true hk.1.1.2) h
theorem so {x y:Operand}{T T':TypeId}{k g off:Nat}{vs us:List Value}(hT:AggT P T k) (hb:Bk w g T' vs) (us':List Value) (h0:Ext w0 w) (hg:w0.heap.size≤g) (hx:evo l x=some (.pointer (some ⟨g,off,none⟩))) (hy:evo l y=some (.agg us.toArray))
  (hk:(guardB ops l gd==some true&&Nat.beq us.length k&&Nat.ble (off+k) vs.length&&us.all (·.oneCell'))=true) (he:overl vs off us=us')
  (h:∀w',Bk w' g T' us'→Upd g w w'→Ext w0 w'→wl P ops Q n rest l w'):wl P ops Q n (⟨none,.store T x y,ty,pos,af,gd⟩::rest) l w:=by
 rw [Bool.and_eq_true,Bool.and_eq_true,Bool.and_eq_true,beq_iff_eq] at hk
 exact wl_stored hk.1.1.1 hx hy hT (Nat.eq_of_beq_eq_true hk.1.1.2) hb (Nat.le_of_ble_eq_true hk.1.2) hk.2 us' he fun w' b u _=>h w' b u (u.ext h0 hg)
end
theorem dk {ol:List Oper}{Rs:List (Value→World→Prop)}{w0 w1:World}{k:Fr→Prop}{acc:Fr}{j:Nat}{ds:List Nat}{v:Value}{d:Nat}
  (hR:Rs[j]?=some (Is v)) (hd:dstOf ol j=some d) (h:Deps ol Rs w0 w1 k ds ((d,v)::acc)):Deps ol Rs w0 w1 k (j::ds) acc:=
 deps_cons hR hd fun v' _ hr _ _=>by
  obtain rfl:=hr
  exact h
theorem pf {ops:Array Oper}{rest:List Oper}{d:Nat}{op:Op}{ty:TypeId}{pos:String}{af:Array Edge}{gd:Option (Nat×Bool)}(g off:Nat) (hk:(guardB ops l gd==some true&&known l op&&Nat.blt d n)=true) (hr:(execOp (rho l) ⟨some d,op,ty,pos,af,gd⟩).run P w= .ok (.value (.pointer (some ⟨g,off,none⟩))) w)
  (h:wl P ops Q n rest ((d,.pointer (some ⟨g,off,none⟩))::l) w):wl P ops Q n (⟨some d,op,ty,pos,af,gd⟩::rest) l w:=pu hk hr h
theorem bq {m k:Nat}(h:Nat.ble m k=true):m≤k:=Nat.le_of_ble_eq_true h
theorem lx_ {a b c:Nat}(h:a≤b) (k:Nat.ble b c=true):a≤c:=Nat.le_trans h (Nat.le_of_ble_eq_true k)
end
abbrev S0:Value:= .slice none 0 0
abbrev F0:Value:= .bool false
abbrev I0:Value:= .int .i64 0
end Go.Proofs.Ytgilhcdglaneiaa

namespace Go.Proofs.Ytgilhcdglaneiaa
open Go.ChangeShapes Go.WideShapes Go.ChangeAt Go.RowKit
theorem own_knob:ownKnob Try.prog.godebug=none:=by kernel_rfl
theorem cells_word:Try.prog.cellsOf 24=1:=by kernel_rfl
theorem bulk_one {H:Type}(d:DataW H):1≤Rows.uptoBulk d:=by
 cases d with
 | lit l=>cases l <;> simp [Rows.uptoBulk]
 | nil=>simp [Rows.uptoBulk]
 | ptr d=>simp [Rows.uptoBulk]
 | slice elems spare=>simp [Rows.uptoBulk]
 | agg parts=>simp [Rows.uptoBulk]
 | iface t d=>simp [Rows.uptoBulk]
 | map entries=>simp [Rows.uptoBulk]
 | held h=>simp [Rows.uptoBulk]
theorem bulk_len {H:Type}(l:List (DataW H)):l.length≤Rows.uptoBulkAll l:=by
 induction l with
 | nil=>simp [Rows.uptoBulkAll]
 | cons x r ih=>have:=bulk_one x;simp only [Rows.uptoBulkAll,List.length_cons];omega
theorem bulk_slice {H:Type}(elems spare:List (DataW H)):elems.length+spare.length≤Rows.uptoBulk (.slice elems spare):=by
 have h1:=bulk_len elems
 have h2:=bulk_len spare
 simp only [Rows.uptoBulk]
 omega
theorem bulk_bound {H:Type}{l:List (DataW H)}(hk:Rows.uptoSmall H l=true):Rows.uptoBulkAll l≤1048576:=of_decide_eq_true hk
theorem wf_nat {n:Int}(h:(Lit.int .u64 n).wf=true):0≤n∧n≤18446744073709551615:=by
 simpa [Lit.wf,IntKind.min,IntKind.max,IntKind.signed,IntKind.bits] using h
theorem wf_int {n:Int}(h:(Lit.int .i64 n).wf=true): -9223372036854775808≤n∧n≤9223372036854775807:=by
 simpa [Lit.wf,IntKind.min,IntKind.max,IntKind.signed,IntKind.bits] using h
set_option maxRecDepth 20000 in
theorem open_words {H:Type}{enc:TypeId×Value→H}{W:World}{base:Nat}{v:Value}{d:DataW H}{p:List MemPlace}
  (hval:Value.okWide Try.prog W .any base 22 v) (h:DataW.Trod enc Try.prog W 0 (fun _=>true) true 22 v d p):
  ∃A n cap xs,v= .slice A n cap∧Rd W A n cap xs∧n≤Rows.uptoBulk d∧
   ∀W',Ext W W'→∀sp:Nat→Bool,(∀q∈p,sp q.block=true)→DataW.Trod enc Try.prog W' 0 sp true 22 v d p:=by
 obtain⟨A,n,cap,rfl⟩:=okWide_slice Try.underlying22 hval
 obtain⟨fuel,hf⟩:=h
 rcases open_ints Try.underlying22 Try.underlying24 cells_word hf with⟨hcs,hx⟩ | ⟨a,n',cap',zs,hcs,_,hl,hm,hz,hx,hcell,hwf⟩
 ·simp [Value.cells] at hcs
  obtain⟨rfl,rfl,rfl⟩:=hcs
  simp only [Prod.mk.injEq] at hx
  obtain⟨rfl,rfl⟩:=hx
  exact⟨none,0,0,[],rfl,Rd.nil W,Nat.zero_le _,fun W' _ sp _=>shut_slice_nil Try.underlying22⟩
 ·simp [Value.cells] at hcs
  obtain⟨rfl,rfl,rfl⟩:=hcs
  simp only [Prod.mk.injEq] at hx
  obtain⟨rfl,rfl⟩:=hx
  simp only [if_true] at hz
  have hblk:0<cap→a.block<W.heap.size:=fun hc=>World.block_lt_of_cell? W (a.add 0) (hcell 0 (by omega)) |> fun h=>by rwa [block_of_add] at h
  have hnn:∀z∈zs,((z.toNat:Nat):Int)=z:=fun z hz'=>Int.toNat_of_nonneg (wf_nat (hwf z hz')).1
  have hlen:(zs.take n).length=n:=by rw [List.length_take];omega
  refine⟨some a,n,cap,(zs.take n).map Int.toNat,rfl,⟨⟨by simp;omega,hl,hm,fun i hi=>⟨a,rfl,?_⟩,fun b hb hc=>by cases hb;exact hblk hc⟩,?_⟩,?_,?_⟩
  ·rw [hcell i (by omega)]
   have hi2:i<zs.length:=by omega
   have hmem:zs[i]∈zs:=List.getElem_mem hi2
   have e:(((zs.take n).map Int.toNat).map W64).getD i undef= .int .u64 ((zs[i].toNat:Nat):Int):=by
    simp [List.getD_eq_getElem?_getD,List.getElem?_map,show i<n by omega,List.getElem?_eq_getElem hi2]
   rw [e,hnn _ hmem]
   simp [List.getD_eq_getElem?_getD,List.getElem?_eq_getElem hi2]
  ·intro x hx
   obtain⟨z,hz1,rfl⟩:=List.mem_map.1 hx
   have:=wf_nat (hwf z (List.mem_of_mem_take hz1))
   rw [WB_def];omega
  ·have:=bulk_slice (H:=H) (lits .u64 (zs.take n)) (lits .u64 (zs.drop n))
   have e:(lits (H:=H) .u64 (zs.take n)).length=n:=by simp [lits];omega
   omega
  ·intro W' he sp hsp
   have hcell':∀i,i<zs.length→W'.cell? (a.add i)=some (.int .u64 (zs.getD i 0)):=fun i hi=>he.cell (hcell i hi)
   by_cases hz0:zs.length=0
   ·have hc0:cap=0:=by omega
    have hl0:n=0:=by omega
    subst hc0;subst hl0
    have t0:=shut_ints (enc:=enc) (w:=W') (base:=0) (spare:=sp) (held:=true) (a:=a) (len:=0) (cap:=0) (zs:=zs) 0 Try.underlying22 Try.underlying24 cells_word (Nat.zero_le _) (Nat.le_refl _) hm (by simp [hz0]) hcell' hwf
    exact⟨2,by simpa [Value.cells] using t0⟩
   ·have hspb:sp a.block=true:=hsp (.cell a.block a.off) (MemPlace.mem_row.2 ⟨0,by omega,by simp⟩)
    have t0:=shut_ints (enc:=enc) (w:=W') (base:=0) (spare:=sp) (held:=true) (a:=a) (len:=n) (cap:=cap) (zs:=zs) 0 Try.underlying22 Try.underlying24 cells_word (Nat.zero_le _) hl hm (by simp [hspb,hz]) hcell' hwf
    exact⟨2,by simpa [Value.cells] using t0⟩
theorem post_of_below {H:Type}{enc:TypeId×Value→H}{P:Program}{f:Func}{s:ChangeSpec}{apart fresh handsOn again:Bool}{W W':World}{args:Array Value}{v:Value}{ds gs:List (DataW H)}{before pa pv:List MemPlace}
  (hW:DataW.Whole enc P f.params.toList s.vars apart W args.toList ds gs before)
  (hres:∀(b:Nat) (sp:Nat→Bool) (hd:Bool),DataW.TrodAll enc P W' b sp hd f.resultTypes.toList (v.resultList f.resultTypes.size) (s.fn H (ds++gs)).results [])
  (hargs:∀sp:Nat→Bool,(∀p∈before,sp p.block=true)→DataW.TrodAll enc P W' 0 sp true f.params.toList args.toList (s.fn H (ds++gs)).args pa)
  (hvars:∀sp:Nat→Bool,(∀p∈before,sp p.block=true)→DataW.TrodVars enc P W' sp s.vars (s.fn H (ds++gs)).vars pv)
  (hps:before=pa++pv) (hb:Below W.heap.size W W')
  (hok:∀(j:Nat) (t:TypeId) (r:Value),f.resultTypes[j]?=some t→(v.resultList f.resultTypes.size)[j]?=some r→Value.okWide P W' .any 0 t r):
  s.post enc P f apart fresh handsOn again W args v W':=by
 have hlt:∀p∈before,p.block<W.heap.size:=fun p hp=>hW.lt p hp
 have hold:∀p∈before,(fun b=>decide (b<W.heap.size)) p.block=true:=fun p hp=>by simpa using hlt p hp
 refine⟨ds,gs,before,[],pa,pv,hW,hres _ _ _,hargs _ hold,hvars _ hold,World.keptBut_mono (fun p hp=>⟨hp,?_⟩) (hb.frame (· ∈before)),fun _=>?_⟩
 ·rw [hps,List.mem_append] at hp
  exact Or.inr hp
 ·obtain⟨_,_,_,_,_,hz,hn⟩:=hW
  refine⟨hok,_,_,([]++pa)++pv,⟨[]++pa,pv,trodAll_append (hargs _ (fun _ _=>rfl)) (hres _ _ _),hvars _ (fun _ _=>rfl),rfl,?_,?_⟩,?_⟩
  ·intro b off hp
   have hin:MemPlace.cell b off∈before:=by rw [hps];simpa using hp
   rw [hb.frozen (hlt _ hin)]
   exact hz b off hin
  ·intro ha
   have:=hn ha
   rw [hps] at this
   simpa using this
  ·intro p hp _
   rw [hps]
   simpa using hp
end Go.Proofs.Ytgilhcdglaneiaa

namespace Go.Proofs.Ytgilhcdglaneiaa
open Go.RowKit
def TR (A:Option Addr) (n c:Nat) (xs:List Nat) (v:Value) (_:World):Prop:=∃k,v= .slice A k c∧k≤n∧(k=0∨xs.getD (k-1) 0≠0)∧∀b,nb b (xs.take k)=nb b xs
theorem trim_step {xs:List Nat}{k:Nat}(hk:k>0) (hl:k≤xs.length) (h0:xs.getD (k-1) 0=0) (hv:∀b,nb b (xs.take k)=nb b xs) (b:Nat):nb b (xs.take (k-1))=nb b xs:=by
 rw [←hv b,←nb_take_zero b xs (k-1) (by omega) h0,Nat.sub_add_cancel hk]
theorem slice_to (A:Option Addr) (c k:Nat):Value.slice (if c=0 then A else A.map (·.add (0*1))) (k-0) (c-0)= .slice A k c:=by
 have h0:A.map (·.add (0*1))=A:=by
  cases A with
  | none=>rfl
  | some a=>simp [add_zero_addr]
 rw [h0,ite_self];rfl
def WD (m:Nat) (v:Value) (w:World):Prop:=∃A k c,v= .slice A k c∧Rd w A k c (db 4294967296 m)
theorem b32:2≤4294967296:=by decide
theorem WB_32:WB=4294967296^2:=by decide
theorem Wfb.wf {xs:List Nat}(h:Wfb 4294967296 xs):Wf xs:=fun x hx=>Nat.lt_trans (h x hx) (by decide)
theorem Bk.rd0 {w:World}{g N:Nat}{t:TypeId}{l:List Nat}(h:Bk w g t (l.map W64)) (hw:Wf l) (hl:l.length=N) (hN:N≤9223372036854775807):Rd w (some ⟨g,0,none⟩) N N l:=by
 have:=h.rd hw (o:=0) (n:=N) (cap:=N) (Nat.le_refl _) (by omega) (by rw [len_maxLen];exact hN)
 rwa [List.drop_zero,List.take_of_length_le (Nat.le_of_eq hl)] at this
theorem Rd.trim {w:World}{A:Option Addr}{n c k:Nat}{xs:List Nat}(h:Rd w A n c xs) (hw:Wfb 4294967296 xs) (hk:k≤n) (ht:k=0∨xs.getD (k-1) 0≠0) (hv:∀b,nb b (xs.take k)=nb b xs):
  Rd w A k c (db 4294967296 (nb 4294967296 xs)):=by
 rw [db_take b32 hw (by rw [h.len];exact hk) (hv _) ht]
 exact h.take hk (by have:=h.rv.le;omega) (Nat.le_refl _)
theorem halves_step3 {l xs:List Nat}{i x:Nat}(hl:2*i+1<l.length) (hi:i<xs.length) (hx:xs.getD i 0=x) (h:nb 4294967296 (l.take (2*i))=nv (xs.take i)):
  nb 4294967296 (((l.set (2*i) (x%4294967296)).set (2*i+1) (x/4294967296)).take (2*(i+1)))=nv (xs.take (i+1)):=by
 rw [show 2*(i+1)=2*i+1+1 by omega,nb_set_snoc 4294967296 (by rw [List.length_set];exact hl),nb_set_snoc 4294967296 (by omega),h,nv_take_snoc xs i hi,hx,WB_32,←Nat.pow_mul,Nat.pow_succ,Nat.mul_assoc,Nat.add_assoc,←Nat.mul_add,Nat.mod_add_div]
structure WI (ys l:List Nat) (i:Nat):Prop where
 wf:Wf l
 v:nv l=nb 4294967296 (ys.take i)
 z:∀j,i≤2*j→l.getD j 0=0
 o:i%2=1→l.getD (i/2) 0<4294967296
theorem WI.start (ys:List Nat) (N:Nat):WI ys (List.replicate N 0) 0:=by
 refine⟨fun x hx=>by rw [(List.mem_replicate.1 hx).2];decide,?_,fun j _=>?_,fun h=>by omega⟩
 ·rw [nv_nb,nb_zeros];rfl
 ·rw [List.getD_eq_getElem?_getD]
  by_cases h:j<N
  ·rw [List.getElem?_replicate_of_lt h];rfl
  ·rw [List.getElem?_eq_none (by rw [List.length_replicate];omega)];rfl
theorem WI.even {ys l:List Nat}{i:Nat}(h:WI ys l i) (he:i%2=0) (hi:i<ys.length) (hl:i/2<l.length) (hd:ys.getD i 0<4294967296):WI ys (l.set (i/2) (ys.getD i 0)) (i+1):=by
 have h0:=h.z (i/2) (by omega)
 have h1:=nv_set hl (ys.getD i 0)
 refine⟨Wf_set h.wf _ (Nat.lt_trans hd (by decide)),?_,fun j hj=>?_,fun _=>?_⟩
 ·rw [nb_take_snoc 4294967296 ys i hi,←h.v]
  rw [h0,Nat.mul_zero,Nat.add_zero,WB_32,←Nat.pow_mul,show 2*(i/2)=i by omega] at h1
  exact h1
 ·rw [getD_set_ne (by omega),h.z j (by omega)]
 ·rw [show (i+1)/2=i/2 by omega,getD_set_eq hl];exact hd
theorem WI.odd {ys l:List Nat}{i:Nat}(h:WI ys l i) (he:i%2=1) (hi:i<ys.length) (hl:i/2<l.length) (hd:ys.getD i 0<4294967296):WI ys (l.set (i/2) (l.getD (i/2) 0+ys.getD i 0*4294967296)) (i+1):=by
 have h0:=h.o he
 have h1:=nv_set hl (l.getD (i/2) 0+ys.getD i 0*4294967296)
 refine⟨Wf_set h.wf _ (by rw [WB_def];omega),?_,fun j hj=>?_,fun h=>by omega⟩
 ·have e:WB^(i/2)*4294967296=4294967296^i:=by
   rw [WB_32,←Nat.pow_mul,←Nat.pow_succ,show (2*(i/2)).succ=i by omega]
  rw [nb_take_snoc 4294967296 ys i hi,←h.v,←e]
  rw [Nat.mul_add] at h1
  have e2:WB^(i/2)*(ys.getD i 0*4294967296)=WB^(i/2)*4294967296*ys.getD i 0:=by rw [Nat.mul_comm (ys.getD i 0),Nat.mul_assoc]
  omega
 ·rw [getD_set_ne (by omega),h.z j (by omega)]
theorem WI.done {xs ys l:List Nat}{k:Nat}(h:WI ys l k) (hk:ys.length=k) (hl:l.length=(k+1)/2) (hv:nb 4294967296 ys=nb 4294967296 xs) (ht:k=0∨ys.getD (k-1) 0≠0):l.take ((k+1)/2)=wd (nb 4294967296 xs):=by
 have hv2:nv l=nb 4294967296 xs:=by rw [h.v,List.take_of_length_le (Nat.le_of_eq hk),hv]
 rw [List.take_of_length_le (by omega),←hv2]
 refine (wd_of_ge h.wf ?_).symm
 by_cases h0:k=0
 ·left;omega
 ·right
  have h1:ys.getD (k-1) 0≠0:=by omega
  rw [hv2,←hv,nb_split 4294967296 ys (k-1) (by omega),hl]
  have h2:WB^((k+1)/2-1)≤4294967296^(k-1):=by
   rw [WB_32,←Nat.pow_mul]
   exact Nat.pow_le_pow_right (by decide) (by omega)
  have h3:1≤nb 4294967296 (ys.drop (k-1)):=by
   rw [List.drop_eq_getElem_cons (by omega),nb_cons]
   rw [List.getD_eq_getElem?_getD,List.getElem?_eq_getElem (by omega),Option.getD_some] at h1
   omega
  have h4:4294967296^(k-1)*1≤4294967296^(k-1)*nb 4294967296 (ys.drop (k-1)):=Nat.mul_le_mul_left _ h3
  omega
theorem top_take {xs:List Nat}{k:Nat}(h:k=0∨xs.getD (k-1) 0≠0):k=0∨(xs.take k).getD (k-1) 0≠0:=by
 by_cases h0:k=0
 ·exact Or.inl h0
 ·rw [getD_take (by omega)];exact h
set_option maxHeartbeats 4000000 in
theorem ref3_Trim {w:World}{A:Option Addr}{n cap:Nat}{xs:List Nat}(hx:Rd w A n cap xs) (hln:n≤1099511627776):
    Calls Try.prog 91 #[.slice A n cap] w (Gv w (TR A n cap xs)):=by
 have hlen:=hx.len
 have hle:=hx.rv.le
 refine sx_enter Try.func91 rfl (n:=21) rfl (bq rfl) (args:= [.slice A n cap]) (cw_keep [(0,.slice A n cap)] ⟨rfl,trivial⟩ (sr (mv 1 rfl (ne_ (sr (mv 1 rfl (pu (v:= .int .i64 ((n:Nat):Int)) rfl (by kernel_rfl) (mv 1 rfl (ne_ (cw_seq (cw_block ?_)))))))))))
 refine cw_loop (T:=World×Nat)
  (fun⟨wr,k⟩=> [(0,.slice A n cap),(3,.int .i64 ((k:Nat):Int))])
  (fun⟨wr,k⟩=>wr)
  (fun⟨wr,k⟩=>(Ext w wr)∧(k≤n)∧(∀b,nb b (xs.take k)=nb b xs)∧(Rd wr A n cap xs))
  (fun⟨wr,k⟩=>k)
  (⟨w,n⟩:World×Nat) ⟨(Ext.refl w),Nat.le_refl _,fun b=>by rw [List.take_of_length_le (by omega)],hx⟩ rfl ⟨rfl,rfl,trivial⟩ ?_
 rintro⟨wr,k⟩ ⟨hw1,hk,hv,rl0⟩
 refine cw_re [(0,.slice A n cap),(3,.int .i64 ((k:Nat):Int))] wr rfl ⟨rfl,rfl,trivial⟩ (cw_seq (cw_seq ?_))
 by_cases hkp:k>0
 · 
  by_cases hz:xs.getD (k-1) 0=0
  · 
   refine cw_region (mv 1 rfl (wl_cmp rfl rfl rfl true (cb_gt_t (a:=k) (b:=0) rfl rfl (by omega)) (by decide) (mv 3 rfl (wl_ar rfl rfl rfl ((k-1:Nat):Int) (ai_sub (a:=k) (b:=1) rfl rfl (by omega) (by omega)) (by decide) ?_))))
   obtain⟨p1,hp1,hc1,hv1⟩:=(rl0).at (i:=k-1) (by omega)
   refine wl_idx rfl rfl rfl un_u64 sz_u64 (k-1) rfl (by omega) p1 hp1 (by decide) (wl_load rfl rfl (load_cell1 ag_u64 hc1) (by decide) (wl_cmp rfl rfl rfl true (cb_eq_t (a:=xs.getD (k-1) 0) (b:=0) rfl rfl (by omega)) (by decide) (pu (v:= .bool true) rfl (by kernel_rfl) (ne_ (cw_true rfl (cw_skip (eo_then (cw_block (cw_region (mv 1 rfl (wl_ar rfl rfl rfl ((k-1:Nat):Int) (ai_sub (a:=k) (b:=1) rfl rfl (by omega) (by omega)) (by decide) (mv 1 rfl (wl_nil ?_)))))))))))))
   refine eo_block_normal (eo_round (⟨wr,k-1⟩:World×Nat) ⟨hw1,(by omega),trim_step hkp (by omega) hz hv,rl0⟩ (show k-1<k by omega) rfl ⟨rfl,rfl,trivial⟩)
  · 
   refine cw_region (mv 1 rfl (wl_cmp rfl rfl rfl true (cb_gt_t (a:=k) (b:=0) rfl rfl (by omega)) (by decide) (mv 3 rfl (wl_ar rfl rfl rfl ((k-1:Nat):Int) (ai_sub (a:=k) (b:=1) rfl rfl (by omega) (by omega)) (by decide) ?_))))
   obtain⟨p2,hp2,hc2,hv2⟩:=(rl0).at (i:=k-1) (by omega)
   refine wl_idx rfl rfl rfl un_u64 sz_u64 (k-1) rfl (by omega) p2 hp2 (by decide) (wl_load rfl rfl (load_cell1 ag_u64 hc2) (by decide) (wl_cmp rfl rfl rfl false (cb_eq_f (a:=xs.getD (k-1) 0) (b:=0) rfl rfl (by omega)) (by decide) (pu (v:= .bool false) rfl (by kernel_rfl) (ne_ (cw_false rfl (cw_exit (eo_thenX (eo_loopX (eo_block_here (eo_then (sr (mv 2 rfl (wl_slice rfl rfl un_u64 sz_u64 (lo:=0) (hi:=k) rfl rfl (by omega) (by omega) (v:= .slice A k cap) (slice_to _ _ _) (by decide) ?_)))))))))))))
   refine mv 1 rfl (ne_ (cw_ret (eo_ret [.slice A k cap] rfl ⟨rfl,trivial⟩ ?_)))
   exact⟨_,rfl,⟨k,rfl,hk,Or.inr hz,hv⟩,hw1⟩
 · 
  refine cw_region (mv 1 rfl (wl_cmp rfl rfl rfl false (cb_gt_f (a:=k) (b:=0) rfl rfl (by omega)) (by decide) (mv 7 rfl (pu (v:= .bool false) rfl (by kernel_rfl) (ne_ (cw_false rfl (cw_exit (eo_thenX (eo_loopX (eo_block_here (eo_then (sr (mv 1 rfl ?_)))))))))))))
  refine mv 1 rfl (wl_slice rfl rfl un_u64 sz_u64 (lo:=0) (hi:=k) rfl rfl (by omega) (by omega) (v:= .slice A k cap) (slice_to _ _ _) (by decide) (mv 1 rfl (ne_ (cw_ret (eo_ret [.slice A k cap] rfl ⟨rfl,trivial⟩ ?_)))))
  exact⟨_,rfl,⟨k,rfl,hk,Or.inl (by omega),hv⟩,hw1⟩
set_option maxHeartbeats 4000000 in
theorem ref3_halves {w:World}{A:Option Addr}{n cap:Nat}{xs:List Nat}(hx:Rd w A n cap xs) (hln:n≤274877906944):
    Calls Try.prog 86 #[.slice A n cap] w (Gv w (WD (nv xs))):=by
 have hlen:=hx.len
 have hle:=hx.rv.le
 refine sx_enter Try.func86 rfl (n:=38) rfl (bq rfl) (args:= [.slice A n cap]) (cw_keep [(0,.slice A n cap)] ⟨rfl,trivial⟩ (sr (mv 1 rfl (ne_ (sr (mv 1 rfl (cl (vs:= [.slice A n cap]) (Ext.refl w) (ref3_Trim hx (by omega)) rfl (by kernel_rfl) fun xr3 v1 r3 e2 hw1=>?_)))))))
 obtain⟨k4,rfl,hk4,ht4,hv4⟩:=r3
 have rd4:=((hx.ext e2)).take hk4 (by omega) (Nat.le_refl _)
 refine mv 1 rfl (ne_ (cw_seq ?_))
 obtain⟨ys,hys⟩:∃ys,xs.take k4=ys:=⟨_,rfl⟩
 have hvy:nv ys=nv xs:=by rw [←hys,nv_nb,nv_nb];exact hv4 _
 rw [hys] at rd4
 have hly:=rd4.len
 refine cw_region (mv 1 rfl (pu (v:= .int .i64 ((k4:Nat):Int)) rfl (by kernel_rfl) (wl_ar rfl rfl rfl ((2*k4:Nat):Int) (ai_mul (a:=2) (b:=k4) rfl rfl (by omega)) (by decide) (wl_make rfl (k:=2*k4) rfl rfl rfl un_u64 info64 rfl (by decide) (by omega) (by decide) fun g5 v6 hg7 hb8 e9=>?_))))
 rw [replicate_W64] at hb8
 have ge10:w.heap.size≤g5:=by rw [←hg7];exact hw1.size
 have ne12:0<cap→∀a,A=some a→a.block≠g5:=fun hc a ha=>by have:=(rd4).rv.blk a ha hc;omega
 clear hg7
 have hw2:=hw1.trans e9
 refine mv 1 rfl (ne_ (cw_seq (sr (mv 1 rfl (ne_ (cw_block ?_))))))
 refine cw_loop (T:=World×Nat×List Nat)
  (fun⟨wr,i,l⟩=> [(0,.slice A k4 cap),(3,.slice (some ⟨g5,0,none⟩) (2*k4) (2*k4)),(4,.int .i64 ((i:Nat):Int))])
  (fun⟨wr,i,l⟩=>wr)
  (fun⟨wr,i,l⟩=>(Ext w wr)∧(i≤k4)∧(Bk wr g5 24 (l.map W64))∧(l.length=2*k4)∧(Wfb 4294967296 l)∧(nb 4294967296 (l.take (2*i))=nv (ys.take i))∧(Rd wr A k4 cap ys))
  (fun⟨wr,i,l⟩=>k4-i)
  (⟨v6,0,_⟩:World×Nat×List Nat) ⟨hw2,Nat.zero_le _,hb8,(List.length_replicate (n:=2*k4) (a:=0)),Wfb_zeros (by decide) _,by simp [nb,nv],(rd4.ext e9)⟩ rfl ⟨rfl,rfl,rfl,trivial⟩ ?_
 rintro⟨wr,i,l⟩ ⟨hw1,hi,hb,hl,hwf,hv,rl0⟩
 refine cw_re [(0,.slice A k4 cap),(3,.slice (some ⟨g5,0,none⟩) (2*k4) (2*k4)),(4,.int .i64 ((i:Nat):Int))] wr rfl ⟨rfl,rfl,rfl,trivial⟩ (cw_seq (cw_seq ?_))
 by_cases him:i<k4
 · 
  refine cw_region (mv 2 rfl (pu (v:= .int .i64 ((k4:Nat):Int)) rfl (by kernel_rfl) (wl_cmp rfl rfl rfl true (cb_lt_t (a:=i) (b:=k4) rfl rfl (by omega)) (by decide) (ne_ (cw_true rfl (cw_skip (eo_then (cw_seq (cw_block (cw_seq ?_))))))))))
  have hxb:ys.getD i 0≤18446744073709551615:=by have:=Wf_getD rd4.wf i;rw [WB_def] at this;omega
  refine cw_region (mv 2 rfl (wl_ar rfl rfl rfl ((2*i:Nat):Int) (ai_mul (a:=2) (b:=i) rfl rfl (by omega)) (by decide) (mv 2 rfl ?_)))
  obtain⟨p13,hp13,hc13,hv13⟩:=(rl0).at (i:=i) (by omega)
  refine wl_idx rfl rfl rfl un_u64 sz_u64 i rfl (by omega) p13 hp13 (by decide) (wl_load rfl rfl (load_cell1 ag_u64 hc13) (by decide) (wl_ar rfl rfl rfl (((ys.getD i 0)%4294967296:Nat):Int) (au_rem (a:=ys.getD i 0) (b:=4294967296) rfl rfl (by omega)) (by decide) (wl_idx rfl rfl rfl un_u64 sz_u64 (2*i) rfl (by omega) ⟨g5,2*i,none⟩ (arr_at _ _) (by decide) ?_)))
  have hb15:=hb
  refine wl_stored1 rfl rfl rfl sz_u64 rfl hb15 (len_map (by rw [hl];omega)) rfl ((l.set (2*i) ((ys.getD i 0)%4294967296)).map W64) (map_W64_set _ _ _) fun v14 hb16 u17 hs18=>?_
  have hw2:=u17.ext hw1 ge10
  refine ne_ (cw_region (mv 2 rfl (wl_ar rfl rfl rfl ((2*i:Nat):Int) (ai_mul (a:=2) (b:=i) rfl rfl (by omega)) (by decide) (wl_ar rfl rfl rfl (((2*i)+1:Nat):Int) (ai_add (a:=2*i) (b:=1) rfl rfl (by omega)) (by decide) (mv 2 rfl ?_)))))
  obtain⟨p19,hp19,hc19,hv19⟩:=((Rd.updL rl0 u17 ne12)).at (i:=i) (by omega)
  refine wl_idx rfl rfl rfl un_u64 sz_u64 i rfl (by omega) p19 hp19 (by decide) (wl_load rfl rfl (load_cell1 ag_u64 hc19) (by decide) (wl_ar rfl rfl rfl (((ys.getD i 0)/4294967296:Nat):Int) (au_quo (a:=ys.getD i 0) (b:=4294967296) rfl rfl (by omega) (by omega)) (by decide) (wl_idx rfl rfl rfl un_u64 sz_u64 ((2*i)+1) rfl (by omega) ⟨g5,(2*i)+1,none⟩ (arr_at _ _) (by decide) (wl_stored1 rfl rfl rfl sz_u64 rfl hb16 (len_map (by rw [(len_set (l:=l) (hl))];omega)) rfl (((l.set (2*i) ((ys.getD i 0)%4294967296)).set ((2*i)+1) ((ys.getD i 0)/4294967296)).map W64) (map_W64_set _ _ _) fun v20 hb22 u23 hs24=>?_))))
  have hw3:=u23.ext hw2 ge10
  refine wl_nil (eo_block_normal (eo_then (cw_region (mv 1 rfl (wl_ar rfl rfl rfl ((i+1:Nat):Int) (ai_add (a:=i) (b:=1) rfl rfl (by omega)) (by decide) (mv 1 rfl (wl_nil (eo_round (⟨v20,i+1,_⟩:World×Nat×List Nat) ⟨hw3,(by omega),hb22,(len_set (l:=l.set (2*i) ((ys.getD i 0)%4294967296)) ((len_set (l:=l) (hl)))),Wfb_set (Wfb_set hwf _ (Nat.mod_lt _ (by decide))) _ (by omega),halves_step3 (by omega) (by omega) rfl hv,(Rd.updL (Rd.updL rl0 u17 ne12) u23 ne12)⟩ (show k4-(i+1)<k4-i by omega) rfl ⟨rfl,rfl,rfl,trivial⟩))))))))
 · 
  refine cw_region (mv 2 rfl (pu (v:= .int .i64 ((k4:Nat):Int)) rfl (by kernel_rfl) (wl_cmp rfl rfl rfl false (cb_lt_f (a:=i) (b:=k4) rfl rfl (by omega)) (by decide) (ne_ (cw_false rfl (cw_exit (eo_thenX (eo_loopX (eo_block_here (eo_then (cw_seq ?_)))))))))))
  obtain rfl:k4=i:=by omega
  have hval:nb 4294967296 l=nv xs:=by rw [←hvy];rwa [List.take_of_length_le (by omega),List.take_of_length_le (by omega)] at hv
  refine cw_region (mv 1 rfl (cl (vs:= [.slice (some ⟨g5,0,none⟩) (2*k4) (2*k4)]) hw1 (ref3_Trim (hb.rd0 hwf.wf hl (by omega)) (by omega)) rfl (by kernel_rfl) fun xr27 v25 r27 e26 hw2=>?_))
  obtain⟨k28,rfl,hk28,ht28,hv28⟩:=r27
  refine mv 1 rfl (ne_ (cw_ret (eo_ret [.slice (some ⟨g5,0,none⟩) k28 (2*k4)] rfl ⟨rfl,trivial⟩ ?_)))
  have hr:=((hb.ext e26).rd0 hwf.wf hl (by omega)).trim hwf hk28 ht28 hv28
  rw [hval] at hr
  exact⟨_,rfl,⟨_,_,_,rfl,hr⟩,hw2⟩
set_option maxHeartbeats 4000000 in
theorem ref3_words {w:World}{A:Option Addr}{n cap:Nat}{xs:List Nat}(hx:Rd w A n cap xs) (hln:n≤1099511627776) (hwx:Wfb 4294967296 xs):
    Calls Try.prog 88 #[.slice A n cap] w (Gv w (WR w.heap.size (nb 4294967296 xs))):=by
 have hlen:=hx.len
 have hle:=hx.rv.le
 refine sx_enter Try.func88 rfl (n:=45) rfl (bq rfl) (args:= [.slice A n cap]) (cw_keep [(0,.slice A n cap)] ⟨rfl,trivial⟩ (sr (mv 1 rfl (ne_ (sr (mv 1 rfl (cl (vs:= [.slice A n cap]) (Ext.refl w) (ref3_Trim hx (by omega)) rfl (by kernel_rfl) fun xr3 v1 r3 e2 hw1=>?_)))))))
 obtain⟨k4,rfl,hk4,ht4,hv4⟩:=r3
 have rd4:=((hx.ext e2)).take hk4 (by omega) (Nat.le_refl _)
 refine mv 1 rfl (ne_ (cw_seq ?_))
 have hwy:Wfb 4294967296 (xs.take k4):=Wfb_take hwx _
 have hty:=top_take ht4
 have hvy:=hv4 4294967296
 obtain⟨ys,hys⟩:∃ys,xs.take k4=ys:=⟨_,rfl⟩
 rw [hys] at rd4 hwy hty hvy
 have hly:=rd4.len
 refine cw_region (mv 1 rfl (pu (v:= .int .i64 ((k4:Nat):Int)) rfl (by kernel_rfl) (wl_ar rfl rfl rfl ((k4+1:Nat):Int) (ai_add (a:=k4) (b:=1) rfl rfl (by omega)) (by decide) (wl_ar rfl rfl rfl (((k4+1)/2:Nat):Int) (ai_quo (a:=k4+1) (b:=2) rfl rfl (by omega) (by omega)) (by decide) (wl_make rfl (k:=(k4+1)/2) rfl rfl rfl un_u64 info64 rfl (by decide) (by omega) (by decide) fun g5 v6 hg7 hb8 e9=>?_)))))
 rw [replicate_W64] at hb8
 have ge10:w.heap.size≤g5:=by rw [←hg7];exact hw1.size
 have ne12:0<cap→∀a,A=some a→a.block≠g5:=fun hc a ha=>by have:=(rd4).rv.blk a ha hc;omega
 clear hg7
 have hw2:=hw1.trans e9
 refine mv 1 rfl (ne_ (cw_seq (sr (mv 1 rfl (ne_ (cw_block ?_))))))
 refine cw_loop (T:=World×Nat×List Nat)
  (fun⟨wr,i,l⟩=> [(0,.slice A k4 cap),(3,.slice (some ⟨g5,0,none⟩) ((k4+1)/2) ((k4+1)/2)),(4,.int .i64 ((i:Nat):Int))])
  (fun⟨wr,i,l⟩=>wr)
  (fun⟨wr,i,l⟩=>(Ext w wr)∧(i≤k4)∧(Bk wr g5 24 (l.map W64))∧(l.length=(k4+1)/2)∧(WI ys l i)∧(Rd wr A k4 cap ys))
  (fun⟨wr,i,l⟩=>k4-i)
  (⟨v6,0,_⟩:World×Nat×List Nat) ⟨hw2,Nat.zero_le _,hb8,(List.length_replicate (n:=(k4+1)/2) (a:=0)),WI.start _ _,(rd4.ext e9)⟩ rfl ⟨rfl,rfl,rfl,trivial⟩ ?_
 rintro⟨wr,i,l⟩ ⟨hw1,hi,hb,hl,hI,rl0⟩
 refine cw_re [(0,.slice A k4 cap),(3,.slice (some ⟨g5,0,none⟩) ((k4+1)/2) ((k4+1)/2)),(4,.int .i64 ((i:Nat):Int))] wr rfl ⟨rfl,rfl,rfl,trivial⟩ (cw_seq (cw_seq ?_))
 by_cases him:i<k4
 · 
  refine cw_region (mv 2 rfl (pu (v:= .int .i64 ((k4:Nat):Int)) rfl (by kernel_rfl) (wl_cmp rfl rfl rfl true (cb_lt_t (a:=i) (b:=k4) rfl rfl (by omega)) (by decide) (ne_ (cw_true rfl (cw_skip (eo_then (cw_seq (cw_block (cw_seq ?_))))))))))
  have hxb:=Wfb_getD (b:=4294967296) (by decide) hwy i
  by_cases hp:i%2=0
  · 
   refine cw_region (mv 1 rfl (wl_ar rfl rfl rfl ((i%2:Nat):Int) (au_rem (a:=i) (b:=2) rfl rfl (by omega)) (by decide) (wl_cmp rfl rfl rfl true (cb_eq_t (a:=i%2) (b:=0) rfl rfl (by omega)) (by decide) (ne_ (cw_true rfl (cw_region (mv 2 rfl (wl_ar rfl rfl rfl ((i/2:Nat):Int) (ai_quo (a:=i) (b:=2) rfl rfl (by omega) (by omega)) (by decide) (mv 2 rfl ?_)))))))))
   obtain⟨p13,hp13,hc13,hv13⟩:=(rl0).at (i:=i) (by omega)
   refine wl_idx rfl rfl rfl un_u64 sz_u64 i rfl (by omega) p13 hp13 (by decide) (wl_load rfl rfl (load_cell1 ag_u64 hc13) (by decide) (wl_idx rfl rfl rfl un_u64 sz_u64 (i/2) rfl (by omega) ⟨g5,i/2,none⟩ (arr_at _ _) (by decide) ?_))
   have hb15:=hb
   refine wl_stored1 rfl rfl rfl sz_u64 rfl hb15 (len_map (by rw [hl];omega)) rfl ((l.set (i/2) (ys.getD i 0)).map W64) (map_W64_set _ _ _) fun v14 hb16 u17 hs18=>?_
   have hw2:=u17.ext hw1 ge10
   refine wl_nil (eo_block_normal (eo_then (cw_region (mv 1 rfl (wl_ar rfl rfl rfl ((i+1:Nat):Int) (ai_add (a:=i) (b:=1) rfl rfl (by omega)) (by decide) (mv 1 rfl (wl_nil (eo_round (⟨v14,i+1,_⟩:World×Nat×List Nat) ⟨hw2,(by omega),hb16,(len_set (l:=l) (hl)),hI.even hp (by omega) (by omega) hxb,(Rd.updL rl0 u17 ne12)⟩ (show k4-(i+1)<k4-i by omega) rfl ⟨rfl,rfl,rfl,trivial⟩))))))))
  · 
   have hob:=hI.o (by omega)
   refine cw_region (mv 1 rfl (wl_ar rfl rfl rfl ((i%2:Nat):Int) (au_rem (a:=i) (b:=2) rfl rfl (by omega)) (by decide) (wl_cmp rfl rfl rfl false (cb_eq_f (a:=i%2) (b:=0) rfl rfl (by omega)) (by decide) (ne_ (cw_false rfl (cw_keep [(0,.slice A k4 cap),(3,.slice (some ⟨g5,0,none⟩) ((k4+1)/2) ((k4+1)/2)),(4,.int .i64 ((i:Nat):Int)),(12,.int .i64 ((i:Nat):Int)),(13,.slice A k4 cap),(14,.int .i64 ((k4:Nat):Int)),(15,.bool true),(18,.int .i64 ((i:Nat):Int)),(19,.int .i64 ((i%2:Nat):Int)),(20,.bool false)] ⟨rfl,rfl,rfl,rfl,rfl,rfl,rfl,rfl,rfl,rfl,trivial⟩ ?_))))))
   obtain⟨v19,hv,e20⟩:∃v,v=wr.drew∧Ext wr v:=⟨_,rfl,(Ext.refl _).drew⟩
   have hw2:=hw1.trans e20
   obtain⟨p21,hp21,hc21,hv21⟩:=((rl0.ext e20)).at (i:=i) (by omega)
   have hb23:=(hb.ext e20)
   obtain⟨v22,hr27,hb24,u25,hs26⟩:=run_store1v (P:=Try.prog) (v:= .int .u64 (((l.getD (i/2) 0)+((ys.getD i 0)*4294967296):Nat):Int)) (off:=i/2) sz_u64 rfl hb23 (len_map (by rw [hl];omega)) rfl ((l.set (i/2) ((l.getD (i/2) 0)+((ys.getD i 0)*4294967296))).map W64) (map_W64_set _ _ _)
   have hw3:=u25.ext hw2 ge10
   refine cw_det mix (w:=v19) [.slice (some ⟨g5,0,none⟩) ((k4+1)/2) ((k4+1)/2),.int .i64 ((i:Nat):Int),.int .i64 ((i/2:Nat):Int),.slice (some ⟨g5,0,none⟩) ((k4+1)/2) ((k4+1)/2),.int .i64 ((i:Nat):Int),.int .i64 ((i/2:Nat):Int),.pointer (some (⟨g5,i/2,none⟩)),.int .u64 ((l.getD (i/2) 0:Nat):Int),.slice A k4 cap,.int .i64 ((i:Nat):Int),.pointer (some p21),.int .u64 ((ys.getD i 0:Nat):Int),.int .u64 (((ys.getD i 0)*4294967296:Nat):Int),.int .u64 (((l.getD (i/2) 0)+((ys.getD i 0)*4294967296):Nat):Int),.pointer (some (⟨g5,i/2,none⟩)),undef] [v19,v22] [15] [[],[],[1],[],[],[4],[3,5],[6],[],[],[8,9],[10],[11],[7,12],[0,2],[13,14]] [[],[],[1],[],[],[4],[3,4,5],[3,4,5,6],[],[],[8,9],[8,9,10],[8,9,10,11],[3,4,5,6,7,8,9,10,11,12],[0,1,2,3,4,5,6,7,8,9,10,11,12,13],[0,1,2,3,4,5,6,7,8,9,10,11,12,13,14]] [(0,0),(1,0),(2,0),(3,0),(4,0),(5,0),(6,0),(7,0),(8,0),(9,0),(10,0),(11,0),(12,0),(13,0),(14,0),(15,0)] rfl hv ?_ ?_
   · 
    refine dobs_val _ rfl rfl rfl rfl rfl (rd_move rfl) (dobs_val _ rfl rfl rfl rfl rfl (rd_move rfl) (dobs_val _ rfl rfl rfl rfl rfl (rd_ar rfl rfl ((i/2:Nat):Int) (ai_quo (a:=i) (b:=2) rfl rfl (by omega) (by omega))) (dobs_val _ rfl rfl rfl rfl rfl (rd_move rfl) (dobs_val _ rfl rfl rfl rfl rfl (rd_move rfl) (dobs_val _ rfl rfl rfl rfl rfl (rd_ar rfl rfl ((i/2:Nat):Int) (ai_quo (a:=i) (b:=2) rfl rfl (by omega) (by omega))) (dobs_val _ rfl rfl rfl rfl rfl (rd_idx rfl rfl un_u64 sz_u64 (i/2) rfl (by omega) ⟨g5,i/2,none⟩ (arr_at _ _)) (dobs_val _ rfl rfl rfl rfl rfl (rd_load rfl (load_word ag_u64 (hb.ext e20) (by rw [hl];omega))) (dobs_val _ rfl rfl rfl rfl rfl (rd_move rfl) (dobs_val _ rfl rfl rfl rfl rfl (rd_move rfl) (dobs_val _ rfl rfl rfl rfl rfl (rd_idx rfl rfl un_u64 sz_u64 i rfl (by omega) p21 hp21) (dobs_val _ rfl rfl rfl rfl rfl (rd_load rfl (load_cell1 ag_u64 hc21)) (dobs_val _ rfl rfl rfl rfl rfl (rd_ar rfl rfl (((ys.getD i 0)*4294967296:Nat):Int) (au_mul (a:=ys.getD i 0) (b:=4294967296) rfl rfl (by omega))) (dobs_val _ rfl rfl rfl rfl rfl (rd_ar rfl rfl (((l.getD (i/2) 0)+((ys.getD i 0)*4294967296):Nat):Int) (au_add (a:=l.getD (i/2) 0) (b:=(ys.getD i 0)*4294967296) rfl rfl (by omega))) ?_)))))))))))))
    refine dobs_val _ rfl rfl rfl rfl rfl (rd_idx rfl rfl un_u64 sz_u64 (i/2) rfl (by omega) ⟨g5,i/2,none⟩ (arr_at _ _)) (dobs_sto _ rfl rfl rfl rfl rfl (rd_store rfl rfl hr27) ?_)
    exact dobs_nil
   clear hv
   refine eo_keep [(0,.slice A k4 cap),(3,.slice (some ⟨g5,0,none⟩) ((k4+1)/2) ((k4+1)/2)),(4,.int .i64 ((i:Nat):Int)),(12,.int .i64 ((i:Nat):Int)),(13,.slice A k4 cap),(14,.int .i64 ((k4:Nat):Int)),(15,.bool true),(18,.int .i64 ((i:Nat):Int)),(19,.int .i64 ((i%2:Nat):Int)),(20,.bool false),(29,.slice (some ⟨g5,0,none⟩) ((k4+1)/2) ((k4+1)/2)),(30,.int .i64 ((i:Nat):Int)),(31,.int .i64 ((i/2:Nat):Int)),(32,.slice (some ⟨g5,0,none⟩) ((k4+1)/2) ((k4+1)/2)),(33,.int .i64 ((i:Nat):Int)),(34,.int .i64 ((i/2:Nat):Int)),(35,.pointer (some (⟨g5,i/2,none⟩))),(36,.int .u64 ((l.getD (i/2) 0:Nat):Int)),(37,.slice A k4 cap),(38,.int .i64 ((i:Nat):Int)),(39,.pointer (some p21)),(40,.int .u64 ((ys.getD i 0:Nat):Int)),(41,.int .u64 (((ys.getD i 0)*4294967296:Nat):Int)),(42,.int .u64 (((l.getD (i/2) 0)+((ys.getD i 0)*4294967296):Nat):Int)),(43,.pointer (some (⟨g5,i/2,none⟩)))] ⟨rfl,rfl,rfl,rfl,rfl,rfl,rfl,rfl,rfl,rfl,rfl,rfl,rfl,rfl,rfl,rfl,rfl,rfl,rfl,rfl,rfl,rfl,rfl,rfl,rfl,trivial⟩ (eo_block_normal (eo_then (cw_region (mv 1 rfl (wl_ar rfl rfl rfl ((i+1:Nat):Int) (ai_add (a:=i) (b:=1) rfl rfl (by omega)) (by decide) (mv 1 rfl (wl_nil (eo_round (⟨v22,i+1,_⟩:World×Nat×List Nat) ⟨hw3,(by omega),hb24,(len_set (l:=l) (hl)),hI.odd (by omega) (by omega) (by omega) hxb,(Rd.updL (rl0.ext e20) u25 ne12)⟩ (show k4-(i+1)<k4-i by omega) rfl ⟨rfl,rfl,rfl,trivial⟩))))))))
 · 
  refine cw_region (mv 2 rfl (pu (v:= .int .i64 ((k4:Nat):Int)) rfl (by kernel_rfl) (wl_cmp rfl rfl rfl false (cb_lt_f (a:=i) (b:=k4) rfl rfl (by omega)) (by decide) (ne_ (cw_false rfl (cw_exit (eo_thenX (eo_loopX (eo_block_here (eo_then (sr (mv 2 rfl (wl_nil ?_)))))))))))))
  refine eo_then (cw_ret (eo_ret [.slice (some ⟨g5,0,none⟩) ((k4+1)/2) ((k4+1)/2)] rfl ⟨rfl,trivial⟩ ?_))
  obtain rfl:k4=i:=by omega
  exact gw (Nat.le_refl _) _ _ (RetW_mk (ys:=l) ge10 hb hl (Nat.le_refl _) (by rw [len_maxLen];omega) (hI.done hly hl hvy hty) hw1)
def AR (b N m:Nat) (v:Value) (w:World):Prop:=∃g l,v= .slice (some ⟨g,0,none⟩) N N∧b≤g∧Bk w g 24 (l.map W64)∧l.length=N∧Wfb 4294967296 l∧nb 4294967296 l=m
theorem scaled_step {l xs:List Nat}{i c f:Nat}(hl:i<l.length) (hi:i<xs.length) (h:nb 4294967296 (l.take i)+4294967296^i*c=nb 4294967296 (xs.take i)*f):
  nb 4294967296 ((l.set i ((xs.getD i 0*f+c)%4294967296)).take (i+1))+4294967296^(i+1)*((xs.getD i 0*f+c)/4294967296)=nb 4294967296 (xs.take (i+1))*f:=by
 rw [nb_set_snoc 4294967296 hl,Nat.pow_succ,Nat.mul_assoc,Nat.add_assoc,←Nat.mul_add,Nat.mod_add_div,nb_take_snoc 4294967296 xs i hi,Nat.add_mul,←h,Nat.mul_add,Nat.mul_assoc]
 omega
set_option maxHeartbeats 4000000 in
theorem ref3_scaled {w:World}{A:Option Addr}{n cap:Nat}{xs:List Nat}(hx:Rd w A n cap xs) (hln:n≤274877906944) (hwx:Wfb 4294967296 xs){f:Nat}(hf:f≤4294967295):
    Calls Try.prog 111 #[.slice A n cap,.int .u64 ((f:Nat):Int)] w (Gv w (AR w.heap.size (n+1) (nb 4294967296 xs*f))):=by
 have hlen:=hx.len
 have hle:=hx.rv.le
 refine sx_enter Try.func111 rfl (n:=40) rfl (bq rfl) (args:= [.slice A n cap,.int .u64 ((f:Nat):Int)]) (cw_keep [(0,.slice A n cap),(1,.int .u64 ((f:Nat):Int))] ⟨rfl,rfl,trivial⟩ (sr (mv 1 rfl (ne_ (sr (mv 1 rfl (pu (v:= .int .i64 ((n:Nat):Int)) rfl (by kernel_rfl) (wl_ar rfl rfl rfl ((n+1:Nat):Int) (ai_add (a:=n) (b:=1) rfl rfl (by omega)) (by decide) (wl_make rfl (k:=n+1) rfl rfl rfl un_u64 info64 rfl (by decide) (by omega) (by decide) fun g1 v2 hg3 hb4 e5=>?_)))))))))
 rw [replicate_W64] at hb4
 have ge6:w.heap.size≤g1:=by rw [←hg3];exact (Ext.refl w).size
 have ne8:0<cap→∀a,A=some a→a.block≠g1:=fun hc a ha=>by have:=(hx).rv.blk a ha hc;omega
 clear hg3
 have hw1:=(Ext.refl w).trans e5
 refine mv 1 rfl (ne_ (sr (mv 1 rfl (ne_ (cw_seq (sr (mv 1 rfl (ne_ (cw_block ?_)))))))))
 refine cw_loop (T:=World×Nat×Nat×List Nat)
  (fun⟨wr,i,c,l⟩=> [(0,.slice A n cap),(1,.int .u64 ((f:Nat):Int)),(5,.slice (some ⟨g1,0,none⟩) (n+1) (n+1)),(6,.int .u64 ((c:Nat):Int)),(7,.int .i64 ((i:Nat):Int))])
  (fun⟨wr,i,c,l⟩=>wr)
  (fun⟨wr,i,c,l⟩=>(Ext w wr)∧(i≤n)∧(c≤4294967295)∧(Bk wr g1 24 (l.map W64))∧(l.length=n+1)∧(Wfb 4294967296 l)∧(nb 4294967296 (l.take i)+4294967296^i*c=nb 4294967296 (xs.take i)*f)∧(Rd wr A n cap xs))
  (fun⟨wr,i,c,l⟩=>n-i)
  (⟨v2,0,0,_⟩:World×Nat×Nat×List Nat) ⟨hw1,Nat.zero_le _,Nat.zero_le _,hb4,(List.length_replicate (n:=n+1) (a:=0)),Wfb_zeros (by decide) _,by simp [nb],(hx.ext e5)⟩ rfl ⟨rfl,rfl,rfl,rfl,rfl,trivial⟩ ?_
 rintro⟨wr,i,c,l⟩ ⟨hw1,hi,hc,hb,hl,hwf,hv,rl0⟩
 refine cw_re [(0,.slice A n cap),(1,.int .u64 ((f:Nat):Int)),(5,.slice (some ⟨g1,0,none⟩) (n+1) (n+1)),(6,.int .u64 ((c:Nat):Int)),(7,.int .i64 ((i:Nat):Int))] wr rfl ⟨rfl,rfl,rfl,rfl,rfl,trivial⟩ (cw_seq (cw_seq ?_))
 by_cases him:i<n
 · 
  refine cw_region (mv 2 rfl (pu (v:= .int .i64 ((n:Nat):Int)) rfl (by kernel_rfl) (wl_cmp rfl rfl rfl true (cb_lt_t (a:=i) (b:=n) rfl rfl (by omega)) (by decide) (ne_ (cw_true rfl (cw_skip (eo_then (cw_seq (cw_block (cw_seq ?_))))))))))
  have hxb:=Wfb_getD (b:=4294967296) (by decide) hwx i
  have hm:(xs.getD i 0)*f≤4294967295*4294967295:=Nat.mul_le_mul (by omega) hf
  refine cw_region (mv 2 rfl ?_)
  obtain⟨p9,hp9,hc9,hv9⟩:=(rl0).at (i:=i) (by omega)
  refine wl_idx rfl rfl rfl un_u64 sz_u64 i rfl (by omega) p9 hp9 (by decide) (wl_load rfl rfl (load_cell1 ag_u64 hc9) (by decide) (mv 1 rfl (wl_ar rfl rfl rfl (((xs.getD i 0)*f:Nat):Int) (au_mul (a:=xs.getD i 0) (b:=f) rfl rfl (by omega)) (by decide) (mv 1 rfl (wl_ar rfl rfl rfl ((((xs.getD i 0)*f)+c:Nat):Int) (au_add (a:=(xs.getD i 0)*f) (b:=c) rfl rfl (by omega)) (by decide) (mv 1 rfl (ne_ (sr (mv 3 rfl (wl_ar rfl rfl rfl (((((xs.getD i 0)*f)+c)%4294967296:Nat):Int) (au_rem (a:=((xs.getD i 0)*f)+c) (b:=4294967296) rfl rfl (by omega)) (by decide) (wl_idx rfl rfl rfl un_u64 sz_u64 i rfl (by omega) ⟨g1,i,none⟩ (arr_at _ _) (by decide) ?_)))))))))))
  have hb11:=hb
  refine wl_stored1 rfl rfl rfl sz_u64 rfl hb11 (len_map (by rw [hl];omega)) rfl ((l.set i ((((xs.getD i 0)*f)+c)%4294967296)).map W64) (map_W64_set _ _ _) fun v10 hb12 u13 hs14=>?_
  have hw2:=u13.ext hw1 ge6
  refine ne_ (cw_region (mv 1 rfl (wl_ar rfl rfl rfl (((((xs.getD i 0)*f)+c)/4294967296:Nat):Int) (au_quo (a:=((xs.getD i 0)*f)+c) (b:=4294967296) rfl rfl (by omega) (by omega)) (by decide) (mv 1 rfl (wl_nil (eo_block_normal (eo_then (cw_region (mv 1 rfl (wl_ar rfl rfl rfl ((i+1:Nat):Int) (ai_add (a:=i) (b:=1) rfl rfl (by omega)) (by decide) (mv 1 rfl (wl_nil (eo_round (⟨v10,i+1,_,_⟩:World×Nat×Nat×List Nat) ⟨hw2,(by omega),(by omega),hb12,(len_set (l:=l) (hl)),Wfb_set hwf _ (Nat.mod_lt _ (by decide)),scaled_step (by omega) (by omega) hv,(Rd.updL rl0 u13 ne8)⟩ (show n-(i+1)<n-i by omega) rfl ⟨rfl,rfl,rfl,rfl,rfl,trivial⟩)))))))))))))
 · 
  refine cw_region (mv 2 rfl (pu (v:= .int .i64 ((n:Nat):Int)) rfl (by kernel_rfl) (wl_cmp rfl rfl rfl false (cb_lt_f (a:=i) (b:=n) rfl rfl (by omega)) (by decide) (ne_ (cw_false rfl (cw_exit (eo_thenX (eo_loopX (eo_block_here (eo_then (cw_seq ?_)))))))))))
  obtain rfl:n=i:=by omega
  refine cw_region (mv 2 rfl (pu (v:= .int .i64 ((n:Nat):Int)) rfl (by kernel_rfl) (mv 1 rfl (wl_idx rfl rfl rfl un_u64 sz_u64 n rfl (by omega) ⟨g1,n,none⟩ (arr_at _ _) (by decide) ?_))))
  have hb16:=hb
  refine wl_stored1 rfl rfl rfl sz_u64 rfl hb16 (len_map (by rw [hl];omega)) rfl ((l.set n c).map W64) (map_W64_set _ _ _) fun v15 hb17 u18 hs19=>?_
  have hw2:=u18.ext hw1 ge6
  refine ne_ (sr (mv 2 rfl (ne_ (cw_ret (eo_ret [.slice (some ⟨g1,0,none⟩) (n+1) (n+1)] rfl ⟨rfl,trivial⟩ (⟨_,rfl,⟨_,_,rfl,ge6,hb17,(len_set (l:=l) (hl)),Wfb_set hwf _ (by omega),?_⟩,hw2⟩))))))
  have h2:=nb_set_snoc 4294967296 (l:=l) (i:=n) (by omega) c
  rw [List.take_of_length_le (by rw [List.length_set];omega)] at h2
  rw [h2,hv,List.take_of_length_le (by omega)]
def TK (g N q s:Nat) (l es:List Nat) (w:World) (e:Ending) (w':World):Prop:=
 e= .returned (.tuple #[])∧Upd g w w'∧∃l',Bk w' g 24 (l'.map W64)∧l'.length=N∧Wfb 4294967296 l'∧nb 4294967296 l'+q*nb 4294967296 es*4294967296^s=nb 4294967296 l
theorem takeOff_step {b:Nat}{l es:List Nat}{s i c q e T d d' c' Y:Nat}(h:nb b l+q*nb b (es.take i)*b^s=Y+b^(s+i)*c) (hk:s+i<l.length) (hd0:l.getD (s+i) 0=d) (hT:T=c+q*e) (he:nb b (es.take (i+1))=nb b (es.take i)+b^i*e)
  (hd:d'+T=d+b*c'):nb b (l.set (s+i) d')+q*nb b (es.take (i+1))*b^s=Y+b^(s+(i+1))*c':=by
 have h1:=nb_set b hk d'
 rw [hd0] at h1
 have e1:q*nb b (es.take (i+1))*b^s=q*nb b (es.take i)*b^s+b^(s+i)*(q*e):=by
  rw [he,Nat.mul_add,Nat.add_mul,Nat.pow_add]
  congr 1
  grind
 have e2:b^(s+i)*(d'+T)=b^(s+i)*(d+b*c'):=by rw [hd]
 have e3:b^(s+(i+1))*c'=b^(s+i)*(b*c'):=by rw [←Nat.add_assoc,Nat.pow_succ,Nat.mul_assoc]
 rw [hT] at e2
 simp only [Nat.mul_add] at e2
 rw [e1,e3]
 omega
theorem takeOff_more {b:Nat}{es:List Nat}{i:Nat}(h:es.length≤i):nb b (es.take (i+1))=nb b (es.take i)+b^i*0:=by
 rw [List.take_of_length_le (by omega),List.take_of_length_le h];rfl
theorem takeOff_done {l l' es:List Nat}{N s i m c q:Nat}(hw:Wfb 4294967296 l') (hl:l'.length=N) (he:es.length=m) (hs:s+m≤N) (hi:s+i≤N) (hq:q*nb 4294967296 es*4294967296^s≤nb 4294967296 l)
  (h:nb 4294967296 l'+q*nb 4294967296 (es.take i)*4294967296^s=nb 4294967296 l+4294967296^(s+i)*c) (hend:s+i=N∨m≤i∧c=0):nb 4294967296 l'+q*nb 4294967296 es*4294967296^s=nb 4294967296 l:=by
 have hmi:m≤i:=by omega
 rw [List.take_of_length_le (by omega)] at h
 have hc:c=0:=by
  rcases hend with h1 | h1
  ·have h2:=nb_lt hw
   rw [hl] at h2
   rw [h1] at h
   refine Nat.eq_zero_of_not_pos fun hp=>?_
   have h3:4294967296^N*1≤4294967296^N*c:=Nat.mul_le_mul_left _ hp
   omega
  ·exact h1.2
 rw [hc,Nat.mul_zero,Nat.add_zero] at h
 exact h
set_option maxHeartbeats 4000000 in
theorem ref3_takeOff {w:World}{g N m cd q s:Nat}{D:Option Addr}{l es:List Nat}(hb0:Bk w g 24 (l.map W64)) (hl0:l.length=N) (hN:N≤1099511627776) (hwl:Wfb 4294967296 l) (hy:Rd w D m cd es) (hwe:Wfb 4294967296 es) (hne:0<cd→∀a,D=some a→a.block≠g) (hqb:q<4294967296) (hs:s+m≤N) (hq:q*nb 4294967296 es*4294967296^s≤nb 4294967296 l):
    Calls Try.prog 92 #[.slice (some ⟨g,0,none⟩) N N,.slice D m cd,.int .u64 ((q:Nat):Int),.int .i64 ((s:Nat):Int)] w (TK g N q s l es w):=by
 have hle:=hy.len
 refine sx_enter Try.func92 rfl (n:=84) rfl (bq rfl) (args:= [.slice (some ⟨g,0,none⟩) N N,.slice D m cd,.int .u64 ((q:Nat):Int),.int .i64 ((s:Nat):Int)]) (cw_keep [(0,.slice (some ⟨g,0,none⟩) N N),(1,.slice D m cd),(2,.int .u64 ((q:Nat):Int)),(3,.int .i64 ((s:Nat):Int))] ⟨rfl,rfl,rfl,rfl,trivial⟩ (sr (mv 1 rfl (ne_ (sr (mv 1 rfl (ne_ (cw_block ?_))))))))
 refine cw_loop (T:=World×Nat×Nat×List Nat)
  (fun⟨wr,i,c,l'⟩=> [(0,.slice (some ⟨g,0,none⟩) N N),(1,.slice D m cd),(2,.int .u64 ((q:Nat):Int)),(3,.int .i64 ((s:Nat):Int)),(8,.int .u64 ((c:Nat):Int)),(9,.int .i64 ((i:Nat):Int))])
  (fun⟨wr,i,c,l'⟩=>wr)
  (fun⟨wr,i,c,l'⟩=>(Upd g w wr)∧(s+i≤N)∧(c≤4294967296)∧(Bk wr g 24 (l'.map W64))∧(l'.length=N)∧(Wfb 4294967296 l')∧(nb 4294967296 l'+q*nb 4294967296 (es.take i)*4294967296^s=nb 4294967296 l+4294967296^(s+i)*c)∧(Rd wr D m cd es))
  (fun⟨wr,i,c,l'⟩=>N-(s+i))
  (⟨w,0,0,l⟩:World×Nat×Nat×List Nat) ⟨Upd.refl g w,(by omega),(by decide),hb0,hl0,hwl,by simp [nb],hy⟩ rfl ⟨rfl,rfl,rfl,rfl,rfl,rfl,trivial⟩ ?_
 rintro⟨wr,i,c,l'⟩ ⟨hu,hi,hc,hb,hl,hwf,hv,rl1⟩
 refine cw_re [(0,.slice (some ⟨g,0,none⟩) N N),(1,.slice D m cd),(2,.int .u64 ((q:Nat):Int)),(3,.int .i64 ((s:Nat):Int)),(8,.int .u64 ((c:Nat):Int)),(9,.int .i64 ((i:Nat):Int))] wr rfl ⟨rfl,rfl,rfl,rfl,rfl,rfl,trivial⟩ (cw_seq (cw_seq ?_))
 by_cases hsi:s+i<N
 · 
  by_cases him:i<m
  · 
   refine cw_region (mv 2 rfl (wl_ar rfl rfl rfl ((s+i:Nat):Int) (ai_add (a:=s) (b:=i) rfl rfl (by omega)) (by decide) (mv 1 rfl (pu (v:= .int .i64 ((N:Nat):Int)) rfl (by kernel_rfl) (wl_cmp rfl rfl rfl true (cb_lt_t (a:=s+i) (b:=N) rfl rfl (by omega)) (by decide) (mv 3 rfl (pu (v:= .int .i64 ((m:Nat):Int)) rfl (by kernel_rfl) (wl_cmp rfl rfl rfl true (cb_lt_t (a:=i) (b:=m) rfl rfl (by omega)) (by decide) (mv 3 rfl (pu (v:= .bool true) rfl (by kernel_rfl) (pu (v:= .bool true) rfl (by kernel_rfl) (ne_ (cw_true rfl ?_)))))))))))))
   refine cw_skip (eo_then (cw_seq (cw_block (sr (mv 2 rfl (ne_ (cw_seq (sr (mv 2 rfl (pu (v:= .int .i64 ((m:Nat):Int)) rfl (by kernel_rfl) (wl_cmp rfl rfl rfl true (cb_lt_t (a:=i) (b:=m) rfl rfl (by omega)) (by decide) (ne_ (cw_true rfl ?_)))))))))))))
   have hey:=Wfb_getD (b:=4294967296) (by decide) hwe i
   have hm:q*(es.getD i 0)≤4294967295*4294967295:=Nat.mul_le_mul (by omega) (by omega)
   refine cw_region (mv 4 rfl ?_)
   obtain⟨p1,hp1,hc1,hv1⟩:=(rl1).at (i:=i) (by omega)
   refine wl_idx rfl rfl rfl un_u64 sz_u64 i rfl (by omega) p1 hp1 (by decide) (wl_load rfl rfl (load_cell1 ag_u64 hc1) (by decide) (wl_ar rfl rfl rfl ((q*(es.getD i 0):Nat):Int) (au_mul (a:=q) (b:=es.getD i 0) rfl rfl (by omega)) (by decide) (wl_ar rfl rfl rfl ((c+(q*(es.getD i 0)):Nat):Int) (au_add (a:=c) (b:=q*(es.getD i 0)) rfl rfl (by omega)) (by decide) (mv 1 rfl (ne_ (sr (mv 1 rfl (wl_ar rfl rfl rfl (((c+(q*(es.getD i 0)))%4294967296:Nat):Int) (au_rem (a:=c+(q*(es.getD i 0))) (b:=4294967296) rfl rfl (by omega)) (by decide) (mv 1 rfl (ne_ (sr (mv 1 rfl (wl_ar rfl rfl rfl (((c+(q*(es.getD i 0)))/4294967296:Nat):Int) (au_quo (a:=c+(q*(es.getD i 0))) (b:=4294967296) rfl rfl (by omega) (by omega)) (by decide) ?_)))))))))))))
   refine mv 1 rfl (ne_ (cw_seq ?_))
   have hd:=Wfb_getD (b:=4294967296) (by decide) hwf (s+i)
   by_cases hlow:l'.getD (s+i) 0<(c+(q*(es.getD i 0)))%4294967296
   · 
    refine cw_region (mv 3 rfl (wl_ar rfl rfl rfl ((s+i:Nat):Int) (ai_add (a:=s) (b:=i) rfl rfl (by omega)) (by decide) (wl_idx rfl rfl rfl un_u64 sz_u64 (s+i) rfl (by omega) ⟨g,s+i,none⟩ (arr_at _ _) (by decide) (wl_load rfl rfl (load_word ag_u64 hb (by rw [hl];omega)) (by decide) (mv 1 rfl (wl_cmp rfl rfl rfl true (cb_lt_t (a:=l'.getD (s+i) 0) (b:=(c+(q*(es.getD i 0)))%4294967296) rfl rfl (by omega)) (by decide) (ne_ (cw_true rfl (sr (mv 3 rfl (wl_ar rfl rfl rfl ((s+i:Nat):Int) (ai_add (a:=s) (b:=i) rfl rfl (by omega)) (by decide) (mv 3 rfl (wl_ar rfl rfl rfl ((s+i:Nat):Int) (ai_add (a:=s) (b:=i) rfl rfl (by omega)) (by decide) ?_)))))))))))))
    refine wl_idx rfl rfl rfl un_u64 sz_u64 (s+i) rfl (by omega) ⟨g,s+i,none⟩ (arr_at _ _) (by decide) (wl_load rfl rfl (load_word ag_u64 hb (by rw [hl];omega)) (by decide) (wl_ar rfl rfl rfl (((l'.getD (s+i) 0)+4294967296:Nat):Int) (au_add (a:=l'.getD (s+i) 0) (b:=4294967296) rfl rfl (by omega)) (by decide) (mv 1 rfl (wl_ar rfl rfl rfl ((((l'.getD (s+i) 0)+4294967296)-((c+(q*(es.getD i 0)))%4294967296):Nat):Int) (au_sub (a:=(l'.getD (s+i) 0)+4294967296) (b:=(c+(q*(es.getD i 0)))%4294967296) rfl rfl (by omega) (by omega)) (by decide) (wl_idx rfl rfl rfl un_u64 sz_u64 (s+i) rfl (by omega) ⟨g,s+i,none⟩ (arr_at _ _) (by decide) ?_)))))
    have hb3:=hb
    refine wl_stored1 rfl rfl rfl sz_u64 rfl hb3 (len_map (by rw [hl];omega)) rfl ((l'.set (s+i) (((l'.getD (s+i) 0)+4294967296)-((c+(q*(es.getD i 0)))%4294967296))).map W64) (map_W64_set _ _ _) fun v2 hb4 u5 hs6=>(ne_ (cw_region (mv 1 rfl (wl_ar rfl rfl rfl ((((c+(q*(es.getD i 0)))/4294967296)+1:Nat):Int) (au_add (a:=(c+(q*(es.getD i 0)))/4294967296) (b:=1) rfl rfl (by omega)) (by decide) (mv 1 rfl (wl_nil (eo_block_normal (eo_then (cw_region (mv 1 rfl (wl_ar rfl rfl rfl ((i+1:Nat):Int) (ai_add (a:=i) (b:=1) rfl rfl (by omega)) (by decide) (mv 1 rfl (wl_nil ?_)))))))))))))
    refine eo_round (⟨v2,i+1,_,_⟩:World×Nat×Nat×List Nat) ⟨hu.trans u5,(by omega),(by omega),hb4,(len_set (l:=l') (hl)),Wfb_set hwf _ (by omega),takeOff_step hv (by omega) rfl rfl (nb_take_snoc _ _ _ (by omega)) (by omega),(Rd.updL rl1 u5 hne)⟩ (show N-(s+(i+1))<N-(s+i) by omega) rfl ⟨rfl,rfl,rfl,rfl,rfl,rfl,trivial⟩
   · 
    refine cw_region (mv 3 rfl (wl_ar rfl rfl rfl ((s+i:Nat):Int) (ai_add (a:=s) (b:=i) rfl rfl (by omega)) (by decide) (wl_idx rfl rfl rfl un_u64 sz_u64 (s+i) rfl (by omega) ⟨g,s+i,none⟩ (arr_at _ _) (by decide) (wl_load rfl rfl (load_word ag_u64 hb (by rw [hl];omega)) (by decide) (mv 1 rfl (wl_cmp rfl rfl rfl false (cb_lt_f (a:=l'.getD (s+i) 0) (b:=(c+(q*(es.getD i 0)))%4294967296) rfl rfl (by omega)) (by decide) (ne_ (cw_false rfl (cw_region (mv 3 rfl (wl_ar rfl rfl rfl ((s+i:Nat):Int) (ai_add (a:=s) (b:=i) rfl rfl (by omega)) (by decide) (mv 3 rfl (wl_ar rfl rfl rfl ((s+i:Nat):Int) (ai_add (a:=s) (b:=i) rfl rfl (by omega)) (by decide) ?_)))))))))))))
    refine wl_idx rfl rfl rfl un_u64 sz_u64 (s+i) rfl (by omega) ⟨g,s+i,none⟩ (arr_at _ _) (by decide) (wl_load rfl rfl (load_word ag_u64 hb (by rw [hl];omega)) (by decide) (mv 1 rfl (wl_ar rfl rfl rfl (((l'.getD (s+i) 0)-((c+(q*(es.getD i 0)))%4294967296):Nat):Int) (au_sub (a:=l'.getD (s+i) 0) (b:=(c+(q*(es.getD i 0)))%4294967296) rfl rfl (by omega) (by omega)) (by decide) (wl_idx rfl rfl rfl un_u64 sz_u64 (s+i) rfl (by omega) ⟨g,s+i,none⟩ (arr_at _ _) (by decide) ?_))))
    have hb8:=hb
    refine wl_stored1 rfl rfl rfl sz_u64 rfl hb8 (len_map (by rw [hl];omega)) rfl ((l'.set (s+i) ((l'.getD (s+i) 0)-((c+(q*(es.getD i 0)))%4294967296))).map W64) (map_W64_set _ _ _) fun v7 hb9 u10 hs11=>(wl_nil (eo_block_normal (eo_then (cw_region (mv 1 rfl (wl_ar rfl rfl rfl ((i+1:Nat):Int) (ai_add (a:=i) (b:=1) rfl rfl (by omega)) (by decide) (mv 1 rfl (wl_nil (eo_round (⟨v7,i+1,_,_⟩:World×Nat×Nat×List Nat) ⟨hu.trans u10,(by omega),(by omega),hb9,(len_set (l:=l') (hl)),Wfb_set hwf _ (by omega),takeOff_step hv (by omega) rfl rfl (nb_take_snoc _ _ _ (by omega)) (by omega),(Rd.updL rl1 u10 hne)⟩ (show N-(s+(i+1))<N-(s+i) by omega) rfl ⟨rfl,rfl,rfl,rfl,rfl,rfl,trivial⟩)))))))))
  · 
   by_cases hcp:c>0
   · 
    refine cw_region (mv 2 rfl (wl_ar rfl rfl rfl ((s+i:Nat):Int) (ai_add (a:=s) (b:=i) rfl rfl (by omega)) (by decide) (mv 1 rfl (pu (v:= .int .i64 ((N:Nat):Int)) rfl (by kernel_rfl) (wl_cmp rfl rfl rfl true (cb_lt_t (a:=s+i) (b:=N) rfl rfl (by omega)) (by decide) (mv 3 rfl (pu (v:= .int .i64 ((m:Nat):Int)) rfl (by kernel_rfl) (wl_cmp rfl rfl rfl false (cb_lt_f (a:=i) (b:=m) rfl rfl (by omega)) (by decide) (mv 2 rfl (wl_cmp rfl rfl rfl true (cb_gt_t (a:=c) (b:=0) rfl rfl (by omega)) (by decide) (pu (v:= .bool true) rfl (by kernel_rfl) (pu (v:= .bool true) rfl (by kernel_rfl) (wl_nil ?_)))))))))))))
    refine eo_then (cw_true rfl (cw_skip (eo_then (cw_seq (cw_block (sr (mv 2 rfl (ne_ (cw_seq (sr (mv 2 rfl (pu (v:= .int .i64 ((m:Nat):Int)) rfl (by kernel_rfl) (wl_cmp rfl rfl rfl false (cb_lt_f (a:=i) (b:=m) rfl rfl (by omega)) (by decide) ?_)))))))))))))
    refine ne_ (cw_false rfl (cw_skip (eo_then (sr (mv 1 rfl (wl_ar rfl rfl rfl ((c%4294967296:Nat):Int) (au_rem (a:=c) (b:=4294967296) rfl rfl (by omega)) (by decide) (mv 1 rfl (ne_ (sr (mv 1 rfl (wl_ar rfl rfl rfl ((c/4294967296:Nat):Int) (au_quo (a:=c) (b:=4294967296) rfl rfl (by omega) (by omega)) (by decide) (mv 1 rfl (wl_nil ?_)))))))))))))
    refine eo_then (cw_seq ?_)
    have hd:=Wfb_getD (b:=4294967296) (by decide) hwf (s+i)
    by_cases hlow:l'.getD (s+i) 0<c%4294967296
    · 
     refine cw_region (mv 3 rfl (wl_ar rfl rfl rfl ((s+i:Nat):Int) (ai_add (a:=s) (b:=i) rfl rfl (by omega)) (by decide) (wl_idx rfl rfl rfl un_u64 sz_u64 (s+i) rfl (by omega) ⟨g,s+i,none⟩ (arr_at _ _) (by decide) (wl_load rfl rfl (load_word ag_u64 hb (by rw [hl];omega)) (by decide) (mv 1 rfl (wl_cmp rfl rfl rfl true (cb_lt_t (a:=l'.getD (s+i) 0) (b:=c%4294967296) rfl rfl (by omega)) (by decide) (ne_ (cw_true rfl (sr (mv 3 rfl (wl_ar rfl rfl rfl ((s+i:Nat):Int) (ai_add (a:=s) (b:=i) rfl rfl (by omega)) (by decide) (mv 3 rfl (wl_ar rfl rfl rfl ((s+i:Nat):Int) (ai_add (a:=s) (b:=i) rfl rfl (by omega)) (by decide) ?_)))))))))))))
     refine wl_idx rfl rfl rfl un_u64 sz_u64 (s+i) rfl (by omega) ⟨g,s+i,none⟩ (arr_at _ _) (by decide) (wl_load rfl rfl (load_word ag_u64 hb (by rw [hl];omega)) (by decide) (wl_ar rfl rfl rfl (((l'.getD (s+i) 0)+4294967296:Nat):Int) (au_add (a:=l'.getD (s+i) 0) (b:=4294967296) rfl rfl (by omega)) (by decide) (mv 1 rfl (wl_ar rfl rfl rfl ((((l'.getD (s+i) 0)+4294967296)-(c%4294967296):Nat):Int) (au_sub (a:=(l'.getD (s+i) 0)+4294967296) (b:=c%4294967296) rfl rfl (by omega) (by omega)) (by decide) (wl_idx rfl rfl rfl un_u64 sz_u64 (s+i) rfl (by omega) ⟨g,s+i,none⟩ (arr_at _ _) (by decide) ?_)))))
     have hb13:=hb
     refine wl_stored1 rfl rfl rfl sz_u64 rfl hb13 (len_map (by rw [hl];omega)) rfl ((l'.set (s+i) (((l'.getD (s+i) 0)+4294967296)-(c%4294967296))).map W64) (map_W64_set _ _ _) fun v12 hb14 u15 hs16=>(ne_ (cw_region (mv 1 rfl (wl_ar rfl rfl rfl (((c/4294967296)+1:Nat):Int) (au_add (a:=c/4294967296) (b:=1) rfl rfl (by omega)) (by decide) (mv 1 rfl (wl_nil (eo_block_normal (eo_then (cw_region (mv 1 rfl (wl_ar rfl rfl rfl ((i+1:Nat):Int) (ai_add (a:=i) (b:=1) rfl rfl (by omega)) (by decide) (mv 1 rfl (wl_nil ?_)))))))))))))
     refine eo_round (⟨v12,i+1,_,_⟩:World×Nat×Nat×List Nat) ⟨hu.trans u15,(by omega),(by omega),hb14,(len_set (l:=l') (hl)),Wfb_set hwf _ (by omega),takeOff_step hv (by omega) rfl (T:=c) (e:=0) (by simp) (takeOff_more (by omega)) (by omega),(Rd.updL rl1 u15 hne)⟩ (show N-(s+(i+1))<N-(s+i) by omega) rfl ⟨rfl,rfl,rfl,rfl,rfl,rfl,trivial⟩
    · 
     refine cw_region (mv 3 rfl (wl_ar rfl rfl rfl ((s+i:Nat):Int) (ai_add (a:=s) (b:=i) rfl rfl (by omega)) (by decide) (wl_idx rfl rfl rfl un_u64 sz_u64 (s+i) rfl (by omega) ⟨g,s+i,none⟩ (arr_at _ _) (by decide) (wl_load rfl rfl (load_word ag_u64 hb (by rw [hl];omega)) (by decide) (mv 1 rfl (wl_cmp rfl rfl rfl false (cb_lt_f (a:=l'.getD (s+i) 0) (b:=c%4294967296) rfl rfl (by omega)) (by decide) (ne_ (cw_false rfl (cw_region (mv 3 rfl (wl_ar rfl rfl rfl ((s+i:Nat):Int) (ai_add (a:=s) (b:=i) rfl rfl (by omega)) (by decide) (mv 3 rfl (wl_ar rfl rfl rfl ((s+i:Nat):Int) (ai_add (a:=s) (b:=i) rfl rfl (by omega)) (by decide) ?_)))))))))))))
     refine wl_idx rfl rfl rfl un_u64 sz_u64 (s+i) rfl (by omega) ⟨g,s+i,none⟩ (arr_at _ _) (by decide) (wl_load rfl rfl (load_word ag_u64 hb (by rw [hl];omega)) (by decide) (mv 1 rfl (wl_ar rfl rfl rfl (((l'.getD (s+i) 0)-(c%4294967296):Nat):Int) (au_sub (a:=l'.getD (s+i) 0) (b:=c%4294967296) rfl rfl (by omega) (by omega)) (by decide) (wl_idx rfl rfl rfl un_u64 sz_u64 (s+i) rfl (by omega) ⟨g,s+i,none⟩ (arr_at _ _) (by decide) ?_))))
     have hb18:=hb
     refine wl_stored1 rfl rfl rfl sz_u64 rfl hb18 (len_map (by rw [hl];omega)) rfl ((l'.set (s+i) ((l'.getD (s+i) 0)-(c%4294967296))).map W64) (map_W64_set _ _ _) fun v17 hb19 u20 hs21=>(wl_nil (eo_block_normal (eo_then (cw_region (mv 1 rfl (wl_ar rfl rfl rfl ((i+1:Nat):Int) (ai_add (a:=i) (b:=1) rfl rfl (by omega)) (by decide) (mv 1 rfl (wl_nil (eo_round (⟨v17,i+1,_,_⟩:World×Nat×Nat×List Nat) ⟨hu.trans u20,(by omega),(by omega),hb19,(len_set (l:=l') (hl)),Wfb_set hwf _ (by omega),takeOff_step hv (by omega) rfl (T:=c) (e:=0) (by simp) (takeOff_more (by omega)) (by omega),(Rd.updL rl1 u20 hne)⟩ (show N-(s+(i+1))<N-(s+i) by omega) rfl ⟨rfl,rfl,rfl,rfl,rfl,rfl,trivial⟩)))))))))
   · 
    refine cw_region (mv 2 rfl (wl_ar rfl rfl rfl ((s+i:Nat):Int) (ai_add (a:=s) (b:=i) rfl rfl (by omega)) (by decide) (mv 1 rfl (pu (v:= .int .i64 ((N:Nat):Int)) rfl (by kernel_rfl) (wl_cmp rfl rfl rfl true (cb_lt_t (a:=s+i) (b:=N) rfl rfl (by omega)) (by decide) (mv 3 rfl (pu (v:= .int .i64 ((m:Nat):Int)) rfl (by kernel_rfl) (wl_cmp rfl rfl rfl false (cb_lt_f (a:=i) (b:=m) rfl rfl (by omega)) (by decide) (mv 2 rfl (wl_cmp rfl rfl rfl false (cb_gt_f (a:=c) (b:=0) rfl rfl (by omega)) (by decide) (pu (v:= .bool false) rfl (by kernel_rfl) (pu (v:= .bool false) rfl (by kernel_rfl) (wl_nil ?_)))))))))))))
    refine eo_then (cw_false rfl (cw_exit (eo_thenX (eo_loopX (eo_block_here (eo_end [] rfl trivial ?_))))))
    exact⟨rfl,hu,l',hb,hl,hwf,takeOff_done hwf hl hle hs hi hq hv (Or.inr ⟨by omega,by omega⟩)⟩
 · 
  refine cw_region (mv 2 rfl (wl_ar rfl rfl rfl ((s+i:Nat):Int) (ai_add (a:=s) (b:=i) rfl rfl (by omega)) (by decide) (mv 1 rfl (pu (v:= .int .i64 ((N:Nat):Int)) rfl (by kernel_rfl) (wl_cmp rfl rfl rfl false (cb_lt_f (a:=s+i) (b:=N) rfl rfl (by omega)) (by decide) (mv 9 rfl (pu (v:= .bool false) rfl (by kernel_rfl) (ne_ (cw_false rfl (cw_exit (eo_thenX (eo_loopX (eo_block_here ?_)))))))))))))
  refine eo_end [] rfl trivial ?_
  exact⟨rfl,hu,l',hb,hl,hwf,takeOff_done hwf hl hle hs hi hq hv (Or.inl (by omega))⟩
theorem drop_getD3 {xs:List Nat}{k:Nat}(h:k<xs.length) (b:Nat):nb b (xs.drop k)=xs.getD k 0+b*nb b (xs.drop (k+1)):=by
 rw [List.drop_eq_getElem_cons h,nb_cons,List.getD_eq_getElem?_getD,List.getElem?_eq_getElem h];rfl
section
set_option linter.unusedSectionVars false
variable {xs es:List Nat}{n m s:Nat}(hx:xs.length=n) (he:es.length=m) (hs:s+m≤n) (hwx:Wfb 4294967296 xs) (hwe:Wfb 4294967296 es)
include hx he hs hwx hwe
theorem goes_start (hbig:nb 4294967296 xs<4294967296^(s+m+1)) (h0:s+m<n→xs.getD (s+m) 0=0):nb 4294967296 (xs.drop (s+m))=nb 4294967296 (es.drop m):=by
 rw [List.drop_of_length_le (l:=es) (by omega),nb_nil]
 by_cases hlt:s+m<n
 ·have h1:=nb_split 4294967296 xs (s+m) (by omega)
  have h2:=drop_getD3 (xs:=xs) (k:=s+m) (by omega) 4294967296
  rw [h0 hlt,Nat.zero_add] at h2
  rw [h2] at h1⊢
  refine Nat.mul_eq_zero.2 (Or.inr (Nat.eq_zero_of_not_pos fun hp=>?_))
  rw [Nat.pow_succ,←Nat.mul_assoc] at*
  have h3:4294967296^(s+m)*4294967296*1≤4294967296^(s+m)*4294967296*nb 4294967296 (xs.drop (s+m+1)):=Nat.mul_le_mul_left _ hp
  omega
 ·rw [List.drop_of_length_le (by omega),nb_nil]
theorem goes_top (h0:s+m<n) (hp:0<xs.getD (s+m) 0):nb 4294967296 es*4294967296^s≤nb 4294967296 xs:=by
 have h1:=nb_split 4294967296 xs (s+m) (by omega)
 have h2:=drop_getD3 (xs:=xs) (k:=s+m) (by omega) 4294967296
 have h3:=nb_lt hwe
 rw [he] at h3
 have h4:nb 4294967296 es*4294967296^s≤4294967296^m*4294967296^s:=Nat.mul_le_mul_right _ (Nat.le_of_lt h3)
 rw [←Nat.pow_add,Nat.add_comm m s] at h4
 have h5:4294967296^(s+m)*1≤4294967296^(s+m)*nb 4294967296 (xs.drop (s+m)):=Nat.mul_le_mul_left _ (by omega)
 omega
theorem goes_lt {j:Nat}(hj:j<m) (h:nb 4294967296 (xs.drop (s+(j+1)))=nb 4294967296 (es.drop (j+1))) (hd:xs.getD (s+j) 0<es.getD j 0):¬nb 4294967296 es*4294967296^s≤nb 4294967296 xs:=by
 have h2:=drop_getD3 (xs:=xs) (k:=s+j) (by omega) 4294967296
 have h3:=drop_getD3 (xs:=es) (k:=j) (by omega) 4294967296
 rw [Nat.add_assoc,h] at h2
 have h4:=nb_split 4294967296 xs (s+j) (by omega)
 have h5:=nb_split 4294967296 es j (by omega)
 have h6:=nb_take_lt (by decide) hwx (s+j)
 have h7:4294967296^(s+j)*(nb 4294967296 (xs.drop (s+j))+1)≤4294967296^(s+j)*nb 4294967296 (es.drop j):=Nat.mul_le_mul_left _ (by omega)
 have h8:4294967296^(s+j)*nb 4294967296 (es.drop j)≤nb 4294967296 es*4294967296^s:=by
  rw [h5,Nat.add_mul,Nat.pow_add,Nat.mul_assoc,Nat.mul_comm (4294967296^s)]
  exact Nat.le_add_left _ _
 rw [Nat.mul_add] at h7
 omega
theorem goes_gt {j:Nat}(hj:j<m) (h:nb 4294967296 (xs.drop (s+(j+1)))=nb 4294967296 (es.drop (j+1))) (hd:xs.getD (s+j) 0>es.getD j 0):nb 4294967296 es*4294967296^s≤nb 4294967296 xs:=by
 have h2:=drop_getD3 (xs:=xs) (k:=s+j) (by omega) 4294967296
 have h3:=drop_getD3 (xs:=es) (k:=j) (by omega) 4294967296
 rw [Nat.add_assoc,h] at h2
 have h4:=nb_split 4294967296 xs (s+j) (by omega)
 have h5:=nb_split 4294967296 es j (by omega)
 have h6:=nb_take_lt (by decide) hwe j
 have h7:4294967296^j*(nb 4294967296 (es.drop j)+1)≤4294967296^j*nb 4294967296 (xs.drop (s+j)):=Nat.mul_le_mul_left _ (by omega)
 rw [Nat.mul_add] at h7
 have h8:nb 4294967296 es≤4294967296^j*nb 4294967296 (xs.drop (s+j)):=by omega
 have h9:nb 4294967296 es*4294967296^s≤4294967296^j*nb 4294967296 (xs.drop (s+j))*4294967296^s:=Nat.mul_le_mul_right _ h8
 have e:4294967296^j*nb 4294967296 (xs.drop (s+j))*4294967296^s=4294967296^(s+j)*nb 4294967296 (xs.drop (s+j)):=by
  rw [Nat.pow_add,Nat.mul_right_comm,Nat.mul_comm (4294967296^j)]
 omega
theorem goes_eq (h:nb 4294967296 (xs.drop (s+0))=nb 4294967296 (es.drop 0)):nb 4294967296 es*4294967296^s≤nb 4294967296 xs:=by
 have h4:=nb_split 4294967296 xs s (by omega)
 rw [Nat.add_zero,List.drop_zero] at h
 rw [h4,h,Nat.mul_comm]
 exact Nat.le_add_left _ _
theorem goes_step {j:Nat}(hj:j<m) (h:nb 4294967296 (xs.drop (s+(j+1)))=nb 4294967296 (es.drop (j+1))) (hd:xs.getD (s+j) 0=es.getD j 0):nb 4294967296 (xs.drop (s+j))=nb 4294967296 (es.drop j):=by
 rw [drop_getD3 (xs:=xs) (k:=s+j) (by omega),drop_getD3 (xs:=es) (k:=j) (by omega),Nat.add_assoc,h,hd]
end
set_option maxHeartbeats 4000000 in
theorem ref3_goes {w:World}{A D:Option Addr}{n cap m cd s:Nat}{xs es:List Nat}(hx:Rd w A n cap xs) (hln:n≤1099511627776) (hy:Rd w D m cd es) (hwx:Wfb 4294967296 xs) (hwe:Wfb 4294967296 es) (hs:s+m≤n) (hbig:nb 4294967296 xs<4294967296^(s+m+1)):
    Calls Try.prog 112 #[.slice A n cap,.slice D m cd,.int .i64 ((s:Nat):Int)] w (Gv w (Is (.bool (decide (nb 4294967296 es*4294967296^s≤nb 4294967296 xs))))):=by
 have hlen:=hx.len
 have hle:=hx.rv.le
 have hle2:=hy.len
 refine sx_enter Try.func112 rfl (n:=53) rfl (bq rfl) (args:= [.slice A n cap,.slice D m cd,.int .i64 ((s:Nat):Int)]) (cw_keep [(0,.slice A n cap),(1,.slice D m cd),(2,.int .i64 ((s:Nat):Int))] ⟨rfl,rfl,rfl,trivial⟩ (sr (mv 1 rfl (ne_ (sr (mv 2 rfl (pu (v:= .int .i64 ((m:Nat):Int)) rfl (by kernel_rfl) (wl_ar rfl rfl rfl ((s+m:Nat):Int) (ai_add (a:=s) (b:=m) rfl rfl (by omega)) (by decide) (mv 1 rfl (ne_ (cw_seq (cw_seq ?_))))))))))))
 by_cases htop:s+m<n
 · 
  by_cases hpos:xs.getD (s+m) 0>0
  · 
   refine cw_region (mv 2 rfl (pu (v:= .int .i64 ((n:Nat):Int)) rfl (by kernel_rfl) (wl_cmp rfl rfl rfl true (cb_lt_t (a:=s+m) (b:=n) rfl rfl (by omega)) (by decide) (mv 3 rfl ?_))))
   obtain⟨p1,hp1,hc1,hv1⟩:=(hx).at (i:=s+m) (by omega)
   refine wl_idx rfl rfl rfl un_u64 sz_u64 (s+m) rfl (by omega) p1 hp1 (by decide) (wl_load rfl rfl (load_cell1 ag_u64 hc1) (by decide) (wl_cmp rfl rfl rfl true (cb_gt_t (a:=xs.getD (s+m) 0) (b:=0) rfl rfl (by omega)) (by decide) (pu (v:= .bool true) rfl (by kernel_rfl) (ne_ (cw_true rfl (sr (mv 1 rfl (ne_ (cw_ret (eo_thenR (eo_ret [.bool true] rfl ⟨rfl,trivial⟩ ?_)))))))))))
   exact⟨_,rfl,(show Value.bool true=_ by rw [decide_eq_true (goes_top hlen hle2 hs hwx hwe htop hpos)]),(Ext.refl w)⟩
  · 
   have hst:=goes_start hlen hle2 hs hwx hwe hbig (fun _=>by omega)
   refine cw_region (mv 2 rfl (pu (v:= .int .i64 ((n:Nat):Int)) rfl (by kernel_rfl) (wl_cmp rfl rfl rfl true (cb_lt_t (a:=s+m) (b:=n) rfl rfl (by omega)) (by decide) (mv 3 rfl ?_))))
   obtain⟨p2,hp2,hc2,hv2⟩:=(hx).at (i:=s+m) (by omega)
   refine wl_idx rfl rfl rfl un_u64 sz_u64 (s+m) rfl (by omega) p2 hp2 (by decide) (wl_load rfl rfl (load_cell1 ag_u64 hc2) (by decide) (wl_cmp rfl rfl rfl false (cb_gt_f (a:=xs.getD (s+m) 0) (b:=0) rfl rfl (by omega)) (by decide) (pu (v:= .bool false) rfl (by kernel_rfl) (ne_ (cw_false rfl (cw_skip (eo_then (cw_seq (sr (mv 1 rfl (pu (v:= .int .i64 ((m:Nat):Int)) rfl (by kernel_rfl) (wl_ar rfl rfl rfl (((m:Nat):Int)-1) (ar_i64s rfl (by omega) (by omega)) (by decide) (mv 1 rfl ?_)))))))))))))
   refine ne_ (cw_block ?_)
   refine cw_loop (T:=World×Nat×Int)
    (fun⟨wr,k,ii⟩=> [(0,.slice A n cap),(1,.slice D m cd),(2,.int .i64 ((s:Nat):Int)),(8,.int .i64 ii)])
    (fun⟨wr,k,ii⟩=>wr)
    (fun⟨wr,k,ii⟩=>(Ext w wr)∧(k≤m)∧(ii=(k:Int)-1)∧(nb 4294967296 (xs.drop (s+k))=nb 4294967296 (es.drop k))∧(Rd wr A n cap xs)∧(Rd wr D m cd es))
    (fun⟨wr,k,ii⟩=>k)
    (⟨w,m,_⟩:World×Nat×Int) ⟨(Ext.refl w),Nat.le_refl _,rfl,hst,hx,hy⟩ rfl ⟨rfl,rfl,rfl,rfl,trivial⟩ ?_
   rintro⟨wr,k,ii⟩ ⟨hw1,hk,hii,hv,rl0,rl1⟩
   refine cw_re [(0,.slice A n cap),(1,.slice D m cd),(2,.int .i64 ((s:Nat):Int)),(8,.int .i64 ii)] wr rfl ⟨rfl,rfl,rfl,rfl,trivial⟩ (cw_seq (cw_seq ?_))
   by_cases hkp:0<k
   · 
    obtain⟨j,rfl⟩:∃j,k=j+1:=⟨k-1,by omega⟩
    obtain rfl:ii=(j:Int):=by omega
    refine cw_region (mv 1 rfl (wl_cmp rfl rfl rfl true (cb_ge_t (a:=j) (b:=0) rfl rfl (by omega)) (by decide) (ne_ (cw_true rfl (cw_skip (eo_then (cw_seq (cw_block (cw_seq ?_)))))))))
    by_cases hne:xs.getD (s+j) 0≠es.getD j 0
    · 
     refine cw_keep [(0,.slice A n cap),(1,.slice D m cd),(2,.int .i64 ((s:Nat):Int)),(8,.int .i64 ((j:Nat):Int)),(27,.int .i64 ((j:Nat):Int)),(28,.bool true)] ⟨rfl,rfl,rfl,rfl,rfl,rfl,trivial⟩ ?_
     obtain⟨v3,hv,e4⟩:∃v,v=wr.drew∧Ext wr v:=⟨_,rfl,(Ext.refl _).drew⟩
     have hw2:=hw1.trans e4
     obtain⟨p5,hp5,hc5,hv5⟩:=((rl0.ext e4)).at (i:=s+j) (by omega)
     obtain⟨p6,hp6,hc6,hv6⟩:=((rl1.ext e4)).at (i:=j) (by omega)
     refine cw_det mix (w:=v3) [.slice A n cap,.int .i64 ((s:Nat):Int),.int .i64 ((j:Nat):Int),.int .i64 ((s+j:Nat):Int),.pointer (some p5),.int .u64 ((xs.getD (s+j) 0:Nat):Int),.slice D m cd,.int .i64 ((j:Nat):Int),.pointer (some p6),.int .u64 ((es.getD j 0:Nat):Int),.bool true] [v3] [] [[],[],[],[1,2],[0,3],[4],[],[],[6,7],[8],[5,9]] [[],[],[],[1,2],[0,1,2,3],[0,1,2,3,4],[],[],[6,7],[6,7,8],[0,1,2,3,4,5,6,7,8,9]] [(0,0),(1,0),(2,0),(3,0),(4,0),(5,0),(6,0),(7,0),(8,0),(9,0),(10,0)] rfl hv ?_ ?_
     · 
      refine dobs_val _ rfl rfl rfl rfl rfl (rd_move rfl) (dobs_val _ rfl rfl rfl rfl rfl (rd_move rfl) (dobs_val _ rfl rfl rfl rfl rfl (rd_move rfl) (dobs_val _ rfl rfl rfl rfl rfl (rd_ar rfl rfl ((s+j:Nat):Int) (ai_add (a:=s) (b:=j) rfl rfl (by omega))) (dobs_val _ rfl rfl rfl rfl rfl (rd_idx rfl rfl un_u64 sz_u64 (s+j) rfl (by omega) p5 hp5) (dobs_val _ rfl rfl rfl rfl rfl (rd_load rfl (load_cell1 ag_u64 hc5)) (dobs_val _ rfl rfl rfl rfl rfl (rd_move rfl) (dobs_val _ rfl rfl rfl rfl rfl (rd_move rfl) (dobs_val _ rfl rfl rfl rfl rfl (rd_idx rfl rfl un_u64 sz_u64 j rfl (by omega) p6 hp6) (dobs_val _ rfl rfl rfl rfl rfl (rd_load rfl (load_cell1 ag_u64 hc6)) (dobs_val _ rfl rfl rfl rfl rfl (rd_cmp rfl rfl true (cb_ne_t (a:=xs.getD (s+j) 0) (b:=es.getD j 0) rfl rfl (by omega))) ?_))))))))))
      exact dobs_nil
     clear hv
     refine eo_keep [(0,.slice A n cap),(1,.slice D m cd),(2,.int .i64 ((s:Nat):Int)),(8,.int .i64 ((j:Nat):Int)),(27,.int .i64 ((j:Nat):Int)),(28,.bool true),(31,.slice A n cap),(32,.int .i64 ((s:Nat):Int)),(33,.int .i64 ((j:Nat):Int)),(34,.int .i64 ((s+j:Nat):Int)),(35,.pointer (some p5)),(36,.int .u64 ((xs.getD (s+j) 0:Nat):Int)),(37,.slice D m cd),(38,.int .i64 ((j:Nat):Int)),(39,.pointer (some p6)),(40,.int .u64 ((es.getD j 0:Nat):Int)),(41,.bool true)] ⟨rfl,rfl,rfl,rfl,rfl,rfl,rfl,rfl,rfl,rfl,rfl,rfl,rfl,rfl,rfl,rfl,rfl,trivial⟩ (eo_then (cw_true rfl (cw_seq ?_)))
     by_cases hgt:xs.getD (s+j) 0>es.getD j 0
     · 
      refine cw_keep [(0,.slice A n cap),(1,.slice D m cd),(2,.int .i64 ((s:Nat):Int)),(8,.int .i64 ((j:Nat):Int)),(27,.int .i64 ((j:Nat):Int)),(28,.bool true),(31,.slice A n cap),(32,.int .i64 ((s:Nat):Int)),(33,.int .i64 ((j:Nat):Int)),(34,.int .i64 ((s+j:Nat):Int)),(35,.pointer (some p5)),(36,.int .u64 ((xs.getD (s+j) 0:Nat):Int)),(37,.slice D m cd),(38,.int .i64 ((j:Nat):Int)),(39,.pointer (some p6)),(40,.int .u64 ((es.getD j 0:Nat):Int)),(41,.bool true)] ⟨rfl,rfl,rfl,rfl,rfl,rfl,rfl,rfl,rfl,rfl,rfl,rfl,rfl,rfl,rfl,rfl,rfl,trivial⟩ ?_
      obtain⟨v7,hv,e8⟩:∃v,v=v3.drew∧Ext v3 v:=⟨_,rfl,(Ext.refl _).drew⟩
      have hw3:=hw2.trans e8
      refine cw_det mix (w:=v7) [.slice A n cap,.int .i64 ((s:Nat):Int),.int .i64 ((j:Nat):Int),.int .i64 ((s+j:Nat):Int),.pointer (some p5),.int .u64 ((xs.getD (s+j) 0:Nat):Int),.slice D m cd,.int .i64 ((j:Nat):Int),.pointer (some p6),.int .u64 ((es.getD j 0:Nat):Int),.bool true,.bool true] [v7] [] [[],[],[],[1,2],[0,3],[4],[],[],[6,7],[8],[5,9],[10]] [[],[],[],[1,2],[0,1,2,3],[0,1,2,3,4],[],[],[6,7],[6,7,8],[0,1,2,3,4,5,6,7,8,9],[0,1,2,3,4,5,6,7,8,9,10]] [(0,0),(1,0),(2,0),(3,0),(4,0),(5,0),(6,0),(7,0),(8,0),(9,0),(10,0),(11,0)] rfl hv ?_ ?_
      · 
       refine dobs_val _ rfl rfl rfl rfl rfl (rd_move rfl) (dobs_val _ rfl rfl rfl rfl rfl (rd_move rfl) (dobs_val _ rfl rfl rfl rfl rfl (rd_move rfl) (dobs_val _ rfl rfl rfl rfl rfl (rd_ar rfl rfl ((s+j:Nat):Int) (ai_add (a:=s) (b:=j) rfl rfl (by omega))) (dobs_val _ rfl rfl rfl rfl rfl (rd_idx rfl rfl un_u64 sz_u64 (s+j) rfl (by omega) p5 hp5) (dobs_val _ rfl rfl rfl rfl rfl (rd_load rfl (load_cell1 ag_u64 (e8.cell hc5))) (dobs_val _ rfl rfl rfl rfl rfl (rd_move rfl) (dobs_val _ rfl rfl rfl rfl rfl (rd_move rfl) (dobs_val _ rfl rfl rfl rfl rfl (rd_idx rfl rfl un_u64 sz_u64 j rfl (by omega) p6 hp6) (dobs_val _ rfl rfl rfl rfl rfl (rd_load rfl (load_cell1 ag_u64 (e8.cell hc6))) (dobs_val _ rfl rfl rfl rfl rfl (rd_cmp rfl rfl true (cb_gt_t (a:=xs.getD (s+j) 0) (b:=es.getD j 0) rfl rfl (by omega))) (dobs_val _ rfl rfl rfl rfl rfl (rd_assign rfl) ?_)))))))))))
       exact dobs_nil
      clear hv
      refine eo_keep [(0,.slice A n cap),(1,.slice D m cd),(2,.int .i64 ((s:Nat):Int)),(8,.int .i64 ((j:Nat):Int)),(27,.int .i64 ((j:Nat):Int)),(28,.bool true),(31,.slice A n cap),(32,.int .i64 ((s:Nat):Int)),(33,.int .i64 ((j:Nat):Int)),(34,.int .i64 ((s+j:Nat):Int)),(35,.pointer (some p5)),(36,.int .u64 ((xs.getD (s+j) 0:Nat):Int)),(37,.slice D m cd),(38,.int .i64 ((j:Nat):Int)),(39,.pointer (some p6)),(40,.int .u64 ((es.getD j 0:Nat):Int)),(41,.bool true),(42,.slice A n cap),(43,.int .i64 ((s:Nat):Int)),(44,.int .i64 ((j:Nat):Int)),(45,.int .i64 ((s+j:Nat):Int)),(46,.pointer (some p5)),(47,.int .u64 ((xs.getD (s+j) 0:Nat):Int)),(48,.slice D m cd),(49,.int .i64 ((j:Nat):Int)),(50,.pointer (some p6)),(51,.int .u64 ((es.getD j 0:Nat):Int)),(52,.bool true),(6,.bool true)] ⟨rfl,rfl,rfl,rfl,rfl,rfl,rfl,rfl,rfl,rfl,rfl,rfl,rfl,rfl,rfl,rfl,rfl,rfl,rfl,rfl,rfl,rfl,rfl,rfl,rfl,rfl,rfl,rfl,rfl,trivial⟩ (eo_then (cw_ret (eo_block_ret (eo_thenR (eo_loopR (eo_block_ret (eo_thenR (eo_ret [.bool true] rfl ⟨rfl,trivial⟩ ?_))))))))
      exact⟨_,rfl,(show Value.bool true=_ by rw [decide_eq_true (goes_gt hlen hle2 hs hwx hwe (by omega) hv hgt)]),hw3⟩
     · 
      refine cw_keep [(0,.slice A n cap),(1,.slice D m cd),(2,.int .i64 ((s:Nat):Int)),(8,.int .i64 ((j:Nat):Int)),(27,.int .i64 ((j:Nat):Int)),(28,.bool true),(31,.slice A n cap),(32,.int .i64 ((s:Nat):Int)),(33,.int .i64 ((j:Nat):Int)),(34,.int .i64 ((s+j:Nat):Int)),(35,.pointer (some p5)),(36,.int .u64 ((xs.getD (s+j) 0:Nat):Int)),(37,.slice D m cd),(38,.int .i64 ((j:Nat):Int)),(39,.pointer (some p6)),(40,.int .u64 ((es.getD j 0:Nat):Int)),(41,.bool true)] ⟨rfl,rfl,rfl,rfl,rfl,rfl,rfl,rfl,rfl,rfl,rfl,rfl,rfl,rfl,rfl,rfl,rfl,trivial⟩ ?_
      obtain⟨v9,hv,e10⟩:∃v,v=v3.drew∧Ext v3 v:=⟨_,rfl,(Ext.refl _).drew⟩
      have hw3:=hw2.trans e10
      refine cw_det mix (w:=v9) [.slice A n cap,.int .i64 ((s:Nat):Int),.int .i64 ((j:Nat):Int),.int .i64 ((s+j:Nat):Int),.pointer (some p5),.int .u64 ((xs.getD (s+j) 0:Nat):Int),.slice D m cd,.int .i64 ((j:Nat):Int),.pointer (some p6),.int .u64 ((es.getD j 0:Nat):Int),F0,F0] [v9] [] [[],[],[],[1,2],[0,3],[4],[],[],[6,7],[8],[5,9],[10]] [[],[],[],[1,2],[0,1,2,3],[0,1,2,3,4],[],[],[6,7],[6,7,8],[0,1,2,3,4,5,6,7,8,9],[0,1,2,3,4,5,6,7,8,9,10]] [(0,0),(1,0),(2,0),(3,0),(4,0),(5,0),(6,0),(7,0),(8,0),(9,0),(10,0),(11,0)] rfl hv ?_ ?_
      · 
       refine dobs_val _ rfl rfl rfl rfl rfl (rd_move rfl) (dobs_val _ rfl rfl rfl rfl rfl (rd_move rfl) (dobs_val _ rfl rfl rfl rfl rfl (rd_move rfl) (dobs_val _ rfl rfl rfl rfl rfl (rd_ar rfl rfl ((s+j:Nat):Int) (ai_add (a:=s) (b:=j) rfl rfl (by omega))) (dobs_val _ rfl rfl rfl rfl rfl (rd_idx rfl rfl un_u64 sz_u64 (s+j) rfl (by omega) p5 hp5) (dobs_val _ rfl rfl rfl rfl rfl (rd_load rfl (load_cell1 ag_u64 (e10.cell hc5))) (dobs_val _ rfl rfl rfl rfl rfl (rd_move rfl) (dobs_val _ rfl rfl rfl rfl rfl (rd_move rfl) (dobs_val _ rfl rfl rfl rfl rfl (rd_idx rfl rfl un_u64 sz_u64 j rfl (by omega) p6 hp6) (dobs_val _ rfl rfl rfl rfl rfl (rd_load rfl (load_cell1 ag_u64 (e10.cell hc6))) (dobs_val _ rfl rfl rfl rfl rfl (rd_cmp rfl rfl false (cb_gt_f (a:=xs.getD (s+j) 0) (b:=es.getD j 0) rfl rfl (by omega))) (dobs_val _ rfl rfl rfl rfl rfl (rd_assign rfl) ?_)))))))))))
       exact dobs_nil
      clear hv
      refine eo_keep [(0,.slice A n cap),(1,.slice D m cd),(2,.int .i64 ((s:Nat):Int)),(8,.int .i64 ((j:Nat):Int)),(27,.int .i64 ((j:Nat):Int)),(28,.bool true),(31,.slice A n cap),(32,.int .i64 ((s:Nat):Int)),(33,.int .i64 ((j:Nat):Int)),(34,.int .i64 ((s+j:Nat):Int)),(35,.pointer (some p5)),(36,.int .u64 ((xs.getD (s+j) 0:Nat):Int)),(37,.slice D m cd),(38,.int .i64 ((j:Nat):Int)),(39,.pointer (some p6)),(40,.int .u64 ((es.getD j 0:Nat):Int)),(41,.bool true),(42,.slice A n cap),(43,.int .i64 ((s:Nat):Int)),(44,.int .i64 ((j:Nat):Int)),(45,.int .i64 ((s+j:Nat):Int)),(46,.pointer (some p5)),(47,.int .u64 ((xs.getD (s+j) 0:Nat):Int)),(48,.slice D m cd),(49,.int .i64 ((j:Nat):Int)),(50,.pointer (some p6)),(51,.int .u64 ((es.getD j 0:Nat):Int)),(52,.bool false),(6,.bool false)] ⟨rfl,rfl,rfl,rfl,rfl,rfl,rfl,rfl,rfl,rfl,rfl,rfl,rfl,rfl,rfl,rfl,rfl,rfl,rfl,rfl,rfl,rfl,rfl,rfl,rfl,rfl,rfl,rfl,rfl,trivial⟩ (eo_then (cw_ret (eo_block_ret (eo_thenR (eo_loopR (eo_block_ret (eo_thenR (eo_ret [F0] rfl ⟨rfl,trivial⟩ ?_))))))))
      exact⟨_,rfl,(show Value.bool false=_ by rw [decide_eq_false (goes_lt hlen hle2 hs hwx hwe (by omega) hv (by omega))]),hw3⟩
    · 
     refine cw_keep [(0,.slice A n cap),(1,.slice D m cd),(2,.int .i64 ((s:Nat):Int)),(8,.int .i64 ((j:Nat):Int)),(27,.int .i64 ((j:Nat):Int)),(28,.bool true)] ⟨rfl,rfl,rfl,rfl,rfl,rfl,trivial⟩ ?_
     obtain⟨v11,hv,e12⟩:∃v,v=wr.drew∧Ext wr v:=⟨_,rfl,(Ext.refl _).drew⟩
     have hw2:=hw1.trans e12
     obtain⟨p13,hp13,hc13,hv13⟩:=((rl0.ext e12)).at (i:=s+j) (by omega)
     obtain⟨p14,hp14,hc14,hv14⟩:=((rl1.ext e12)).at (i:=j) (by omega)
     refine cw_det mix (w:=v11) [.slice A n cap,.int .i64 ((s:Nat):Int),.int .i64 ((j:Nat):Int),.int .i64 ((s+j:Nat):Int),.pointer (some p13),.int .u64 ((xs.getD (s+j) 0:Nat):Int),.slice D m cd,.int .i64 ((j:Nat):Int),.pointer (some p14),.int .u64 ((es.getD j 0:Nat):Int),F0] [v11] [] [[],[],[],[1,2],[0,3],[4],[],[],[6,7],[8],[5,9]] [[],[],[],[1,2],[0,1,2,3],[0,1,2,3,4],[],[],[6,7],[6,7,8],[0,1,2,3,4,5,6,7,8,9]] [(0,0),(1,0),(2,0),(3,0),(4,0),(5,0),(6,0),(7,0),(8,0),(9,0),(10,0)] rfl hv ?_ ?_
     · 
      refine dobs_val _ rfl rfl rfl rfl rfl (rd_move rfl) (dobs_val _ rfl rfl rfl rfl rfl (rd_move rfl) (dobs_val _ rfl rfl rfl rfl rfl (rd_move rfl) (dobs_val _ rfl rfl rfl rfl rfl (rd_ar rfl rfl ((s+j:Nat):Int) (ai_add (a:=s) (b:=j) rfl rfl (by omega))) (dobs_val _ rfl rfl rfl rfl rfl (rd_idx rfl rfl un_u64 sz_u64 (s+j) rfl (by omega) p13 hp13) (dobs_val _ rfl rfl rfl rfl rfl (rd_load rfl (load_cell1 ag_u64 hc13)) (dobs_val _ rfl rfl rfl rfl rfl (rd_move rfl) (dobs_val _ rfl rfl rfl rfl rfl (rd_move rfl) (dobs_val _ rfl rfl rfl rfl rfl (rd_idx rfl rfl un_u64 sz_u64 j rfl (by omega) p14 hp14) (dobs_val _ rfl rfl rfl rfl rfl (rd_load rfl (load_cell1 ag_u64 hc14)) (dobs_val _ rfl rfl rfl rfl rfl (rd_cmp rfl rfl false (cb_ne_f (a:=xs.getD (s+j) 0) (b:=es.getD j 0) rfl rfl (by omega))) ?_))))))))))
      exact dobs_nil
     clear hv
     refine eo_keep [(0,.slice A n cap),(1,.slice D m cd),(2,.int .i64 ((s:Nat):Int)),(8,.int .i64 ((j:Nat):Int)),(27,.int .i64 ((j:Nat):Int)),(28,.bool true),(31,.slice A n cap),(32,.int .i64 ((s:Nat):Int)),(33,.int .i64 ((j:Nat):Int)),(34,.int .i64 ((s+j:Nat):Int)),(35,.pointer (some p13)),(36,.int .u64 ((xs.getD (s+j) 0:Nat):Int)),(37,.slice D m cd),(38,.int .i64 ((j:Nat):Int)),(39,.pointer (some p14)),(40,.int .u64 ((es.getD j 0:Nat):Int)),(41,.bool false)] ⟨rfl,rfl,rfl,rfl,rfl,rfl,rfl,rfl,rfl,rfl,rfl,rfl,rfl,rfl,rfl,rfl,rfl,trivial⟩ (eo_then (cw_false rfl (cw_skip (eo_block_normal (eo_then (cw_region (mv 1 rfl (wl_ar rfl rfl rfl (((j:Nat):Int)-1) (ar_i64s rfl (by omega) (by omega)) (by decide) (mv 1 rfl (wl_nil (eo_round (⟨v11,j,_⟩:World×Nat×Int) ⟨hw2,(by omega),rfl,goes_step hlen hle2 hs hwx hwe (by omega) hv (by omega),(rl0.ext e12),(rl1.ext e12)⟩ (show j<j+1 by omega) rfl ⟨rfl,rfl,rfl,rfl,trivial⟩)))))))))))
   · 
    obtain rfl:k=0:=by omega
    refine cw_region (mv 1 rfl (wl_cmp rfl rfl rfl false (ge_f (by omega)) (by decide) (ne_ (cw_false rfl (cw_exit (eo_thenX (eo_loopX (eo_block_here (eo_then (sr (mv 1 rfl (ne_ (cw_ret ?_)))))))))))))
    refine eo_ret [.bool true] rfl ⟨rfl,trivial⟩ ?_
    exact⟨_,rfl,(show Value.bool true=_ by rw [decide_eq_true (goes_eq hlen hle2 hs hwx hwe hv)]),hw1⟩
 · 
  have hst:=goes_start hlen hle2 hs hwx hwe hbig (fun h=>absurd h htop)
  refine cw_region (mv 2 rfl (pu (v:= .int .i64 ((n:Nat):Int)) rfl (by kernel_rfl) (wl_cmp rfl rfl rfl false (cb_lt_f (a:=s+m) (b:=n) rfl rfl (by omega)) (by decide) (mv 6 rfl (pu (v:= .bool false) rfl (by kernel_rfl) (ne_ (cw_false rfl (cw_skip (eo_then (cw_seq (sr (mv 1 rfl (pu (v:= .int .i64 ((m:Nat):Int)) rfl (by kernel_rfl) ?_)))))))))))))
  refine wl_ar rfl rfl rfl (((m:Nat):Int)-1) (ar_i64s rfl (by omega) (by omega)) (by decide) (mv 1 rfl (ne_ (cw_block ?_)))
  refine cw_loop (T:=World×Nat×Int)
   (fun⟨wr,k,ii⟩=> [(0,.slice A n cap),(1,.slice D m cd),(2,.int .i64 ((s:Nat):Int)),(8,.int .i64 ii)])
   (fun⟨wr,k,ii⟩=>wr)
   (fun⟨wr,k,ii⟩=>(Ext w wr)∧(k≤m)∧(ii=(k:Int)-1)∧(nb 4294967296 (xs.drop (s+k))=nb 4294967296 (es.drop k))∧(Rd wr A n cap xs)∧(Rd wr D m cd es))
   (fun⟨wr,k,ii⟩=>k)
   (⟨w,m,_⟩:World×Nat×Int) ⟨(Ext.refl w),Nat.le_refl _,rfl,hst,hx,hy⟩ rfl ⟨rfl,rfl,rfl,rfl,trivial⟩ ?_
  rintro⟨wr,k,ii⟩ ⟨hw1,hk,hii,hv,rl0,rl1⟩
  refine cw_re [(0,.slice A n cap),(1,.slice D m cd),(2,.int .i64 ((s:Nat):Int)),(8,.int .i64 ii)] wr rfl ⟨rfl,rfl,rfl,rfl,trivial⟩ (cw_seq (cw_seq ?_))
  by_cases hkp:0<k
  · 
   obtain⟨j,rfl⟩:∃j,k=j+1:=⟨k-1,by omega⟩
   obtain rfl:ii=(j:Int):=by omega
   refine cw_region (mv 1 rfl (wl_cmp rfl rfl rfl true (cb_ge_t (a:=j) (b:=0) rfl rfl (by omega)) (by decide) (ne_ (cw_true rfl (cw_skip (eo_then (cw_seq (cw_block (cw_seq ?_)))))))))
   by_cases hne:xs.getD (s+j) 0≠es.getD j 0
   · 
    refine cw_keep [(0,.slice A n cap),(1,.slice D m cd),(2,.int .i64 ((s:Nat):Int)),(8,.int .i64 ((j:Nat):Int)),(27,.int .i64 ((j:Nat):Int)),(28,.bool true)] ⟨rfl,rfl,rfl,rfl,rfl,rfl,trivial⟩ ?_
    obtain⟨v15,hv,e16⟩:∃v,v=wr.drew∧Ext wr v:=⟨_,rfl,(Ext.refl _).drew⟩
    have hw2:=hw1.trans e16
    obtain⟨p17,hp17,hc17,hv17⟩:=((rl0.ext e16)).at (i:=s+j) (by omega)
    obtain⟨p18,hp18,hc18,hv18⟩:=((rl1.ext e16)).at (i:=j) (by omega)
    refine cw_det mix (w:=v15) [.slice A n cap,.int .i64 ((s:Nat):Int),.int .i64 ((j:Nat):Int),.int .i64 ((s+j:Nat):Int),.pointer (some p17),.int .u64 ((xs.getD (s+j) 0:Nat):Int),.slice D m cd,.int .i64 ((j:Nat):Int),.pointer (some p18),.int .u64 ((es.getD j 0:Nat):Int),.bool true] [v15] [] [[],[],[],[1,2],[0,3],[4],[],[],[6,7],[8],[5,9]] [[],[],[],[1,2],[0,1,2,3],[0,1,2,3,4],[],[],[6,7],[6,7,8],[0,1,2,3,4,5,6,7,8,9]] [(0,0),(1,0),(2,0),(3,0),(4,0),(5,0),(6,0),(7,0),(8,0),(9,0),(10,0)] rfl hv ?_ ?_
    · 
     refine dobs_val _ rfl rfl rfl rfl rfl (rd_move rfl) (dobs_val _ rfl rfl rfl rfl rfl (rd_move rfl) (dobs_val _ rfl rfl rfl rfl rfl (rd_move rfl) (dobs_val _ rfl rfl rfl rfl rfl (rd_ar rfl rfl ((s+j:Nat):Int) (ai_add (a:=s) (b:=j) rfl rfl (by omega))) (dobs_val _ rfl rfl rfl rfl rfl (rd_idx rfl rfl un_u64 sz_u64 (s+j) rfl (by omega) p17 hp17) (dobs_val _ rfl rfl rfl rfl rfl (rd_load rfl (load_cell1 ag_u64 hc17)) (dobs_val _ rfl rfl rfl rfl rfl (rd_move rfl) (dobs_val _ rfl rfl rfl rfl rfl (rd_move rfl) (dobs_val _ rfl rfl rfl rfl rfl (rd_idx rfl rfl un_u64 sz_u64 j rfl (by omega) p18 hp18) (dobs_val _ rfl rfl rfl rfl rfl (rd_load rfl (load_cell1 ag_u64 hc18)) (dobs_val _ rfl rfl rfl rfl rfl (rd_cmp rfl rfl true (cb_ne_t (a:=xs.getD (s+j) 0) (b:=es.getD j 0) rfl rfl (by omega))) ?_))))))))))
     exact dobs_nil
    clear hv
    refine eo_keep [(0,.slice A n cap),(1,.slice D m cd),(2,.int .i64 ((s:Nat):Int)),(8,.int .i64 ((j:Nat):Int)),(27,.int .i64 ((j:Nat):Int)),(28,.bool true),(31,.slice A n cap),(32,.int .i64 ((s:Nat):Int)),(33,.int .i64 ((j:Nat):Int)),(34,.int .i64 ((s+j:Nat):Int)),(35,.pointer (some p17)),(36,.int .u64 ((xs.getD (s+j) 0:Nat):Int)),(37,.slice D m cd),(38,.int .i64 ((j:Nat):Int)),(39,.pointer (some p18)),(40,.int .u64 ((es.getD j 0:Nat):Int)),(41,.bool true)] ⟨rfl,rfl,rfl,rfl,rfl,rfl,rfl,rfl,rfl,rfl,rfl,rfl,rfl,rfl,rfl,rfl,rfl,trivial⟩ (eo_then (cw_true rfl (cw_seq ?_)))
    by_cases hgt:xs.getD (s+j) 0>es.getD j 0
    · 
     refine cw_keep [(0,.slice A n cap),(1,.slice D m cd),(2,.int .i64 ((s:Nat):Int)),(8,.int .i64 ((j:Nat):Int)),(27,.int .i64 ((j:Nat):Int)),(28,.bool true),(31,.slice A n cap),(32,.int .i64 ((s:Nat):Int)),(33,.int .i64 ((j:Nat):Int)),(34,.int .i64 ((s+j:Nat):Int)),(35,.pointer (some p17)),(36,.int .u64 ((xs.getD (s+j) 0:Nat):Int)),(37,.slice D m cd),(38,.int .i64 ((j:Nat):Int)),(39,.pointer (some p18)),(40,.int .u64 ((es.getD j 0:Nat):Int)),(41,.bool true)] ⟨rfl,rfl,rfl,rfl,rfl,rfl,rfl,rfl,rfl,rfl,rfl,rfl,rfl,rfl,rfl,rfl,rfl,trivial⟩ ?_
     obtain⟨v19,hv,e20⟩:∃v,v=v15.drew∧Ext v15 v:=⟨_,rfl,(Ext.refl _).drew⟩
     have hw3:=hw2.trans e20
     refine cw_det mix (w:=v19) [.slice A n cap,.int .i64 ((s:Nat):Int),.int .i64 ((j:Nat):Int),.int .i64 ((s+j:Nat):Int),.pointer (some p17),.int .u64 ((xs.getD (s+j) 0:Nat):Int),.slice D m cd,.int .i64 ((j:Nat):Int),.pointer (some p18),.int .u64 ((es.getD j 0:Nat):Int),.bool true,.bool true] [v19] [] [[],[],[],[1,2],[0,3],[4],[],[],[6,7],[8],[5,9],[10]] [[],[],[],[1,2],[0,1,2,3],[0,1,2,3,4],[],[],[6,7],[6,7,8],[0,1,2,3,4,5,6,7,8,9],[0,1,2,3,4,5,6,7,8,9,10]] [(0,0),(1,0),(2,0),(3,0),(4,0),(5,0),(6,0),(7,0),(8,0),(9,0),(10,0),(11,0)] rfl hv ?_ ?_
     · 
      refine dobs_val _ rfl rfl rfl rfl rfl (rd_move rfl) (dobs_val _ rfl rfl rfl rfl rfl (rd_move rfl) (dobs_val _ rfl rfl rfl rfl rfl (rd_move rfl) (dobs_val _ rfl rfl rfl rfl rfl (rd_ar rfl rfl ((s+j:Nat):Int) (ai_add (a:=s) (b:=j) rfl rfl (by omega))) (dobs_val _ rfl rfl rfl rfl rfl (rd_idx rfl rfl un_u64 sz_u64 (s+j) rfl (by omega) p17 hp17) (dobs_val _ rfl rfl rfl rfl rfl (rd_load rfl (load_cell1 ag_u64 (e20.cell hc17))) (dobs_val _ rfl rfl rfl rfl rfl (rd_move rfl) (dobs_val _ rfl rfl rfl rfl rfl (rd_move rfl) (dobs_val _ rfl rfl rfl rfl rfl (rd_idx rfl rfl un_u64 sz_u64 j rfl (by omega) p18 hp18) (dobs_val _ rfl rfl rfl rfl rfl (rd_load rfl (load_cell1 ag_u64 (e20.cell hc18))) (dobs_val _ rfl rfl rfl rfl rfl (rd_cmp rfl rfl true (cb_gt_t (a:=xs.getD (s+j) 0) (b:=es.getD j 0) rfl rfl (by omega))) (dobs_val _ rfl rfl rfl rfl rfl (rd_assign rfl) ?_)))))))))))
      exact dobs_nil
     clear hv
     refine eo_keep [(0,.slice A n cap),(1,.slice D m cd),(2,.int .i64 ((s:Nat):Int)),(8,.int .i64 ((j:Nat):Int)),(27,.int .i64 ((j:Nat):Int)),(28,.bool true),(31,.slice A n cap),(32,.int .i64 ((s:Nat):Int)),(33,.int .i64 ((j:Nat):Int)),(34,.int .i64 ((s+j:Nat):Int)),(35,.pointer (some p17)),(36,.int .u64 ((xs.getD (s+j) 0:Nat):Int)),(37,.slice D m cd),(38,.int .i64 ((j:Nat):Int)),(39,.pointer (some p18)),(40,.int .u64 ((es.getD j 0:Nat):Int)),(41,.bool true),(42,.slice A n cap),(43,.int .i64 ((s:Nat):Int)),(44,.int .i64 ((j:Nat):Int)),(45,.int .i64 ((s+j:Nat):Int)),(46,.pointer (some p17)),(47,.int .u64 ((xs.getD (s+j) 0:Nat):Int)),(48,.slice D m cd),(49,.int .i64 ((j:Nat):Int)),(50,.pointer (some p18)),(51,.int .u64 ((es.getD j 0:Nat):Int)),(52,.bool true),(6,.bool true)] ⟨rfl,rfl,rfl,rfl,rfl,rfl,rfl,rfl,rfl,rfl,rfl,rfl,rfl,rfl,rfl,rfl,rfl,rfl,rfl,rfl,rfl,rfl,rfl,rfl,rfl,rfl,rfl,rfl,rfl,trivial⟩ (eo_then (cw_ret (eo_block_ret (eo_thenR (eo_loopR (eo_block_ret (eo_thenR (eo_ret [.bool true] rfl ⟨rfl,trivial⟩ ?_))))))))
     exact⟨_,rfl,(show Value.bool true=_ by rw [decide_eq_true (goes_gt hlen hle2 hs hwx hwe (by omega) hv hgt)]),hw3⟩
    · 
     refine cw_keep [(0,.slice A n cap),(1,.slice D m cd),(2,.int .i64 ((s:Nat):Int)),(8,.int .i64 ((j:Nat):Int)),(27,.int .i64 ((j:Nat):Int)),(28,.bool true),(31,.slice A n cap),(32,.int .i64 ((s:Nat):Int)),(33,.int .i64 ((j:Nat):Int)),(34,.int .i64 ((s+j:Nat):Int)),(35,.pointer (some p17)),(36,.int .u64 ((xs.getD (s+j) 0:Nat):Int)),(37,.slice D m cd),(38,.int .i64 ((j:Nat):Int)),(39,.pointer (some p18)),(40,.int .u64 ((es.getD j 0:Nat):Int)),(41,.bool true)] ⟨rfl,rfl,rfl,rfl,rfl,rfl,rfl,rfl,rfl,rfl,rfl,rfl,rfl,rfl,rfl,rfl,rfl,trivial⟩ ?_
     obtain⟨v21,hv,e22⟩:∃v,v=v15.drew∧Ext v15 v:=⟨_,rfl,(Ext.refl _).drew⟩
     have hw3:=hw2.trans e22
     refine cw_det mix (w:=v21) [.slice A n cap,.int .i64 ((s:Nat):Int),.int .i64 ((j:Nat):Int),.int .i64 ((s+j:Nat):Int),.pointer (some p17),.int .u64 ((xs.getD (s+j) 0:Nat):Int),.slice D m cd,.int .i64 ((j:Nat):Int),.pointer (some p18),.int .u64 ((es.getD j 0:Nat):Int),F0,F0] [v21] [] [[],[],[],[1,2],[0,3],[4],[],[],[6,7],[8],[5,9],[10]] [[],[],[],[1,2],[0,1,2,3],[0,1,2,3,4],[],[],[6,7],[6,7,8],[0,1,2,3,4,5,6,7,8,9],[0,1,2,3,4,5,6,7,8,9,10]] [(0,0),(1,0),(2,0),(3,0),(4,0),(5,0),(6,0),(7,0),(8,0),(9,0),(10,0),(11,0)] rfl hv ?_ ?_
     · 
      refine dobs_val _ rfl rfl rfl rfl rfl (rd_move rfl) (dobs_val _ rfl rfl rfl rfl rfl (rd_move rfl) (dobs_val _ rfl rfl rfl rfl rfl (rd_move rfl) (dobs_val _ rfl rfl rfl rfl rfl (rd_ar rfl rfl ((s+j:Nat):Int) (ai_add (a:=s) (b:=j) rfl rfl (by omega))) (dobs_val _ rfl rfl rfl rfl rfl (rd_idx rfl rfl un_u64 sz_u64 (s+j) rfl (by omega) p17 hp17) (dobs_val _ rfl rfl rfl rfl rfl (rd_load rfl (load_cell1 ag_u64 (e22.cell hc17))) (dobs_val _ rfl rfl rfl rfl rfl (rd_move rfl) (dobs_val _ rfl rfl rfl rfl rfl (rd_move rfl) (dobs_val _ rfl rfl rfl rfl rfl (rd_idx rfl rfl un_u64 sz_u64 j rfl (by omega) p18 hp18) (dobs_val _ rfl rfl rfl rfl rfl (rd_load rfl (load_cell1 ag_u64 (e22.cell hc18))) (dobs_val _ rfl rfl rfl rfl rfl (rd_cmp rfl rfl false (cb_gt_f (a:=xs.getD (s+j) 0) (b:=es.getD j 0) rfl rfl (by omega))) (dobs_val _ rfl rfl rfl rfl rfl (rd_assign rfl) ?_)))))))))))
      exact dobs_nil
     clear hv
     refine eo_keep [(0,.slice A n cap),(1,.slice D m cd),(2,.int .i64 ((s:Nat):Int)),(8,.int .i64 ((j:Nat):Int)),(27,.int .i64 ((j:Nat):Int)),(28,.bool true),(31,.slice A n cap),(32,.int .i64 ((s:Nat):Int)),(33,.int .i64 ((j:Nat):Int)),(34,.int .i64 ((s+j:Nat):Int)),(35,.pointer (some p17)),(36,.int .u64 ((xs.getD (s+j) 0:Nat):Int)),(37,.slice D m cd),(38,.int .i64 ((j:Nat):Int)),(39,.pointer (some p18)),(40,.int .u64 ((es.getD j 0:Nat):Int)),(41,.bool true),(42,.slice A n cap),(43,.int .i64 ((s:Nat):Int)),(44,.int .i64 ((j:Nat):Int)),(45,.int .i64 ((s+j:Nat):Int)),(46,.pointer (some p17)),(47,.int .u64 ((xs.getD (s+j) 0:Nat):Int)),(48,.slice D m cd),(49,.int .i64 ((j:Nat):Int)),(50,.pointer (some p18)),(51,.int .u64 ((es.getD j 0:Nat):Int)),(52,.bool false),(6,.bool false)] ⟨rfl,rfl,rfl,rfl,rfl,rfl,rfl,rfl,rfl,rfl,rfl,rfl,rfl,rfl,rfl,rfl,rfl,rfl,rfl,rfl,rfl,rfl,rfl,rfl,rfl,rfl,rfl,rfl,rfl,trivial⟩ (eo_then (cw_ret (eo_block_ret (eo_thenR (eo_loopR (eo_block_ret (eo_thenR (eo_ret [F0] rfl ⟨rfl,trivial⟩ ?_))))))))
     exact⟨_,rfl,(show Value.bool false=_ by rw [decide_eq_false (goes_lt hlen hle2 hs hwx hwe (by omega) hv (by omega))]),hw3⟩
   · 
    refine cw_keep [(0,.slice A n cap),(1,.slice D m cd),(2,.int .i64 ((s:Nat):Int)),(8,.int .i64 ((j:Nat):Int)),(27,.int .i64 ((j:Nat):Int)),(28,.bool true)] ⟨rfl,rfl,rfl,rfl,rfl,rfl,trivial⟩ ?_
    obtain⟨v23,hv,e24⟩:∃v,v=wr.drew∧Ext wr v:=⟨_,rfl,(Ext.refl _).drew⟩
    have hw2:=hw1.trans e24
    obtain⟨p25,hp25,hc25,hv25⟩:=((rl0.ext e24)).at (i:=s+j) (by omega)
    obtain⟨p26,hp26,hc26,hv26⟩:=((rl1.ext e24)).at (i:=j) (by omega)
    refine cw_det mix (w:=v23) [.slice A n cap,.int .i64 ((s:Nat):Int),.int .i64 ((j:Nat):Int),.int .i64 ((s+j:Nat):Int),.pointer (some p25),.int .u64 ((xs.getD (s+j) 0:Nat):Int),.slice D m cd,.int .i64 ((j:Nat):Int),.pointer (some p26),.int .u64 ((es.getD j 0:Nat):Int),F0] [v23] [] [[],[],[],[1,2],[0,3],[4],[],[],[6,7],[8],[5,9]] [[],[],[],[1,2],[0,1,2,3],[0,1,2,3,4],[],[],[6,7],[6,7,8],[0,1,2,3,4,5,6,7,8,9]] [(0,0),(1,0),(2,0),(3,0),(4,0),(5,0),(6,0),(7,0),(8,0),(9,0),(10,0)] rfl hv ?_ ?_
    · 
     refine dobs_val _ rfl rfl rfl rfl rfl (rd_move rfl) (dobs_val _ rfl rfl rfl rfl rfl (rd_move rfl) (dobs_val _ rfl rfl rfl rfl rfl (rd_move rfl) (dobs_val _ rfl rfl rfl rfl rfl (rd_ar rfl rfl ((s+j:Nat):Int) (ai_add (a:=s) (b:=j) rfl rfl (by omega))) (dobs_val _ rfl rfl rfl rfl rfl (rd_idx rfl rfl un_u64 sz_u64 (s+j) rfl (by omega) p25 hp25) (dobs_val _ rfl rfl rfl rfl rfl (rd_load rfl (load_cell1 ag_u64 hc25)) (dobs_val _ rfl rfl rfl rfl rfl (rd_move rfl) (dobs_val _ rfl rfl rfl rfl rfl (rd_move rfl) (dobs_val _ rfl rfl rfl rfl rfl (rd_idx rfl rfl un_u64 sz_u64 j rfl (by omega) p26 hp26) (dobs_val _ rfl rfl rfl rfl rfl (rd_load rfl (load_cell1 ag_u64 hc26)) (dobs_val _ rfl rfl rfl rfl rfl (rd_cmp rfl rfl false (cb_ne_f (a:=xs.getD (s+j) 0) (b:=es.getD j 0) rfl rfl (by omega))) ?_))))))))))
     exact dobs_nil
    clear hv
    refine eo_keep [(0,.slice A n cap),(1,.slice D m cd),(2,.int .i64 ((s:Nat):Int)),(8,.int .i64 ((j:Nat):Int)),(27,.int .i64 ((j:Nat):Int)),(28,.bool true),(31,.slice A n cap),(32,.int .i64 ((s:Nat):Int)),(33,.int .i64 ((j:Nat):Int)),(34,.int .i64 ((s+j:Nat):Int)),(35,.pointer (some p25)),(36,.int .u64 ((xs.getD (s+j) 0:Nat):Int)),(37,.slice D m cd),(38,.int .i64 ((j:Nat):Int)),(39,.pointer (some p26)),(40,.int .u64 ((es.getD j 0:Nat):Int)),(41,.bool false)] ⟨rfl,rfl,rfl,rfl,rfl,rfl,rfl,rfl,rfl,rfl,rfl,rfl,rfl,rfl,rfl,rfl,rfl,trivial⟩ (eo_then (cw_false rfl (cw_skip (eo_block_normal (eo_then (cw_region (mv 1 rfl (wl_ar rfl rfl rfl (((j:Nat):Int)-1) (ar_i64s rfl (by omega) (by omega)) (by decide) (mv 1 rfl (wl_nil (eo_round (⟨v23,j,_⟩:World×Nat×Int) ⟨hw2,(by omega),rfl,goes_step hlen hle2 hs hwx hwe (by omega) hv (by omega),(rl0.ext e24),(rl1.ext e24)⟩ (show j<j+1 by omega) rfl ⟨rfl,rfl,rfl,rfl,trivial⟩)))))))))))
  · 
   obtain rfl:k=0:=by omega
   refine cw_region (mv 1 rfl (wl_cmp rfl rfl rfl false (ge_f (by omega)) (by decide) (ne_ (cw_false rfl (cw_exit (eo_thenX (eo_loopX (eo_block_here (eo_then (sr (mv 1 rfl (ne_ (cw_ret ?_)))))))))))))
   refine eo_ret [.bool true] rfl ⟨rfl,trivial⟩ ?_
   exact⟨_,rfl,(show Value.bool true=_ by rw [decide_eq_true (goes_eq hlen hle2 hs hwx hwe hv)]),hw1⟩
theorem nb_digit_le {b:Nat}{l:List Nat}{i:Nat}(hi:i<l.length):l.getD i 0*b^i≤nb b l:=by
 rw [nb_split b l i (by omega),drop_getD3 hi,Nat.mul_add,Nat.mul_comm (l.getD i 0)]
 omega
theorem divmod_of3 {x y q r:Nat}(h:q*y+r=x) (hr:r<y):q=x/y∧r=x%y:=by
 subst h
 rw [Nat.mul_comm]
 constructor
 ·rw [Nat.mul_add_div (by omega),Nat.div_eq_of_lt hr];rfl
 ·rw [Nat.mul_add_mod,Nat.mod_eq_of_lt hr]
theorem nb_ge_of_top {b m:Nat}{es:List Nat}(hb:0<b) (hm:0<m) (hl:es.length=m) (ht:es.getD (m-1) 0≠0):b^(m-1)≤nb b es:=by
 refine Nat.le_trans ?_ (nb_digit_le (b:=b) (l:=es) (i:=m-1) (by omega))
 exact Nat.le_mul_of_pos_left _ (by omega)
theorem nb_pos_of_top {b m:Nat}{es:List Nat}(hb:0<b) (hm:0<m) (hl:es.length=m) (ht:es.getD (m-1) 0≠0):0<nb b es:=Nat.lt_of_lt_of_le (Nat.pow_pos hb) (nb_ge_of_top hb hm hl ht)
theorem small_of_top {n m:Nat}{xs es:List Nat}(hw:Wfb 4294967296 xs) (hn:xs.length=n) (hl:es.length=m) (h:n<m) (ht:es.getD (m-1) 0≠0):nb 4294967296 xs<nb 4294967296 es:=by
 have h1:=nb_lt hw
 rw [hn] at h1
 have h2:=nb_ge_of_top (b:=4294967296) (by decide) (by omega) hl ht
 have h3:4294967296^n≤4294967296^(m-1):=Nat.pow_le_pow_right (by decide) (by omega)
 omega
theorem ref3_goes' {w:World}{A D:Option Addr}{n cap m cd s:Nat}{xs es:List Nat}{b:Bool}(hx:Rd w A n cap xs) (hln:n≤1099511627776) (hy:Rd w D m cd es) (hwx:Wfb 4294967296 xs) (hwe:Wfb 4294967296 es) (hs:s+m≤n) (hbig:nb 4294967296 xs<4294967296^(s+m+1)) (hb:decide (nb 4294967296 es*4294967296^s≤nb 4294967296 xs)=b):
  Calls Try.prog 112 #[.slice A n cap,.slice D m cd,.int .i64 (s:Int)] w (Gv w (Is (.bool b))):=hb▸ref3_goes hx hln hy hwx hwe hs hbig
theorem nb_digit2_le {b:Nat}{l:List Nat}{i i':Nat}(h:i+1=i') (hi:i'<l.length):(l.getD i 0+l.getD i' 0*b)*b^i≤nb b l:=by
 subst h
 rw [nb_split b l i (by omega),drop_getD3 (k:=i) (by omega),drop_getD3 (k:=i+1) hi,Nat.mul_comm,Nat.mul_comm (l.getD (i+1) 0)]
 refine Nat.le_trans (Nat.mul_le_mul_left _ ?_) (Nat.le_add_left _ _)
 rw [Nat.mul_add]
 omega
theorem dv_head {l:List Nat}{k:Nat}(hw:Wfb 4294967296 l) (hk:k≤l.length) (h0:0<k) (hv:nb 4294967296 (l.take k)=nb 4294967296 l):nb 4294967296 l<(l.getD (k-1) 0+1)*4294967296^(k-1):=by
 obtain⟨j,rfl⟩:∃j,k=j+1:=⟨k-1,by omega⟩
 rw [←hv,nb_take_snoc 4294967296 l j (by omega),Nat.add_sub_cancel,Nat.add_mul,Nat.one_mul,Nat.mul_comm (l.getD j 0)]
 have:=nb_take_lt (by decide) hw j
 omega
theorem dv_fit {D hd k t j R:Nat}(hD:D<hd*4294967296^(k-1)) (hk:0<k) (ht:t*4294967296^(j+k-1)≤R):t/hd*D*4294967296^j≤R:=by
 have h1:t/hd*D≤t/hd*(hd*4294967296^(k-1)):=Nat.mul_le_mul_left _ (Nat.le_of_lt hD)
 have h2:t/hd*(hd*4294967296^(k-1))≤t*4294967296^(k-1):=by
  rw [←Nat.mul_assoc]
  exact Nat.mul_le_mul_right _ (Nat.div_mul_le_self t hd)
 have h3:=Nat.mul_le_mul_right (4294967296^j) (Nat.le_trans h1 h2)
 rw [Nat.mul_assoc t,←Nat.pow_add,show k-1+j=j+k-1 by omega] at h3
 exact Nat.le_trans h3 ht
theorem dv_lt {n D j R:Nat}(h:n*D*4294967296^j≤R) (hR:R<D*4294967296^(j+1)):n<4294967296:=by
 refine Nat.lt_of_not_le fun hn=>?_
 have h1:4294967296*D*4294967296^j≤n*D*4294967296^j:=Nat.mul_le_mul_right _ (Nat.mul_le_mul_right _ hn)
 have h2:4294967296*D*4294967296^j=D*4294967296^(j+1):=by rw [Nat.pow_succ];grind
 omega
structure DO (Z D k:Nat) (lq lr:List Nat):Prop where
 wq:Wfb 4294967296 lq
 wr:Wfb 4294967296 lr
 v:nb 4294967296 lq*D+nb 4294967296 lr=Z
 lt:nb 4294967296 lr<D*4294967296^k
 z:∀i,i<k→lq.getD i 0=0
structure DI (Z D j:Nat) (lq lr:List Nat):Prop where
 wq:Wfb 4294967296 lq
 wr:Wfb 4294967296 lr
 v:nb 4294967296 lq*D+nb 4294967296 lr=Z
 lt:lq.getD j 0*(D*4294967296^j)+nb 4294967296 lr<D*4294967296^(j+1)
 z:∀i,i<j→lq.getD i 0=0
theorem getD_zeros (k i:Nat):(List.replicate k 0).getD i 0=0:=by
 rw [List.getD_eq_getElem?_getD]
 by_cases h:i<k
 ·rw [List.getElem?_replicate_of_lt h];rfl
 ·rw [List.getElem?_eq_none (by rw [List.length_replicate];omega)];rfl
theorem DO.start {X Y f n m:Nat}{lr ld:List Nat}(hw:Wfb 4294967296 lr) (hr:nb 4294967296 lr=X*f) (hd:nb 4294967296 ld=Y*f) (hf:1≤f) (hX:X<4294967296^n) (hY:4294967296^(m-1)≤Y) (hm:0<m) (hmn:m≤n):
  DO (X*f) (nb 4294967296 ld) (n-m+1) (List.replicate (n-m+1) 0) lr:=by
 refine⟨Wfb_zeros (by decide) _,hw,by rw [nb_zeros,hr];omega,?_,fun i _=>getD_zeros _ i⟩
 rw [hr,hd]
 have h1:4294967296^n=4294967296^(m-1)*4294967296^(n-m+1):=by rw [←Nat.pow_add];congr 1;omega
 have h2:4294967296^(m-1)*4294967296^(n-m+1)≤Y*4294967296^(n-m+1):=Nat.mul_le_mul_right _ hY
 rw [Nat.mul_right_comm]
 exact Nat.mul_lt_mul_of_pos_right (by omega) hf
theorem DO.enter {Z D j:Nat}{lq lr:List Nat}(h:DO Z D (j+1) lq lr):DI Z D j lq lr:=⟨h.wq,h.wr,h.v,by rw [h.z j (by omega),Nat.zero_mul,Nat.zero_add];exact h.lt,fun i hi=>h.z i (by omega)⟩
theorem DI.leave {Z D j:Nat}{lq lr:List Nat}(h:DI Z D j lq lr) (hn:¬D*4294967296^j≤nb 4294967296 lr):DO Z D j lq lr:=⟨h.wq,h.wr,h.v,by omega,h.z⟩
theorem DI.sum {Z D j n:Nat}{lq lr l':List Nat}(h:DI Z D j lq lr) (hv:nb 4294967296 l'+n*D*4294967296^j=nb 4294967296 lr):(lq.getD j 0+n)*(D*4294967296^j)+nb 4294967296 l'<D*4294967296^(j+1):=by
 have h1:=h.lt
 rw [Nat.add_mul,←Nat.mul_assoc n]
 omega
theorem DI.digit {Z D j n:Nat}{lq lr l':List Nat}(h:DI Z D j lq lr) (hv:nb 4294967296 l'+n*D*4294967296^j=nb 4294967296 lr):lq.getD j 0+n<4294967296:=by
 have h1:=h.sum hv
 refine dv_lt (R:=(lq.getD j 0+n)*D*4294967296^j) (Nat.le_refl _) ?_
 rw [Nat.mul_assoc];omega
theorem DI.step {Z D j n:Nat}{lq lr l':List Nat}(h:DI Z D j lq lr) (hj:j<lq.length) (hw:Wfb 4294967296 l') (hv:nb 4294967296 l'+n*D*4294967296^j=nb 4294967296 lr):DI Z D j (lq.set j (lq.getD j 0+n)) l':=by
 refine⟨Wfb_set h.wq _ (h.digit hv),hw,?_,?_,fun i hi=>by rw [getD_set_ne (by omega),h.z i hi]⟩
 ·have h1:=nb_set 4294967296 hj (lq.getD j 0+n)
  rw [Nat.mul_add] at h1
  have h2:nb 4294967296 (lq.set j (lq.getD j 0+n))=nb 4294967296 lq+4294967296^j*n:=by omega
  have h3:=h.v
  have h4:4294967296^j*n*D=n*D*4294967296^j:=by grind
  rw [h2,Nat.add_mul,h4]
  omega
 ·rw [getD_set_eq hj];exact h.sum hv
theorem dv_less {D j n:Nat}{lr l':List Nat}(hn:1≤n) (hD:0<D) (hv:nb 4294967296 l'+n*D*4294967296^j=nb 4294967296 lr):nb 4294967296 l'<nb 4294967296 lr:=by
 have:0<n*D*4294967296^j:=Nat.mul_pos (Nat.mul_pos hn hD) (Nat.pow_pos (by decide))
 omega
theorem dv_big {Z D j k:Nat}{lq lr ld:List Nat}(h:DI Z D j lq lr) (hd:nb 4294967296 ld=D) (hw:Wfb 4294967296 ld) (hv:nb 4294967296 (ld.take k)=nb 4294967296 ld):nb 4294967296 lr<4294967296^(j+k+1):=by
 have h1:=nb_take_lt (by decide) hw k
 rw [hv,hd] at h1
 have h2:=h.lt
 have h3:D*4294967296^(j+1)≤4294967296^k*4294967296^(j+1):=Nat.mul_le_mul_right _ (Nat.le_of_lt h1)
 rw [←Nat.pow_add,show k+(j+1)=j+k+1 by omega] at h3
 omega
structure DF (f:Nat) (l0:List Nat) (k rest:Nat) (l:List Nat):Prop where
 len:l.length=l0.length
 wf:Wfb 4294967296 l
 rf:rest<f
 v:nb 4294967296 (l0.drop k)=nb 4294967296 (l.drop k)*f+rest
 same:∀i,i<k→l.getD i 0=l0.getD i 0
theorem DF.start {f n:Nat}{l0:List Nat}(hw:Wfb 4294967296 l0) (hf:1≤f) (hl:l0.length=n):DF f l0 n 0 l0:=⟨rfl,hw,hf,by rw [List.drop_of_length_le (by omega),nb_nil,Nat.zero_mul],fun _ _=>rfl⟩
theorem DF.step {f j rest:Nat}{l0 l:List Nat}(h:DF f l0 (j+1) rest l) (hj:j<l0.length) (hd:(rest*4294967296+l.getD j 0)/f<4294967296) (hf:1≤f):DF f l0 j ((rest*4294967296+l.getD j 0)%f) (l.set j ((rest*4294967296+l.getD j 0)/f)):=by
 refine⟨by rw [List.length_set,h.len],Wfb_set h.wf _ hd,Nat.mod_lt _ hf,?_,fun i hi=>by rw [getD_set_ne (by omega),h.same i (by omega)]⟩
 rw [drop_getD3 hj,drop_getD3 (xs:=l.set j _) (k:=j) (by rw [List.length_set,h.len];exact hj),getD_set_eq (by rw [h.len];exact hj),h.v,←h.same j (by omega),List.drop_set_of_lt (by omega)]
 have e:=Nat.div_add_mod (rest*4294967296+l.getD j 0) f
 generalize (rest*4294967296+l.getD j 0)/f=Q at*
 generalize (rest*4294967296+l.getD j 0)%f=R at*
 have e2:(Q+4294967296*nb 4294967296 (List.drop (j+1) l))*f=f*Q+4294967296*(nb 4294967296 (List.drop (j+1) l)*f):=by grind
 rw [e2]
 omega
theorem DF.digit {f j rest:Nat}{l0 l:List Nat}(h:DF f l0 (j+1) rest l):(rest*4294967296+l.getD j 0)/f<4294967296:=by
 have h1:=Wfb_getD (b:=4294967296) (by decide) h.wf j
 have h2:=h.rf
 rw [Nat.div_lt_iff_lt_mul (by omega)]
 have h3:(rest+1)*4294967296≤f*4294967296:=Nat.mul_le_mul_right _ h2
 rw [Nat.mul_comm 4294967296 f]
 omega
theorem dv_done {X Y f rest:Nat}{lq lr ld l:List Nat}(h:DO (X*f) (nb 4294967296 ld) 0 lq lr) (hd:nb 4294967296 ld=Y*f) (hF:DF f lr 0 rest l):nb 4294967296 lq=X/Y∧nb 4294967296 l=X%Y:=by
 have h1:=h.v
 have h2:=h.lt
 have h3:=hF.v
 have h4:=hF.rf
 rw [List.drop_zero,List.drop_zero] at h3
 rw [hd,Nat.pow_zero,Nat.mul_one] at h2
 rw [hd] at h1
 have e:(nb 4294967296 lq*Y+nb 4294967296 l)*f+rest=X*f:=by rw [Nat.add_mul,Nat.mul_assoc];omega
 have h0:rest=0:=by
  have:=congrArg (· %f) e
  simp only [Nat.mul_mod_left,Nat.add_comm _ rest,Nat.add_mul_mod_self_right] at this
  rwa [Nat.mod_eq_of_lt h4] at this
 rw [h0,Nat.add_zero] at e h3
 have e2:=Nat.eq_of_mul_eq_mul_right (by omega:0<f) e
 have h5:nb 4294967296 l<Y:=by
  rw [h3] at h2
  exact Nat.lt_of_mul_lt_mul_right h2
 have:=divmod_of3 (x:=X) (y:=Y) e2 h5
 exact this
set_option maxHeartbeats 4000000 in
theorem ref3_divide {w:World}{A D:Option Addr}{n cap m cd:Nat}{xs es:List Nat}(hx:Rd w A n cap xs) (hln:n≤274877906944) (hy:Rd w D m cd es) (hlm:m≤274877906944) (hwx:Wfb 4294967296 xs) (hwe:Wfb 4294967296 es) (hxt:n=0∨xs.getD (n-1) 0≠0) (hm0:0<m) (htop:es.getD (m-1) 0≠0):
  Calls Try.prog 87 #[.slice A n cap,.slice D m cd] w (Gv w (T2 (WD (nb 4294967296 xs/nb 4294967296 es)) (WD (nb 4294967296 xs%nb 4294967296 es)))):=by
 have hlen:=hx.len
 have hle:=hx.rv.le
 have hlem:=hy.len
 have hle2:=hy.rv.le
 refine sx_enter Try.func87 rfl (n:=143) rfl (bq rfl) (args:= [.slice A n cap,.slice D m cd]) (cw_keep [(0,.slice A n cap),(1,.slice D m cd)] ⟨rfl,rfl,trivial⟩ (sr (mv 2 rfl (ne_ (cw_seq (cw_seq ?_))))))
 by_cases hnm:n<m
 ·
  refine cw_region (mv 1 rfl (pu (v:= .int .i64 ((n:Nat):Int)) rfl (by kernel_rfl) (mv 1 rfl (pu (v:= .int .i64 ((m:Nat):Int)) rfl (by kernel_rfl) (wl_cmp rfl rfl rfl true (cb_lt_t (a:=n) (b:=m) rfl rfl (by omega)) (by decide) (ne_ (cw_true rfl (sr (mv 3 rfl (ne_ (cw_ret (eo_thenR (eo_ret [S0,.slice A n cap] rfl ⟨rfl,rfl,trivial⟩ ?_)))))))))))))
  have hlt:=small_of_top hwx hlen hlem hnm htop
  refine⟨_,rfl,⟨_,_,rfl,⟨_,_,_,rfl,?_⟩,⟨_,_,_,rfl,?_⟩⟩,(Ext.refl w)⟩
  ·rw [Nat.div_eq_of_lt hlt];exact Rd.nil _
  ·rw [Nat.mod_eq_of_lt hlt,db_of_top' b32 hwx (by rw [hlen];exact hxt)];exact hx
 ·
  refine cw_region (mv 1 rfl (pu (v:= .int .i64 ((n:Nat):Int)) rfl (by kernel_rfl) (mv 1 rfl (pu (v:= .int .i64 ((m:Nat):Int)) rfl (by kernel_rfl) (wl_cmp rfl rfl rfl false (cb_lt_f (a:=n) (b:=m) rfl rfl (by omega)) (by decide) (ne_ (cw_false rfl (cw_skip (eo_then (cw_seq ?_))))))))))
  have htb:=Wfb_getD (b:=4294967296) (by decide) hwe (m-1)
  refine cw_region (mv 1 rfl (ne_ (cw_seq (cw_block ?_))))
  refine cw_loop (T:=World×Nat)
   (fun⟨wr,f⟩=> [(0,.slice A n cap),(1,.slice D m cd),(6,.int .u64 ((f:Nat):Int))])
   (fun⟨wr,f⟩=>wr)
   (fun⟨wr,f⟩=>(Ext w wr)∧(1≤f)∧(f≤4294967295)∧(Rd wr A n cap xs)∧(Rd wr D m cd es))
   (fun⟨wr,f⟩=>4294967296-f)
   (⟨w,1⟩:World×Nat) ⟨(Ext.refl w),(by decide),(by decide),hx,hy⟩ rfl ⟨rfl,rfl,rfl,trivial⟩ ?_
  rintro⟨wr,f⟩ ⟨hw1,hf1,hf2,rl0,rl1⟩
  refine cw_re [(0,.slice A n cap),(1,.slice D m cd),(6,.int .u64 ((f:Nat):Int))] wr rfl ⟨rfl,rfl,rfl,trivial⟩ (cw_seq (cw_seq ?_))
  have hm:(es.getD (m-1) 0)*f≤4294967295*4294967295:=Nat.mul_le_mul (by omega) (by omega)
  by_cases hmul:(es.getD (m-1) 0)*f<2147483648
  ·
   have hm2:1*f≤(es.getD (m-1) 0)*f:=Nat.mul_le_mul_right _ (by omega)
   refine cw_region (mv 2 rfl (pu (v:= .int .i64 ((m:Nat):Int)) rfl (by kernel_rfl) (wl_ar rfl rfl rfl ((m-1:Nat):Int) (ai_sub (a:=m) (b:=1) rfl rfl (by omega) (by omega)) (by decide) ?_)))
   obtain⟨p1,hp1,hc1,hv1⟩:=(rl1).at (i:=m-1) (by omega)
   refine wl_idx rfl rfl rfl un_u64 sz_u64 (m-1) rfl (by omega) p1 hp1 (by decide) (wl_load rfl rfl (load_cell1 ag_u64 hc1) (by decide) (mv 1 rfl (wl_ar rfl rfl rfl (((es.getD (m-1) 0)*f:Nat):Int) (au_mul (a:=es.getD (m-1) 0) (b:=f) rfl rfl (by omega)) (by decide) (wl_cmp rfl rfl rfl true (cb_lt_t (a:=(es.getD (m-1) 0)*f) (b:=2147483648) rfl rfl (by omega)) (by decide) (ne_ (cw_true rfl (cw_skip (eo_then (cw_block (cw_region (mv 1 rfl (wl_ar rfl rfl rfl ((2*f:Nat):Int) (au_mul (a:=2) (b:=f) rfl rfl (by omega)) (by decide) (mv 1 rfl ?_)))))))))))))
   refine wl_nil (eo_block_normal (eo_round (⟨wr,2*f⟩:World×Nat) ⟨hw1,(by omega),(by omega),rl0,rl1⟩ (show 4294967296-2*f<4294967296-f by omega) rfl ⟨rfl,rfl,rfl,trivial⟩))
  ·
   refine cw_region (mv 2 rfl (pu (v:= .int .i64 ((m:Nat):Int)) rfl (by kernel_rfl) (wl_ar rfl rfl rfl ((m-1:Nat):Int) (ai_sub (a:=m) (b:=1) rfl rfl (by omega) (by omega)) (by decide) ?_)))
   obtain⟨p2,hp2,hc2,hv2⟩:=(rl1).at (i:=m-1) (by omega)
   refine wl_idx rfl rfl rfl un_u64 sz_u64 (m-1) rfl (by omega) p2 hp2 (by decide) (wl_load rfl rfl (load_cell1 ag_u64 hc2) (by decide) (mv 1 rfl (wl_ar rfl rfl rfl (((es.getD (m-1) 0)*f:Nat):Int) (au_mul (a:=es.getD (m-1) 0) (b:=f) rfl rfl (by omega)) (by decide) (wl_cmp rfl rfl rfl false (cb_lt_f (a:=(es.getD (m-1) 0)*f) (b:=2147483648) rfl rfl (by omega)) (by decide) (ne_ (cw_false rfl (cw_exit (eo_thenX (eo_loopX (eo_block_here (eo_then (sr (mv 1 rfl ?_)))))))))))))
   refine mv 1 rfl (cl (vs:= [.slice A n cap,.int .u64 ((f:Nat):Int)]) hw1 (ref3_scaled rl0 (by omega) hwx hf2) rfl (by kernel_rfl) fun xr5 v3 r5 e4 hw2=>?_)
   obtain⟨g6,l6,rfl,gb6,hb6,hl6,hwf6,hnv6⟩:=r5
   have ge7:w.heap.size≤g6:=Nat.le_trans hw1.size gb6
   have ne8:0<cap→∀a,A=some a→a.block≠g6:=fun hc a ha=>by have:=(rl0).rv.blk a ha hc;omega
   have ne9:0<cd→∀a,D=some a→a.block≠g6:=fun hc a ha=>by have:=(rl1).rv.blk a ha hc;omega
   refine mv 1 rfl (ne_ (sr (mv 2 rfl (cl (vs:= [.slice D m cd,.int .u64 ((f:Nat):Int)]) hw2 (ref3_scaled (rl1.ext e4) (by omega) hwe hf2) rfl (by kernel_rfl) fun xr12 v10 r12 e11 hw3=>?_))))
   obtain⟨g13,l13,rfl,gb13,hb13,hl13,hwf13,hnv13⟩:=r12
   have ge14:w.heap.size≤g13:=Nat.le_trans hw2.size gb13
   have q15:g6<g13:=Nat.lt_of_lt_of_le hb6.lt gb13
   have ne16:0<cap→∀a,A=some a→a.block≠g13:=fun hc a ha=>by have:=((rl0.ext e4)).rv.blk a ha hc;omega
   have ne17:0<cd→∀a,D=some a→a.block≠g13:=fun hc a ha=>by have:=((rl1.ext e4)).rv.blk a ha hc;omega
   refine mv 1 rfl (ne_ (sr (mv 1 rfl (cl (vs:= [.slice (some ⟨g13,0,none⟩) (m+1) (m+1)]) hw3 (ref3_Trim (hb13.rd0 hwf13.wf hl13 (by omega)) (by omega)) rfl (by kernel_rfl) fun xr20 v18 r20 e19 hw4=>?_))))
   obtain⟨k21,rfl,hk21,ht21,hv21⟩:=r20
   refine mv 1 rfl (ne_ (cw_seq ?_))
   have hD:=hnv13
   have hvd:=hv21 4294967296
   have hY0:=nb_pos_of_top (b:=4294967296) (by decide) (by omega) hlem htop
   have hDp:0<nb 4294967296 l13:=by rw [hD];exact Nat.mul_pos hY0 hf1
   have hkp:0<k21:=by refine Nat.pos_of_ne_zero fun e=>?_;rw [e] at hvd;simp only [List.take_zero,nb_nil] at hvd;omega
   have hhd:=dv_head hwf13 (by omega) hkp hvd
   have htopd:=Wfb_getD (b:=4294967296) (by decide) hwf13 (k21-1)
   refine cw_region (mv 1 rfl (pu (v:= .int .i64 ((n:Nat):Int)) rfl (by kernel_rfl) (mv 1 rfl (pu (v:= .int .i64 ((m:Nat):Int)) rfl (by kernel_rfl) (wl_ar rfl rfl rfl ((n-m:Nat):Int) (ai_sub (a:=n) (b:=m) rfl rfl (by omega) (by omega)) (by decide) (wl_ar rfl rfl rfl (((n-m)+1:Nat):Int) (ai_add (a:=n-m) (b:=1) rfl rfl (by omega)) (by decide) (wl_make rfl (k:=(n-m)+1) rfl rfl rfl un_u64 info64 rfl (by decide) (by omega) (by decide) fun g22 v23 hg24 hb25 e26=>?_)))))))
   rw [replicate_W64] at hb25
   have ge27:w.heap.size≤g22:=by rw [←hg24];exact hw4.size
   have q29:g6<g22:=by rw [←hg24];exact (hb6.ext (e11.trans e19)).lt
   have q30:g13<g22:=by rw [←hg24];exact (hb13.ext e19).lt
   have ne31:0<cap→∀a,A=some a→a.block≠g22:=fun hc a ha=>by have:=((rl0.ext (e4.trans (e11.trans e19)))).rv.blk a ha hc;omega
   have ne32:0<cd→∀a,D=some a→a.block≠g22:=fun hc a ha=>by have:=((rl1.ext (e4.trans (e11.trans e19)))).rv.blk a ha hc;omega
   clear hg24
   have hw5:=hw4.trans e26
   refine mv 1 rfl (ne_ (sr (mv 2 rfl (pu (v:= .int .i64 ((k21:Nat):Int)) rfl (by kernel_rfl) (wl_ar rfl rfl rfl ((k21-1:Nat):Int) (ai_sub (a:=k21) (b:=1) rfl rfl (by omega) (by omega)) (by decide) (wl_idx rfl rfl rfl un_u64 sz_u64 (k21-1) rfl (by omega) ⟨g13,k21-1,none⟩ (arr_at _ _) (by decide) (wl_load rfl rfl (load_word ag_u64 (hb13.ext (e19.trans e26)) (by rw [hl13];omega)) (by decide) (wl_ar rfl rfl rfl (((l13.getD (k21-1) 0)+1:Nat):Int) (au_add (a:=l13.getD (k21-1) 0) (b:=1) rfl rfl (by omega)) (by decide) (mv 1 rfl (ne_ (cw_seq (sr (mv 1 rfl ?_)))))))))))))
   refine pu (v:= .int .i64 ((n:Nat):Int)) rfl (by kernel_rfl) (mv 1 rfl (pu (v:= .int .i64 ((m:Nat):Int)) rfl (by kernel_rfl) (wl_ar rfl rfl rfl ((n-m:Nat):Int) (ai_sub (a:=n) (b:=m) rfl rfl (by omega) (by omega)) (by decide) (mv 1 rfl (ne_ (cw_block ?_))))))
   refine cw_loop (T:=World×Nat×Int×List Nat×List Nat)
    (fun⟨wr,k,ii,lq,lr⟩=> [(6,.int .u64 ((f:Nat):Int)),(7,.slice (some ⟨g6,0,none⟩) (n+1) (n+1)),(8,.slice (some ⟨g13,0,none⟩) k21 (m+1)),(9,.slice (some ⟨g22,0,none⟩) ((n-m)+1) ((n-m)+1)),(10,.int .u64 (((l13.getD (k21-1) 0)+1:Nat):Int)),(11,.int .i64 ii)])
    (fun⟨wr,k,ii,lq,lr⟩=>wr)
    (fun⟨wr,k,ii,lq,lr⟩=>(Ext w wr)∧(k≤n-m+1)∧(ii=(k:Int)-1)∧(Bk wr g6 24 (lr.map W64))∧(lr.length=n+1)∧(Bk wr g13 24 (l13.map W64))∧(Bk wr g22 24 (lq.map W64))∧(lq.length=n-m+1)∧(DO (nb 4294967296 xs*f) (nb 4294967296 l13) k lq lr))
    (fun⟨wr,k,ii,lq,lr⟩=>k)
    (⟨v23,n-m+1,_,_,_⟩:World×Nat×Int×List Nat×List Nat) ⟨hw5,Nat.le_refl _,(by omega),(hb6.ext (e11.trans (e19.trans e26))),hl6,(hb13.ext (e19.trans e26)),hb25,(List.length_replicate (n:=(n-m)+1) (a:=0)),DO.start hwf6 hnv6 hD hf1 (by have:=nb_lt hwx;rwa [hlen] at this) (nb_ge_of_top (by decide) (by omega) hlem htop) (by omega) (by omega)⟩ rfl ⟨rfl,rfl,rfl,rfl,rfl,rfl,trivial⟩ ?_
   rintro⟨wr,k,ii,lq,lr⟩ ⟨hw1,hk,hii,hbr,hlr,hbd,hbq,hlq,hO⟩
   refine cw_re [(6,.int .u64 ((f:Nat):Int)),(7,.slice (some ⟨g6,0,none⟩) (n+1) (n+1)),(8,.slice (some ⟨g13,0,none⟩) k21 (m+1)),(9,.slice (some ⟨g22,0,none⟩) ((n-m)+1) ((n-m)+1)),(10,.int .u64 (((l13.getD (k21-1) 0)+1:Nat):Int)),(11,.int .i64 ii)] wr rfl ⟨rfl,rfl,rfl,rfl,rfl,rfl,trivial⟩ (cw_seq (cw_seq ?_))
   by_cases hk0:0<k
   ·
    obtain⟨j,rfl⟩:∃j,k=j+1:=⟨k-1,by omega⟩
    obtain rfl:ii=(j:Int):=by omega
    refine cw_region (mv 1 rfl (wl_cmp rfl rfl rfl true (cb_ge_t (a:=j) (b:=0) rfl rfl (by omega)) (by decide) (ne_ (cw_true rfl (cw_skip (eo_then (cw_seq (cw_block (cw_block ?_)))))))))
    have hE:=hO.enter
    clear hO
    refine cw_loop (T:=World×List Nat×List Nat)
     (fun⟨wr,lq,lr⟩=> [(6,.int .u64 ((f:Nat):Int)),(7,.slice (some ⟨g6,0,none⟩) (n+1) (n+1)),(8,.slice (some ⟨g13,0,none⟩) k21 (m+1)),(9,.slice (some ⟨g22,0,none⟩) ((n-m)+1) ((n-m)+1)),(10,.int .u64 (((l13.getD (k21-1) 0)+1:Nat):Int)),(11,.int .i64 ((j:Nat):Int))])
     (fun⟨wr,lq,lr⟩=>wr)
     (fun⟨wr,lq,lr⟩=>(Ext w wr)∧(Bk wr g6 24 (lr.map W64))∧(lr.length=n+1)∧(Bk wr g13 24 (l13.map W64))∧(Bk wr g22 24 (lq.map W64))∧(lq.length=n-m+1)∧(DI (nb 4294967296 xs*f) (nb 4294967296 l13) j lq lr))
     (fun⟨wr,lq,lr⟩=>nb 4294967296 lr)
     (⟨wr,_,_⟩:World×List Nat×List Nat) ⟨hw1,hbr,hlr,hbd,hbq,hlq,hE⟩ rfl ⟨rfl,rfl,rfl,rfl,rfl,rfl,trivial⟩ ?_
    rintro⟨wr,lq,lr⟩ ⟨hw1,hbr,hlr,hbd,hbq,hlq,hI⟩
    refine cw_re [(6,.int .u64 ((f:Nat):Int)),(7,.slice (some ⟨g6,0,none⟩) (n+1) (n+1)),(8,.slice (some ⟨g13,0,none⟩) k21 (m+1)),(9,.slice (some ⟨g22,0,none⟩) ((n-m)+1) ((n-m)+1)),(10,.int .u64 (((l13.getD (k21-1) 0)+1:Nat):Int)),(11,.int .i64 ((j:Nat):Int))] wr rfl ⟨rfl,rfl,rfl,rfl,rfl,rfl,trivial⟩ (cw_block (cw_seq ?_))
    have hwr:=hI.wr
    have hb1:=Wfb_getD (b:=4294967296) (by decide) hwr ((j+k21)-1)
    have hb2:=Wfb_getD (b:=4294967296) (by decide) hwr (j+k21)
    by_cases hjk:j+k21<n+1
    ·
     have hT:=nb_digit2_le (b:=4294967296) (l:=lr) (i:=(j+k21)-1) (i':=j+k21) (by omega) (by omega)
     refine cw_region (mv 3 rfl (pu (v:= .int .i64 ((k21:Nat):Int)) rfl (by kernel_rfl) (wl_ar rfl rfl rfl ((j+k21:Nat):Int) (ai_add (a:=j) (b:=k21) rfl rfl (by omega)) (by decide) (wl_ar rfl rfl rfl (((j+k21)-1:Nat):Int) (ai_sub (a:=j+k21) (b:=1) rfl rfl (by omega) (by omega)) (by decide) (wl_idx rfl rfl rfl un_u64 sz_u64 ((j+k21)-1) rfl (by omega) ⟨g6,(j+k21)-1,none⟩ (arr_at _ _) (by decide) (wl_load rfl rfl (load_word ag_u64 hbr (by rw [hlr];omega)) (by decide) (mv 1 rfl (ne_ (cw_seq (sr (mv 2 rfl (pu (v:= .int .i64 ((k21:Nat):Int)) rfl (by kernel_rfl) (wl_ar rfl rfl rfl ((j+k21:Nat):Int) (ai_add (a:=j) (b:=k21) rfl rfl (by omega)) (by decide) ?_)))))))))))))
     refine mv 1 rfl (pu (v:= .int .i64 (((n+1):Nat):Int)) rfl (by kernel_rfl) (wl_cmp rfl rfl rfl true (cb_lt_t (a:=j+k21) (b:=n+1) rfl rfl (by omega)) (by decide) (ne_ (cw_true rfl (cw_region (mv 4 rfl (pu (v:= .int .i64 ((k21:Nat):Int)) rfl (by kernel_rfl) (wl_ar rfl rfl rfl ((j+k21:Nat):Int) (ai_add (a:=j) (b:=k21) rfl rfl (by omega)) (by decide) (wl_idx rfl rfl rfl un_u64 sz_u64 (j+k21) rfl (by omega) ⟨g6,j+k21,none⟩ (arr_at _ _) (by decide) (wl_load rfl rfl (load_word ag_u64 hbr (by rw [hlr];omega)) (by decide) (wl_ar rfl rfl rfl (((lr.getD (j+k21) 0)*4294967296:Nat):Int) (au_mul (a:=lr.getD (j+k21) 0) (b:=4294967296) rfl rfl (by omega)) (by decide) (wl_ar rfl rfl rfl (((lr.getD ((j+k21)-1) 0)+((lr.getD (j+k21) 0)*4294967296):Nat):Int) (au_add (a:=lr.getD ((j+k21)-1) 0) (b:=(lr.getD (j+k21) 0)*4294967296) rfl rfl (by omega)) (by decide) (mv 1 rfl ?_)))))))))))))
     refine ne_ (cw_seq ?_)
     have hfit:=dv_fit hhd hkp hT
     have hRlt:nb 4294967296 lr<nb 4294967296 l13*4294967296^(j+1):=Nat.lt_of_le_of_lt (Nat.le_add_left _ _) hI.lt
     by_cases hn0:((lr.getD ((j+k21)-1) 0)+((lr.getD (j+k21) 0)*4294967296))/((l13.getD (k21-1) 0)+1)=0
     ·
      by_cases hgo:nb 4294967296 l13*4294967296^j≤nb 4294967296 lr
      ·
       have hgo1:1*nb 4294967296 l13*4294967296^j≤nb 4294967296 lr:=by rw [Nat.one_mul];exact hgo
       refine cw_region (mv 2 rfl (wl_ar rfl rfl rfl ((((lr.getD ((j+k21)-1) 0)+((lr.getD (j+k21) 0)*4294967296))/((l13.getD (k21-1) 0)+1):Nat):Int) (au_quo (a:=(lr.getD ((j+k21)-1) 0)+((lr.getD (j+k21) 0)*4294967296)) (b:=(l13.getD (k21-1) 0)+1) rfl rfl (by omega) (by omega)) (by decide) (mv 1 rfl (ne_ (cw_seq (sr (mv 1 rfl (wl_cmp rfl rfl rfl true (cb_eq_t (a:=((lr.getD ((j+k21)-1) 0)+((lr.getD (j+k21) 0)*4294967296))/((l13.getD (k21-1) 0)+1)) (b:=0) rfl rfl (by omega)) (by decide) (ne_ (cw_true rfl (sr (mv 3 rfl (cl (vs:= [.slice (some ⟨g6,0,none⟩) (n+1) (n+1),.slice (some ⟨g13,0,none⟩) k21 (m+1),.int .i64 ((j:Nat):Int)]) hw1 (ref3_goes' (b:=true) (hbr.rd0 hwr.wf hlr (by omega)) (by omega) ((hbd.rd0 hwf13.wf hl13 (by omega)).take (k:=k21) (by omega) (by omega) (Nat.le_refl _)) hwr (Wfb_take hwf13 _) (by omega) (dv_big hI rfl hwf13 hvd) (by rw [hvd,decide_eq_true hgo])) rfl (by kernel_rfl) fun xr35 v33 r35 e34 hw2=>?_)))))))))))))
       obtain rfl:=r35
       refine mv 1 rfl (ne_ (cw_seq (sr (mv 1 rfl (pu (v:= .bool false) rfl (by kernel_rfl) (ne_ (cw_false rfl (cw_skip (eo_then (cw_region (mv 1 rfl (ne_ (cw_seq ?_)))))))))))))
       refine cw_region (mv 4 rfl ?_)
       have hqlt:=dv_lt hgo1 hRlt
       refine wl_call rfl rfl (vs:= [.slice (some ⟨g6,0,none⟩) (n+1) (n+1),.slice (some ⟨g13,0,none⟩) k21 (m+1),.int .u64 1,.int .i64 ((j:Nat):Int)]) (by kernel_rfl) (by decide) (ref3_takeOff (q:=1) (s:=j) (hbr.ext e34) hlr (by omega) hwr (((hbd.ext e34).rd0 hwf13.wf hl13 (by omega)).take (k:=k21) (by omega) (by omega) (Nat.le_refl _)) (Wfb_take hwf13 _) (fun _ a ha=>by cases ha;show g13≠g6;omega) hqlt (by omega) (by rw [hvd];exact hgo1)) ?_
       rintro _ v36 ⟨rfl,u37,l3,hb38,hl39,hwl3,hv3⟩
       rw [hvd] at hv3
       refine ret_intro ?_
       have hdg:=hI.digit hv3
       have hw3:=u37.ext hw2 ge7
       refine ne_ (cw_region (mv 4 rfl (wl_idx rfl rfl rfl un_u64 sz_u64 j rfl (by omega) ⟨g22,j,none⟩ (arr_at _ _) (by decide) (wl_load rfl rfl (load_word ag_u64 ((hbq.ext e34).updN u37 (by omega)) (by rw [hlq];omega)) (by decide) (mv 1 rfl (wl_ar rfl rfl rfl (((lq.getD j 0)+1:Nat):Int) (au_add (a:=lq.getD j 0) (b:=1) rfl rfl (by omega)) (by decide) (wl_idx rfl rfl rfl un_u64 sz_u64 j rfl (by omega) ⟨g22,j,none⟩ (arr_at _ _) (by decide) ?_)))))))
       have hb41:=((hbq.ext e34).updN u37 (by omega))
       refine wl_stored1 rfl rfl rfl sz_u64 rfl hb41 (len_map (by rw [hlq];omega)) rfl ((lq.set j ((lq.getD j 0)+1)).map W64) (map_W64_set _ _ _) fun v40 hb42 u43 hs44=>?_
       have hw4:=u43.ext hw3 ge27
       refine wl_nil (eo_block_normal (eo_round (⟨v40,_,_⟩:World×List Nat×List Nat) ⟨hw4,(hb38.updN u43 (by omega)),hl39,(((hbd.ext e34).updN u37 (by omega)).updN u43 (by omega)),hb42,(len_set (l:=lq) (hlq)),hI.step (by omega) hwl3 hv3⟩ (dv_less (Nat.le_refl 1) hDp hv3) rfl ⟨rfl,rfl,rfl,rfl,rfl,rfl,trivial⟩))
      ·
       refine cw_region (mv 2 rfl (wl_ar rfl rfl rfl ((((lr.getD ((j+k21)-1) 0)+((lr.getD (j+k21) 0)*4294967296))/((l13.getD (k21-1) 0)+1):Nat):Int) (au_quo (a:=(lr.getD ((j+k21)-1) 0)+((lr.getD (j+k21) 0)*4294967296)) (b:=(l13.getD (k21-1) 0)+1) rfl rfl (by omega) (by omega)) (by decide) (mv 1 rfl (ne_ (cw_seq (sr (mv 1 rfl (wl_cmp rfl rfl rfl true (cb_eq_t (a:=((lr.getD ((j+k21)-1) 0)+((lr.getD (j+k21) 0)*4294967296))/((l13.getD (k21-1) 0)+1)) (b:=0) rfl rfl (by omega)) (by decide) (ne_ (cw_true rfl (sr (mv 3 rfl (cl (vs:= [.slice (some ⟨g6,0,none⟩) (n+1) (n+1),.slice (some ⟨g13,0,none⟩) k21 (m+1),.int .i64 ((j:Nat):Int)]) hw1 (ref3_goes' (b:=false) (hbr.rd0 hwr.wf hlr (by omega)) (by omega) ((hbd.rd0 hwf13.wf hl13 (by omega)).take (k:=k21) (by omega) (by omega) (Nat.le_refl _)) hwr (Wfb_take hwf13 _) (by omega) (dv_big hI rfl hwf13 hvd) (by rw [hvd,decide_eq_false hgo])) rfl (by kernel_rfl) fun xr47 v45 r47 e46 hw2=>?_)))))))))))))
       obtain rfl:=r47
       refine mv 1 rfl (ne_ (cw_seq (sr (mv 1 rfl (pu (v:= .bool true) rfl (by kernel_rfl) (ne_ (cw_true rfl (cw_exit (eo_thenX (eo_thenX (eo_block_far (by decide) (eo_loopX (eo_block_here ?_)))))))))))))
       refine eo_block_normal (eo_then (cw_region (mv 1 rfl (wl_ar rfl rfl rfl (((j:Nat):Int)-1) (ar_i64s rfl (by omega) (by omega)) (by decide) (mv 1 rfl (wl_nil (eo_round (⟨v45,j,_,_,_⟩:World×Nat×Int×List Nat×List Nat) ⟨hw2,(by omega),(by omega),(hbr.ext e46),hlr,(hbd.ext e46),(hbq.ext e46),hlq,hI.leave hgo⟩ (show j<j+1 by omega) rfl ⟨rfl,rfl,rfl,rfl,rfl,rfl,trivial⟩)))))))
     ·
      refine cw_region (mv 2 rfl (wl_ar rfl rfl rfl ((((lr.getD ((j+k21)-1) 0)+((lr.getD (j+k21) 0)*4294967296))/((l13.getD (k21-1) 0)+1):Nat):Int) (au_quo (a:=(lr.getD ((j+k21)-1) 0)+((lr.getD (j+k21) 0)*4294967296)) (b:=(l13.getD (k21-1) 0)+1) rfl rfl (by omega) (by omega)) (by decide) (mv 1 rfl (ne_ (cw_seq (sr (mv 1 rfl (wl_cmp rfl rfl rfl false (cb_eq_f (a:=((lr.getD ((j+k21)-1) 0)+((lr.getD (j+k21) 0)*4294967296))/((l13.getD (k21-1) 0)+1)) (b:=0) rfl rfl (by omega)) (by decide) (ne_ (cw_false rfl (cw_skip (eo_then (cw_seq ?_)))))))))))))
      refine cw_region (mv 4 rfl ?_)
      have hqlt:=dv_lt hfit hRlt
      refine wl_call rfl rfl (vs:= [.slice (some ⟨g6,0,none⟩) (n+1) (n+1),.slice (some ⟨g13,0,none⟩) k21 (m+1),.int .u64 ((((lr.getD ((j+k21)-1) 0)+((lr.getD (j+k21) 0)*4294967296))/((l13.getD (k21-1) 0)+1):Nat):Int),.int .i64 ((j:Nat):Int)]) (by kernel_rfl) (by decide) (ref3_takeOff (q:=((lr.getD ((j+k21)-1) 0)+((lr.getD (j+k21) 0)*4294967296))/((l13.getD (k21-1) 0)+1)) (s:=j) hbr hlr (by omega) hwr ((hbd.rd0 hwf13.wf hl13 (by omega)).take (k:=k21) (by omega) (by omega) (Nat.le_refl _)) (Wfb_take hwf13 _) (fun _ a ha=>by cases ha;show g13≠g6;omega) hqlt (by omega) (by rw [hvd];exact hfit)) ?_
      rintro _ v48 ⟨rfl,u49,l3,hb50,hl51,hwl3,hv3⟩
      rw [hvd] at hv3
      refine ret_intro ?_
      have hdg:=hI.digit hv3
      have hw2:=u49.ext hw1 ge7
      refine ne_ (cw_region (mv 4 rfl (wl_idx rfl rfl rfl un_u64 sz_u64 j rfl (by omega) ⟨g22,j,none⟩ (arr_at _ _) (by decide) (wl_load rfl rfl (load_word ag_u64 (hbq.updN u49 (by omega)) (by rw [hlq];omega)) (by decide) (mv 1 rfl (wl_ar rfl rfl rfl (((lq.getD j 0)+(((lr.getD ((j+k21)-1) 0)+((lr.getD (j+k21) 0)*4294967296))/((l13.getD (k21-1) 0)+1)):Nat):Int) (au_add (a:=lq.getD j 0) (b:=((lr.getD ((j+k21)-1) 0)+((lr.getD (j+k21) 0)*4294967296))/((l13.getD (k21-1) 0)+1)) rfl rfl (by omega)) (by decide) (wl_idx rfl rfl rfl un_u64 sz_u64 j rfl (by omega) ⟨g22,j,none⟩ (arr_at _ _) (by decide) ?_)))))))
      have hb53:=(hbq.updN u49 (by omega))
      refine wl_stored1 rfl rfl rfl sz_u64 rfl hb53 (len_map (by rw [hlq];omega)) rfl ((lq.set j ((lq.getD j 0)+(((lr.getD ((j+k21)-1) 0)+((lr.getD (j+k21) 0)*4294967296))/((l13.getD (k21-1) 0)+1)))).map W64) (map_W64_set _ _ _) fun v52 hb54 u55 hs56=>?_
      have hw3:=u55.ext hw2 ge27
      refine wl_nil (eo_block_normal (eo_round (⟨v52,_,_⟩:World×List Nat×List Nat) ⟨hw3,(hb50.updN u55 (by omega)),hl51,((hbd.updN u49 (by omega)).updN u55 (by omega)),hb54,(len_set (l:=lq) (hlq)),hI.step (by omega) hwl3 hv3⟩ (dv_less (Nat.pos_of_ne_zero hn0) hDp hv3) rfl ⟨rfl,rfl,rfl,rfl,rfl,rfl,trivial⟩))
    ·
     have hT:=nb_digit_le (b:=4294967296) (l:=lr) (i:=(j+k21)-1) (by omega)
     refine cw_region (mv 3 rfl (pu (v:= .int .i64 ((k21:Nat):Int)) rfl (by kernel_rfl) (wl_ar rfl rfl rfl ((j+k21:Nat):Int) (ai_add (a:=j) (b:=k21) rfl rfl (by omega)) (by decide) (wl_ar rfl rfl rfl (((j+k21)-1:Nat):Int) (ai_sub (a:=j+k21) (b:=1) rfl rfl (by omega) (by omega)) (by decide) (wl_idx rfl rfl rfl un_u64 sz_u64 ((j+k21)-1) rfl (by omega) ⟨g6,(j+k21)-1,none⟩ (arr_at _ _) (by decide) (wl_load rfl rfl (load_word ag_u64 hbr (by rw [hlr];omega)) (by decide) (mv 1 rfl (ne_ (cw_seq (sr (mv 2 rfl (pu (v:= .int .i64 ((k21:Nat):Int)) rfl (by kernel_rfl) (wl_ar rfl rfl rfl ((j+k21:Nat):Int) (ai_add (a:=j) (b:=k21) rfl rfl (by omega)) (by decide) ?_)))))))))))))
     refine mv 1 rfl (pu (v:= .int .i64 (((n+1):Nat):Int)) rfl (by kernel_rfl) (wl_cmp rfl rfl rfl false (cb_lt_f (a:=j+k21) (b:=n+1) rfl rfl (by omega)) (by decide) (ne_ (cw_false rfl (cw_skip (eo_then (cw_seq ?_)))))))
     have hfit:=dv_fit hhd hkp hT
     have hRlt:nb 4294967296 lr<nb 4294967296 l13*4294967296^(j+1):=Nat.lt_of_le_of_lt (Nat.le_add_left _ _) hI.lt
     by_cases hn0:(lr.getD ((j+k21)-1) 0)/((l13.getD (k21-1) 0)+1)=0
     ·
      by_cases hgo:nb 4294967296 l13*4294967296^j≤nb 4294967296 lr
      ·
       have hgo1:1*nb 4294967296 l13*4294967296^j≤nb 4294967296 lr:=by rw [Nat.one_mul];exact hgo
       refine cw_region (mv 2 rfl (wl_ar rfl rfl rfl (((lr.getD ((j+k21)-1) 0)/((l13.getD (k21-1) 0)+1):Nat):Int) (au_quo (a:=lr.getD ((j+k21)-1) 0) (b:=(l13.getD (k21-1) 0)+1) rfl rfl (by omega) (by omega)) (by decide) (mv 1 rfl (ne_ (cw_seq (sr (mv 1 rfl (wl_cmp rfl rfl rfl true (cb_eq_t (a:=(lr.getD ((j+k21)-1) 0)/((l13.getD (k21-1) 0)+1)) (b:=0) rfl rfl (by omega)) (by decide) (ne_ (cw_true rfl (sr (mv 3 rfl (cl (vs:= [.slice (some ⟨g6,0,none⟩) (n+1) (n+1),.slice (some ⟨g13,0,none⟩) k21 (m+1),.int .i64 ((j:Nat):Int)]) hw1 (ref3_goes' (b:=true) (hbr.rd0 hwr.wf hlr (by omega)) (by omega) ((hbd.rd0 hwf13.wf hl13 (by omega)).take (k:=k21) (by omega) (by omega) (Nat.le_refl _)) hwr (Wfb_take hwf13 _) (by omega) (dv_big hI rfl hwf13 hvd) (by rw [hvd,decide_eq_true hgo])) rfl (by kernel_rfl) fun xr59 v57 r59 e58 hw2=>?_)))))))))))))
       obtain rfl:=r59
       refine mv 1 rfl (ne_ (cw_seq (sr (mv 1 rfl (pu (v:= .bool false) rfl (by kernel_rfl) (ne_ (cw_false rfl (cw_skip (eo_then (cw_region (mv 1 rfl (ne_ (cw_seq ?_)))))))))))))
       refine cw_region (mv 4 rfl ?_)
       have hqlt:=dv_lt hgo1 hRlt
       refine wl_call rfl rfl (vs:= [.slice (some ⟨g6,0,none⟩) (n+1) (n+1),.slice (some ⟨g13,0,none⟩) k21 (m+1),.int .u64 1,.int .i64 ((j:Nat):Int)]) (by kernel_rfl) (by decide) (ref3_takeOff (q:=1) (s:=j) (hbr.ext e58) hlr (by omega) hwr (((hbd.ext e58).rd0 hwf13.wf hl13 (by omega)).take (k:=k21) (by omega) (by omega) (Nat.le_refl _)) (Wfb_take hwf13 _) (fun _ a ha=>by cases ha;show g13≠g6;omega) hqlt (by omega) (by rw [hvd];exact hgo1)) ?_
       rintro _ v60 ⟨rfl,u61,l3,hb62,hl63,hwl3,hv3⟩
       rw [hvd] at hv3
       refine ret_intro ?_
       have hdg:=hI.digit hv3
       have hw3:=u61.ext hw2 ge7
       refine ne_ (cw_region (mv 4 rfl (wl_idx rfl rfl rfl un_u64 sz_u64 j rfl (by omega) ⟨g22,j,none⟩ (arr_at _ _) (by decide) (wl_load rfl rfl (load_word ag_u64 ((hbq.ext e58).updN u61 (by omega)) (by rw [hlq];omega)) (by decide) (mv 1 rfl (wl_ar rfl rfl rfl (((lq.getD j 0)+1:Nat):Int) (au_add (a:=lq.getD j 0) (b:=1) rfl rfl (by omega)) (by decide) (wl_idx rfl rfl rfl un_u64 sz_u64 j rfl (by omega) ⟨g22,j,none⟩ (arr_at _ _) (by decide) ?_)))))))
       have hb65:=((hbq.ext e58).updN u61 (by omega))
       refine wl_stored1 rfl rfl rfl sz_u64 rfl hb65 (len_map (by rw [hlq];omega)) rfl ((lq.set j ((lq.getD j 0)+1)).map W64) (map_W64_set _ _ _) fun v64 hb66 u67 hs68=>?_
       have hw4:=u67.ext hw3 ge27
       refine wl_nil (eo_block_normal (eo_round (⟨v64,_,_⟩:World×List Nat×List Nat) ⟨hw4,(hb62.updN u67 (by omega)),hl63,(((hbd.ext e58).updN u61 (by omega)).updN u67 (by omega)),hb66,(len_set (l:=lq) (hlq)),hI.step (by omega) hwl3 hv3⟩ (dv_less (Nat.le_refl 1) hDp hv3) rfl ⟨rfl,rfl,rfl,rfl,rfl,rfl,trivial⟩))
      ·
       refine cw_region (mv 2 rfl (wl_ar rfl rfl rfl (((lr.getD ((j+k21)-1) 0)/((l13.getD (k21-1) 0)+1):Nat):Int) (au_quo (a:=lr.getD ((j+k21)-1) 0) (b:=(l13.getD (k21-1) 0)+1) rfl rfl (by omega) (by omega)) (by decide) (mv 1 rfl (ne_ (cw_seq (sr (mv 1 rfl (wl_cmp rfl rfl rfl true (cb_eq_t (a:=(lr.getD ((j+k21)-1) 0)/((l13.getD (k21-1) 0)+1)) (b:=0) rfl rfl (by omega)) (by decide) (ne_ (cw_true rfl (sr (mv 3 rfl (cl (vs:= [.slice (some ⟨g6,0,none⟩) (n+1) (n+1),.slice (some ⟨g13,0,none⟩) k21 (m+1),.int .i64 ((j:Nat):Int)]) hw1 (ref3_goes' (b:=false) (hbr.rd0 hwr.wf hlr (by omega)) (by omega) ((hbd.rd0 hwf13.wf hl13 (by omega)).take (k:=k21) (by omega) (by omega) (Nat.le_refl _)) hwr (Wfb_take hwf13 _) (by omega) (dv_big hI rfl hwf13 hvd) (by rw [hvd,decide_eq_false hgo])) rfl (by kernel_rfl) fun xr71 v69 r71 e70 hw2=>?_)))))))))))))
       obtain rfl:=r71
       refine mv 1 rfl (ne_ (cw_seq (sr (mv 1 rfl (pu (v:= .bool true) rfl (by kernel_rfl) (ne_ (cw_true rfl (cw_exit (eo_thenX (eo_thenX (eo_block_far (by decide) (eo_loopX (eo_block_here ?_)))))))))))))
       refine eo_block_normal (eo_then (cw_region (mv 1 rfl (wl_ar rfl rfl rfl (((j:Nat):Int)-1) (ar_i64s rfl (by omega) (by omega)) (by decide) (mv 1 rfl (wl_nil (eo_round (⟨v69,j,_,_,_⟩:World×Nat×Int×List Nat×List Nat) ⟨hw2,(by omega),(by omega),(hbr.ext e70),hlr,(hbd.ext e70),(hbq.ext e70),hlq,hI.leave hgo⟩ (show j<j+1 by omega) rfl ⟨rfl,rfl,rfl,rfl,rfl,rfl,trivial⟩)))))))
     ·
      refine cw_region (mv 2 rfl (wl_ar rfl rfl rfl (((lr.getD ((j+k21)-1) 0)/((l13.getD (k21-1) 0)+1):Nat):Int) (au_quo (a:=lr.getD ((j+k21)-1) 0) (b:=(l13.getD (k21-1) 0)+1) rfl rfl (by omega) (by omega)) (by decide) (mv 1 rfl (ne_ (cw_seq (sr (mv 1 rfl (wl_cmp rfl rfl rfl false (cb_eq_f (a:=(lr.getD ((j+k21)-1) 0)/((l13.getD (k21-1) 0)+1)) (b:=0) rfl rfl (by omega)) (by decide) (ne_ (cw_false rfl (cw_skip (eo_then (cw_seq ?_)))))))))))))
      refine cw_region (mv 4 rfl ?_)
      have hqlt:=dv_lt hfit hRlt
      refine wl_call rfl rfl (vs:= [.slice (some ⟨g6,0,none⟩) (n+1) (n+1),.slice (some ⟨g13,0,none⟩) k21 (m+1),.int .u64 (((lr.getD ((j+k21)-1) 0)/((l13.getD (k21-1) 0)+1):Nat):Int),.int .i64 ((j:Nat):Int)]) (by kernel_rfl) (by decide) (ref3_takeOff (q:=(lr.getD ((j+k21)-1) 0)/((l13.getD (k21-1) 0)+1)) (s:=j) hbr hlr (by omega) hwr ((hbd.rd0 hwf13.wf hl13 (by omega)).take (k:=k21) (by omega) (by omega) (Nat.le_refl _)) (Wfb_take hwf13 _) (fun _ a ha=>by cases ha;show g13≠g6;omega) hqlt (by omega) (by rw [hvd];exact hfit)) ?_
      rintro _ v72 ⟨rfl,u73,l3,hb74,hl75,hwl3,hv3⟩
      rw [hvd] at hv3
      refine ret_intro ?_
      have hdg:=hI.digit hv3
      have hw2:=u73.ext hw1 ge7
      refine ne_ (cw_region (mv 4 rfl (wl_idx rfl rfl rfl un_u64 sz_u64 j rfl (by omega) ⟨g22,j,none⟩ (arr_at _ _) (by decide) (wl_load rfl rfl (load_word ag_u64 (hbq.updN u73 (by omega)) (by rw [hlq];omega)) (by decide) (mv 1 rfl (wl_ar rfl rfl rfl (((lq.getD j 0)+((lr.getD ((j+k21)-1) 0)/((l13.getD (k21-1) 0)+1)):Nat):Int) (au_add (a:=lq.getD j 0) (b:=(lr.getD ((j+k21)-1) 0)/((l13.getD (k21-1) 0)+1)) rfl rfl (by omega)) (by decide) (wl_idx rfl rfl rfl un_u64 sz_u64 j rfl (by omega) ⟨g22,j,none⟩ (arr_at _ _) (by decide) ?_)))))))
      have hb77:=(hbq.updN u73 (by omega))
      refine wl_stored1 rfl rfl rfl sz_u64 rfl hb77 (len_map (by rw [hlq];omega)) rfl ((lq.set j ((lq.getD j 0)+((lr.getD ((j+k21)-1) 0)/((l13.getD (k21-1) 0)+1)))).map W64) (map_W64_set _ _ _) fun v76 hb78 u79 hs80=>?_
      have hw3:=u79.ext hw2 ge27
      refine wl_nil (eo_block_normal (eo_round (⟨v76,_,_⟩:World×List Nat×List Nat) ⟨hw3,(hb74.updN u79 (by omega)),hl75,((hbd.updN u73 (by omega)).updN u79 (by omega)),hb78,(len_set (l:=lq) (hlq)),hI.step (by omega) hwl3 hv3⟩ (dv_less (Nat.pos_of_ne_zero hn0) hDp hv3) rfl ⟨rfl,rfl,rfl,rfl,rfl,rfl,trivial⟩))
   ·
    obtain rfl:k=0:=by omega
    refine cw_region (mv 1 rfl (wl_cmp rfl rfl rfl false (ge_f (by omega)) (by decide) (ne_ (cw_false rfl (cw_exit (eo_thenX (eo_loopX (eo_block_here (eo_then (sr (mv 1 rfl (ne_ (cw_seq ?_)))))))))))))
    refine sr (mv 1 rfl (pu (v:= .int .i64 (((n+1):Nat):Int)) rfl (by kernel_rfl) (wl_ar rfl rfl rfl (((n+1)-1:Nat):Int) (ai_sub (a:=n+1) (b:=1) rfl rfl (by omega) (by omega)) (by decide) (mv 1 rfl (ne_ (cw_block ?_))))))
    refine cw_loop (T:=World×Nat×Int×Nat×List Nat)
     (fun⟨wr,k,ii,rest,l⟩=> [(6,.int .u64 ((f:Nat):Int)),(7,.slice (some ⟨g6,0,none⟩) (n+1) (n+1)),(9,.slice (some ⟨g22,0,none⟩) ((n-m)+1) ((n-m)+1)),(15,.int .u64 ((rest:Nat):Int)),(16,.int .i64 ii)])
     (fun⟨wr,k,ii,rest,l⟩=>wr)
     (fun⟨wr,k,ii,rest,l⟩=>(Ext w wr)∧(k≤n+1)∧(ii=(k:Int)-1)∧(Bk wr g6 24 (l.map W64))∧(Bk wr g22 24 (lq.map W64))∧(DF f lr k rest l))
     (fun⟨wr,k,ii,rest,l⟩=>k)
     (⟨wr,n+1,_,0,lr⟩:World×Nat×Int×Nat×List Nat) ⟨hw1,Nat.le_refl _,(by omega),hbr,hbq,DF.start hO.wr hf1 hlr⟩ rfl ⟨rfl,rfl,rfl,rfl,rfl,trivial⟩ ?_
    rintro⟨wr,k,ii,rest,l⟩ ⟨hw1,hk,hii,hbr,hbq,hF⟩
    refine cw_re [(6,.int .u64 ((f:Nat):Int)),(7,.slice (some ⟨g6,0,none⟩) (n+1) (n+1)),(9,.slice (some ⟨g22,0,none⟩) ((n-m)+1) ((n-m)+1)),(15,.int .u64 ((rest:Nat):Int)),(16,.int .i64 ii)] wr rfl ⟨rfl,rfl,rfl,rfl,rfl,trivial⟩ ?_
    have hll:=hF.len
    rw [hlr] at hll
    refine cw_seq (cw_seq ?_)
    by_cases hk0:0<k
    ·
     obtain⟨j,rfl⟩:∃j,k=j+1:=⟨k-1,by omega⟩
     obtain rfl:ii=(j:Int):=by omega
     refine cw_region (mv 1 rfl (wl_cmp rfl rfl rfl true (cb_ge_t (a:=j) (b:=0) rfl rfl (by omega)) (by decide) (ne_ (cw_true rfl (cw_skip (eo_then (cw_seq (cw_block (cw_seq ?_)))))))))
     have hdig:=hF.digit
     have hb1:=Wfb_getD (b:=4294967296) (by decide) hF.wf j
     have hrf:=hF.rf
     refine cw_region (mv 1 rfl (wl_ar rfl rfl rfl ((rest*4294967296:Nat):Int) (au_mul (a:=rest) (b:=4294967296) rfl rfl (by omega)) (by decide) (mv 2 rfl (wl_idx rfl rfl rfl un_u64 sz_u64 j rfl (by omega) ⟨g6,j,none⟩ (arr_at _ _) (by decide) (wl_load rfl rfl (load_word ag_u64 hbr (by rw [hll];omega)) (by decide) (wl_ar rfl rfl rfl (((rest*4294967296)+(l.getD j 0):Nat):Int) (au_add (a:=rest*4294967296) (b:=l.getD j 0) rfl rfl (by omega)) (by decide) (mv 1 rfl (ne_ (sr (mv 4 rfl (wl_ar rfl rfl rfl ((((rest*4294967296)+(l.getD j 0))/f:Nat):Int) (au_quo (a:=(rest*4294967296)+(l.getD j 0)) (b:=f) rfl rfl (by omega) (by omega)) (by decide) (wl_idx rfl rfl rfl un_u64 sz_u64 j rfl (by omega) ⟨g6,j,none⟩ (arr_at _ _) (by decide) ?_))))))))))))
     have hb82:=hbr
     refine wl_stored1 rfl rfl rfl sz_u64 rfl hb82 (len_map (by rw [hll];omega)) rfl ((l.set j (((rest*4294967296)+(l.getD j 0))/f)).map W64) (map_W64_set _ _ _) fun v81 hb83 u84 hs85=>?_
     have hw2:=u84.ext hw1 ge7
     refine ne_ (cw_region (mv 2 rfl (wl_ar rfl rfl rfl ((((rest*4294967296)+(l.getD j 0))%f:Nat):Int) (au_rem (a:=(rest*4294967296)+(l.getD j 0)) (b:=f) rfl rfl (by omega)) (by decide) (mv 1 rfl (wl_nil (eo_block_normal (eo_then (cw_region (mv 1 rfl (wl_ar rfl rfl rfl (((j:Nat):Int)-1) (ar_i64s rfl (by omega) (by omega)) (by decide) (mv 1 rfl (wl_nil (eo_round (⟨v81,j,_,_,_⟩:World×Nat×Int×Nat×List Nat) ⟨hw2,(by omega),rfl,hb83,(hbq.updN u84 (by omega)),hF.step (by omega) hdig hf1⟩ (show j<j+1 by omega) rfl ⟨rfl,rfl,rfl,rfl,rfl,trivial⟩)))))))))))))
    ·
     obtain rfl:k=0:=by omega
     refine cw_region (mv 1 rfl (wl_cmp rfl rfl rfl false (ge_f (by omega)) (by decide) (ne_ (cw_false rfl (cw_exit (eo_thenX (eo_loopX (eo_block_here (eo_then (sr (mv 1 rfl (cl (vs:= [.slice (some ⟨g22,0,none⟩) ((n-m)+1) ((n-m)+1)]) hw1 (ref3_Trim (hbq.rd0 hO.wq.wf hlq (by omega)) (by omega)) rfl (by kernel_rfl) fun xr88 v86 r88 e87 hw2=>?_))))))))))))
     obtain⟨k89,rfl,hk89,ht89,hv89⟩:=r88
     refine mv 1 rfl (cl (vs:= [.slice (some ⟨g6,0,none⟩) (n+1) (n+1)]) hw2 (ref3_Trim ((hbr.ext e87).rd0 hF.wf.wf hll (by omega)) (by omega)) rfl (by kernel_rfl) fun xr92 v90 r92 e91 hw3=>?_)
     obtain⟨k93,rfl,hk93,ht93,hv93⟩:=r92
     refine mv 2 rfl (ne_ (cw_ret (eo_ret [.slice (some ⟨g22,0,none⟩) k89 ((n-m)+1),.slice (some ⟨g6,0,none⟩) k93 (n+1)] rfl ⟨rfl,rfl,trivial⟩ ?_)))
     obtain⟨e1,e2⟩:=dv_done hO hD hF
     refine⟨_,rfl,⟨_,_,rfl,⟨_,_,_,rfl,?_⟩,⟨_,_,_,rfl,?_⟩⟩,hw3⟩
     ·rw [←e1];exact ((hbq.ext (e87.trans e91)).rd0 hO.wq.wf hlq (by omega)).trim hO.wq hk89 ht89 hv89
     ·rw [←e2];exact ((hbr.ext (e87.trans e91)).rd0 hF.wf.wf hll (by omega)).trim hF.wf hk93 ht93 hv93
theorem ref3_words_ {w:World}{b:Nat}(hb:b≤w.heap.size){A:Option Addr}{n cap m:Nat}(hx:Rd w A n cap (db 4294967296 m)) (hln:n≤1099511627776):
  Calls Try.prog 88 #[.slice A n cap] w (Gv w (WR b m)):=by
 have h:=ref3_words hx hln (Wfb_db b32 _)
 rw [nb_db b32] at h
 exact h.mono (Gv.imp (WR.imp hb))
theorem ref3_divide_ {w:World}{A D:Option Addr}{n cap m cd X Y:Nat}(hx:Rd w A n cap (db 4294967296 X)) (hln:n≤274877906944) (hy:Rd w D m cd (db 4294967296 Y)) (hlm:m≤274877906944) (hY:Y≠0):
  Calls Try.prog 87 #[.slice A n cap,.slice D m cd] w (Gv w (T2 (WD (X/Y)) (WD (X%Y)))):=by
 have hl:=hx.len
 have hl2:=hy.len
 have h1:=db_top b32 X
 have h2:=db_top b32 Y
 rw [hl] at h1
 rw [hl2] at h2
 have hm:0<m:=by
  refine Nat.pos_of_ne_zero fun e=>hY ?_
  rw [←len_db_zero b32 (n:=Y),hl2,e]
 have h:=ref3_divide hx hln hy hlm (Wfb_db b32 _) (Wfb_db b32 _) h1 hm (by omega)
 rw [nb_db b32,nb_db b32] at h
 exact h
theorem len_db32 {xs:List Nat}(h:Wf xs):(db 4294967296 (nv xs)).length≤2*xs.length:=by
 refine len_db_le b32 ?_
 have:=nv_lt h
 rwa [WB_32,←Nat.pow_mul] at this
theorem Rd.hl {w:World}{A:Option Addr}{c k:Nat}{xs:List Nat}{m:Nat}{w0:World}{A0:Option Addr}{n0 c0:Nat}(h:Rd w A k c (db 4294967296 m)) (hx:Rd w0 A0 n0 c0 xs) (hm:m≤nv xs):k≤2*n0:=by
 have h1:=h.len
 have h2:=len_db32 hx.wf
 rw [hx.len] at h2
 have h3:=len_db_mono b32 hm
 omega
set_option maxHeartbeats 4000000 in
theorem ref3_DivMod_ok {w:World}{A D:Option Addr}{n cap m cd:Nat}{xs ys:List Nat}(hx:Rd w A n cap xs) (hln:n≤137438953472) (hy:Rd w D m cd ys) (hlm:m≤137438953472) (hy0:nv ys≠0):
    Calls Try.prog 60 #[.slice A n cap,.slice D m cd] w (Gv w (T3 (WR w.heap.size (nv xs/nv ys)) (WR w.heap.size (nv xs%nv ys)) (Is (.int .i64 0)))):=by
 refine sx_enter Try.func60 rfl (n:=28) rfl (bq rfl) (args:= [.slice A n cap,.slice D m cd]) (cw_keep [(0,.slice A n cap),(1,.slice D m cd)] ⟨rfl,rfl,trivial⟩ (sr (mv 3 rfl (ne_ (sr (mv 1 rfl (cl (vs:= [.slice D m cd]) (Ext.refl w) (ref3_halves hy (by omega)) rfl (by kernel_rfl) fun xr3 v1 r3 e2 hw1=>?_)))))))
 obtain⟨A4,n4,c4,rfl,rd4⟩:=r3
 refine mv 1 rfl (ne_ (cw_seq (cw_seq ?_)))
 have hdl:=rd4.hl hy (Nat.le_refl _)
 have hlz:=rd4.len
 have hlp:n4≠0:=fun e=>hy0 (by rw [←len_db_zero b32 (n:=nv ys),hlz,e])
 refine cw_region (mv 1 rfl (pu (v:= .int .i64 ((n4:Nat):Int)) rfl (by kernel_rfl) (wl_cmp rfl rfl rfl false (cb_eq_f (a:=n4) (b:=0) rfl rfl (by omega)) (by decide) (ne_ (cw_false rfl (cw_skip (eo_then (sr (mv 1 rfl (cl (vs:= [.slice A n cap]) hw1 (ref3_halves (hx.ext e2) (by omega)) rfl (by kernel_rfl) fun xr7 v5 r7 e6 hw2=>?_))))))))))
 obtain⟨A8,n8,c8,rfl,rd8⟩:=r7
 refine mv 1 rfl (ne_ (cw_seq ?_))
 have hdl2:=rd8.hl hx (Nat.le_refl _)
 refine cw_region (mv 2 rfl (cl (vs:= [.slice A8 n8 c8,.slice A4 n4 c4]) hw2 (ref3_divide_ rd8 (by omega) (rd4.ext e6) (by omega) hy0) rfl (by kernel_rfl) fun xr11 v9 r11 e10 hw3=>?_))
 obtain⟨_,_,rfl,⟨A13,n13,c13,rfl,rd13⟩,⟨A14,n14,c14,rfl,rd14⟩⟩:=r11
 refine mv 1 rfl (pu (v:= .slice A13 n13 c13) rfl (by kernel_rfl) (pu (v:= .slice A14 n14 c14) rfl (by kernel_rfl) (mv 2 rfl (ne_ (cw_seq ?_)))))
 have hdl3:=rd13.hl hx (Nat.div_le_self _ _)
 have hdl4:=rd14.hl hx (Nat.mod_le _ _)
 refine cw_region (mv 1 rfl (cl (vs:= [.slice A13 n13 c13]) hw3 (ref3_words_ hw3.size rd13 (by omega)) rfl (by kernel_rfl) fun xr17 v15 r17 e16 hw4=>?_))
 obtain⟨A18,n18,c18,rfl,j18,o18⟩:=r17
 refine mv 1 rfl (cl (vs:= [.slice A14 n14 c14]) hw4 (ref3_words_ hw4.size (rd14.ext e16) (by omega)) rfl (by kernel_rfl) fun xr21 v19 r21 e20 hw5=>?_)
 obtain⟨A22,n22,c22,rfl,j22,o22⟩:=r21
 refine mv 3 rfl (ne_ (cw_ret (eo_ret [.slice A18 n18 c18,.slice A22 n22 c22,I0] rfl ⟨rfl,rfl,rfl,trivial⟩ ?_)))
 exact⟨_,rfl,⟨_,_,_,rfl,⟨_,_,_,rfl,j18,(o18.ext e20)⟩,⟨_,_,_,rfl,j22,o22⟩,rfl⟩,hw5⟩
set_option maxHeartbeats 4000000 in
theorem ref3_DivMod_bad {w:World}{A D:Option Addr}{n cap m cd:Nat}{xs ys:List Nat}(hy:Rd w D m cd ys) (hlm:m≤137438953472) (hy0:nv ys=0):
    Calls Try.prog 60 #[.slice A n cap,.slice D m cd] w (Gv w (Is (.tuple #[.slice none 0 0,.slice none 0 0,.int .i64 4]))):=by
 refine sx_enter Try.func60 rfl (n:=28) rfl (bq rfl) (args:= [.slice A n cap,.slice D m cd]) (cw_keep [(0,.slice A n cap),(1,.slice D m cd)] ⟨rfl,rfl,trivial⟩ (sr (mv 3 rfl (ne_ (sr (mv 1 rfl (cl (vs:= [.slice D m cd]) (Ext.refl w) (ref3_halves hy (by omega)) rfl (by kernel_rfl) fun xr3 v1 r3 e2 hw1=>?_)))))))
 obtain⟨A4,n4,c4,rfl,rd4⟩:=r3
 refine mv 1 rfl (ne_ (cw_seq (cw_seq ?_)))
 have hdl:=rd4.hl hy (Nat.le_refl _)
 have hlz:=rd4.len
 rw [hy0,db_zero] at hlz
 simp only [List.length_nil] at hlz
 refine cw_region (mv 1 rfl (pu (v:= .int .i64 ((n4:Nat):Int)) rfl (by kernel_rfl) (wl_cmp rfl rfl rfl true (cb_eq_t (a:=n4) (b:=0) rfl rfl (by omega)) (by decide) (ne_ (cw_true rfl (sr (mv 3 rfl (ne_ (cw_ret (eo_thenR (eo_ret [S0,S0,.int .i64 4] rfl ⟨rfl,rfl,rfl,trivial⟩ ?_)))))))))))
 exact⟨_,rfl,rfl,hw1⟩
def rm3 (X Y:Nat):Nat:=if Y=0 then 0 else X%Y
def er3 (Y:Nat):Int:=if Y=0 then 4 else 0
def xt3 (X Y:Nat):Nat:=if X%Y=0 then X/Y else 0
def xe3 (X Y:Nat):Int:=if Y=0 then 4 else if X%Y=0 then 0 else 8
theorem rm3_le {X Y:Nat}:rm3 X Y≤X:=by
 unfold rm3
 split
 ·omega
 ·exact Nat.mod_le _ _
theorem xt3_le {X Y:Nat}:xt3 X Y≤X:=by
 unfold xt3
 split
 ·exact Nat.div_le_self _ _
 ·omega
theorem len_rm3 {X Y N:Nat}(h:(wd X).length≤N):(wd (rm3 X Y)).length≤N:=Nat.le_trans (len_wd_mono rm3_le) h
theorem len_d3 {X Y N:Nat}(h:(wd X).length≤N):(wd (X/Y)).length≤N:=Nat.le_trans (len_wd_mono (Nat.div_le_self _ _)) h
theorem len_xt3 {X Y N:Nat}(h:(wd X).length≤N):(wd (xt3 X Y)).length≤N:=Nat.le_trans (len_wd_mono xt3_le) h
theorem rm3_64 {X v:Nat}(hv:v≤18446744073709551615):rm3 X v≤18446744073709551615:=by
 unfold rm3
 split
 ·omega
 ·have:=Nat.mod_lt X (show v>0 by omega);omega
theorem wr_nil3 {b:Nat}{w:World}:WR b 0 (.slice none 0 0) w:=⟨none,0,0,rfl,rfl,Own.nil _ _ _ _⟩
section
variable {w:World}{A B:Option Addr}{n cap n' cap' X Y b:Nat}(hb:b≤w.heap.size)
include hb
theorem j3_rDivMod (hx:Wi w A n cap X) (hl:n≤68719476735) (hy:Wi w B n' cap' Y) (hl':n'≤68719476735):Calls Try.prog 60 #[.slice A n cap,.slice B n' cap'] w (Gv w (T3 (WR b (X/Y)) (WR b (rm3 X Y)) (Is (.int .i64 (er3 Y))))):=by
 obtain⟨xs,h1,rfl⟩:=hx
 obtain⟨ys,h2,rfl⟩:=hy
 by_cases h0:nv ys=0
 ·refine (ref3_DivMod_bad (xs:=xs) (A:=A) (n:=n) (cap:=cap) h2 (by omega) h0).mono ?_
  rintro e w' ⟨v,rfl,rfl,hx⟩
  refine⟨_,rfl,⟨_,_,_,rfl,?_,?_,?_⟩,hx⟩
  ·rw [h0,Nat.div_zero];exact wr_nil3
  ·unfold rm3;rw [if_pos h0];exact wr_nil3
  ·unfold er3;rw [if_pos h0];rfl
 ·refine (ref3_DivMod_ok h1 (by omega) h2 (by omega) h0).mono (Gv.imp ?_)
  unfold rm3 er3
  rw [if_neg h0,if_neg h0]
  exact T3.imp (WR.imp hb) (WR.imp hb) Is.imp
theorem j3_Word {v:Nat}(hx:Wi w A n cap X) (hl:n≤68719476735) (hv:v≤18446744073709551615):Calls Try.prog 32 #[.slice A n cap,.int .u64 ((v:Nat):Int)] w (Gv w (T3 (WR b (X/v)) (Is (.int .u64 ((rm3 X v:Nat):Int))) (Is (.int .i64 (er3 v))))):=by
 obtain⟨xs,h1,rfl⟩:=hx
 by_cases h0:v=0
 ·subst h0
  refine (divnat_Word_bad (A:=A) (n:=n) (cap:=cap)).mono ?_
  rintro e w' ⟨rfl,rfl⟩
  refine⟨_,rfl,⟨_,_,_,rfl,?_,rfl,rfl⟩,Ext.refl _⟩
  rw [Nat.div_zero];exact wr_nil3
 ·refine (divnat_Word h1 (by omega) h0 hv).mono ?_
  rintro e w' ⟨A,n,c,r',rfl,h1,_,h3,_,h5,hx⟩
  refine⟨_,rfl,⟨_,_,_,rfl,⟨_,_,_,rfl,h3.out,h5.mono hb⟩,?_,?_⟩,hx⟩
  ·unfold rm3;rw [if_neg h0,h1.out];rfl
  ·unfold er3;rw [if_neg h0];rfl
theorem j3_Exact (hx:Wi w A n cap X) (hl:n≤68719476735) (hy:Wi w B n' cap' Y) (hl':n'≤68719476735):Calls Try.prog 66 #[.slice A n cap,.slice B n' cap'] w (Gv w (T2 (WR b (xt3 X Y)) (Is (.int .i64 (xe3 X Y))))):=by
 by_cases h0:Y=0
 ·refine (g_divnat_Exact_bad (i:=X) (A:=A) (n:=n) (cap:=cap) hy (by omega) h0).mono ?_
  rintro e w' ⟨v,rfl,rfl,hx⟩
  refine⟨_,rfl,⟨_,_,rfl,?_,?_⟩,hx⟩
  ·unfold xt3;rw [h0,Nat.div_zero];split <;> exact wr_nil3
  ·unfold xe3;rw [if_pos h0];rfl
 ·by_cases h1:X%Y=0
  ·refine (g_divnat_Exact hb hx (by omega) hy (by omega) h0 h1).mono (Gv.imp ?_)
   unfold xt3 xe3
   rw [if_pos h1,if_neg h0,if_pos h1]
   exact T2.imp (WR.imp (Nat.le_refl _)) Is.imp
  ·refine (g_divnat_Exact_not hx (by omega) hy (by omega) h0 h1).mono ?_
   rintro e w' ⟨v,rfl,rfl,hx⟩
   refine⟨_,rfl,⟨_,_,rfl,?_,?_⟩,hx⟩
   ·unfold xt3;rw [if_neg h1];exact wr_nil3
   ·unfold xe3;rw [if_neg h0,if_neg h1];rfl
end
set_option maxHeartbeats 4000000 in
theorem j3_rWord {w:World}{b:Nat}(hb:b≤w.heap.size){A:Option Addr}{n cap X:Nat}(hx:Wi w A n cap X) (hl:n≤68719476735){v:Nat}(hv:v≤18446744073709551615):
    Calls Try.prog 59 #[.slice A n cap,.int .u64 ((v:Nat):Int)] w (Gv w (T3 (WR b (X/v)) (Is (.int .u64 ((rm3 X v:Nat):Int))) (Is (.int .i64 (er3 v))))):=by
 refine sx_enter Try.func59 rfl (n:=28) rfl (bq rfl) (args:= [.slice A n cap,.int .u64 ((v:Nat):Int)]) (cw_keep [(0,.slice A n cap),(1,.int .u64 ((v:Nat):Int))] ⟨rfl,rfl,trivial⟩ (sr (mv 3 rfl (ne_ (sr (mv 2 rfl (wl_bslice rfl rfl (by decide) (k:=1) (e:=24) [.int .u64 ((v:Nat):Int)] (fun _=>by kernel_rfl) fun g1 v2 nb3=>?_)))))))
 have o4:=O1.mk_ (x:=v) (b:=w.heap.size) nb3 (Ext.refl w).size
 have e5:=nb3.ext
 have hw1:=(Ext.refl w).trans e5
 refine cl (vs:= [.slice A n cap,.slice (some ⟨g1,0,none⟩) 1 1]) hw1 (j3_rDivMod hw1.size (hx.ext hw1) (lx_ hl rfl) (own1_wi o4 hv) (by decide)) rfl (by kernel_rfl) fun xr10 v8 r10 e9 hw2=>?_
 obtain⟨_,_,_,rfl,⟨A12,n12,c12,rfl,j12,o12⟩,⟨A13,n13,c13,rfl,j13,o13⟩,rfl⟩:=r10
 refine mv 1 rfl (pu (v:= .slice A12 n12 c12) rfl (by kernel_rfl) (pu (v:= .slice A13 n13 c13) rfl (by kernel_rfl) (pu (v:= .int .i64 (er3 v)) rfl (by kernel_rfl) (mv 3 rfl (ne_ (cw_seq (cw_seq ?_)))))))
 by_cases hz:n13=0
 · 
  have hr0:rm3 X v=0:=len_wd_zero.1 (by rw [←j13,hz])
  refine cw_region (mv 1 rfl (pu (v:= .int .i64 ((n13:Nat):Int)) rfl (by kernel_rfl) (wl_cmp rfl rfl rfl true (cb_eq_t (a:=n13) (b:=0) rfl rfl (by omega)) (by decide) (ne_ (cw_true rfl (sr (mv 5 rfl (ne_ (cw_ret (eo_thenR (eo_ret [.slice A12 n12 c12,.int .u64 0,.int .i64 (er3 v)] rfl ⟨rfl,rfl,rfl,trivial⟩ ?_)))))))))))
  exact⟨_,rfl,⟨_,_,_,rfl,⟨_,_,_,rfl,j12,o12.mono hb⟩,(by rw [hr0];rfl),rfl⟩,hw2⟩
 · 
  have hrn:rm3 X v≠0:=fun e=>hz (by rw [j13,e];rfl)
  have hv0:v≠0:=fun e=>hrn (by unfold rm3;rw [if_pos e])
  have hwd:wd (rm3 X v)= [rm3 X v]:=wd_small (by have:=rm3_64 (X:=X) hv;rw [WB_def];omega) hrn
  have hrd:=(o13).rd (Wf_wd _)
  have hg:(wd (rm3 X v)).getD 0 0=rm3 X v:=by rw [hwd];rfl
  refine cw_region (mv 1 rfl (pu (v:= .int .i64 ((n13:Nat):Int)) rfl (by kernel_rfl) (wl_cmp rfl rfl rfl false (cb_eq_f (a:=n13) (b:=0) rfl rfl (by omega)) (by decide) (ne_ (cw_false rfl (cw_skip (eo_then (cw_seq (cw_keep [(7,.slice A12 n12 c12),(8,.slice A13 n13 c13),(9,.int .i64 (er3 v))] ⟨rfl,rfl,rfl,trivial⟩ ?_)))))))))
  obtain⟨v14,hv,e15⟩:∃v,v=v8.drew∧Ext v8 v:=⟨_,rfl,(Ext.refl _).drew⟩
  have hw3:=hw2.trans e15
  obtain⟨p16,hp16,hc16,hv16⟩:=((hrd.ext e15)).at (i:=0) (by omega)
  refine cw_det mix (w:=v14) [.slice A12 n12 c12,.slice A13 n13 c13,.pointer (some p16),.int .u64 (((wd (rm3 X v)).getD 0 0:Nat):Int),.int .i64 (er3 v),.slice A12 n12 c12,.int .u64 (((wd (rm3 X v)).getD 0 0:Nat):Int),.int .i64 (er3 v)] [v14] [] [[],[],[1],[2],[],[0],[3],[4]] [[],[],[1],[1,2],[],[0],[0,1,2,3,5],[0,1,2,3,4,5,6]] [(0,0),(1,0),(2,0),(3,0),(4,0),(5,0),(6,0),(7,0)] rfl hv ?_ ?_
  · 
   refine dobs_val _ rfl rfl rfl rfl rfl (rd_move rfl) (dobs_val _ rfl rfl rfl rfl rfl (rd_move rfl) (dobs_val _ rfl rfl rfl rfl rfl (rd_idx rfl rfl un_u64 sz_u64 0 rfl (by omega) p16 hp16) (dobs_val _ rfl rfl rfl rfl rfl (rd_load rfl (load_cell1 ag_u64 hc16)) (dobs_val _ rfl rfl rfl rfl rfl (rd_move rfl) (dobs_val _ rfl rfl rfl rfl rfl (rd_assign rfl) (dobs_val _ rfl rfl rfl rfl rfl (rd_assign rfl) (dobs_val _ rfl rfl rfl rfl rfl (rd_assign rfl) ?_)))))))
   exact dobs_nil
  clear hv
  refine eo_keep [(4,.slice A12 n12 c12),(5,.int .u64 (((wd (rm3 X v)).getD 0 0:Nat):Int)),(6,.int .i64 (er3 v))] ⟨rfl,rfl,rfl,trivial⟩ (eo_then (cw_ret (eo_ret [.slice A12 n12 c12,.int .u64 (((wd (rm3 X v)).getD 0 0:Nat):Int),.int .i64 (er3 v)] rfl ⟨rfl,rfl,rfl,trivial⟩ ?_)))
  exact⟨_,rfl,⟨_,_,_,rfl,⟨_,_,_,rfl,j12,(o12.ext e15).mono hb⟩,(by rw [hg];rfl),rfl⟩,hw3⟩
set_option maxHeartbeats 4000000 in
theorem j3_rExact {w:World}{b:Nat}(hb:b≤w.heap.size){A:Option Addr}{n cap X:Nat}(hx:Wi w A n cap X) (hl:n≤68719476735){B:Option Addr}{n' cap' Y:Nat}(hy:Wi w B n' cap' Y) (hl':n'≤68719476735):
    Calls Try.prog 61 #[.slice A n cap,.slice B n' cap'] w (Gv w (T2 (WR b (xt3 X Y)) (Is (.int .i64 (xe3 X Y))))):=by
 refine sx_enter Try.func61 rfl (n:=23) rfl (bq rfl) (args:= [.slice A n cap,.slice B n' cap']) (cw_keep [(0,.slice A n cap),(1,.slice B n' cap')] ⟨rfl,rfl,trivial⟩ (sr (mv 2 rfl (ne_ (sr (mv 2 rfl (cl (vs:= [.slice A n cap,.slice B n' cap']) (Ext.refl w) (j3_rDivMod (Ext.refl w).size hx (lx_ hl rfl) hy (Nat.le_trans hl' (by decide))) rfl (by kernel_rfl) fun xr3 v1 r3 e2 hw1=>?_)))))))
 obtain⟨_,_,_,rfl,⟨A5,n5,c5,rfl,j5,o5⟩,⟨A6,n6,c6,rfl,j6,o6⟩,rfl⟩:=r3
 refine mv 1 rfl (pu (v:= .slice A5 n5 c5) rfl (by kernel_rfl) (pu (v:= .slice A6 n6 c6) rfl (by kernel_rfl) (pu (v:= .int .i64 (er3 Y)) rfl (by kernel_rfl) (mv 3 rfl (ne_ (cw_seq (cw_seq ?_)))))))
 by_cases h0:Y=0
 · 
  refine cw_region (mv 1 rfl (wl_cmp rfl rfl rfl true (ne_t (by unfold er3;rw [if_pos h0];decide)) (by decide) (ne_ (cw_true rfl (sr (mv 3 rfl (ne_ (cw_ret (eo_thenR (eo_ret [S0,.int .i64 (er3 Y)] rfl ⟨rfl,rfl,trivial⟩ ?_))))))))))
  exact⟨_,rfl,⟨_,_,rfl,(by unfold xt3;rw [h0,Nat.div_zero];split <;> exact wr_nil3),(by unfold xe3 er3;rw [if_pos h0,if_pos h0];rfl)⟩,hw1⟩
 · 
  have he:rm3 X Y=X%Y:=by unfold rm3;rw [if_neg h0]
  by_cases h1:X%Y=0
  · 
   have hz:n6=0:=by rw [j6,he,h1];rfl
   refine cw_region (mv 1 rfl (wl_cmp rfl rfl rfl false (ne_f (by unfold er3;rw [if_neg h0])) (by decide) (ne_ (cw_false rfl (cw_skip (eo_then (cw_seq (sr (mv 1 rfl (pu (v:= .int .i64 ((n6:Nat):Int)) rfl (by kernel_rfl) (wl_cmp rfl rfl rfl false (cb_gt_f (a:=n6) (b:=0) rfl rfl (by omega)) (by decide) (ne_ (cw_false rfl ?_)))))))))))))
   refine cw_skip (eo_then (sr (mv 3 rfl (ne_ (cw_ret (eo_ret [.slice A5 n5 c5,I0] rfl ⟨rfl,rfl,trivial⟩ ?_))))))
   exact⟨_,rfl,⟨_,_,rfl,(by unfold xt3;rw [if_pos h1];exact⟨_,_,_,rfl,j5,o5.mono hb⟩),(by unfold xe3;rw [if_neg h0,if_pos h1];rfl)⟩,hw1⟩
  · 
   have hz:n6≠0:=fun e=>h1 (by rw [←he];exact len_wd_zero.1 (by rw [←j6,e]))
   refine cw_region (mv 1 rfl (wl_cmp rfl rfl rfl false (ne_f (by unfold er3;rw [if_neg h0])) (by decide) (ne_ (cw_false rfl (cw_skip (eo_then (cw_seq (sr (mv 1 rfl (pu (v:= .int .i64 ((n6:Nat):Int)) rfl (by kernel_rfl) (wl_cmp rfl rfl rfl true (cb_gt_t (a:=n6) (b:=0) rfl rfl (by omega)) (by decide) (ne_ (cw_true rfl ?_)))))))))))))
   refine sr (mv 2 rfl (ne_ (cw_ret (eo_thenR (eo_ret [S0,.int .i64 8] rfl ⟨rfl,rfl,trivial⟩ ?_)))))
   exact⟨_,rfl,⟨_,_,rfl,(by unfold xt3;rw [if_neg h1];exact wr_nil3),(by unfold xe3;rw [if_neg h0,if_neg h1];rfl)⟩,hw1⟩
end Go.Proofs.Ytgilhcdglaneiaa
