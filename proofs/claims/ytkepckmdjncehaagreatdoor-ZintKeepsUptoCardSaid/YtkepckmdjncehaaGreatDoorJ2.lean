/- Parts Long, LongB, DivC, Int, Same, Sxz, Sxl, Sxw, IntB, IntC, IntD, IntE, Pop, Small, Power, Zg, Sxb, Ab, Upto, Stays, Zs, UptoZ, App, Sxk, Sxf, Rx, Bo, Rxa, Zh, Bz, Li, Rxb, Rxc, joined. -/
import Derived.Test.YtkepckmdjncehaaGreatDoorJ1
import Derived.IntWalk
import Derived.KernelRfl
import Derived.Test.YtkepckmdjncehaaGreatDoorRows
import Derived.WalkKit
import Derived.ProofKit
import Derived.OpenShut
import Derived.JoinedCond
import Derived.ChangeSame
import Derived.ChangeSlices
import Derived.ChangeStays
import Derived.Deep.Slices
import Derived.DataShut
import Derived.ArgAppend
import Derived.WalkSmall
import Derived.Laws.BytesString
import Derived.Laws.Concat

open Go renaming Addr → a8, BinOp → j8, Calls → aQ, Edge → fD, Ending → dR, Exit → dH, IntKind → iL, Next → fU, Oper → bB, Operand → cG, Program → bV, TypeId → aV, Value → aD, World → a0, bodyPost_ret → iV, run_underlying → kK
open Go.Addr renaming add → lR
open Array renaming getElem?_eq_some_iff → mI, replicate → oL
open BitVec renaming ofInt → lQ, toNat_and → CN
open Bool renaming and_eq_true → dW, false_eq_true → CM, or_eq_true → kM
open Go.Builtin renaming append_ → lP
open Go.Instr renaming makeSlice → oK
open Int renaming natCast_mul → l5, toNat_natCast → gX
open Go.IntKind renaming bits → q6, signed → pZ, wrap → uB
open List renaming all_eq_true → eK, append_nil → pW, cons_append → u6, contains_iff_mem → jO, drop_eq_getElem_cons → mH, drop_zero → gQ, getD_eq_getElem?_getD → bE, getElem?_drop → oJ, getElem?_eq_getElem → bR, getElem?_eq_some_iff → fS, getElem?_map → iK, getElem?_take → iW, getElem_mem → lO, length_append → eN, length_cons → gD, length_drop → gS, length_take → dE, map_cons → iJ, map_nil → j7, map_toArray → mG, mem_map → lN, mem_range → gF, range → fI, replicate → cJ, size_toArray → xX
open Nat renaming add_mul → dO, add_sub_cancel → pU, add_zero → eS, beq → nE, div_add_mod → lM, div_eq_of_lt → gV, div_le_self → eR, div_lt_self → jM, eq_of_beq_eq_true → pT, eq_zero_or_pos → kC, le_of_not_lt → oH, le_refl → aX, le_trans → aE, lt_mul_div_succ → tX, lt_of_le_of_lt → jL, lt_of_lt_of_le → cS, lt_of_not_le → nD, lt_or_ge → gP, min_eq_left → g7, mod_add_div → jF, mod_eq_of_lt → fO, mod_lt → fV, mul_add → cZ, mul_add_div → nC, mul_assoc → bY, mul_comm → cY, mul_le_mul → j3, mul_le_mul_left → fN, mul_le_mul_right → eC, mul_lt_mul_of_pos_right → pS, mul_one → dK, mul_pos → iI, mul_right_comm → pR, mul_zero → gJ, pow_add → dX, pow_le_pow_right → eW, pow_pos → gC, pow_succ → dJ, sub_add_cancel → iH, succ_mul → nA, two_pow_pos → mC, zero_add → eQ, zero_le → bJ
open Ne renaming symm → mB
open Go.Next renaming value → gE
open Go.Oper renaming upon → kL
open Option.some renaming inj → iG, injEq → eH
open Or renaming inl → cD, inr → bT
open Go.Region renaming binds → gU, wanted → oE
open Go.Result renaming andThen_ok → eG
open Go.Sem renaming run_bind → cA, run_pure → g0
open Go.Proofs.Tryz renaming prog → aH
open Go.Value renaming int → d8, slice → oD
open Go.World renaming block_lt_of_cell? → pO, setCell → rU
namespace Go.Proofs.YtkepckmdjncehaaGreatDoor
set_option maxRecDepth 20000
set_option maxHeartbeats 8000000
variable {A A' Aa Ab B C OA PA:Option a8}{D K L N U0 V a ac an b b' base bytes c ca cap cap' cb d fuel g g' gp hi i id j k lb m n n' na oc off on pn q s' unit width x3 x4 x5 x6:Nat}{H:Type}{P:bV}{T T' e t t' t'' ty:aV}{W W' w w' w0 wt wt':a0}{acc bs ds l l1 l2 ms ql r st xs ys:List Nat}{af:Array fD}{args cs l' tmps:Array aD}{dss rl:List (List Nat)}{dst:Option Tmp}{er x y z:Int}{f:FuncId}{fn:Func}{fr:Nat×Nat}{gd:Option (Nat×Bool)}{hi' lo':Option cG}{high low:Option aD}{listed:Array Bool}{news us vs:List aD}{o:j8}{ol rest:List bB}{op:Op}{ops:Array bB}{p:a8}{pa pv:List MemPlace}{pos:String}{ps:List (Nat×Nat)}{s sa sb:Bool}{ts:Array aV}{u v:aD}{zs:List Int}
section
open Go.RowKit
def X8 (w:a0)(q r:Nat)(e:dR)(w':a0):Prop:=
 ∃A n cap B m cap',e= .returned (.tuple #[i9 A n cap,i9 B m cap'])∧Hid (n=(wd q).length)∧Rd w' A n cap (wd q)∧Own w' w.heap.size 65 1 A n cap ((wd q).map bC)∧
  Hid (m=(wd r).length)∧Rd w' B m cap' (wd r)∧Own w' w.heap.size 65 1 B m cap' ((wd r).map bC)∧Ext w w'∧∀p p',A=some p→B=some p'→p.block≠p'.block
theorem SM {U M Uh Vh:Nat}(hM:0<M)(hUh:Uh=U/M)(hVh:Vh=V/M)(hbig:WB≤Vh)(hd:d<WB)(h1:d*Vh≤Uh)(h2:d=18446744073709551615∨Uh<(d+1)*Vh)(hU:U<V*WB):U/V≤d∧d≤U/V+1:=by
 have H:0<V:=by
  rcases kC V with h | h
  ·rw [h,Nat.zero_mul] at hU;omega
  ·exact h
 constructor
 ·rcases h2 with h | h
  ·have:U/V<WB:=Nat.div_lt_of_lt_mul hU
   rw [cC] at this
   omega
  ·have D:U/V*Vh≤Uh:=by
    rw [hUh,Nat.le_div_iff_mul_le hM]
    have o:Vh*M≤V:=by rw [hVh];exact Nat.div_mul_le_self _ _
    have p:=fN (U/V) o
    have r:=Nat.div_mul_le_self U V
    rw [←bY] at p
    omega
   have q:U/V*Vh<(d+1)*Vh:=by omega
   have:=Nat.lt_of_mul_lt_mul_right q
   omega
 ·refine oH (fun f=>?_)
  have D:d*Vh*M≤U:=by
   have:=eC M h1
   have o:Uh*M≤U:=by rw [hUh];exact Nat.div_mul_le_self _ _
   omega
  have o:V<(Vh+1)*M:=by rw [hVh,cY];exact tX V hM
  have p:U<(U/V+1)*V:=by rw [cY];exact tX U H
  have r:(U/V+1)*V≤(d-1)*V:=eC V (by omega)
  have q:(d-1)*V≤(d-1)*((Vh+1)*M):=fN _ (Nat.le_of_lt o)
  have E:d*Vh*M<(d-1)*(Vh+1)*M:=by
   rw [bY (d-1)]
   exact jL D (cS p (aE r q))
  have F:=Nat.lt_of_mul_lt_mul_right E
  have I:0<d:=jL (bJ _) f
  clear f D o p r q E
  obtain⟨d,rfl⟩:∃e,d=e+1:=⟨d-1,by omega⟩
  rw [pU,nA,cZ,dK] at F
  omega
theorem RB {L1:Nat}(hD:0<D)(hd1:L/D≤d)(hd2:d≤L/D+1)(_hK:L<K)(hL1:L1<K)(h:L1+d*D=L+K*c)(hc:c≤1):(c=0→d=L/D∧L1=L%D)∧(c=1→d=L/D+1∧∀L2 c2,c2≤1→L2<K→L2+K*c2=L1+D→L2=L%D):=by
 have F:=lM L D
 have E:=fV L hD
 generalize L/D=q at*
 generalize L%D=r at*
 have e:d=q∨d=q+1:=by omega
 have p:d*D=D*q∨d*D=D*q+D∧d=q+1:=by
  rcases e with rfl | rfl
  ·left;exact cY _ _
  ·right;exact⟨by rw [nA,cY],rfl⟩
 have o:d*D=D*q+D∨d*D=D*q∧d=q:=by
  rcases e with rfl | rfl
  ·right;exact⟨cY _ _,rfl⟩
  ·left;rw [nA,cY]
 generalize d*D=a at*
 generalize D*q=b at*
 constructor
 ·rintro rfl
  rw [gJ,eS] at h
  rcases o with o | ⟨o,f⟩
  ·omega
  ·exact⟨f,by omega⟩
 ·rintro rfl
  rw [dK] at h
  rcases p with p | ⟨p,f⟩
  ·omega
  ·refine⟨f,fun L2 c2 _ _ h2=>?_⟩
   rcases (show c2=0∨c2=1 by omega) with rfl | rfl <;> omega
structure Lg (V U0 k:Nat)(l ql:List Nat):Prop where
 eq:U0=WB^k*nv (ql.drop k)*V+nv l
 lt:nv l<V*WB^k
theorem Lg.step (h:Lg V U0 (j+1) l ql)(hj:j<ql.length)(hV:0<V)(hq:q=nv l/(WB^j*V))(hl2:nv l2=nv l%(WB^j*V)):Lg V U0 j l2 (ql.set j q):=by
 have o:0<WB^j*V:=iI (gC gA) hV
 have f:(ql.set j q).drop j=q::ql.drop (j+1):=by
  rw [mH (by rw [List.length_set];exact hj)]
  congr 1
  ·simp
  ·rw [List.drop_set_of_lt (by omega)]
 refine⟨?_,?_⟩
 ·have e:=lM (nv l) (WB^j*V)
  rw [←hq,←hl2] at e
  rw [h.eq,f,mS,cZ,dO,dJ,bY (WB^j) WB,←e]
  have p:WB^j*q*V=WB^j*V*q:=pR _ _ _
  omega
 ·rw [hl2,cY V];exact fV _ o
theorem MD (hn:2≤n)(hl:j+n+1≤l.length)(hw:Wf l)(hlt:nv l<WB^(j+n+1)):nv l/WB^(j+n-2)=(l.getD (j+n) 0*WB+l.getD (j+n-1) 0)*WB+l.getD (j+n-2) 0:=by
 obtain⟨m,rfl⟩:∃m,n=m+2:=⟨n-2,by omega⟩
 have f:=mR l (j+(m+2)+1) hl
 have e:nv l=nv (l.take (j+(m+2)+1)):=by
  rcases kC (nv (l.drop (j+(m+2)+1))) with h | h
  ·rw [h,gJ,eS] at f;exact f
  ·have:=Nat.le_mul_of_pos_right (WB^(j+(m+2)+1)) h
   omega
 have r:=eL l (j+(m+2)) (by omega)
 have o:=eL l (j+m+1) (by omega)
 have F:=eL l (j+m) (by omega)
 rw [show j+m+1+1=j+(m+2) from by omega] at o
 rw [show j+(m+2)-2=j+m from by omega,show j+(m+2)-1=j+m+1 from by omega,e,r,o,F]
 have E:=kR hw (j+m)
 rw [show WB^(j+(m+2))=WB^(j+m)*(WB*WB) from by rw [show j+(m+2)=j+m+1+1 from by omega,dJ,dJ,bY],show WB^(j+m+1)=WB^(j+m)*WB from dJ _ _]
 generalize l.getD (j+(m+2)) 0=u2
 generalize l.getD (j+m+1) 0=u1
 generalize l.getD (j+m) 0=u0
 have D:nv (l.take (j+m))+WB^(j+m)*u0+WB^(j+m)*WB*u1+WB^(j+m)*(WB*WB)*u2=WB^(j+m)*((u2*WB+u1)*WB+u0)+nv (l.take (j+m)):=by
  have q:WB^(j+m)*WB*u1=WB^(j+m)*(u1*WB):=by rw [bY,cY WB u1]
  have p:WB^(j+m)*(WB*WB)*u2=WB^(j+m)*(u2*WB*WB):=by rw [bY,cY (WB*WB),←bY u2]
  rw [q,p,dO,cZ,cZ]
  omega
 rw [D,nC (gC gA),gV E,eS]
theorem MC (hn:2≤n)(hl:l.length=n)(hw:Wf l):nv l/WB^(n-2)=l.getD (n-1) 0*WB+l.getD (n-2) 0:=by
 obtain⟨m,rfl⟩:∃m,n=m+2:=⟨n-2,by omega⟩
 have e:nv l=nv (l.take (m+1+1)):=by rw [List.take_of_length_le (by omega)]
 have h:=eL l (m+1) (by omega)
 have f:=eL l m (by omega)
 have p:=kR hw m
 rw [show m+2-2=m from rfl,show m+2-1=m+1 from rfl,e,h,f,dJ]
 generalize l.getD (m+1) 0=u1
 generalize l.getD m 0=u0
 have o:nv (l.take m)+WB^m*u0+WB^m*WB*u1=WB^m*(u1*WB+u0)+nv (l.take m):=by
  rw [bY,cY WB u1,cZ];omega
 rw [o,nC (gC gA),gV p,eS]
theorem R9 {vs:List Nat}(h:Lg V U0 (j+1) l ql)(hn:2≤n)(hl:j+n+1≤l.length)(hw:Wf l)(hvl:vs.length=n)(hvw:Wf vs)(hV:nv vs=V)(hv1:0<vs.getD (n-1) 0):nv l<WB^(j+n+1)∧l.getD (j+n) 0≤vs.getD (n-1) 0∧(d≤18446744073709551615→d*(vs.getD (n-1) 0*WB+vs.getD (n-2) 0)≤(l.getD (j+n) 0*WB+l.getD (j+n-1) 0)*WB+l.getD (j+n-2) 0→
   (d=18446744073709551615∨(l.getD (j+n) 0*WB+l.getD (j+n-1) 0)*WB+l.getD (j+n-2) 0<(d+1)*(vs.getD (n-1) 0*WB+vs.getD (n-2) 0))→nv l/(WB^j*V)≤d∧d≤nv l/(WB^j*V)+1):=by
 have f:V<WB^n:=by rw [←hV,←hvl];exact iY hvw
 have e:nv l<WB^(j+n+1):=by
  have h1:=h.lt
  have h2:V*WB^(j+1)≤WB^n*WB^(j+1):=eC _ (Nat.le_of_lt f)
  rw [←dX,show n+(j+1)=j+n+1 from by omega] at h2
  omega
 have t3:=MD hn hl hw e
 have t2:=MC hn hvl hvw
 rw [hV] at t2
 refine⟨e,?_,?_⟩
 ·have h1:WB^(j+n)*l.getD (j+n) 0≤nv l:=by
   have D:=mR l (j+n+1) hl
   have o:=eL l (j+n) (by omega)
   omega
  have h2:V<WB^(n-1)*(vs.getD (n-1) 0+1):=by
   have o:=eL vs (n-1) (by omega)
   rw [iH (by omega),List.take_of_length_le (by omega),hV] at o
   have E:=kR hvw (n-1)
   rw [o,cZ,dK]
   omega
  have q:V*WB^(j+1)<WB^(n-1)*(vs.getD (n-1) 0+1)*WB^(j+1):=pS h2 (gC gA)
  rw [pR,←dX,show n-1+(j+1)=j+n from by omega] at q
  have F:=h.lt
  have r:WB^(j+n)*l.getD (j+n) 0<WB^(j+n)*(vs.getD (n-1) 0+1):=by omega
  have:=Nat.lt_of_mul_lt_mul_left r
  omega
 ·intro _ h1 h2
  rw [←t3] at h1 h2
  rw [←t2] at h1 h2
  have p:V/WB^(n-2)=(WB^j*V)/WB^(j+n-2):=by
   rw [show j+n-2=j+(n-2) from by omega,dX,Nat.mul_div_mul_left _ _ (gC gA)]
  refine SM (M:=WB^(j+n-2)) (gC gA) G p ?_ (by rw [cC];omega) h1 h2 ?_
  ·rw [t2]
   have:=Nat.le_mul_of_pos_left WB hv1
   omega
  ·have:=h.lt
   rw [dJ,←bY,cY V] at this
   exact this
theorem RA {X Y s Q:Nat}(hY:0<Y)(h:X*2^s=Q*(Y*2^s)+L)(hL:L<Y*2^s):Q=X/Y∧L/2^s=X%Y:=by
 have e:=mC s
 have h1:X*2^s/(Y*2^s)=Q:=by rw [h,cY Q,nC (iI hY e),gV hL,eS]
 have h2:X*2^s%(Y*2^s)=L:=by rw [h,cY Q,Nat.mul_add_mod,fO hL]
 rw [Nat.mul_div_mul_right _ _ e] at h1
 rw [Nat.mul_mod_mul_right] at h2
 exact⟨h1.symm,by rw [←h2,Nat.mul_div_cancel _ e]⟩
theorem R8 {s y:Nat}(hx:Wf xs)(hy:Wf ys)(hxl:xs.length=N)(hyl:ys.length=n)(hn:1≤n)(hnN:n≤N)(hyk:ys.getD (n-1) 0=y)(hy0:y≠0)(hyb:y≤18446744073709551615)(hs:s+dQ y=64):s<64∧nv ys*2^s<WB^n∧nv xs*2^s<WB^(N+1)∧0<nv ys*2^s∧WB^(n-1)≤nv ys*2^s∧nv xs*2^s<nv ys*2^s*WB^(N+1-n):=by
 have hb:dQ y≠0:=fun h=>hy0 (pH.1 h)
 have e:=mC s
 have r:=eL ys (n-1) (by omega)
 rw [iH hn,List.take_of_length_le (by omega),hyk] at r
 have h1:=kR hy (n-1)
 have h2:WB^(n-1)≤nv ys:=by
  have:=Nat.le_mul_of_pos_right (WB^(n-1)) (show 0<y by omega)
  omega
 have F:nv ys≤nv ys*2^s:=Nat.le_mul_of_pos_right _ e
 have E:=qZ y
 have p:=iY hx
 rw [hxl] at p
 have D:=gC (n:=n-1) gA
 refine⟨by omega,?_,?_,by omega,by omega,?_⟩
 ·have f:nv ys<WB^(n-1)*(y+1):=by rw [cZ,dK];omega
  have q:WB^(n-1)*(y+1)≤WB^(n-1)*2^dQ y:=fN _ E
  have o:nv ys*2^s<WB^(n-1)*2^dQ y*2^s:=pS (by omega) e
  rw [bY,←dX,Nat.add_comm (dQ y),hs,←mY,←dJ,Nat.succ_eq_add_one,iH hn] at o
  exact o
 ·rw [dJ]
  have f:2^s≤WB:=by rw [mY];exact eW (by omega) (by omega)
  have q:=pS p e
  have o:=fN (WB^N) f
  omega
 ·have f:WB^N≤nv ys*WB^(N+1-n):=by
   have:=eC (WB^(N+1-n)) h2
   rw [←dX,show n-1+(N+1-n)=N from by omega] at this
   exact this
  rw [pR]
  exact pS (by omega) e
theorem SK {u2 u1 u0 v1 v0:Nat}(h2:u2≤v1)(h1:u1≤18446744073709551615)(h0:u0≤18446744073709551615)(hv1:v1≤18446744073709551615)(hv0:v0≤18446744073709551615)(hpos:0<v1)(k1:D≤18446744073709551615)(k2:D*(v1*WB+v0)≤(u2*WB+u1)*WB+u0)(k3:D=18446744073709551615∨(u2*WB+u1)*WB+u0<(D+1)*(v1*WB+v0))(w:a0)(n:Nat):aQ aH 267 #[i5 (u2:Int),i5 (u1:Int),i5 (u0:Int),i5 (v1:Int),i5 (v0:Int)] (w.drewN n) (fun e w''=>e= .returned (i5 (D:Int))∧∃m,w''=w.drewN m):=by
 refine Calls.quiet_of ((VB h2 h1 h0 hv1 hv0 hpos (w.drewN n)).mono ?_)
 rintro e w' ⟨d,rfl,a,b,c,m,rfl⟩
 rw [SL a b.out c.out k1 k2 k3]
 exact⟨rfl,m,rfl⟩
theorem GC (hl:K≤l.length)(hl1:K≤l1.length)(hw:Wf l1)(hd:l1.drop K=l.drop K)(h:nv l<WB^K):nv l1<WB^K:=by
 have f:=mR l K hl
 have e:=mR l1 K hl1
 have o:=kR hw K
 rw [hd] at e
 rcases kC (nv (l.drop K)) with h0 | h0
 ·rw [h0,gJ] at e;omega
 ·have:=Nat.le_mul_of_pos_right (WB^K) h0
  omega
theorem VA (hx:Rd w A N cap xs)(hN:N≤274877906944)(hy:Rd w B n cap' ys)(hn:2≤n)(hnN:n≤N)(htop:ys.getD (n-1) 0≠0):aQ aH 236 #[i9 A N cap,i9 B n cap'] w (X8 w (nv xs/nv ys) (nv xs%nv ys)):=by
 obtain⟨b,y,rfl,hyk,hyb,hcy⟩:=hy.get (i:=n-1) (by omega)
 have hlx:=Lib.hid hx.len
 have hly:=Lib.hid hy.len
 have hyp:(0:Int)<(n:Int):=by omega
 go_enter Tryz.func236,Tryz.ntmps236
 go_wp2_with fail
 refine (bits_LeadingZeros64 y hyb _).mono ?_
 rintro e w' ⟨s,hs,hs64',rfl,rfl⟩
 have hstart:=R8 hx.wf hy.wf hlx.out hly.out (by omega) hnN hyk.out (by rw [←hyk.out];exact htop) hyb hs.out
 obtain⟨hs64,hVfit,hUfit,hVpos,hVlow,hUV⟩:=hstart
 have HVfit:=Lib.hid hVfit
 have HUfit:=Lib.hid hUfit
 have HVpos:=Lib.hid hVpos
 have HVlow:=Lib.hid hVlow
 have HUV:=Lib.hid hUV
 clear hVfit hUfit hVpos hVlow hUV htop
 go_wp2_with fail
 refine (J1 hy (by omega) hs64 (by omega) (aX _) HVfit.out).mono ?_
 rintro e w1 ⟨gv,vs,rfl,hgv,hbv,hwv,hlv,hvv,hx1⟩
 go_wp2_with fail
 refine (J1 (n:=N+1) (hx.ext hx1) (by omega) hs64 (by omega) (by omega) HUfit.out).mono ?_
 rintro e w2 ⟨gu,us,rfl,hgu,hbu,hwu,hlu,hvu,hx2⟩
 obtain⟨M,hM1,hM2⟩:∃M,M+n≤N+1∧N+1≤M+n:=⟨N+1-n,by omega,by omega⟩
 have hmk:=kF (P:=aH) Tryz.underlying22 iB G (by decide) ((N:Int)-(n:Int)+1) (by omega) (by omega)
 have et:((N:Int)-(n:Int)+1).toNat=M:=by omega
 rw [et] at hmk
 clear et
 go_wp2_with fail
 clear hmk
 have hbv2:=hbv.ext hx2
 have hguv:gv<gu:=cS hbv.lt hgu
 obtain⟨gq,hgq⟩:∃gq,w2.heap.size=gq:=⟨_,rfl⟩
 rw [hgq]
 have hguq:gu<gq:=by rw [←hgq];exact hbu.lt
 obtain⟨wa,hwa⟩:∃wa,w2.alloc (.cells (zc (.int .u64 0) M) 65)=wa:=⟨_,rfl⟩
 rw [hwa]
 have hbq:Bk wa gq 65 ((cJ M 0).map bC):=by
  rw [←hwa,←hgq,←jY];exact Bk.new' _ _ _
 have hea:Ext w2 wa:=by rw [←hwa];exact (Ext.refl w2).alloc _
 have hgw:w.heap.size≤gv:=hgv
 have hgw2:w.heap.size≤gu:=by omega
 have hgw3:w.heap.size≤gq:=by omega
 have hbva:=hbv2.ext hea
 have hbua:=hbu.ext hea
 have hexa:Ext w wa:=(hx1.trans hx2).trans hea
 clear hgq hwa hbv hbu hbv2 hea hcy
 have hL0:Hid (Lg (nv ys*2^s) (nv xs*2^s) M us (cJ M 0)):=by
  refine⟨?_,?_⟩
  ·rw [List.drop_of_length_le (by rw [List.length_replicate];exact aX _),hvu.out];simp [nv]
  ·rw [hvu.out,show M=N+1-n from by omega];exact HUV.out
 have hv1:Hid (0<vs.getD (n-1) 0):=by
  refine Nat.pos_of_ne_zero (fun h0=>?_)
  have e1:=oY vs (n-1) (by rw [hlv.out];omega) h0
  rw [iH (by omega),List.take_of_length_le (by rw [hlv.out];exact aX _),hvv.out] at e1
  have e2:=kR hwv (n-1)
  have:=HVlow.out
  omega
 go_loopw [11] (fun u wr=>∃(k:Nat) (l ql:List Nat),k≤M∧u= a9 ((k:Int)-1)∧Hid (l.length=N+1)∧Wf l∧Hid (ql.length=M)∧Wf ql∧Bk wr gv 65 (vs.map bC)∧Bk wr gu 65 (l.map bC)∧Bk wr gq 65 (ql.map bC)∧
  Hid (Lg (nv ys*2^s) (nv xs*2^s) k l ql)∧Ext w wr) (fun u wr=>(intOf u+1).toNat)
 case atStart=>exact⟨M,us,_,aX _,fP,hlu,hwu,List.length_replicate,mW _,hbva,hbua,hbq,hL0,hexa⟩
 case round=>
  obtain⟨k,l,ql,hk,rfl,hll,hwl,hlq,hwq,hbv,hbu,hbq',hL,hr⟩:=hrel
  clear hbva hbua hbq hexa hL0 hlu hvu
  by_cases hk0:0<k
  ·obtain⟨j,rfl⟩:∃j,k=j+1:=⟨k-1,by omega⟩
   have ek:((j+1:Nat):Int)-1=(j:Int):=by omega
   rw [ek]
   obtain⟨u2,hu2k,hu2b,hcu2⟩:=hbu.word hwl (i:=j+n) (by rw [hll.out];omega)
   obtain⟨u1,hu1k,hu1b,hcu1⟩:=hbu.word hwl (i:=j+n-1) (by rw [hll.out];omega)
   obtain⟨u0,hu0k,hu0b,hcu0⟩:=hbu.word hwl (i:=j+n-2) (by rw [hll.out];omega)
   obtain⟨v1,hv1k,hv1b,hcv1⟩:=hbv.word hwv (i:=n-1) (by rw [hlv.out];omega)
   obtain⟨v0,hv0k,hv0b,hcv0⟩:=hbv.word hwv (i:=n-2) (by rw [hlv.out];omega)
   have hgs:=fun d=>R9 (d:=d) hL.out hn (by rw [hll.out];omega) hwl hlv.out hwv hvv.out hv1.out
   rw [hu2k.out,hu1k.out,hu0k.out,hv1k.out,hv0k.out] at hgs
   have hu2v:u2≤v1:=(hgs 0).2.1
   have hv1p:0<v1:=by rw [←hv1k.out];exact hv1.out
   have HGS:=Lib.hid hgs
   clear hgs
   have hfin:∀(q:Nat) (l2:List Nat) (wr2:a0),q=nv l/(WB^j*(nv ys*2^s))→nv l2=nv l%(WB^j*(nv ys*2^s))→q≤18446744073709551615→l2.length=N+1→Wf l2→Bk wr2 gv 65 (vs.map bC)→Bk wr2 gu 65 (l2.map bC)→Bk wr2 gq 65 ((ql.set j q).map bC)→Ext w wr2→
     ∃(k:Nat) (l ql:List Nat),k≤M∧d8 .i64 ((j:Int)-1)= a9 ((k:Int)-1)∧Hid (l.length=N+1)∧Wf l∧Hid (ql.length=M)∧Wf ql∧Bk wr2 gv 65 (vs.map bC)∧Bk wr2 gu 65 (l.map bC)∧Bk wr2 gq 65 (ql.map bC)∧
      Hid (Lg (nv ys*2^s) (nv xs*2^s) k l ql)∧Ext w wr2:=by
    intro q l2 wr2 h1 h2 h3 h4 h5 h6 h7 h8 h9
    exact⟨j,l2,ql.set j q,by omega,rfl,h4,h5,(show _=_ by rw [List.length_set];exact hlq.out),gO hwq j (by rw [cC];omega),h6,h7,h8,hL.out.step (by rw [hlq.out];omega) HVpos.out h1 h2,h9⟩
   have FIN:=Lib.hid hfin
   clear hfin
   go_upto_region 9 with (fail)
   obtain⟨d,hdb,hd1,hd2⟩:=SN ((u2*WB+u1)*WB+u0) (v1*WB+v0) (by rw [cC];omega)
   have hdd:=Lib.hid ((HGS.out d).2.2 hdb hd1 hd2)
   have HLT:=Lib.hid (HGS.out d).1
   have HD1:=Lib.hid hd1
   have HD2:=Lib.hid hd2
   clear hd1 hd2 HGS
   have w1e:IntKind.i64.wrap ((j:Int)+(n:Int))=(j:Int)+(n:Int):=IntWalk.i64_in _ (by omega)
   have w2e:IntKind.i64.wrap ((j:Int)+(n:Int)-1)=(j:Int)+(n:Int)-1:=IntWalk.i64_in _ (by omega)
   have w3e:IntKind.i64.wrap ((j:Int)+(n:Int)-2)=(j:Int)+(n:Int)-2:=IntWalk.i64_in _ (by omega)
   have w4e:IntKind.i64.wrap ((n:Int)-1)=(n:Int)-1:=IntWalk.i64_in _ (by omega)
   have w5e:IntKind.i64.wrap ((n:Int)-2)=(n:Int)-2:=IntWalk.i64_in _ (by omega)
   have t1:((j:Int)+(n:Int)).toNat=j+n:=by omega
   have t2:((j:Int)+(n:Int)-1).toNat=j+n-1:=by omega
   have t3:((j:Int)+(n:Int)-2).toNat=j+n-2:=by omega
   have t4:((n:Int)-1).toNat=n-1:=by omega
   have t5:((n:Int)-2).toNat=n-2:=by omega
   have b1:0≤(j:Int)+(n:Int):=by omega
   have b2:0≤(j:Int)+(n:Int)-1:=by omega
   have b3:0≤(j:Int)+(n:Int)-2:=by omega
   have b4:0≤(n:Int)-1:=by omega
   have b5:0≤(n:Int)-2:=by omega
   have c1:(j:Int)+(n:Int)<(N:Int)+1:=by omega
   have c2:(j:Int)+(n:Int)-1<(N:Int)+1:=by omega
   have c3:(j:Int)+(n:Int)-2<(N:Int)+1:=by omega
   have c4:(n:Int)-1<(n:Int):=by omega
   have c5:(n:Int)-2<(n:Int):=by omega
   go_quiet (exact SK hu2v hu1b hu0b hv1b hv0b hv1p hdb HD1.out HD2.out _ _)
   clear w1e w2e w3e w4e w5e t1 t2 t3 t4 t5 b1 b2 b3 b4 b5 c1 c2 c3 c4 c5
   obtain⟨wd,hwd⟩:∃wd,wr.drewN nq=wd:=⟨_,rfl⟩
   rw [hwd]
   have hbu1:Bk wd gu 65 (l.map bC):=by rw [←hwd];exact hbu.drewN nq
   have hbv1:Bk wd gv 65 (vs.map bC):=by rw [←hwd];exact hbv.drewN nq
   have hbq1:Bk wd gq 65 (ql.map bC):=by rw [←hwd];exact hbq'.drewN nq
   have hr1:Ext w wd:=by rw [←hwd];exact hr.drewN nq
   clear hwd hcu2 hcu1 hcu0 hcv1 hcv0
   have hvrd:=hbv1.rd hwv (o:=0) (n:=n) (cap:=n) (aX _) (by rw [hlv.out];omega) (by rw [eA];omega)
   rw [gQ,List.take_of_length_le (by rw [hlv.out];exact aX _)] at hvrd
   go_wp2_with fail
   rw [show j+n+1-j=n+1 from by omega]
   refine (V9 (o:=j) (m:=n) hbu1 hwl hvrd (fun a ha=>by cases ha;show gv≠gu;omega) (by rw [hll.out];omega) (by omega) (by omega) hdb).mono ?_
   rintro e w4 ⟨bb,rfl,l1,c,hb4,hw4,hll4,hdr4,hc4,hP4,hu4⟩
   have hll4':Hid (l1.length=N+1):=(show _=_ by rw [hll4.out,hll.out])
   have hL1:Hid (nv l1<WB^(j+n+1)):=GC (by rw [hll.out];omega) (by rw [hll4'.out];omega) hw4 hdr4.out HLT.out
   have hcase:=RB (D:=WB^j*(nv ys*2^s)) (iI (gC gA) HVpos.out) hdd.out.1 hdd.out.2 HLT.out hL1.out (by
    have h:=hP4.out.2
    rw [hvv.out,Nat.mul_left_comm] at h
    exact h) hc4
   have hbc:=hP4.out.1
   have hbv4:=hbv1.upd hu4 (by omega)
   have hbq4:=hbq1.upd hu4 (by omega)
   have hr4:=hu4.ext hr1 hgw2
   have hbb:bb=false∧c=0∨bb=true∧c=1:=by
    rcases bb with _ | _
    ·left;refine⟨rfl,?_⟩;simp at hbc;omega
    ·right;exact⟨rfl,hbc.1 rfl⟩
   clear hP4 hbc hc4 hbv hbu hbq' hbu1 hbv1 hbq1 hr hr1 hvrd
   rcases hbb with⟨rfl,hc⟩ | ⟨rfl,hc⟩
   ·have h0:=Lib.hid (hcase.1 hc)
    clear hcase hc
    obtain⟨z,hz,_,hcz⟩:=hbq4.word hwq (i:=j) (by rw [hlq.out];omega)
    have hfz:=hbq4.frozen j
    have hjM:(j:Int)<(M:Int):=by omega
    go_wp2_with fail
    go_roundw
    case rel=>exact FIN.out d l1 _ h0.out.1 h0.out.2 hdb hll4'.out hw4 (hbv4.far (by show gv≠gq;omega) _) (hb4.far (by show gu≠gq;omega) _) (by rw [←dP];exact hbq4.set _ _) (hr4.setCell hgw3 _)
    case measure=>simp [intOf]
   ·have h0:=Lib.hid (hcase.2 hc)
    clear hcase hc
    obtain⟨q,rfl⟩:∃q,d=q+1:=⟨_,h0.out.1⟩
    have hq:Hid (q=nv l/(WB^j*(nv ys*2^s))):=(show _=_ from Nat.succ.inj h0.out.1)
    have hvrd:=hbv4.rd hwv (o:=0) (n:=n) (cap:=n) (aX _) (by rw [hlv.out];omega) (by rw [eA];omega)
    rw [gQ,List.take_of_length_le (by rw [hlv.out];exact aX _)] at hvrd
    go_wp2_with fail
    rw [show j+n+1-j=n+1 from by omega]
    refine (VC (o:=j) (m:=n) hb4 hw4 hvrd (fun a ha=>by cases ha;show gv≠gu;omega) (by rw [hll4'.out];omega) (by omega) (by omega)).mono ?_
    rintro e w5 ⟨rfl,l2,c2,hb5,hw5,hll5,hdr5,hc5,hP5,hu5⟩
    have hll5':Hid (l2.length=N+1):=(show _=_ by rw [hll5.out,hll4'.out])
    have hL2:Hid (nv l2<WB^(j+n+1)):=GC (by rw [hll4'.out];omega) (by rw [hll5'.out];omega) hw5 hdr5.out hL1.out
    have hfin2:Hid (nv l2=nv l%(WB^j*(nv ys*2^s))):=h0.out.2 (nv l2) c2 hc5 hL2.out (by have h:=hP5.out;rw [hvv.out] at h;exact h)
    have hbv5:=hbv4.upd hu5 (by omega)
    have hbq5:=hbq4.upd hu5 (by omega)
    have hr5:=hu5.ext hr4 hgw2
    clear hP5 hc5 hbv4 hbq4 hr4 hb4 hvrd h0
    obtain⟨z,hz,_,hcz⟩:=hbq5.word hwq (i:=j) (by rw [hlq.out];omega)
    have hfz:=hbq5.frozen j
    have hjM:(j:Int)<(M:Int):=by omega
    go_wp2_with fail
    go_roundw
    case rel=>exact FIN.out q l2 _ hq.out hfin2.out (by omega) hll5'.out hw5 (hbv5.far (by show gv≠gq;omega) _) (hb5.far (by show gu≠gq;omega) _) (by rw [←dP];exact hbq5.set _ _) (hr5.setCell hgw3 _)
    case measure=>simp [intOf]
  ·obtain rfl:k=0:=by omega
   have ek:((0:Nat):Int)-1= -1:=rfl
   rw [ek]
   have hLv:Hid (nv l<nv ys*2^s):=by
    have:=hL.out.lt
    rw [Nat.pow_zero,dK] at this
    exact this
   have hQ:=RA (X:=nv xs) (Y:=nv ys) (s:=s) (Q:=nv ql) (L:=nv l) (Nat.pos_of_mul_pos_right HVpos.out) (by have:=hL.out.eq;simpa using this) hLv.out
   have hln:Hid (nv (l.take n)=nv l):=by
    show _=_
    have e1:=mR l n (by rw [hll.out];omega)
    rcases kC (nv (l.drop n)) with h0 | h0
    ·rw [h0,gJ,eS] at e1;exact e1.symm
    ·have:=Nat.le_mul_of_pos_right (WB^n) h0
     have h2:=hLv.out
     have h3:=HVfit.out
     omega
   have HQ:=Lib.hid hQ
   clear hQ
   have hurd:=hbu.rd hwl (o:=0) (n:=n) (cap:=N+1) (by omega) (by rw [hll.out];omega) (by rw [eA];omega)
   rw [gQ] at hurd
   go_wp2_with fail
   refine (QU hurd (by omega) (by omega)).mono ?_
   rintro e w6 ⟨A6,n6,c6,rfl,hn6,hr6,ho6,hx6⟩
   rw [hln.out,HQ.out.2] at hn6 hr6 ho6
   have hqrd:=(hbq'.ext hx6).rd hwq (o:=0) (n:=M) (cap:=M) (aX _) (by rw [hlq.out];omega) (by rw [eA];omega)
   rw [gQ,List.take_of_length_le (by rw [hlq.out];exact aX _)] at hqrd
   go_wp2_with fail
   refine (k0 hqrd).mono ?_
   rintro e w7 ⟨A7,n7,c7,rfl,hn7,hr7,ho7,hx7⟩
   rw [HQ.out.1] at hn7 hr7 ho7
   go_wp2_with fail
   go_ret2
   exact⟨A7,n7,c7,A6,n6,c6,rfl,hn7,hr7,ho7.mono (hr.trans hx6).size,hn6,hr6.ext hx7,(ho6.mono hr.size).ext hx7,(hr.trans hx6).trans hx7,fun p p' hp hp'=>by have h1:=ho7.block p hp;have h2:=ho6.block p' hp';omega⟩
def K4 (w:a0)(q r:Nat)(er:Int)(e:dR)(w':a0):Prop:=
 ∃A n cap B m cap',e= .returned (.tuple #[i9 A n cap,i9 B m cap',a9 er])∧Hid (n=(wd q).length)∧Rd w' A n cap (wd q)∧Own w' w.heap.size 65 1 A n cap ((wd q).map bC)∧
  Hid (m=(wd r).length)∧Rd w' B m cap' (wd r)∧Own w' w.heap.size 65 1 B m cap' ((wd r).map bC)∧Ext w w'
def RetQREA (w:a0)(q r:Nat)(er:Int)(e:dR)(w':a0):Prop:=
 ∃A n cap B m cap',e= .returned (.tuple #[i9 A n cap,i9 B m cap',a9 er])∧Hid (n=(wd q).length)∧Rd w' A n cap (wd q)∧Own w' w.heap.size 65 1 A n cap ((wd q).map bC)∧
  Hid (m=(wd r).length)∧Rd w' B m cap' (wd r)∧Own w' w.heap.size 65 1 B m cap' ((wd r).map bC)∧Ext w w'∧∀p p',A=some p→B=some p'→p.block≠p'.block
theorem RetQREA.old {r:Nat}{e:dR}(h:RetQREA w q r er e w'):K4 w q r er e w':=by
 obtain⟨A,n,cap,B,m,cap',h1,h2,F,p,o,f,D,E,_⟩:=h
 exact⟨A,n,cap,B,m,cap',h1,h2,F,p,o,f,D,E⟩
theorem LR (h:m≠0):(wd m).getD ((wd m).length-1) 0≠0:=by
 intro h0
 have hl:0<(wd m).length:=Nat.pos_of_ne_zero (fun e=>h (lB.1 e))
 have f:=oY (wd m) ((wd m).length-1) (by omega) h0
 rw [iH (by omega),List.take_of_length_le (aX _),fK] at f
 have h2:=kR (mX m) ((wd m).length-1)
 have o:=FF h
 omega
theorem LT {v:Nat}(h:1=(wd m).length)(hv:(wd m).getD 0 0=v):m=v:=by
 have e:=eL (wd m) 0 (by omega)
 rw [List.take_of_length_le (by omega),fK,hv] at e
 simpa [nv] using e
theorem J3 (hy:Rd w B n' cap' ys)(hl':n'≤1099511627775)(h0:nv ys=0):aQ aH 199 #[i9 A n cap,i9 B n' cap'] w (fun e w'=>e= .returned (.tuple #[i9 none 0 0,i9 none 0 0,a9 4])∧Ext w w'):=by
 go_enter Tryz.func199,Tryz.ntmps199
 go_wp2_with fail
 refine (k0 hy).mono ?_
 rintro e w1 ⟨A1,n1,c1,rfl,hn1,hr1,ho1,hx1⟩
 obtain rfl:n1=0:=by rw [hn1.out,h0];rfl
 go_wp2_with fail
 go_ret3
 exact⟨rfl,hx1⟩
theorem J4 (hx:Rd w A n cap xs)(hl:n≤274877906944)(hy:Rd w B n' cap' ys)(hl':n'≤274877906944)(h0:nv ys≠0):aQ aH 199 #[i9 A n cap,i9 B n' cap'] w (RetQREA w (nv xs/nv ys) (nv xs%nv ys) 0):=by
 go_enter Tryz.func199,Tryz.ntmps199
 go_wp2_with fail
 refine (k0 hy).mono ?_
 rintro e w1 ⟨A1,n1,c1,rfl,hn1,hr1,ho1,hx1⟩
 have hn1p:0<n1:=by
  rw [hn1.out];exact Nat.pos_of_ne_zero (fun e=>h0 (lB.1 e))
 have hn1b:n1≤n':=by
  have:=gT hy.wf
  rw [hn1.out,←hy.len];exact this
 have b0:((n1:Int)==0)=false:=by simp;omega
 by_cases h1:n1=1
 ·subst h1
  obtain⟨a,v,rfl,hvk,hvb,hcv⟩:=hr1.get (i:=0) (by omega)
  have hv:Hid (nv ys=v):=LT hn1.out hvk.out
  have hcv0:w1.cell? a=some (i5 (v:Int)):=by simpa [lR] using hcv
  go_wp2_with fail
  refine (J2 (hx.ext hx1) (by omega) (v:=v) (by rw [←hv.out];exact h0) hvb).mono ?_
  rintro e w2 ⟨A2,n2,c2,r,rfl,hr,hrb,hn2,hr2,ho2,hx2⟩
  go_wp2_with fail
  have hone:=Rd.one w2 hrb
  refine (k0 hone).mono ?_
  rintro e w3 ⟨A3,n3,c3,rfl,hn3,hr3,ho3,hx3⟩
  rw [sP,hr.out,←hv.out] at hn3 hr3 ho3
  rw [←hv.out] at hn2 hr2 ho2
  have hal:Ext w2 w3:=((Ext.refl w2).alloc _).trans hx3
  go_wp2_with fail
  go_ret3
  exact⟨A2,n2,c2,A3,n3,c3,rfl,hn2,hr2.ext hal,(ho2.mono hx1.size).ext hal,hn3,hr3,ho3.mono (aE (hx1.trans hx2).size (by simp)),(hx1.trans hx2).trans hal,fun p p' hp hp'=>by have h1:=ho2.block p hp;have h2:=ho3.block p' hp';simp only [World.alloc,Array.size_push] at h2;omega⟩
 ·have b1:((n1:Int)==1)=false:=by simp;omega
  go_wp2_with fail
  refine (k0 (hx.ext hx1)).mono ?_
  rintro e w2 ⟨A2,n2,c2,rfl,hn2,hr2,ho2,hx2⟩
  have hn2b:n2≤n:=by
   have:=gT hx.wf
   rw [hn2.out,←hx.len];exact this
  go_wp2_with fail
  refine (qS hr2 (hr1.ext hx2)).mono ?_
  rintro e w3 ⟨c,hc,hcl,hch,rfl,hx3⟩
  rw [fK,fK] at hc
  by_cases hlt:nv xs<nv ys
  ·have hneg:c<0:=by rw [hc.out];exact lF.2 hlt
   go_wp2_with fail
   go_ret3
   rw [gV hlt,fO hlt]
   exact⟨none,0,0,A2,n2,c2,rfl,rfl,Rd.nil _,Own.nil _ _ _ _,hn2,hr2.ext hx3,(ho2.mono hx1.size).ext hx3,(hx1.trans hx2).trans hx3,fun p p' hp=>by cases hp⟩
  ·have hneg:¬c<0:=by rw [hc.out,lF];exact hlt
   have HL:=Lib.hid hlt
   have hn12:n1≤n2:=by rw [hn1.out,hn2.out];exact iP (by omega)
   clear hlt
   go_wp2_with fail
   refine (VA (hr2.ext hx3) (by omega) ((hr1.ext hx2).ext hx3) (by omega) hn12 (by rw [hn1.out];exact LR h0)).mono ?_
   rintro e w4 ⟨A4,n4,c4,A5,n5,c5,rfl,hn4,hr4,ho4,hn5,hr5,ho5,hx4,hap⟩
   rw [fK,fK] at hn4 hr4 ho4 hn5 hr5 ho5
   go_wp2_with fail
   go_ret3
   have hs:=((hx1.trans hx2).trans hx3)
   exact⟨A4,n4,c4,A5,n5,c5,rfl,hn4,hr4,ho4.mono hs.size,hn5,hr5,ho5.mono hs.size,hs.trans hx4,hap⟩
theorem BG (hx:Rd w A n cap xs)(hl:n≤274877906944)(hy:Rd w B n' cap' ys)(hl':n'≤274877906944)(h0:nv ys≠0):aQ aH 199 #[i9 A n cap,i9 B n' cap'] w (K4 w (nv xs/nv ys) (nv xs%nv ys) 0):=(J4 hx hl hy hl' h0).mono fun e w' h=>h.old
theorem VE (hy:Rd w B n' cap' ys)(hl':n'≤1099511627775)(h0:nv ys=0):aQ aH 200 #[i9 A n cap,i9 B n' cap'] w (fun e w'=>e= .returned (.tuple #[i9 none 0 0,a9 4])∧Ext w w'):=by
 go_enter Tryz.func200,Tryz.ntmps200
 go_wp2_with fail
 refine (J3 hy hl' h0).mono ?_
 rintro e w1 ⟨rfl,hx1⟩
 go_wp2_with fail
 go_ret2
 exact⟨rfl,hx1⟩
theorem VD (hx:Rd w A n cap xs)(hl:n≤274877906944)(hy:Rd w B n' cap' ys)(hl':n'≤274877906944)(h0:nv ys≠0)(h1:nv xs%nv ys≠0):aQ aH 200 #[i9 A n cap,i9 B n' cap'] w (fun e w'=>e= .returned (.tuple #[i9 none 0 0,a9 8])∧Ext w w'):=by
 go_enter Tryz.func200,Tryz.ntmps200
 go_wp2_with fail
 refine (BG hx hl hy hl' h0).mono ?_
 rintro e w1 ⟨A4,n4,c4,A5,n5,c5,rfl,hn4,hr4,ho4,hn5,hr5,ho5,hx4⟩
 have hp:0<n5:=by rw [hn5.out];exact Nat.pos_of_ne_zero (fun e=>h1 (lB.1 e))
 go_wp2_with fail
 go_ret2
 exact⟨rfl,hx4⟩
theorem VF (hx:Rd w A n cap xs)(hl:n≤274877906944)(hy:Rd w B n' cap' ys)(hl':n'≤274877906944)(h0:nv ys≠0)(h1:nv xs%nv ys=0):aQ aH 200 #[i9 A n cap,i9 B n' cap'] w (tP w (nv xs/nv ys) 0):=by
 go_enter Tryz.func200,Tryz.ntmps200
 have H1:=Lib.hid h1
 clear h1
 go_wp2_with fail
 refine (BG hx hl hy hl' h0).mono ?_
 rintro e w1 ⟨A4,n4,c4,A5,n5,c5,rfl,hn4,hr4,ho4,hn5,hr5,ho5,hx4⟩
 obtain rfl:n5=0:=by rw [hn5.out,H1.out];rfl
 go_wp2_with fail
 go_ret2
 exact⟨A4,n4,c4,rfl,hn4,hr4,ho4,hx4⟩
def sg (s:Bool)(m:Nat):Int:=if s then-(m:Int) else m
theorem jW (m:Nat):sg false m=m:=rfl
theorem kO (m:Nat):sg true m= -(m:Int):=rfl
theorem kP (s:Bool)(m:Nat):(sg s m).natAbs=m:=by cases s <;> simp [sg]
theorem NJ (z:Int):sg (decide (z<0)) z.natAbs=z:=by
 by_cases h:z<0
 ·rw [decide_eq_true h,kO];omega
 ·rw [decide_eq_false h,jW];omega
theorem E5 (s:Bool):sg s 0=0:=by cases s <;> rfl
theorem zC:sg s m=0↔m=0:=by cases s <;> simp [sg]
theorem zB (s:Bool)(m:Nat):sg (!s) m= -sg s m:=by cases s <;> simp [sg]
theorem sK (s:Bool)(m:Nat):decide (sg s m<0)=(s&&decide (0<m)):=by
 cases s
 ·simp [sg]
 ·by_cases h:0<m
  ·simp [sg,h]
  ·have:m=0:=by omega
   subst this
   simp [sg]
theorem zD (s:Bool)(m k:Nat):sg s (m+k)=sg s m+sg s k:=by cases s <;> simp [sg] <;> omega
theorem qI (h:k≤m):sg s (m-k)=sg s m+sg (!s) k:=by cases s <;> simp [sg] <;> omega
theorem EA (s t:Bool)(m k:Nat):sg (s != t) (m*k)=sg s m*sg t k:=by
 cases s <;> cases t <;> simp [sg,Int.mul_neg,Int.neg_mul]
theorem zA (s t:Bool)(m k:Nat):sg (s != t) (m/k)=(sg s m).tdiv (sg t k):=by
 cases s <;> cases t <;> simp [sg,Int.tdiv_neg,Int.neg_tdiv]
theorem E6 (s t:Bool)(m k:Nat):sg s (m%k)=(sg s m).tmod (sg t k):=by
 cases s <;> cases t <;> simp [sg,Int.tmod_neg,Int.neg_tmod] <;> rfl
def ln (z:Int):Nat:=(wd z.natAbs).length
theorem vV (h:x.natAbs≤y.natAbs):ln x≤ln y:=iP h
theorem sX (x:Int):ln (-x)=ln x:=by unfold ln;rw [Int.natAbs_neg]
theorem dZ (hx:ln x≤a)(hy:ln y≤b):ln (x+y)≤max a b+1:=by
 have h1:=iP (Int.natAbs_add_le x y)
 have h2:=AV x.natAbs y.natAbs
 unfold ln at*
 omega
theorem hZ (hx:ln x≤a)(hy:ln y≤b):ln (x-y)≤max a b+1:=by
 rw [Int.sub_eq_add_neg]
 exact dZ hx (by rw [sX];exact hy)
theorem lA (hx:ln x≤a)(hy:ln y≤b):ln (x*y)≤a+b:=by
 have h2:=vY x.natAbs y.natAbs
 unfold ln at*
 rw [Int.natAbs_mul]
 omega
theorem AP (m:Nat):ln (m:Int)=(wd m).length:=by unfold ln;rw [Int.natAbs_natCast]
def Zi (w:a0)(s:Bool)(A:Option a8)(n cap:Nat)(z:Int):Prop:=∃xs,Rd w A n cap xs∧sg s (nv xs)=z
theorem Zi.ext (h:Zi w s A n cap z)(e:Ext w w'):Zi w' s A n cap z:=by
 obtain⟨xs,h1,h2⟩:=h
 exact⟨xs,h1.ext e,h2⟩
theorem Zi.ln (h:Zi w s A n cap z):Go.Proofs.YtkepckmdjncehaaGreatDoor.ln z≤n:=by
 obtain⟨xs,h1,rfl⟩:=h
 have:=gT h1.wf
 rw [h1.len] at this
 unfold Go.Proofs.YtkepckmdjncehaaGreatDoor.ln
 rw [kP]
 exact this
theorem Zi.not (h:Zi w s A n cap z):Zi w (!s) A n cap (-z):=by
 obtain⟨xs,h1,rfl⟩:=h
 exact⟨xs,h1,zB _ _⟩
structure Zr (w:a0)(base:Nat)(s:Bool)(A:Option a8)(n cap:Nat)(z:Int):Prop where
 sgn:s=decide (z<0)
 len:n=ln z
 own:Own w base 65 1 A n cap ((wd z.natAbs).map bC)
theorem Zr.rd (h:Zr w base s A n cap z):Rd w A n cap (wd z.natAbs):=h.own.rd (mX _)
theorem Zr.ext (h:Zr w base s A n cap z)(e:Ext w w'):Zr w' base s A n cap z:=⟨h.sgn,h.len,h.own.ext e⟩
theorem Zr.mono {base':Nat}(h:Zr w base s A n cap z)(e:base'≤base):Zr w base' s A n cap z:=⟨h.sgn,h.len,h.own.mono e⟩
theorem Zr.zi (h:Zr w base s A n cap z):Zi w s A n cap z:=⟨_,h.rd,by rw [fK,h.sgn,NJ]⟩
theorem Zr.upd (h:Zr w base s A n cap z)(hg:g<base)(e:Upd g w w'):Zr w' base s A n cap z:=
 ⟨h.sgn,h.len,h.own.upd e (fun a f=>by have:=(h.own.block a f).1;omega)⟩
theorem Zr.cast {z':Int}(h:Zr w base s A n cap z)(e:z=z'):Zr w base s A n cap z':=e▸h
theorem Zr.le (h:Zr w base s A n cap z)(hb:ln z≤b):n≤b:=by rw [h.len];exact hb
theorem Zr.zero:Zr w base false none 0 0 0:=⟨by decide,rfl,Own.nil _ _ _ _⟩
def kY (w:a0)(z:Int)(e:dR)(w':a0):Prop:=
 ∃s A n cap,e= .returned (J s A n cap)∧Zr w' w.heap.size s A n cap z∧Ext w w'
theorem j1 {s':Bool}(h:s'=decide (sg s m<0))(hn:n=(wd m).length)(ho:Own w base 65 1 A n cap ((wd m).map bC))(hz:sg s m=z):Zr w base s' A n cap z:=by
 have e:z.natAbs=m:=by rw [←hz,kP]
 rw [hz] at h
 exact⟨h,by unfold ln;rw [e];exact hn,by rw [e];exact ho⟩
theorem Bk.two {a b:aD}(h:Bk w g t [a,b]):w.cell? ⟨g,0,none⟩=some a∧w.cell? ⟨g,1,none⟩=some b∧w.frozen? ⟨g,0,none⟩=false∧w.frozen? ⟨g,1,none⟩=false:=
 ⟨h.cell (i:=0) (by simp),h.cell (i:=1) (by simp),h.frozen 0,h.frozen 1⟩
theorem Bk.two_set {a b:aD}(h:Bk w g t [a,b])(u v:aD):Bk ((w.setCell ⟨g,0,none⟩ u).setCell ⟨g,1,none⟩ v) g t [u,v]:=(h.set 0 u).set 1 v
theorem Upd.two (u v:aD):Upd g w ((w.setCell ⟨g,0,none⟩ u).setCell ⟨g,1,none⟩ v):=((Upd.refl g w).setCell 0 u).setCell 1 v
theorem Bk.sec {l:Array aD}{a b:aD}:Bk ((w.alloc (.cells l t')).alloc (.cells #[a,b] t)) (w.heap.size+1) t [a,b]:=by
 have:=Bk.new (w.alloc (.cells l t')) t [a,b]
 simpa using this
theorem Bk.thi {l:Array aD}{a b:aD}:Bk (((w.alloc (.cells l t')).alloc (.cells l' t'')).alloc (.cells #[a,b] t)) (w.heap.size+2) t [a,b]:=by
 have:=Bk.new ((w.alloc (.cells l t')).alloc (.cells l' t'')) t [a,b]
 simpa using this
theorem Bk.fou {t''':aV}{l l'':Array aD}{a b:aD}:Bk ((((w.alloc (.cells l t')).alloc (.cells l' t'')).alloc (.cells l'' t''')).alloc (.cells #[a,b] t)) (w.heap.size+3) t [a,b]:=by
 have:=Bk.new (((w.alloc (.cells l t')).alloc (.cells l' t'')).alloc (.cells l'' t''')) t [a,b]
 simpa using this
theorem tH (w:a0)(t t':aV)(a b c d:aD):∃g g2 wa,w.heap.size+1=g2∧w.heap.size=g∧(w.alloc (.cells #[a,b] t)).alloc (.cells #[c,d] t')=wa∧Bk wa g t [a,b]∧Bk wa g2 t' [c,d]∧Ext w wa∧g<g2∧g2<wa.heap.size∧g≠g2∧g2≠g:=
 ⟨_,_,_,rfl,rfl,rfl,(Bk.new w t [a,b]).alloc _,Bk.sec,((Ext.refl w).alloc _).alloc _,by omega,by simp,by omega,by omega⟩
theorem BV (w:a0)(t t' t'':aV)(a b c d e f:aD):∃g g2 g3 wa,w.heap.size+1+1=g3∧w.heap.size+1=g2∧w.heap.size=g∧((w.alloc (.cells #[a,b] t)).alloc (.cells #[c,d] t')).alloc (.cells #[e,f] t'')=wa∧Bk wa g t [a,b]∧Bk wa g2 t' [c,d]∧Bk wa g3 t'' [e,f]∧Ext w wa∧g<g2∧g2<g3∧g3<wa.heap.size∧g≠g2∧g2≠g∧g≠g3∧g3≠g∧g2≠g3∧g3≠g2:=
 ⟨_,_,_,_,rfl,rfl,rfl,rfl,((Bk.new w t [a,b]).alloc _).alloc _,Bk.sec.alloc _,Bk.thi,(((Ext.refl w).alloc _).alloc _).alloc _,by omega,by omega,by simp,by omega,by omega,by omega,by omega,by omega,by omega⟩
theorem BU (w:a0)(t t' t'' t''':aV)(a b c d e f i j:aD):∃g g2 g3 g4 wa,w.heap.size+1+1+1=g4∧w.heap.size+1+1=g3∧w.heap.size+1=g2∧w.heap.size=g∧(((w.alloc (.cells #[a,b] t)).alloc (.cells #[c,d] t')).alloc (.cells #[e,f] t'')).alloc (.cells #[i,j] t''')=wa∧Bk wa g t [a,b]∧Bk wa g2 t' [c,d]∧Bk wa g3 t'' [e,f]∧Bk wa g4 t''' [i,j]∧Ext w wa∧g<g2∧g2<g3∧g3<g4∧g4<wa.heap.size∧g≠g2∧g2≠g∧g≠g3∧g3≠g∧g2≠g3∧g3≠g2∧g≠g4∧g4≠g∧g2≠g4∧g4≠g2∧g3≠g4∧g4≠g3:=
 ⟨_,_,_,_,_,rfl,rfl,rfl,rfl,rfl,(((Bk.new w t [a,b]).alloc _).alloc _).alloc _,(Bk.sec.alloc _).alloc _,Bk.thi.alloc _,Bk.fou,((((Ext.refl w).alloc _).alloc _).alloc _).alloc _,by omega,by omega,by omega,by simp,by omega,by omega,by omega,by omega,by omega,by omega,by omega,by omega,by omega,by omega,by omega,by omega⟩
theorem lD {w2:a0}{x y:aD}(_hb:Bk w2 g T [x,y])(hz:Zr w2 base s A n cap z)(hg:g<base)(he:Ext w w2)(hw:w.heap.size≤g:=by omega):kY w z (.returned (J s A n cap)) ((w2.setCell ⟨g,0,none⟩ (.bool s)).setCell ⟨g,1,none⟩ (i9 A n cap)):=
 ⟨s,A,n,cap,rfl,(hz.upd hg (Upd.two _ _)).mono (by omega),(Upd.two _ _).ext he hw⟩
theorem l8 {a b:aD}{s:Tmp}(hf:fn.results= #[.cell s 24])(hs:tmps.getD s undef= a4 g 0)(h:Bk w g t [a,b]):(results fn tmps).run aH w= .ok (.agg #[a,b]) w:=by
 obtain⟨h1,h2,_,_⟩:=h.two
 have hs2:tmps[s]?.getD undef= a4 g 0:=by simpa using hs
 simp [results,hf,hs2,loadVar,loadCells,loadCellsFrom,go_sem,h1,h2]
def bH (x y:Int):Int:=if x<y then-1 else if x=y then 0 else 1
theorem EC (x y:Int): -1≤bH x y∧bH x y≤1:=by unfold bH;split <;> (try split) <;> omega
theorem oV:bH x y<0↔x<y:=by unfold bH;split <;> (try split) <;> omega
theorem qJ:bH x y=0↔x=y:=by unfold bH;split <;> (try split) <;> omega
theorem zE:0<bH x y↔y<x:=by unfold bH;split <;> (try split) <;> omega
def C8 (v:Int)(w:a0)(e:dR)(w':a0):Prop:=∃c:Int,Hid (c=v)∧ -1≤c∧c≤1∧e= .returned (a9 c)∧Ext w w'
theorem jP (hn:n=(wd m).length):aQ aH 124 #[.bool s,i9 A n cap] w fun e w'=>∃s',e= .returned (J s' A n cap)∧Hid (s'=decide (sg s m<0))∧Ext w w':=by
 have hm:decide (0<m)=decide (0<n):=by
  by_cases h:m=0
  ·rw [h] at hn⊢;rw [hn];rfl
  ·have:n≠0:=fun e=>h (lB.1 (by rw [←hn,e]))
   rw [decide_eq_true (show 0<m by omega),decide_eq_true (show 0<n by omega)]
 have HM:Hid (decide (sg s m<0)=(s&&decide (0<n))):=(show _=_ by rw [sK,hm])
 clear hm hn
 go_enter Tryz.func124,Tryz.ntmps124
 cases s
 ·go_wp2_with fail
  refine iV (v:= J false A n cap) (by simp [results,Tryz.results124,go_sem]) G ?_
  exact⟨_,rfl,(show _=_ by rw [HM.out];rfl),(Ext.refl w).alloc _⟩
 ·by_cases h:n=0
  ·subst h
   go_wp2_with fail
   refine iV (v:= J false A 0 cap) (by simp [results,Tryz.results124,go_sem]) G ?_
   exact⟨_,rfl,(show _=_ by rw [HM.out];rfl),(Ext.refl w).alloc _⟩
  ·have h0:0<n:=by omega
   have hd:decide (0<n)=true:=decide_eq_true h0
   have hi:0<(n:Int):=by omega
   go_wp2_with fail
   refine iV (v:= J true A n cap) (by simp [results,Tryz.results124,go_sem]) G ?_
   exact⟨_,rfl,(show _=_ by rw [HM.out,hd];rfl),(Ext.refl w).alloc _⟩
theorem KU (hx:Zi w s A n cap x)(hl:n≤68719476736):aQ aH 66 #[J s A n cap] w (kY w (-x)):=by
 obtain⟨xs,hr,rfl⟩:=hx
 go_enter Tryz.func66,Tryz.ntmps66
 go_upto_region 1 with (fail)
 obtain⟨g,g2,wa,hg2,hg,hwa,hb1,hb2,hea,l12,l2,n12,n21⟩:=tH w 24 24 (.bool s) (i9 A n cap) (t9) (i9 none 0 0)
 rw [hg2,hg,hwa]
 have hgw:w.heap.size≤g:=Nat.le_of_eq hg
 clear hwa hg hg2
 obtain⟨f1,f2,f3,f4⟩:=hb1.two
 obtain⟨k1,k2,k3,k4⟩:=hb2.two
 go_region_held3 (fun w'=>w'.cell? ⟨g,0,none⟩=some (.bool s)∧w'.cell? ⟨g,1,none⟩=some (i9 A n cap)) (go_keep)
  (first
  | (go_at_call 141;refine (k0 (hr.ext (by repeat (first | exact Ext.refl _ | assumption | apply Ext.drewN | apply Ext.drew | apply Ext.alloc)))).mono ?_;rintro e w1 ⟨A1,n1,c1,rfl,hn1,hr1,ho1,hx1⟩;have he1:Ext wa w1:=Ext.trans (by repeat (first | exact Ext.refl _ | assumption | apply Ext.drewN | apply Ext.drew | apply Ext.alloc)) hx1;have hc1:=hb1.ext he1;have hc2:=hb2.ext he1;obtain⟨f1',f2',f3',f4'⟩:=hc1.two;obtain⟨k1',k2',k3',k4'⟩:=hc2.two)
  | (go_at_call 124;refine (jP hn1.out).mono ?_;rintro e w2 ⟨s',rfl,hs',hx2⟩;have hd1:=hc1.ext hx2;have hd2:=hc2.ext hx2;obtain⟨f1'',f2'',f3'',f4''⟩:=hd1.two;obtain⟨k1'',k2'',k3'',k4''⟩:=hd2.two))
 go_wp2_with fail
 refine iV (l8 G G (hd2.two_set _ _)) G ?_
 exact lD hd2 ((j1 hs'.out hn1.out ho1 (zB _ _)).ext hx2) (by first | omega | (simp;omega)) (hea.trans (he1.trans hx2))
theorem KW (hx:Zi w s A n cap x)(hl:n≤68719476736):aQ aH 60 #[J s A n cap] w (kY w (x)):=by
 obtain⟨xs,hr,rfl⟩:=hx
 go_enter Tryz.func60,Tryz.ntmps60
 go_upto_region 1 with (fail)
 obtain⟨g,g2,wa,hg2,hg,hwa,hb1,hb2,hea,l12,l2,n12,n21⟩:=tH w 24 24 (.bool s) (i9 A n cap) (t9) (i9 none 0 0)
 rw [hg2,hg,hwa]
 have hgw:w.heap.size≤g:=Nat.le_of_eq hg
 clear hwa hg hg2
 obtain⟨f1,f2,f3,f4⟩:=hb1.two
 obtain⟨k1,k2,k3,k4⟩:=hb2.two
 go_region_held3 (fun w'=>w'.cell? ⟨g,0,none⟩=some (.bool s)∧w'.cell? ⟨g,1,none⟩=some (i9 A n cap)) (go_keep)
  (first
  | (go_at_call 141;refine (k0 (hr.ext (by repeat (first | exact Ext.refl _ | assumption | apply Ext.drewN | apply Ext.drew | apply Ext.alloc)))).mono ?_;rintro e w1 ⟨A1,n1,c1,rfl,hn1,hr1,ho1,hx1⟩;have he1:Ext wa w1:=Ext.trans (by repeat (first | exact Ext.refl _ | assumption | apply Ext.drewN | apply Ext.drew | apply Ext.alloc)) hx1;have hc1:=hb1.ext he1;have hc2:=hb2.ext he1;obtain⟨f1',f2',f3',f4'⟩:=hc1.two;obtain⟨k1',k2',k3',k4'⟩:=hc2.two)
  | (go_at_call 124;refine (jP hn1.out).mono ?_;rintro e w2 ⟨s',rfl,hs',hx2⟩;have hd1:=hc1.ext hx2;have hd2:=hc2.ext hx2;obtain⟨f1'',f2'',f3'',f4''⟩:=hd1.two;obtain⟨k1'',k2'',k3'',k4''⟩:=hd2.two))
 go_wp2_with fail
 refine iV (l8 G G (hd2.two_set _ _)) G ?_
 exact lD hd2 ((j1 hs'.out hn1.out ho1 G).ext hx2) (by first | omega | (simp;omega)) (hea.trans (he1.trans hx2))
theorem KZ (hx:Zi w s A n cap x)(hl:n≤68719476736):aQ aH 67 #[J s A n cap] w (kY w (x.natAbs:Int)):=by
 obtain⟨xs,hr,rfl⟩:=hx
 go_enter Tryz.func67,Tryz.ntmps67
 go_upto_region 1 with (fail)
 obtain⟨g,g2,wa,hg2,hg,hwa,hb1,hb2,hea,l12,l2,n12,n21⟩:=tH w 24 24 (.bool s) (i9 A n cap) (t9) (i9 none 0 0)
 rw [hg2,hg,hwa]
 have hgw:w.heap.size≤g:=Nat.le_of_eq hg
 clear hwa hg hg2
 obtain⟨f1,f2,f3,f4⟩:=hb1.two
 go_wp2_with fail
 refine (k0 (hr.ext hea)).mono ?_
 rintro e w1 ⟨A1,n1,c1,rfl,hn1,hr1,ho1,hx1⟩
 have hc2:=hb2.ext hx1
 go_wp2_with fail
 refine (jP hn1.out).mono ?_
 rintro e w2 ⟨s',rfl,hs',hx2⟩
 have hd2:=hc2.ext hx2
 obtain⟨k1,k2,k3,k4⟩:=hd2.two
 go_wp2_with fail
 refine iV (l8 G G (hd2.two_set _ _)) G ?_
 exact lD hd2 ((j1 hs'.out hn1.out ho1 (by rw [kP,jW])).ext hx2) (by omega) (hea.trans (hx1.trans hx2))
theorem CQ {t:Bool}(hx:Zi w s A n cap x)(hl:n≤68719476736)(hy:Zi w t B m cap' y)(hl':m≤68719476736):aQ aH 39 #[J s A n cap,J t B m cap'] w (kY w (x*y)):=by
 obtain⟨xs,hr,rfl⟩:=hx
 obtain⟨ys,hq,rfl⟩:=hy
 go_enter Tryz.func39,Tryz.ntmps39
 go_upto_region 1 with (fail)
 obtain⟨g,g2,g3,wa,hg3,hg2,hg,hwa,hb1,hb2,hb3,hea,l12,l23,l3,n12,n21,n13,n31,n23,n32⟩:=BV w 24 24 24 (.bool s) (i9 A n cap) (.bool t) (i9 B m cap') (t9) (i9 none 0 0)
 rw [hg3,hg2,hg,hwa]
 have hgw:w.heap.size≤g:=Nat.le_of_eq hg
 clear hwa hg hg2 hg3
 obtain⟨f1,f2,f3,f4⟩:=hb1.two
 obtain⟨h1,h2,h3,h4⟩:=hb2.two
 obtain⟨k1,k2,k3,k4⟩:=hb3.two
 go_region_held3 (fun w'=>w'.cell? ⟨g,0,none⟩=some (.bool s)∧w'.cell? ⟨g,1,none⟩=some (i9 A n cap)∧w'.cell? ⟨g2,0,none⟩=some (.bool t)∧w'.cell? ⟨g2,1,none⟩=some (i9 B m cap')) (go_keep)
  (first
  | (go_at_call 125;refine (vO (hr.ext (by repeat (first | exact Ext.refl _ | assumption | apply Ext.drewN | apply Ext.drew | apply Ext.alloc))) (hq.ext (by repeat (first | exact Ext.refl _ | assumption | apply Ext.drewN | apply Ext.drew | apply Ext.alloc))) (by omega)).mono ?_;rintro e w1 ⟨A1,n1,c1,rfl,hn1,hr1,ho1,hx1⟩;have he1:Ext wa w1:=Ext.trans (by repeat (first | exact Ext.refl _ | assumption | apply Ext.drewN | apply Ext.drew | apply Ext.alloc)) hx1;have hc1:=hb1.ext he1;have hc2:=hb2.ext he1;have hc3:=hb3.ext he1;obtain⟨f1',f2',f3',f4'⟩:=hc1.two;obtain⟨h1',h2',h3',h4'⟩:=hc2.two;obtain⟨k1',k2',k3',k4'⟩:=hc3.two)
  | (go_at_call 124;refine (jP hn1.out).mono ?_;rintro e w2 ⟨s',rfl,hs',hx2⟩;have hd1:=hc1.ext hx2;have hd2:=hc2.ext hx2;have hd3:=hc3.ext hx2;obtain⟨f1'',f2'',f3'',f4''⟩:=hd1.two;obtain⟨h1'',h2'',h3'',h4''⟩:=hd2.two;obtain⟨k1'',k2'',k3'',k4''⟩:=hd3.two))
 go_wp2_with fail
 refine iV (l8 G G (hd3.two_set _ _)) G ?_
 exact lD hd3 ((j1 hs'.out hn1.out ho1 (EA _ _ _ _)).ext hx2) (by first | omega | (simp;omega)) (hea.trans (he1.trans hx2))
theorem yC (hx:Zi w s A n cap x)(hl:n≤68719476736):aQ aH 63 #[J s A n cap] w (C8 (bH x 0) w):=by
 obtain⟨xs,hr,rfl⟩:=hx
 go_enter Tryz.func63,Tryz.ntmps63
 go_upto_region 1 with (fail)
 have hb1:=Bk.new w 24 (O s A n cap)
 obtain⟨wa,hwa⟩:∃wa,w.alloc (.cells #[.bool s,.slice A n cap] 24)=wa:=⟨_,rfl⟩
 rw [hwa]
 obtain⟨g,hg⟩:∃g,w.heap.size=g:=⟨_,rfl⟩
 rw [hg] at hb1⊢
 have hb1':Bk wa g 24 (O s A n cap):=by rw [←hwa];exact hb1
 have hea:Ext w wa:=by rw [←hwa];exact (Ext.refl w).alloc _
 clear hwa hg hb1
 obtain⟨f1,f2,f3,f4⟩:=hb1'.two
 go_wp2_with fail
 refine (AD (hr.ext hea) (by omega)).mono ?_
 rintro e w1 ⟨b,hb,rfl,hx1'⟩
 have hx1:=hea.trans hx1'
 obtain⟨f1',f2',f3',f4'⟩:=(hb1'.ext hx1').two
 by_cases h0:b=0
 ·subst h0
  have hz:nv xs=0:=pH.1 hb.out.symm
  have HZ:=Lib.hid hz
  clear hz
  go_wp2_with fail
  go_ret
  exact⟨0,(show _=_ by rw [HZ.out,E5];rfl),by omega,by omega,rfl,hx1⟩
 ·have bb:((b:Int)==0)=false:=by simp;omega
  have hz:0<nv xs:=Nat.pos_of_ne_zero (fun e=>h0 (by rw [hb.out,e];rfl))
  have HZ:=Lib.hid hz
  clear hz h0
  cases s
  ·go_wp2_with fail
   go_ret
   refine⟨1,?_,by omega,by omega,rfl,hx1⟩
   show _=_
   rw [jW,bH,if_neg (by omega),if_neg (by have:=HZ.out;omega)]
  ·go_wp2_with fail
   go_ret
   refine⟨-1,?_,by omega,by omega,rfl,hx1⟩
   show _=_
   rw [kO,bH,if_pos (by have:=HZ.out;omega)]
theorem KX {t:Bool}(hx:Zi w s A n cap x)(hl:n≤68719476736)(hy:Zi w t B m cap' y)(hl':m≤68719476736):aQ aH 65 #[J s A n cap,J t B m cap'] w (rR x.natAbs y.natAbs w):=by
 obtain⟨xs,hr,rfl⟩:=hx
 obtain⟨ys,hq,rfl⟩:=hy
 rw [kP,kP]
 go_enter Tryz.func65,Tryz.ntmps65
 go_upto_region 1 with (fail)
 obtain⟨g,g2,wa,hg2,hg,hwa,hb1,hb2,hea,l12,l2,n12,n21⟩:=tH w 24 24 (.bool s) (i9 A n cap) (.bool t) (i9 B m cap')
 rw [hg2,hg,hwa]
 have hgw:w.heap.size≤g:=Nat.le_of_eq hg
 clear hwa hg hg2
 obtain⟨f1,f2,f3,f4⟩:=hb1.two
 obtain⟨h1,h2,h3,h4⟩:=hb2.two
 go_wp2_with fail
 refine (qS (hr.ext hea) (hq.ext hea)).mono ?_
 rintro e w1 ⟨c,hc,hcl,hch,rfl,hx1⟩
 go_wp2_with fail
 go_ret
 exact⟨c,hc,hcl,hch,rfl,hea.trans hx1⟩
def xQ (b:Bool)(w:a0)(e:dR)(w':a0):Prop:=e= .returned (.bool b)∧Ext w w'
theorem F8 (hx:Rd w A n cap xs)(hl:n≤1099511627776)(hy:Rd w B n' cap' ys)(hl':n'≤1099511627776):aQ aH 108 #[i9 A n cap,i9 B n' cap'] w (xQ (decide (xs=ys)) w):=by
 have hlx:=Lib.hid hx.len
 have hly:=Lib.hid hy.len
 by_cases hn:n=n'
 ·subst hn
  have h1:((n:Int) != (n:Int))=false:=by simp
  go_enter Tryz.func108,Tryz.ntmps108
  go_wp2_with fail
  go_loopw [5] (fun u wr=>∃i:Nat,i≤n∧u= a9 (i:Int)∧Hid (xs.take i=ys.take i)∧Ext w wr) (fun u wr=>n-(intOf u).toNat)
  case atStart=>exact⟨0,bJ _,rfl,rfl,Ext.refl w⟩
  case round=>
   obtain⟨i,hi,rfl,hv,hext⟩:=hrel
   by_cases h0:i<n
   ·obtain⟨a,p,rfl,hxk,hxb,hc⟩:=(hx.ext hext).get (i:=i) (by omega)
    obtain⟨b,q,rfl,hyk,hyb,hd⟩:=(hy.ext hext).get (i:=i) (by omega)
    by_cases hpq:p=q
    ·subst hpq
     have h2:((p:Int) != (p:Int))=false:=by simp
     go_wp2_with fail
     go_quiet (fail)
     go_wp2_with fail
     go_roundw
     case rel=>
      refine⟨i+1,by omega,by go_num,?_,(by repeat (first | exact Ext.refl _ | assumption | apply Ext.drewN | apply Ext.drew | apply Ext.alloc))⟩
      show _=_
      rw [sF xs i (by rw [hlx.out];omega) 0,sF ys i (by rw [hly.out];omega) 0,hv.out,hxk.out,hyk.out]
     case measure=>simp [intOf];omega
    ·have h2:((p:Int) != (q:Int))=true:=by simp;omega
     go_wp2_with fail
     go_quiet (fail)
     go_wp2_with fail
     go_ret
     have hne:decide (xs=ys)=false:=by
      refine decide_eq_false (fun e=>hpq ?_)
      rw [←hxk.out,←hyk.out,e]
     rw [hne]
     exact⟨rfl,(by repeat (first | exact Ext.refl _ | assumption | apply Ext.drewN | apply Ext.drew | apply Ext.alloc))⟩
   ·go_wp2_with fail
    go_ret
    have he:decide (xs=ys)=true:=by
     refine decide_eq_true ?_
     have h:=hv.out
     rwa [List.take_of_length_le (by rw [hlx.out];omega),List.take_of_length_le (by rw [hly.out];omega)] at h
    rw [he]
    exact⟨rfl,hext⟩
 ·have h1:((n:Int) != (n':Int))=true:=by simp;omega
  go_enter Tryz.func108,Tryz.ntmps108
  go_wp2_with fail
  go_ret
  have hne:decide (xs=ys)=false:=decide_eq_false (fun e=>hn (by rw [←hlx.out,←hly.out,e]))
  rw [hne]
  exact⟨rfl,Ext.refl w⟩
theorem Own.updT {s:Nat}(h:Own w base t s A n cap vs)(hb:Bk w g T us)(hT:t≠T)(e:Upd g w w'):Own w' base t s A n cap vs:=by
 refine h.upd e (fun a f p=>?_)
 rcases h with⟨h,_⟩ | ⟨k,cs,q,_,o,_⟩
 ·rw [h] at f;cases f
 ·rw [q] at f
  cases f
  simp only at p
  subst p
  unfold Bk at o hb
  rw [o] at hb
  injection hb with hb
  injection hb with h1 h2
  exact hT h2
theorem Zr.updT (h:Zr w base s A n cap z)(hb:Bk w g T us)(e:Upd g w w')(hT:65≠T:=by decide):Zr w' base s A n cap z:=
 ⟨h.sgn,h.len,h.own.updT hb hT e⟩
theorem Bk.updN (h:Bk w g T vs)(e:Upd g' w w')(hne:g≠g'):Bk w' g T vs:=h.upd e hne
theorem Bk.vN (h:Bk w g T vs)(e:Upd g' w w')(hne : g≠g' := by omega):Bk w' g T vs := h.updN e hne
theorem kT (x:Int):ln (x.natAbs:Int)=ln x:=by unfold ln;rw [Int.natAbs_natCast]
theorem NN (h:x≠y):cV .neq (bH x y) 0=some true:=by
 have e:¬bH x y=0:=fun e=>h (qJ.1 e)
 simp only [cV,eH,bne_iff_ne,ne_eq];exact e
theorem NO (h:x=y):cV .neq (bH x y) 0=some false:=by
 have e:bH x y=0:=qJ.2 h
 rw [e];rfl
theorem zF (h:x<y):cV .lss (bH x y) 0=some true:=by
 have e:=oV.2 h
 simp only [cV,eH,decide_eq_true_eq];exact e
theorem zG (h:y≤x:=by omega):cV .lss (bH x y) 0=some false:=by
 have e:¬bH x y<0:=fun e=>by have:=oV.1 e;omega
 simp only [cV,eH,decide_eq_false_iff_not];exact e
theorem NQ (h:y<x):cV .gtr (bH x y) 0=some true:=by
 have e:=zE.2 h
 simp only [cV,eH,decide_eq_true_eq];exact e
theorem NR (h:x≤y):cV .gtr (bH x y) 0=some false:=by
 have e:¬0<bH x y:=fun e=>by have:=zE.1 e;omega
 simp only [cV,eH,decide_eq_false_iff_not];exact e
theorem NS (h:y≤x):cV .geq (bH x y) 0=some true:=by
 have e:¬bH x y<0:=fun e=>by have:=oV.1 e;omega
 simp only [cV,eH,decide_eq_true_eq];omega
theorem NT (h:x<y):cV .geq (bH x y) 0=some false:=by
 have e:=oV.2 h
 simp only [cV,eH,decide_eq_false_iff_not];omega
structure AggT (P:bV)(T:aV)(k:Nat):Prop where
 agg:∀w,(isAgg T).run P w= .ok true w
 size:∀w,(sizeOf T).run P w= .ok k w
theorem zK (h:w.cell? p=some v):(load p).run P w= .ok v w:=by
 simp only [load,Sem.run,h]
theorem zI (h:w.cell? p=some u)(hf:w.frozen? p=false)(h1:v.oneCell'=true):(store p v).run P w= .ok () (w.setCell p v):=by
 rw [run_store P w p v .plain h1,h,hf];rfl
theorem uZ {P:bV}{w:a0}{p:a8}:∀(vs:List aD) (i:Nat) (acc:Array aD),(∀j,j<vs.length→w.cell? (p.add (i+j))=some (vs.getD j undef))→
  (loadCellsFrom p i vs.length acc).run P w= .ok (acc++vs.toArray) w
 | [],i,acc,_=>by simp [loadCellsFrom]
 | v::vs,i,acc,h=>by
  have h0:=h 0 (by simp)
  simp only [eS,List.getD_cons_zero] at h0
  have ih:=uZ (P:=P) (p:=p) vs (i+1) (acc.push v) (fun j hj=>by
   have:=h (j+1) (by simpa using hj)
   rw [show i+1+j=i+(j+1) by omega]
   simpa using this)
  show ((load (p.add i)>>=fun v=>loadCellsFrom p (i+1) vs.length (acc.push v):Sem (Array aD))).run P w=_
  have e:(load (p.add i)).run P w= .ok v w:=zK h0
  rw [cA,e]
  simp only [eG,ih]
  simp
theorem bA (hT:AggT P T k)(hb:Bk w g T' vs)(us:List aD)(hu:us.length=k)(hle:off+k≤vs.length)(he:(vs.drop off).take k=us):(loadVar T ⟨g,off,none⟩).run P w= .ok (.agg us.toArray) w:=by
 subst hu
 have h1:=uZ (P:=P) (w:=w) (p:=⟨g,off,none⟩) us 0 #[] (fun j hj=>by
  rw [eQ,iE,hb.cell (by omega)]
  congr 1
  rw [←he]
  simp only [bE,iW,oJ]
  rw [if_pos hj])
 unfold loadVar loadCells
 rw [cA,hT.agg w]
 simp only [eG,if_true,cA,hT.size w,h1]
 simp
theorem aP (hT:∀w,(isAgg T).run P w= .ok false w)(hb:Bk w g T' vs)(hv:vs[i]?=some v):(loadVar T ⟨g,i,none⟩).run P w= .ok v w:=by
 have hi:i<vs.length:=(fS.1 hv).1
 have e:=hb.cell hi
 rw [bE,hv] at e
 unfold loadVar
 rw [cA,hT w]
 simp only [eG,CM,if_false]
 exact zK e
def i8 (vs:List aD)(off:Nat)(us:List aD):List aD:=vs.take off++us++vs.drop (off+us.length)
theorem uP {P:bV}{g:Nat}{T:aV}:∀(us:List aD) (i off:Nat) (w:a0) (vs:List aD),Bk w g T vs→off+i+us.length≤vs.length→(∀u∈us,u.oneCell'=true)→
  ∃w',(storeCells ⟨g,off,none⟩ us i).run P w= .ok () w'∧Bk w' g T (i8 vs (off+i) us)∧Upd g w w'∧w'.heap.size=w.heap.size
 | [],i,off,w,vs,hb,_,_=>⟨w,rfl,by simpa [i8] using hb,Upd.refl g w,rfl⟩
 | u::us,i,off,w,vs,hb,hle,h1=>by
  have hi:off+i<vs.length:=by simp at hle;omega
  have p:=hb.cell hi
  have hf:=hb.frozen (off+i)
  have h:=hb.set (off+i) u
  obtain⟨w',hr,f,q,hs⟩:=uP (P:=P) us (i+1) off (w.setCell ⟨g,off+i,none⟩ u) (vs.set (off+i) u) h (by simp at hle⊢;omega) (fun x hx=>h1 x (by simp [hx]))
  refine⟨w',?_,?_,((Upd.refl g w).setCell (off+i) u).trans q,by rw [hs];simp [rU]⟩
  ·show ((store ((⟨g,off,none⟩:a8).add i) u>>=fun _=>storeCells ⟨g,off,none⟩ us (i+1):Sem Unit)).run P w=_
   rw [iE,cA,zI p hf (h1 u (by simp))]
   exact hr
  ·have e:i8 (vs.set (off+i) u) (off+(i+1)) us=i8 vs (off+i) (u::us):=by
    unfold i8
    have o:(vs.set (off+i) u).take (off+(i+1))=vs.take (off+i)++ [u]:=by
     rw [show off+(i+1)=off+i+1 by omega,sF _ _ (by simpa using hi) undef,List.take_set_of_le (aX _)]
     congr 2
     rw [bE,List.getElem?_set_self hi];rfl
    rw [o,List.drop_set_of_lt (by omega)]
    simp only [gD,List.append_assoc,u6,List.nil_append]
    rw [show off+(i+1)+us.length=off+i+(us.length+1) by omega]
   rw [←e];exact f
theorem fA (hT:AggT P T k)(hk:us.length=k)(hb:Bk w g T' vs)(hle:off+k≤vs.length)(h1:us.all (·.oneCell')=true)(us':List aD)(he:i8 vs off us=us'):∃w',(storeVar T ⟨g,off,none⟩ (.agg us.toArray)).run P w= .ok () w'∧Bk w' g T' us'∧Upd g w w'∧w'.heap.size=w.heap.size:=by
 subst hk
 obtain⟨w',hr,f,h,hs⟩:=uP (P:=P) us 0 off w vs hb (by omega) (by simpa [eK] using h1)
 rw [eS,he] at f
 refine⟨w',?_,f,h,hs⟩
 unfold storeVar
 rw [cA]
 show ((sizeOf T).run P w).andThen _=_
 rw [hT.size w]
 have e:(Value.agg us.toArray).cells=us.toArray:=rfl
 simp only [eG,e,xX,ne_eq,not_true,if_false]
 exact hr
theorem yI {Q:dH→Act→a0→Prop}{l:Fr}(hw:d5 ops l gd=some true){x y:cG}(hx:bP l x=some (a4 g off))(hy:bP l y=some (.agg us.toArray))(hT:AggT P T k)(hk:us.length=k)(hb:Bk w g T' vs)(hle:off+k≤vs.length)(h1:us.all (·.oneCell')=true)(us':List aD)(he:i8 vs off us=us')(h:∀w',Bk w' g T' us'→Upd g w w'→w'.heap.size=w.heap.size→wl P ops Q n rest l w'):wl P ops Q n (⟨none,.store T x y,ty,pos,af,gd⟩::rest) l w:=by
 obtain⟨w',hr,e,f,hs⟩:=fA (P:=P) hT hk hb hle h1 us' he
 exact qA hw (p:=⟨g,off,none⟩) hx hy (w':=w') hr (h w' e f hs)
theorem d6 {Q:dH→Act→a0→Prop}{l:Fr}(hw:d5 ops l gd=some true){x y:cG}(hx:bP l x=some (a4 g off))(hy:bP l y=some v)(hT:∀w,(sizeOf T).run P w= .ok 1 w)(hv:v.cells= #[v])(hb:Bk w g T' vs)(hle:off<vs.length)(h1:v.oneCell'=true)(us':List aD)(he:vs.set off v=us')(h:∀w',Bk w' g T' us'→Upd g w w'→w'.heap.size=w.heap.size→wl P ops Q n rest l w'):wl P ops Q n (⟨none,.store T x y,ty,pos,af,gd⟩::rest) l w:=by
 have e:=hb.set off v
 rw [he] at e
 refine qA hw (p:=⟨g,off,none⟩) hx hy (w':=w.setCell ⟨g,off,none⟩ v) ?_ (h _ e ((Upd.refl g w).setCell off v) (by simp [rU]))
 unfold storeVar
 rw [cA]
 show ((sizeOf T).run P w).andThen _=_
 rw [hT w]
 simp only [eG,hv,xX,gD,List.length_nil,ne_eq,not_true,eQ,if_false]
 show ((store ((⟨g,off,none⟩:a8).add 0) v>>=fun _=>storeCells ⟨g,off,none⟩ [] (0+1):Sem Unit)).run P w=_
 rw [iE,eS,cA,zI (hb.cell hle) (hb.frozen off) h1]
 rfl
section
variable {P:bV}{Q:dH→Act→a0→Prop}{n:Nat}{l:Fr}{w:a0}{ops:Array bB}{rest:List bB}{d:Nat}{ty:aV}{pos:String}{af:Array fD}{gd:Option (Nat×Bool)}
theorem OZ {s:Nat}{a:a8}{k:iL}{i:Int}(hT:P.underlying t=some (.slice e))(hs:∀w,(sizeOf e).run P w= .ok s w)(h0:0≤i)(h1:i<m):(Instr.indexAt t (i9 (some a) m c) (.int k i)).run P w= .ok (.pointer (some (a.add (i.toNat*s)))) w:=by
 have f:(underlying t).run P w= .ok (.slice e) w:=kK hT w
 unfold Instr.indexAt
 simp only [asIntOf,cA,g0,eG,f]
 rw [if_pos ⟨h0,h1⟩]
 simp only [cA,hs w,eG,g0]
def FO (v:Option aD)(k:Nat)(dflt:Nat):Prop:=(v=none∧k=dflt)∨v=some (a9 (k:Int))
theorem sM {k:BoundsCode}(h:i≤cap):(Instr.sliceBound (a9 (i:Int)) cap k).run P w= .ok i w:=by
 unfold Instr.sliceBound
 simp only [asIntOf,cA,g0,eG]
 rw [if_pos ⟨by omega,by omega⟩]
 rfl
theorem OU {s lo:Nat}(hT:P.underlying t=some (.slice e))(hs:∀w,(sizeOf e).run P w= .ok s w)(h1:FO low lo 0)(h2:FO high hi m)(h3:lo≤hi)(h4:hi≤c):(Instr.sliceAt t (i9 A m c) low high none).run P w= .ok (i9 (if c=lo then A else A.map (·.add (lo*s))) (hi-lo) (c-lo)) w:=by
 have f:(underlying t).run P w= .ok (.slice e) w:=kK hT w
 have hb:(Instr.sliceBounds true m c low high none).run P w= .ok (lo,hi,c) w:=by
  unfold Instr.sliceBounds
  rcases h1 with⟨rfl,rfl⟩ | rfl <;> rcases h2 with⟨rfl,rfl⟩ | rfl
  ·simp only [cA,g0,eG]
  ·simp only [cA,g0,eG,sM h4,if_true]
  ·simp only [cA,g0,eG,Option.isSome,sM h3]
  ·simp only [cA,g0,eG,Option.isSome,sM h4,sM h3,if_true]
 unfold Instr.sliceAt
 simp only [cA,f,eG]
 unfold Instr.slice
 simp only [cA,f,eG,hb,hs w,g0]
theorem lT (hw:d5 ops l gd=some true){x:cG}{s lo:Nat}(hx:bP l x=some (i9 A m c))(hT:P.underlying t=some (.slice e))(hs:∀w,(sizeOf e).run P w= .ok s w)(h1:match lo' with | none=>lo=0 | some y=>bP l y=some (a9 (lo:Int)))(h2:match hi' with | none=>hi=m | some y=>bP l y=some (a9 (hi:Int)))(h3:lo≤hi)(h4:hi≤c)(hv:oD (if c=lo then A else A.map (·.add (lo*s))) (hi-lo) (c-lo)=v)(hn:d<n)(h:wl P ops Q n rest ((d,v)::l) w):wl P ops Q n (⟨some d,.slice t x lo' hi' none,ty,pos,af,gd⟩::rest) l w:=
 fJ hw hn (fun a' f=>by
  have e:(Instr.sliceAt t (a'.eval x) (lo'.map a'.eval) (hi'.map a'.eval) (Option.map a'.eval none)).run P w= .ok v w:=by
   rw [f.ev hx,←hv]
   refine OU hT hs ?_ ?_ h3 h4
   ·cases lo' with
    | none=>exact cD ⟨rfl,h1⟩
    | some y=>exact bT (by show some (a'.eval y)=_;rw [f.ev h1])
   ·cases hi' with
    | none=>exact cD ⟨rfl,h2⟩
    | some y=>exact bT (by show some (a'.eval y)=_;rw [f.ev h2])
  show ((Instr.sliceAt t (a'.eval x) (lo'.map a'.eval) (hi'.map a'.eval) (Option.map a'.eval none)>>=fun r=>pure (gE r):Sem fU)).run P w=_
  rw [cA,e];rfl) h
theorem sW (hT:AggT P T k)(us:List aD)(hu:us.length=k)(hc:∀j,j<us.length→w.cell? (p.add j)=some (us.getD j undef)):(loadVar T p).run P w= .ok (.agg us.toArray) w:=by
 subst hu
 have h1:=uZ (P:=P) (w:=w) (p:=p) us 0 #[] (fun j hj=>by rw [eQ];exact hc j hj)
 unfold loadVar loadCells
 rw [cA,hT.agg w]
 simp only [eG,if_true,cA,hT.size w,h1]
 simp
theorem cT (hT:∀w,(isAgg T).run P w= .ok false w)(hc:w.cell? p=some v):(loadVar T p).run P w= .ok v w:=by
 unfold loadVar
 rw [cA,hT w]
 simp only [eG,CM,if_false]
 exact zK hc
end
theorem WV (a:a8):a.add 0=a:=by simp [lR]
theorem pG {a b:Int}(h:b≤a):cV .geq a b=some true:=by simp only [cV,eH,decide_eq_true_eq];omega
theorem eF {a b:Int}(h:a<b:=by omega):cV .geq a b=some false:=by simp only [cV,eH,decide_eq_false_iff_not];omega
theorem p8 {a b:Int}(h:a<b):cV .lss a b=some true:=by simp only [cV,eH,decide_eq_true_eq];omega
theorem mT {a b:Int}(h:b≤a:=by omega):cV .lss a b=some false:=by simp only [cV,eH,decide_eq_false_iff_not];omega
theorem lC {a b:Int}(h:b<a:=by omega):cV .gtr a b=some true:=by simp only [cV,eH,decide_eq_true_eq];omega
theorem pF {a b:Int}(h:a≤b:=by omega):cV .gtr a b=some false:=by simp only [cV,eH,decide_eq_false_iff_not];omega
theorem GP {a b:Int}(h:a≤b):cV .leq a b=some true:=by simp only [cV,eH,decide_eq_true_eq];omega
theorem GQ {a b:Int}(h:b<a):cV .leq a b=some false:=by simp only [cV,eH,decide_eq_false_iff_not];omega
theorem dD {a b:Int}(h:a=b):cV .eql a b=some true:=by subst h;simp [cV]
theorem cB {a b:Int}(h:a≠b:=by omega):cV .eql a b=some false:=by simp only [cV,eH,beq_eq_false_iff_ne,ne_eq];exact h
theorem nQ {a b:Int}(h:a≠b:=by omega):cV .neq a b=some true:=by simp only [cV,eH,bne_iff_ne,ne_eq];exact h
theorem kS {a b:Int}(h:a=b:=by omega):cV .neq a b=some false:=by subst h;simp [cV]
theorem xE {a b c:Int}(h:a+b=c:=by omega)(h1: -9223372036854775808≤c:=by omega)(h2:c≤9223372036854775807:=by omega):eJ .add .i64 a b=some c:=by
 simp only [eJ,eH];rw [h];exact IntWalk.i64_in _ ⟨h1,h2⟩
theorem fH {a b c:Int}(h:a-b=c)(h1: -9223372036854775808≤c:=by omega)(h2:c≤9223372036854775807:=by omega):eJ .sub .i64 a b=some c:=by
 simp only [eJ,eH];rw [h];exact IntWalk.i64_in _ ⟨h1,h2⟩
theorem tK {a b c:Int}(h:a*b=c)(h1: -9223372036854775808≤c)(h2:c≤9223372036854775807):eJ .mul .i64 a b=some c:=by
 simp only [eJ,eH];rw [h];exact IntWalk.i64_in _ ⟨h1,h2⟩
theorem WQ {a b c:Int}(hb:b≠0)(h:a.tdiv b=c)(h1: -9223372036854775808≤c)(h2:c≤9223372036854775807):eJ .quo .i64 a b=some c:=by
 simp only [eJ];rw [if_neg hb,h,eH];exact IntWalk.i64_in _ ⟨h1,h2⟩
theorem xD {k:iL}{a b c:Int}(h:a.tmod b=c)(hb:b≠0:=by decide):eJ .rem k a b=some c:=by
 simp only [eJ];rw [if_neg hb,h]
theorem Rd.at (h:Rd w A n c xs)(hi:i<n):∃p,A.map (·.add (i*1))=some p∧w.cell? p=some (i5 ((xs.getD i 0:Nat):Int))∧xs.getD i 0≤18446744073709551615:=by
 obtain⟨a,x,rfl,e,hb,f⟩:=h.get hi
 refine⟨a.add i,by rw [dK];rfl,?_,by rw [e.out];exact hb⟩
 rw [e.out];exact f
theorem Rd.updL (h:Rd w A n c xs)(e:Upd g w w')(hne:0<c→∀a,A=some a→a.block≠g):Rd w' A n c xs:=
 ⟨⟨h.rv.len,h.rv.le,h.rv.max,fun i hi=>by
  obtain⟨a,f,o⟩:=h.rv.get i hi
  exact⟨a,f,e.cell o (by rw [rK];exact hne (by have:=h.rv.le;omega) a f)⟩,fun a f o=>cS (h.rv.blk a f o) e.size⟩,h.wf⟩
theorem dN (g i:Nat):(some (⟨g,0,none⟩:a8)).map (·.add (i*1))=some ⟨g,i,none⟩:=by
 rw [dK]
 show some ((⟨g,0,none⟩:a8).add i)=_
 rw [iE,eQ]
section
variable {P:bV}{Q:dH→Act→a0→Prop}{n:Nat}{l:Fr}{w:a0}{ops:Array bB}{rest:List bB}{d:Nat}{op:Op}{ty:aV}{pos:String}{af:Array fD}{gd:Option (Nat×Bool)}
theorem EQ {s:Nat}{k:iL}{i:Int}(hT:P.underlying t=some (.slice e))(hs:∀w,(sizeOf e).run P w= .ok s w)(hi:i=(j:Int))(hj:j<m)(hp:A.map (·.add (j*s))=some p):(Instr.indexAt t (i9 A m c) (.int k i)).run P w= .ok (.pointer (some p)) w:=by
 subst hi
 cases A with
 | none=>cases hp
 | some a=>
  have h:=OZ (P:=P) (w:=w) (t:=t) (e:=e) (s:=s) (m:=m) (c:=c) (a:=a) (k:=k) (i:=(j:Int)) hT hs (by omega) (by omega)
  rw [h]
  rw [gX]
  injection hp with hp
  rw [←hp]
theorem bK (hw:d5 ops l gd=some true){x y:cG}{s:Nat}{k:iL}{i:Int}(hx:bP l x=some (i9 A m c))(hy:bP l y=some (.int k i))(hT:P.underlying t=some (.slice e))(hs:∀w,(sizeOf e).run P w= .ok s w)(j:Nat)(hi:i=(j:Int))(p:a8)(hp:A.map (·.add (j*s))=some p)(h:wl P ops Q n rest ((d,.pointer (some p))::l) w)(hj:j<m:=by omega)(hn:d<n:=by decide):wl P ops Q n (⟨some d,.indexAddr t x y,ty,pos,af,gd⟩::rest) l w:=
 fJ hw hn (fun a' f=>by
  have e:(Instr.indexAt t (a'.eval x) (a'.eval y)).run P w= .ok (.pointer (some p)) w:=by rw [f.ev hx,f.ev hy];exact EQ hT hs hi hj hp
  show ((Instr.indexAt t (a'.eval x) (a'.eval y)>>=fun r=>pure (gE r):Sem fU)).run P w=_
  rw [cA,e];rfl) h
theorem gZ {x y:cG}{s:Nat}{k:iL}{i:Int}(hx:bP l x=some (i9 A m c))(hy:bP l y=some (.int k i))(hT:P.underlying t=some (.slice e))(hs:∀w,(sizeOf e).run P w= .ok s w)(j:Nat)(hi:i=(j:Int))(p:a8)(hp:A.map (·.add (j*s))=some p)(hj:j<m:=by omega):gB P n l ⟨dst,.indexAddr t x y,ty,pos,af,gd⟩ w (.value (.pointer (some p))) w:=fun a' f=>by
 have e:(Instr.indexAt t (a'.eval x) (a'.eval y)).run P w= .ok (.pointer (some p)) w:=by rw [f.ev hx,f.ev hy];exact EQ hT hs hi hj hp
 show ((Instr.indexAt t (a'.eval x) (a'.eval y)>>=fun r=>pure (gE r):Sem fU)).run P w=_
 rw [cA,e];rfl
theorem nM {x y:cG}{k:iL}{a b:Int}(hx:bP l x=some (.int k a))(hy:bP l y=some (.int k b))(c:Bool)(hc:cV o a b=some c):gB P n l ⟨dst,.binOp o t x y t',ty,pos,af,gd⟩ w (.value (.bool c)) w:=fun a' f=>by
 have e:((do eqGuard o t x y (a'.eval x) (a'.eval y);binOp o t (a'.eval x) (a'.eval y)):Sem aD).run P w= .ok (.bool c) w:=by
  rw [f.ev hx,f.ev hy];exact ER hc
 show ((((do eqGuard o t x y (a'.eval x) (a'.eval y);binOp o t (a'.eval x) (a'.eval y)):Sem aD)>>=fun r=>pure (gE r)):Sem fU).run P w=_
 rw [cA,e];rfl
theorem kQ {x y:cG}{k:iL}{a b:Int}(hx:bP l x=some (.int k a))(hy:bP l y=some (.int k b))(c:Int)(hc:eJ o k a b=some c):gB P n l ⟨dst,.binOp o t x y t',ty,pos,af,gd⟩ w (.value (.int k c)) w:=fun a' f=>by
 have e:((do eqGuard o t x y (a'.eval x) (a'.eval y);binOp o t (a'.eval x) (a'.eval y)):Sem aD).run P w= .ok (.int k c) w:=by
  rw [f.ev hx,f.ev hy];exact ES hc
 show ((((do eqGuard o t x y (a'.eval x) (a'.eval y);binOp o t (a'.eval x) (a'.eval y)):Sem aD)>>=fun r=>pure (gE r)):Sem fU).run P w=_
 rw [cA,e];rfl
theorem sL (hT:∀w,(sizeOf T).run P w= .ok 1 w)(hv:v.cells= #[v])(hb:Bk w g T' vs)(hle:off<vs.length)(h1:v.oneCell'=true)(us':List aD)(he:vs.set off v=us'):∃w',(storeVar T ⟨g,off,none⟩ v).run P w= .ok () w'∧Bk w' g T' us'∧Upd g w w'∧w'.heap.size=w.heap.size:=by
 have e:=hb.set off v
 rw [he] at e
 refine⟨w.setCell ⟨g,off,none⟩ v,?_,e,(Upd.refl g w).setCell off v,by simp [rU]⟩
 unfold storeVar
 rw [cA]
 show ((sizeOf T).run P w).andThen _=_
 rw [hT w]
 simp only [eG,hv,xX,gD,List.length_nil,ne_eq,not_true,eQ,if_false]
 show ((store ((⟨g,off,none⟩:a8).add 0) v>>=fun _=>storeCells ⟨g,off,none⟩ [] (0+1):Sem Unit)).run P w=_
 rw [iE,eS,cA,zI (hb.cell hle) (hb.frozen off) h1]
 rfl
theorem l6 {z:aD}{x y:cG}(hw:d5 ops l gd=some true){i:Int}(hx:bP l x=some (a9 i))(hy:bP l y=some (a9 i))(hi:i=(k:Int))(ht:P.underlying t=some (.slice e))(hinfo:(P.info? e).map (fun i=>(i.zero,i.size,i.bytes))=some (some z,1,bytes))(hz:z.cells= #[z])(h:∀g w',w.heap.size=g→Bk w' g e (cJ k z)→Ext w w'→wl P ops Q n rest ((d,i9 (some ⟨g,0,none⟩) k k)::l) w')(hby:bytes≤64:=by decide)(hk:k≤1099511627776:=by omega)(hn:d<n:=by decide):wl P ops Q n (⟨some d,.makeSlice t x y,ty,pos,af,gd⟩::rest) l w:=by
 subst hi
 have f:=kF (P:=P) ht hinfo hz hby (k:Int) (by omega) (by omega) w
 rw [gX] at f
 refine fJ hw hn (fun a' o=>?_) (h _ (w.alloc (.cells (zc z k) e)) G (Bk.new' _ _ _) ((Ext.refl w).alloc _))
 have e':(oK t (a'.eval x) (a'.eval y)).run P w= .ok (i9 (some ⟨w.heap.size,0,none⟩) k k) (w.alloc (.cells (zc z k) e)):=by rw [o.ev hx,o.ev hy];exact f
 show ((oK t (a'.eval x) (a'.eval y)>>=fun r=>pure (gE r):Sem fU)).run P w=_
 rw [cA,e'];rfl
end
theorem iA (hT:∀w,(isAgg T).run P w= .ok false w)(hb:Bk w g T' (l.map bC))(hi:i<l.length):(loadVar T ⟨g,i,none⟩).run P w= .ok (i5 ((l.getD i 0:Nat):Int)) w:=by
 refine aP hT hb ?_
 simp [bE,bR hi]
theorem iR {x:Nat}(h:l.length=N):(l.set i x).length=N:=by rw [List.length_set];exact h
theorem gL {f:Nat→aD}(h:i<l.length):i<(l.map f).length:=by rw [List.length_map];exact h
theorem dG {A B:Int}(ha:A=(a:Int))(hb:B=(b:Int))(h:a<b:=by omega):cV .lss A B=some true:=by subst ha hb;exact p8 (by omega)
theorem cW {A B:Int}(ha:A=(a:Int))(hb:B=(b:Int))(h:b≤a:=by omega):cV .lss A B=some false:=by subst ha hb;exact mT
theorem m4 {A B:Int}(ha:A=(a:Int))(hb:B=(b:Int))(h:a≤b:=by omega):cV .leq A B=some true:=by subst ha hb;exact GP (by omega)
theorem m5 {A B:Int}(ha:A=(a:Int))(hb:B=(b:Int))(h:b<a:=by omega):cV .leq A B=some false:=by subst ha hb;exact GQ (by omega)
theorem fB {A B:Int}(ha:A=(a:Int))(hb:B=(b:Int))(h:b<a:=by omega):cV .gtr A B=some true:=by subst ha hb;exact lC
theorem fC {A B:Int}(ha:A=(a:Int))(hb:B=(b:Int))(h:a≤b:=by omega):cV .gtr A B=some false:=by subst ha hb;exact pF
theorem fY {A B:Int}(ha:A=(a:Int))(hb:B=(b:Int))(h:b≤a:=by omega):cV .geq A B=some true:=by subst ha hb;exact pG (by omega)
theorem k9 {A B:Int}(ha:A=(a:Int))(hb:B=(b:Int))(h:a<b:=by omega):cV .geq A B=some false:=by subst ha hb;exact eF
theorem fM {A B:Int}(ha:A=(a:Int))(hb:B=(b:Int))(h:a=b:=by omega):cV .eql A B=some true:=by subst ha hb;exact dD (by omega)
theorem fT {A B:Int}(ha:A=(a:Int))(hb:B=(b:Int))(h:a≠b:=by omega):cV .eql A B=some false:=by subst ha hb;exact cB
theorem x9 {A B:Int}(ha:A=(a:Int))(hb:B=(b:Int))(h:a≠b:=by omega):cV .neq A B=some true:=by subst ha hb;exact nQ
theorem k8 {A B:Int}(ha:A=(a:Int))(hb:B=(b:Int))(h:a=b:=by omega):cV .neq A B=some false:=by subst ha hb;exact kS
theorem iD {A B:Int}(ha:A=(a:Int))(hb:B=(b:Int))(h:a+b≤18446744073709551615:=by omega):eJ .add .u64 A B=some ((a+b:Nat):Int):=by
 subst ha hb;simp only [eJ,eH];rw [←Int.natCast_add];exact IntWalk.u64_in _ ⟨by omega,by omega⟩
theorem tJ {A B:Int}(ha:A=(a:Int))(hb:B=(b:Int))(h:b≤a:=by omega)(h2:a≤18446744073709551615:=by omega):eJ .sub .u64 A B=some ((a-b:Nat):Int):=by
 subst ha hb;simp only [eJ,eH];rw [show (a:Int)-(b:Int)=((a-b:Nat):Int) by omega];exact IntWalk.u64_in _ ⟨by omega,by omega⟩
theorem kW {A B:Int}(ha:A=(a:Int))(hb:B=(b:Int))(h:a*b≤18446744073709551615:=by omega):eJ .mul .u64 A B=some ((a*b:Nat):Int):=by
 subst ha hb;simp only [eJ,eH];rw [←l5];exact IntWalk.u64_in _ ⟨by omega,by omega⟩
theorem kB {A B:Int}(ha:A=(a:Int))(hb:B=(b:Int))(h:b≠0:=by omega)(h2:a≤18446744073709551615:=by omega):eJ .quo .u64 A B=some ((a/b:Nat):Int):=by
 subst ha hb
 have e:((a:Int)).tdiv (b:Int)=((a/b:Nat):Int):=rfl
 have o:a/b≤a:=eR a b
 have f:(0:Int)≤((a/b:Nat):Int):=Int.natCast_nonneg _
 have p:((a/b:Nat):Int)≤(a:Int):=Int.ofNat_le.2 o
 simp only [eJ];rw [if_neg (by omega),e,eH]
 generalize ((a/b:Nat):Int)=q at f p
 exact IntWalk.u64_in _ ⟨by omega,by omega⟩
theorem kV {k:iL}{A B:Int}(ha:A=(a:Int))(hb:B=(b:Int))(h:b≠0:=by omega):eJ .rem k A B=some ((a%b:Nat):Int):=by
 subst ha hb
 have e:((a:Int)).tmod (b:Int)=((a%b:Nat):Int):=rfl
 simp only [eJ];rw [if_neg (by omega),e]
theorem bN {A B:Int}(ha:A=(a:Int))(hb:B=(b:Int))(h:a+b≤9223372036854775807:=by omega):eJ .add .i64 A B=some ((a+b:Nat):Int):=by
 subst ha hb;exact xE
theorem gI {A B:Int}(ha:A=(a:Int))(hb:B=(b:Int))(h:b≤a:=by omega)(h2:a≤9223372036854775807:=by omega):eJ .sub .i64 A B=some ((a-b:Nat):Int):=by
 subst ha hb;exact fH (by omega)
theorem pI {A B:Int}(ha:A=(a:Int))(hb:B=(b:Int))(h:a*b≤9223372036854775807:=by omega):eJ .mul .i64 A B=some ((a*b:Nat):Int):=by
 subst ha hb;exact tK (by rw [←l5]) (by omega) (by omega)
theorem lG {A B:Int}(ha:A=(a:Int))(hb:B=(b:Int))(h:b≠0:=by omega)(h2:a≤9223372036854775807:=by omega):eJ .quo .i64 A B=some ((a/b:Nat):Int):=by
 subst ha hb
 have o:a/b≤a:=eR a b
 have e:(0:Int)≤((a/b:Nat):Int):=Int.natCast_nonneg _
 have f:((a/b:Nat):Int)≤(a:Int):=Int.ofNat_le.2 o
 refine WQ (by omega) G ?_ ?_
 ·show _≤((a/b:Nat):Int)
  generalize ((a/b:Nat):Int)=q at e f
  omega
 ·show ((a/b:Nat):Int)≤_
  generalize ((a/b:Nat):Int)=q at e f
  omega
theorem bM (w:a0):(sizeOf 65).run aH w= .ok 1 w:=by kernel_rfl
theorem d7 (w:a0):(isAgg 65).run aH w= .ok false w:=by kernel_rfl
theorem bS:Tryz.prog.underlying 22=some (.slice 65):=Tryz.underlying22
theorem EY {a b c d:aD}{s s' u:Tmp}(hf:fn.results= #[.cell s 24,.cell s' 24,.tmp u])(hs:tmps.getD s undef= a4 g 0)(hs':tmps.getD s' undef= a4 g' 0)(hu:tmps.getD u undef=v)(h:Bk w g t [a,b])(h':Bk w g' t' [c,d]):(results fn tmps).run aH w= .ok (.tuple #[.agg #[a,b],.agg #[c,d],v]) w:=by
 obtain⟨h1,h2,_,_⟩:=h.two
 obtain⟨h3,h4,_,_⟩:=h'.two
 have hs2:tmps[s]?.getD undef= a4 g 0:=by simpa using hs
 have hs3:tmps[s']?.getD undef= a4 g' 0:=by simpa using hs'
 have hu2:tmps[u]?.getD undef=v:=by simpa using hu
 simp [results,hf,hs2,hs3,hu2,loadVar,loadCells,loadCellsFrom,go_sem,h1,h2,h3,h4]
theorem Bk.two_far {l:List aD}(h:Bk w g t l)(hne:g≠g')(u v:aD):Bk ((w.setCell ⟨g',0,none⟩ u).setCell ⟨g',1,none⟩ v) g t l:=(h.far (p:=⟨g',0,none⟩) hne u).far (p:=⟨g',1,none⟩) hne v
theorem yD {t:Bool}(hx:Zi w s A n cap x)(hl:n≤274877906944)(hy:Zi w t B m cap' y)(hl':m≤274877906944):aQ aH 68 #[J s A n cap,J t B m cap'] w (kY w (x+y)):=by
 obtain⟨xs,hr,rfl⟩:=hx
 obtain⟨ys,hq,rfl⟩:=hy
 go_enter Tryz.func68,Tryz.ntmps68
 go_upto_region 1 with (fail)
 obtain⟨g,g2,g3,wa,hg3,hg2,hg,hwa,hb1,hb2,hb3,hea,l12,l23,l3,n12,n21,n13,n31,n23,n32⟩:=BV w 24 24 24 (.bool s) (i9 A n cap) (.bool t) (i9 B m cap') (t9) (i9 none 0 0)
 rw [hg3,hg2,hg,hwa]
 have hgw:w.heap.size≤g:=Nat.le_of_eq hg
 clear hwa hg hg2 hg3
 obtain⟨f1,f2,f3,f4⟩:=hb1.two
 obtain⟨h1,h2,h3,h4⟩:=hb2.two
 obtain⟨k1,k2,k3,k4⟩:=hb3.two
 by_cases hst:s=t
 ·have bs:(s==t)=true:=by rw [hst];cases t <;> rfl
  go_upto_region 2 with (fail)
  go_region_held3 (fun w'=>w'.cell? ⟨g,0,none⟩=some (.bool s)∧w'.cell? ⟨g,1,none⟩=some (i9 A n cap)∧w'.cell? ⟨g2,0,none⟩=some (.bool t)∧w'.cell? ⟨g2,1,none⟩=some (i9 B m cap')) (go_keep)
   (first
   | (go_at_call 145;refine (AE (hr.ext (by repeat (first | exact Ext.refl _ | assumption | apply Ext.drewN | apply Ext.drew | apply Ext.alloc))) (by omega) (hq.ext (by repeat (first | exact Ext.refl _ | assumption | apply Ext.drewN | apply Ext.drew | apply Ext.alloc))) (by omega)).mono ?_;rintro e w1 ⟨A1,n1,c1,rfl,hn1,hr1,ho1,hx1⟩;have he1:Ext wa w1:=Ext.trans (by repeat (first | exact Ext.refl _ | assumption | apply Ext.drewN | apply Ext.drew | apply Ext.alloc)) hx1;have hb1:=hb1.ext he1;have hb2:=hb2.ext he1;have hb3:=hb3.ext he1;obtain⟨f1,f2,f3,f4⟩:=hb1.two;obtain⟨h1,h2,h3,h4⟩:=hb2.two;obtain⟨k1,k2,k3,k4⟩:=hb3.two)
   | (go_at_call 124;refine (jP hn1.out).mono ?_;rintro e w2 ⟨s',rfl,hs',hx2⟩;have hd1:=hb1.ext hx2;have hd2:=hb2.ext hx2;have hd3:=hb3.ext hx2;obtain⟨f1,f2,f3,f4⟩:=hd1.two;obtain⟨h1,h2,h3,h4⟩:=hd2.two;obtain⟨k1,k2,k3,k4⟩:=hd3.two))
  go_wp2_with fail
  refine iV (l8 G G (hd3.two_set _ _)) G ?_
  exact lD hd3 ((j1 hs'.out hn1.out ho1 (by rw [zD,hst])).ext hx2) (by first | omega | (simp;omega)) (hea.trans (he1.trans hx2))
 ·have bs:(s==t)=false:=by cases s <;> cases t <;> simp_all
  have ht:Hid (t= !s):=by show _=_;cases s <;> cases t <;> simp_all
  clear hst
  go_wp2_with fail
  refine (qS (hr.ext hea) (hq.ext hea)).mono ?_
  rintro e w1 ⟨c,hc,hcl,hch,rfl,hx1⟩
  have hb1:=hb1.ext hx1
  have hb2:=hb2.ext hx1
  have hb3:=hb3.ext hx1
  have he1:=hea.trans hx1
  have hsz:=hx1.size
  clear f1 f2 f3 f4 h1 h2 h3 h4 k1 k2 k3 k4
  obtain⟨f1,f2,f3,f4⟩:=hb1.two
  obtain⟨h1,h2,h3,h4⟩:=hb2.two
  by_cases hlt:c<0
  ·have hle:nv xs≤nv ys:=by rw [hc.out] at hlt;exact Nat.le_of_lt (lF.1 hlt)
   have HLE:=Lib.hid hle
   clear hle
   go_upto_region 5 with (fail)
   obtain⟨wb,hwb⟩:∃wb,(((w1.setCell ⟨g,0,none⟩ (.bool t)).setCell ⟨g,1,none⟩ (.slice B m cap')).setCell ⟨g2,0,none⟩ (.bool s)).setCell ⟨g2,1,none⟩ (.slice A n cap)=wb:=⟨_,rfl⟩
   rw [hwb]
   have hd1:Bk wb g 24 (O t B m cap'):=by rw [←hwb];exact (hb1.two_set _ _).two_far n12 _ _
   have hd2:Bk wb g2 24 (O s A n cap):=by rw [←hwb];exact (hb2.two_far n21 _ _).two_set _ _
   have hd3:Bk wb g3 24 (O false none 0 0):=by rw [←hwb];exact (hb3.two_far n31 _ _).two_far n32 _ _
   have heb:Ext w wb:=by
    rw [←hwb]
    exact (Upd.two _ _).ext ((Upd.two _ _).ext he1 hgw) (by omega)
   have hszb:wb.heap.size=w1.heap.size:=by rw [←hwb];simp [rU]
   clear hwb f1 f2 f3 f4 h1 h2 h3 h4
   obtain⟨f1,f2,f3,f4⟩:=hd1.two
   obtain⟨h1,h2,h3,h4⟩:=hd2.two
   go_wp2_with fail
   refine (G2 (hq.ext heb) (by omega) (hr.ext heb) (by omega) HLE.out).mono ?_
   rintro e w2 ⟨A2,n2,c2,rfl,hn2,hr2,ho2,hx2⟩
   obtain⟨f1,f2,f3,f4⟩:=(hd1.ext hx2).two
   have hd3:=hd3.ext hx2
   go_wp2_with fail
   refine (jP hn2.out).mono ?_
   rintro e w3 ⟨s',rfl,hs',hx3⟩
   have hd3:=hd3.ext hx3
   obtain⟨k1,k2,k3,k4⟩:=hd3.two
   go_wp2_with fail
   refine iV (l8 G G (hd3.two_set _ _)) G ?_
   exact lD hd3 ((j1 hs'.out hn2.out ho2 (by rw [qI HLE.out,ht.out,Bool.not_not,Int.add_comm])).ext hx3) (by omega) (heb.trans (hx2.trans hx3))
  ·have hle:nv ys≤nv xs:=by rw [hc.out] at hlt;exact oH (fun h=>hlt (lF.2 h))
   have HLE:=Lib.hid hle
   clear hle
   go_wp2_with fail
   refine (G2 (hr.ext he1) (by omega) (hq.ext he1) (by omega) HLE.out).mono ?_
   rintro e w2 ⟨A2,n2,c2,rfl,hn2,hr2,ho2,hx2⟩
   obtain⟨f1,f2,f3,f4⟩:=(hb1.ext hx2).two
   have hd3:=hb3.ext hx2
   go_wp2_with fail
   refine (jP hn2.out).mono ?_
   rintro e w3 ⟨s',rfl,hs',hx3⟩
   have hd3:=hd3.ext hx3
   obtain⟨k1,k2,k3,k4⟩:=hd3.two
   go_wp2_with fail
   refine iV (l8 G G (hd3.two_set _ _)) G ?_
   exact lD hd3 ((j1 hs'.out hn2.out ho2 (by rw [qI HLE.out,ht.out])).ext hx3) (by omega) (he1.trans (hx2.trans hx3))
theorem KP {t:Bool}(hx:Zi w s A n cap x)(hl:n≤274877906944)(hy:Zi w t B m cap' y)(hl':m≤274877906944):aQ aH 69 #[J s A n cap,J t B m cap'] w (kY w (x-y)):=by
 go_enter Tryz.func69,Tryz.ntmps69
 go_upto_region 1 with (fail)
 obtain⟨g,g2,g3,wa,hg3,hg2,hg,hwa,hb1,hb2,hb3,hea,l12,l23,l3,n12,n21,n13,n31,n23,n32⟩:=BV w 24 24 24 (.bool s) (i9 A n cap) (.bool t) (i9 B m cap') (t9) (i9 none 0 0)
 rw [hg3,hg2,hg,hwa]
 have hgw:w.heap.size≤g:=Nat.le_of_eq hg
 clear hwa hg hg2 hg3
 obtain⟨f1,f2,f3,f4⟩:=hb1.two
 obtain⟨h1,h2,h3,h4⟩:=hb2.two
 obtain⟨k1,k2,k3,k4⟩:=hb3.two
 go_wp2_with fail
 refine (yD (hx.ext hea) hl (hy.not.ext hea) hl').mono ?_
 rintro e w1 ⟨s1,A1,n1,c1,rfl,z1,hx1⟩
 have hd3:=hb3.ext hx1
 clear f1 f2 f3 f4 h1 h2 h3 h4 k1 k2 k3 k4
 obtain⟨k1,k2,k3,k4⟩:=hd3.two
 go_wp2_with fail
 refine iV (l8 G G (hd3.two_set _ _)) G ?_
 exact lD hd3 (z1.cast Int.sub_eq_add_neg.symm) (by omega) (hea.trans hx1)
theorem KV {t u:Bool}{cap'':Nat}(hx:Zi w s A n cap x)(hl:n≤68719476736)(hy:Zi w t B m cap' y)(hl':m≤68719476736)(hz:Zi w u C k cap'' z)(hl'':k≤68719476736):aQ aH 70 #[J s A n cap,J t B m cap',J u C k cap''] w (kY w (x*y+z)):=by
 have lx:=aE hx.ln hl
 have ly:=aE hy.ln hl'
 go_enter Tryz.func70,Tryz.ntmps70
 go_upto_region 1 with (fail)
 obtain⟨g,g2,g3,g4,wa,hg4,hg3,hg2,hg,hwa,hb1,hb2,hb3,hb4,hea,l12,l23,l34,l4,n12,n21,n13,n31,n23,n32,n14,n41,n24,n42,n34,n43⟩:=BU w 24 24 24 24 (.bool s) (i9 A n cap) (.bool t) (i9 B m cap') (.bool u) (i9 C k cap'') (t9) (i9 none 0 0)
 rw [hg4,hg3,hg2,hg,hwa]
 have hgw:w.heap.size≤g:=Nat.le_of_eq hg
 clear hwa hg hg2 hg3 hg4
 obtain⟨f1,f2,f3,f4⟩:=hb1.two
 obtain⟨h1,h2,h3,h4⟩:=hb2.two
 obtain⟨i1,i2,i3,i4⟩:=hb3.two
 obtain⟨k1,k2,k3,k4⟩:=hb4.two
 go_region_held3 (fun w'=>w'.cell? ⟨g,0,none⟩=some (.bool s)∧w'.cell? ⟨g,1,none⟩=some (i9 A n cap)∧w'.cell? ⟨g2,0,none⟩=some (.bool t)∧w'.cell? ⟨g2,1,none⟩=some (i9 B m cap')∧w'.cell? ⟨g3,0,none⟩=some (.bool u)∧w'.cell? ⟨g3,1,none⟩=some (i9 C k cap'')) (go_keep)
  (first
  | (go_at_call 39;refine (CQ (hx.ext (by repeat (first | exact Ext.refl _ | assumption | apply Ext.drewN | apply Ext.drew | apply Ext.alloc))) hl (hy.ext (by repeat (first | exact Ext.refl _ | assumption | apply Ext.drewN | apply Ext.drew | apply Ext.alloc))) hl').mono ?_;rintro e w1 ⟨s1,A1,n1,c1,rfl,z1,hx1⟩;have q1:n1≤274877906944:=(aE (z1.le (lA lx ly)) (by omega));have he1:Ext wa w1:=Ext.trans (by repeat (first | exact Ext.refl _ | assumption | apply Ext.drewN | apply Ext.drew | apply Ext.alloc)) hx1;have hb1:=hb1.ext he1;have hb2:=hb2.ext he1;have hb3:=hb3.ext he1;have hb4:=hb4.ext he1;obtain⟨f1,f2,f3,f4⟩:=hb1.two;obtain⟨h1,h2,h3,h4⟩:=hb2.two;obtain⟨i1,i2,i3,i4⟩:=hb3.two;obtain⟨k1,k2,k3,k4⟩:=hb4.two)
  | (go_at_call 68;refine (yD z1.zi q1 (hz.ext (hea.trans he1)) (by omega)).mono ?_;rintro e w2 ⟨s2,A2,n2,c2,rfl,z2,hx2⟩;have hb1:=hb1.ext hx2;have hb2:=hb2.ext hx2;have hb3:=hb3.ext hx2;have hb4:=hb4.ext hx2;obtain⟨f1,f2,f3,f4⟩:=hb1.two;obtain⟨h1,h2,h3,h4⟩:=hb2.two;obtain⟨i1,i2,i3,i4⟩:=hb3.two;obtain⟨k1,k2,k3,k4⟩:=hb4.two))
 go_wp2_with fail
 have hsz:=he1.size
 refine iV (l8 G G (hb4.two_set _ _)) G ?_
 exact lD hb4 z2 (by omega) (hea.trans (he1.trans hx2))
theorem KY {t:Bool}(hx:Zi w s A n cap x)(hl:n≤68719476736)(hy:Zi w t B m cap' y)(hl':m≤68719476736):aQ aH 64 #[J s A n cap,J t B m cap'] w (C8 (bH x y) w):=by
 go_enter Tryz.func64,Tryz.ntmps64
 go_upto_region 1 with (fail)
 obtain⟨g,g2,wa,hg2,hg,hwa,hb1,hb2,hea,l12,l2,n12,n21⟩:=tH w 24 24 (.bool s) (i9 A n cap) (.bool t) (i9 B m cap')
 rw [hg2,hg,hwa]
 have hgw:w.heap.size≤g:=Nat.le_of_eq hg
 clear hwa hg hg2
 obtain⟨f1,f2,f3,f4⟩:=hb1.two
 obtain⟨h1,h2,h3,h4⟩:=hb2.two
 go_region_held3 (fun w'=>w'.cell? ⟨g,0,none⟩=some (.bool s)∧w'.cell? ⟨g,1,none⟩=some (i9 A n cap)∧w'.cell? ⟨g2,0,none⟩=some (.bool t)∧w'.cell? ⟨g2,1,none⟩=some (i9 B m cap')) (go_keep)
  (first
  | (go_at_call 63;(with_reducible refine (yC (hx.ext (hea.trans (by repeat (first | exact Ext.refl _ | assumption | apply Ext.drewN | apply Ext.drew | apply Ext.alloc)))) hl).mono ?_);rintro e w2 ⟨c,hc,hcl,hch,rfl,hx2⟩;have he2:Ext wa w2:=Ext.trans (by repeat (first | exact Ext.refl _ | assumption | apply Ext.drewN | apply Ext.drew | apply Ext.alloc)) hx2;obtain⟨f1,f2,f3,f4⟩:=(hb1.ext he2).two;obtain⟨h1,h2,h3,h4⟩:=(hb2.ext he2).two)
  | (go_at_call 63;(with_reducible refine (yC (hy.ext (hea.trans (by repeat (first | exact Ext.refl _ | assumption | apply Ext.drewN | apply Ext.drew | apply Ext.alloc)))) hl').mono ?_);rintro e w2 ⟨d,hd,hdl,hdh,rfl,hx2⟩;have he2:Ext wa w2:=Ext.trans (by repeat (first | exact Ext.refl _ | assumption | apply Ext.drewN | apply Ext.drew | apply Ext.alloc)) hx2;obtain⟨f1,f2,f3,f4⟩:=(hb1.ext he2).two;obtain⟨h1,h2,h3,h4⟩:=(hb2.ext he2).two))
 all_goals
  have e2:=hea.trans he2
  clear hx2
  have p1:c<0↔x<0:=by rw [hc.out];exact oV
  have p2:c=0↔x=0:=by rw [hc.out];exact qJ
  have p3:d<0↔y<0:=by rw [hd.out];exact oV
  have p4:d=0↔y=0:=by rw [hd.out];exact qJ
  have hlt:c<d→x<y:=by omega
  have hgt:d<c→y<x:=by omega
  have H1:=Lib.hid p1
  have H2:=Lib.hid p2
  have H3:=Lib.hid p3
  have H4:=Lib.hid p4
  clear p1 p2 p3 p4
  rcases Int.lt_trichotomy c d with h | h | h
  ·have bn:(c != d)=true:=by simp;omega
   have HL:=Lib.hid (hlt h)
   clear hlt hgt
   go_wp2_with fail
   go_ret
   exact⟨-1,(show _=_ by rw [bH,if_pos HL.out]),by omega,by omega,rfl,e2⟩
  ·subst h
   have bn:(c != c)=false:=by simp
   clear hlt hgt
   obtain⟨xs,hr,hxv⟩:=hx
   obtain⟨ys,hq,hyv⟩:=hy
   have HX:=Lib.hid hxv
   have HY:=Lib.hid hyv
   clear hxv hyv
   go_wp2_with fail
   refine (qS (hr.ext e2) (hq.ext e2)).mono ?_
   rintro e w3 ⟨k,hk,hkl,hkh,rfl,hx3⟩
   have fin:c*k=bH x y:=by
    have ax:x.natAbs=nv xs:=by rw [←HX.out,kP]
    have ay:y.natAbs=nv ys:=by rw [←HY.out,kP]
    have k1:k<0↔nv xs<nv ys:=by rw [hk.out];exact lF
    have k2:0<k↔nv ys<nv xs:=by rw [hk.out];exact tG
    have p1:=H1.out
    have p2:=H2.out
    have p3:=H3.out
    have p4:=H4.out
    have hc3:c= -1∨c=0∨c=1:=by omega
    have hk3:k= -1∨k=0∨k=1:=by omega
    rcases hc3 with rfl | rfl | rfl
    ·rcases hk3 with rfl | rfl | rfl <;> (unfold bH;split <;> (try split) <;> omega)
    ·unfold bH;split <;> (try split) <;> omega
    ·rcases hk3 with rfl | rfl | rfl <;> (unfold bH;split <;> (try split) <;> omega)
   have FIN:=Lib.hid fin
   clear fin
   have hc3:c= -1∨c=0∨c=1:=by omega
   rcases hc3 with rfl | rfl | rfl
   ·go_wp2_with fail
    go_ret
    exact⟨-k,(show _=_ by rw [←FIN.out];omega),by omega,by omega,rfl,e2.trans hx3⟩
   ·go_wp2_with fail
    go_ret
    exact⟨0,(show _=_ by rw [←FIN.out];omega),by omega,by omega,rfl,e2.trans hx3⟩
   ·go_wp2_with fail
    go_ret
    exact⟨k,(show _=_ by rw [←FIN.out];omega),by omega,by omega,rfl,e2.trans hx3⟩
  ·have bn:(c != d)=true:=by simp;omega
   have hnl:¬c<d:=by omega
   have HG:=Lib.hid (hgt h)
   clear hlt hgt
   go_wp2_with fail
   go_ret
   exact⟨1,(show _=_ by have:=HG.out;rw [bH,if_neg (by omega),if_neg (by omega)]),by omega,by omega,rfl,e2⟩
theorem KT {v:Nat}(hv:v≤9223372036854775807):aQ aH 61 #[a9 (v:Int)] w (kY w ((v:Int))):=by
 have hn:¬(v:Int)<0:=by omega
 go_enter Tryz.func61,Tryz.ntmps61
 go_upto_region 3 with (fail)
 obtain⟨g,hg⟩:∃g,w.heap.size=g:=⟨_,rfl⟩
 obtain⟨wa,hwa⟩:∃wa,w.alloc (.cells #[.bool false,.slice none 0 0] 24)=wa:=⟨_,rfl⟩
 rw [hg,hwa]
 have hb:Bk wa g 24 (O false none 0 0):=by rw [←hwa,←hg];exact Bk.new w 24 (O false none 0 0)
 have hea:Ext w wa:=by rw [←hwa];exact (Ext.refl w).alloc _
 have hga:w.heap.size≤g:=Nat.le_of_eq hg
 have hgl:g<wa.heap.size:=hb.lt
 clear hwa hg
 obtain⟨k1,k2,k3,k4⟩:=hb.two
 have h1:Rd (wa.alloc (.cells #[i5 (v:Int)] 65)) (some ⟨wa.heap.size,0,none⟩) 1 1 [v]:=Rd.one wa (by omega)
 go_wp2_with fail
 refine (k0 (h1.ext (by repeat (first | exact Ext.refl _ | assumption | apply Ext.drewN | apply Ext.drew | apply Ext.alloc)))).mono ?_
 rintro e w1 ⟨A1,n1,c1,rfl,hn1,hr1,ho1,hx1⟩
 rw [sP] at hn1 ho1
 have hx1':Ext wa w1:=Ext.trans (by repeat (first | exact Ext.refl _ | assumption | apply Ext.drewN | apply Ext.drew | apply Ext.alloc)) hx1
 have hd:=hb.ext hx1'
 have hsz:=hx1'.size
 go_wp2_with fail
 refine (jP hn1.out).mono ?_
 rintro e w2 ⟨s',rfl,hs',hx2⟩
 have hd:=hd.ext hx2
 clear k1 k2 k3 k4
 obtain⟨k1,k2,k3,k4⟩:=hd.two
 go_wp2_with fail
 refine iV (l8 G G (hd.two_set _ _)) G ?_
 exact lD hd ((j1 hs'.out hn1.out ho1 (jW _)).ext hx2) (by simp;omega) (hea.trans (hx1'.trans hx2))
def K3 (w:a0)(q r:Int)(er:Int)(e:dR)(w':a0):Prop:=
 ∃s A n cap s' B m cap',e= .returned (.tuple #[J s A n cap,J s' B m cap',a9 er])∧Zr w' w.heap.size s A n cap q∧Zr w' w.heap.size s' B m cap' r∧Ext w w'∧∀p q,A=some p→B=some q→p.block≠q.block
theorem KN {t:Bool}(hx:Zi w s A n cap x)(_hl:n≤68719476736)(hy:Zi w t B m cap' y)(hl':m≤68719476736)(h0:y=0):aQ aH 148 #[J s A n cap,J t B m cap'] w (K3 w 0 0 4):=by
 obtain⟨xs,hr,rfl⟩:=hx
 obtain⟨ys,hq,hyv⟩:=hy
 have hz:nv ys=0:=zC.1 (by rw [hyv,h0])
 have HZ:=Lib.hid hz
 clear hz h0 hyv
 go_enter Tryz.func148,Tryz.ntmps148
 go_upto_region 1 with (fail)
 obtain⟨g,g2,g3,g4,wa,hg4,hg3,hg2,hg,hwa,hb1,hb2,hb3,hb4,hea,l12,l23,l34,l4,n12,n21,n13,n31,n23,n32,n14,n41,n24,n42,n34,n43⟩:=BU w 24 24 24 24 (.bool s) (i9 A n cap) (.bool t) (i9 B m cap') (t9) (i9 none 0 0) (t9) (i9 none 0 0)
 rw [hg4,hg3,hg2,hg,hwa]
 have hgw:w.heap.size≤g:=Nat.le_of_eq hg
 clear hwa hg hg2 hg3 hg4
 obtain⟨f1,f2,f3,f4⟩:=hb1.two
 obtain⟨h1,h2,h3,h4⟩:=hb2.two
 go_wp2_with fail
 refine (J3 (hq.ext hea) (by omega) HZ.out).mono ?_
 rintro e w1 ⟨rfl,hx1⟩
 clear f1 f2 f3 f4 h1 h2 h3 h4
 have hb3:=hb3.ext hx1
 have hb4:=hb4.ext hx1
 have hsz:=hx1.size
 have e1:=hea.trans hx1
 obtain⟨i1,i2,i3,i4⟩:=hb3.two
 obtain⟨k1,k2,k3,k4⟩:=hb4.two
 go_wp2_with fail
 refine iV (EY G G G G ((hb3.two_set _ _).two_far n34 _ _) ((hb4.two_far n43 _ _).two_set _ _)) G ?_
 exact⟨_,_,_,_,_,_,_,_,rfl,Zr.zero,Zr.zero,(Upd.two _ _).ext ((Upd.two _ _).ext e1 (by omega)) (by omega),fun _ _ h=>by cases h⟩
theorem KO {t:Bool}(hx : Zi w s A n cap x)(hl : n ≤ 68719476736)(hy : Zi w t B m cap' y)(hl' : m ≤ 68719476736)(h0 : y ≠ 0):aQ aH 148 #[.agg #[.bool s, i9 A n cap], .agg #[.bool t, i9 B m cap']] w (K3 w (x.tdiv y) (x.tmod y) 0) := by
  obtain ⟨xs, hr, rfl⟩ := hx
  obtain ⟨ys, hq, rfl⟩ := hy
  have hz : nv ys ≠ 0 := fun e => h0 (zC.2 e)
  have HZ := Lib.hid hz
  clear hz h0
  go_enter Tryz.func148, Tryz.ntmps148
  go_upto_region 1 with (fail)
  obtain ⟨g, g2, g3, g4, wa, hg4, hg3, hg2, hg, hwa, hb1, hb2, hb3, hb4, hea, l12, l23, l34, l4, n12, n21, n13, n31, n23, n32, n14, n41, n24, n42, n34, n43⟩ := BU w 24 24 24 24 (.bool s) (i9 A n cap) (.bool t) (i9 B m cap') (t9) (i9 none 0 0) (t9) (i9 none 0 0)
  rw [hg4, hg3, hg2, hg, hwa]
  have hgw : w.heap.size ≤ g := Nat.le_of_eq hg
  clear hwa hg hg2 hg3 hg4
  obtain ⟨f1, f2, f3, f4⟩ := hb1.two
  obtain ⟨h1, h2, h3, h4⟩ := hb2.two
  go_wp2_with fail
  refine (J4 (hr.ext hea) (by omega) (hq.ext hea) (by omega) HZ.out).mono ?_
  rintro e w1 ⟨Aq, nq, cq, Ar, nr, cr, rfl, hnq, hrq, hoq, hnr, hrr, hor, hx1, hap⟩
  replace hap := Lib.hid hap
  clear f1 f2 f3 f4 h1 h2 h3 h4
  have hb1 := hb1.ext hx1
  have hb2 := hb2.ext hx1
  have hb3 := hb3.ext hx1
  have hb4 := hb4.ext hx1
  have hsz := hx1.size
  have e1 := hea.trans hx1
  go_upto_region 4 with (fail)
  obtain ⟨f1, f2, f3, f4⟩ := hb1.two
  obtain ⟨h1, h2, h3, h4⟩ := hb2.two
  obtain ⟨i1, i2, i3, i4⟩ := hb3.two
  obtain ⟨k1, k2, k3, k4⟩ := hb4.two
  go_region_held3 (fun w' => w'.cell? ⟨g, 0, none⟩ = some (.bool s) ∧ w'.cell? ⟨g, 1, none⟩ = some (i9 A n cap) ∧ w'.cell? ⟨g2, 0, none⟩ = some (.bool t) ∧ w'.cell? ⟨g2, 1, none⟩ = some (i9 B m cap')) (go_keep)
    (first
    | (go_at_call 124; (with_reducible refine (jP hnq.out).mono ?_); rintro e w5 ⟨s5, rfl, hs5, hx5⟩; have he5 : Ext w1 w5 := Ext.trans (by repeat (first | exact Ext.refl _ | assumption | apply Ext.drewN | apply Ext.drew | apply Ext.alloc)) hx5; clear f1 f2 f3 f4 h1 h2 h3 h4 i1 i2 i3 i4 k1 k2 k3 k4; obtain ⟨f1, f2, f3, f4⟩ := (hb1.ext he5).two; obtain ⟨h1, h2, h3, h4⟩ := (hb2.ext he5).two; obtain ⟨i1, i2, i3, i4⟩ := (hb3.ext he5).two; obtain ⟨k1, k2, k3, k4⟩ := (hb4.ext he5).two)
    | (go_at_call 124; (with_reducible refine (jP hnr.out).mono ?_); rintro e w6 ⟨s6, rfl, hs6, hx6⟩; have he6 : Ext w1 w6 := Ext.trans (by repeat (first | exact Ext.refl _ | assumption | apply Ext.drewN | apply Ext.drew | apply Ext.alloc)) hx6; clear f1 f2 f3 f4 h1 h2 h3 h4 i1 i2 i3 i4 k1 k2 k3 k4; obtain ⟨f1, f2, f3, f4⟩ := (hb1.ext he6).two; obtain ⟨h1, h2, h3, h4⟩ := (hb2.ext he6).two; obtain ⟨i1, i2, i3, i4⟩ := (hb3.ext he6).two; obtain ⟨k1, k2, k3, k4⟩ := (hb4.ext he6).two))
  all_goals
    clear f1 f2 f3 f4 h1 h2 h3 h4 i1 i2 i3 i4 k1 k2 k3 k4
    first
    | (obtain ⟨wb, hwb⟩ : ∃ wb, (((w6.setCell ⟨g3, 0, none⟩ (.bool s5)).setCell ⟨g3, 1, none⟩ (.slice Aq nq cq)).setCell ⟨g4, 0, none⟩ (.bool s6)).setCell ⟨g4, 1, none⟩ (.slice Ar nr cr) = wb := ⟨_, rfl⟩
       rw [hwb]
       have hL := he6)
    | (obtain ⟨wb, hwb⟩ : ∃ wb, (((w5.setCell ⟨g3, 0, none⟩ (.bool s5)).setCell ⟨g3, 1, none⟩ (.slice Aq nq cq)).setCell ⟨g4, 0, none⟩ (.bool s6)).setCell ⟨g4, 1, none⟩ (.slice Ar nr cr) = wb := ⟨_, rfl⟩
       rw [hwb]
       have hL := he5)
    have q3 : Bk wb g3 24 [.bool s5, i9 Aq nq cq] := by rw [← hwb]; exact ((hb3.ext hL).two_set _ _).two_far n34 _ _
    have q4 : Bk wb g4 24 [.bool s6, i9 Ar nr cr] := by rw [← hwb]; exact ((hb4.ext hL).two_far n43 _ _).two_set _ _
    have r5 : Zr wb w.heap.size s5 Aq nq cq ((sg s (nv xs)).tdiv (sg t (nv ys))) := by
      rw [← hwb]
      exact (((((j1 hs5.out hnq.out hoq (zA _ _ _ _)).ext hL).upd (by omega) (Upd.two _ _)).upd (by omega) (Upd.two _ _)).mono (by omega))
    have r6 : Zr wb w.heap.size s6 Ar nr cr ((sg s (nv xs)).tmod (sg t (nv ys))) := by
      rw [← hwb]
      exact (((((j1 hs6.out hnr.out hor (E6 _ _ _ _)).ext hL).upd (by omega) (Upd.two _ _)).upd (by omega) (Upd.two _ _)).mono (by omega))
    have eb : Ext w wb := by rw [← hwb]; exact (Upd.two _ _).ext ((Upd.two _ _).ext (e1.trans hL) (by omega)) (by omega)
    clear hwb
    go_wp2_with fail
    refine iV (EY G G G G q3 q4) G ?_
    exact ⟨s5, Aq, nq, cq, s6, Ar, nr, cr, rfl, r5, r6, eb, hap.out⟩
theorem uL (h:y≠0):(x.tmod y).natAbs<y.natAbs:=by
 rw [Int.natAbs_tmod]
 exact fV _ (by omega)
theorem Zi.sgn (h:Zi w s A n cap z)(h0:z≠0):s=decide (z<0):=by
 obtain⟨xs,_,rfl⟩:=h
 have f:nv xs≠0:=fun e=>h0 (zC.2 e)
 rw [sK,decide_eq_true (show 0<nv xs by omega),Bool.and_true]
end
section
namespace Pop
def mk (m:Nat):Nat→Nat
 | 0=>0
 | k+1=>m+256*mk m k
theorem tL (a A m M:Nat)(ha:a<256)(hm:m<256:=by omega):(a+256*A)&&& (m+256*M)=(a&&& m)+256*(A&&& M):=by
 have h1:((a+256*A)&&& (m+256*M))%2^8=a&&& m:=by
  rw [Nat.and_mod_two_pow]
  congr 1 <;> omega
 have h2:((a+256*A)&&& (m+256*M))/2^8=A&&& M:=by
  rw [Nat.and_div_two_pow]
  congr 1 <;> omega
 have e:=jF ((a+256*A)&&& (m+256*M)) (2^8)
 rw [h1,h2] at e
 exact e.symm
def f1 (k x:Nat):Nat:=(x/2&&& mk 85 k)+(x&&& mk 85 k)
def f2 (k x:Nat):Nat:=(x/4&&& mk 51 k)+(x&&& mk 51 k)
def f3 (k x:Nat):Nat:=(x/16+x)&&& mk 15 k
def d1 (b:Nat):Nat:=(b/2&&& 85)+(b&&& 85)
def d2 (b:Nat):Nat:=(b/4&&& 51)+(b&&& 51)
def d3 (b:Nat):Nat:=(b/16+b)&&& 15
def pc (b:Nat):Nat:=d3 (d2 (d1 b))
theorem t1:∀b:Fin 256,∀p:Fin 2,((b.val/2+128*p.val)&&& 85)=(b.val/2&&& 85):=by decide+kernel
theorem t2:∀b:Fin 256,∀p:Fin 4,((b.val/4+64*p.val)&&& 51)=(b.val/4&&& 51):=by decide+kernel
theorem t3:∀b:Fin 256,∀p:Fin 5,((d2 (d1 b.val)/16+d2 (d1 b.val)+16*p.val)&&& 15)=pc b.val:=by decide+kernel
theorem t4:∀b:Fin 256,d1 b.val<256∧d2 (d1 b.val)<69∧d2 (d1 b.val)%16≤4∧pc b.val≤8∧(pc b.val=0→b.val=0)∧(128≤b.val→pc b.val≤1→b.val=128):=by decide+kernel
theorem UW {B:Nat}(hb:b<256):f1 (k+1) (b+256*B)=d1 b+256*f1 k B:=by
 unfold f1 d1
 rw [show mk 85 (k+1)=85+256*mk 85 k from rfl]
 have e:(b+256*B)/2=(b/2+128*(B%2))+256*(B/2):=by omega
 rw [e,tL _ _ _ _ (by omega),tL _ _ _ _ hb,t1 ⟨b,hb⟩ ⟨B%2,by omega⟩]
 show (b/2&&& 85)+_+_=_
 omega
theorem UV {B:Nat}(hb:b<256):f2 (k+1) (b+256*B)=d2 b+256*f2 k B:=by
 unfold f2 d2
 rw [show mk 51 (k+1)=51+256*mk 51 k from rfl]
 have e:(b+256*B)/4=(b/4+64*(B%4))+256*(B/4):=by omega
 rw [e,tL _ _ _ _ (by omega),tL _ _ _ _ hb,t2 ⟨b,hb⟩ ⟨B%4,by omega⟩]
 show (b/4&&& 51)+_+_=_
 omega
theorem nL {B:Nat}(hb:b<256)(hB:f2 k (f1 k B)%16≤4):f3 (k+1) (f2 (k+1) (f1 (k+1) (b+256*B)))=pc b+256*f3 k (f2 k (f1 k B))∧f2 (k+1) (f1 (k+1) (b+256*B))%16≤4:=by
 obtain⟨h1,h2,_,_⟩:=t4 ⟨b,hb⟩
 rw [UW hb,UV h1]
 refine⟨?_,by omega⟩
 generalize f2 k (f1 k B)=C at*
 unfold f3
 rw [show mk 15 (k+1)=15+256*mk 15 k from rfl]
 have e:(d2 (d1 b)+256*C)/16+(d2 (d1 b)+256*C)=(d2 (d1 b)/16+d2 (d1 b)+16*(C%16))+256*(C/16+C):=by omega
 have h2':d2 (d1 b)<69:=h2
 rw [e,tL _ _ _ _ (by omega),t3 ⟨b,hb⟩ ⟨C%16,by omega⟩]
theorem UY {b0 b1 b2 b3 b4 b5 b6 b7:Nat}(h0:b0<256)(h1:b1<256)(h2:b2<256)(h3:b3<256)(h4:b4<256)(h5:b5<256)(h6:b6<256)(h7:b7<256):f3 8 (f2 8 (f1 8 (b0+256*(b1+256*(b2+256*(b3+256*(b4+256*(b5+256*(b6+256*(b7+256*0))))))))))
   =pc b0+256*(pc b1+256*(pc b2+256*(pc b3+256*(pc b4+256*(pc b5+256*(pc b6+256*pc b7)))))):=by
 have f:=nL (k:=0) (B:=0) h7 (by decide)
 have p:=nL h6 f.2
 have r:=nL h5 p.2
 have q:=nL h4 r.2
 have e:=nL h3 q.2
 have o:=nL h2 e.2
 have h:=nL h1 o.2
 have D:=nL h0 h.2
 rw [D.1,h.1,o.1,e.1,q.1,r.1,p.1,f.1]
 simp [f3,mk]
theorem UR {p0 p1 p2 p3 p4 p5 p6 p7:Nat}(h0:p0≤8)(h1:p1≤8)(h2:p2≤8)(h3:p3≤8)(h4:p4≤8)(h5:p5≤8)(h6:p6≤8)(h7:p7≤8)(e3:x3=p0+256*(p1+256*(p2+256*(p3+256*(p4+256*(p5+256*(p6+256*p7)))))))(e4:x4=x3+x3/256)(e5:x5=x4+x4/65536)(e6:x6=x5+x5/4294967296):x6%128=p0+p1+p2+p3+p4+p5+p6+p7∧x6<18446744073709551616:=by
 have e:x4=(p0+p1)+256*((p1+p2)+256*((p2+p3)+256*((p3+p4)+256*((p4+p5)+256*((p5+p6)+256*((p6+p7)+256*p7)))))):=by omega
 clear e3 e4
 have f:x5=(p0+p1+p2+p3)+256*((p1+p2+p3+p4)+256*((p2+p3+p4+p5)+256*((p3+p4+p5+p6)+256*((p4+p5+p6+p7)+256*((p5+p6+p7)+256*((p6+p7)+256*p7)))))):=by omega
 clear e e5
 have gq:x5/4294967296=(p4+p5+p6+p7)+256*((p5+p6+p7)+256*((p6+p7)+256*p7)):=by omega
 rw [gq] at e6
 have h:x6=(p0+p1+p2+p3+p4+p5+p6+p7)+256*(((p1+p2+p3+p4)+256*((p2+p3+p4+p5)+256*((p3+p4+p5+p6)+256*((p4+p5+p6+p7)+256*((p5+p6+p7)+256*((p6+p7)+256*p7))))))+((p5+p6+p7)+256*((p6+p7)+256*p7))):=by omega
 clear gq e6 f
 omega
theorem one {x x1 x2:Nat}(hx:x<18446744073709551616)(hh:9223372036854775808≤x)(e1:x1=f1 8 x)(e2:x2=f2 8 x1)(e3:x3=f3 8 x2)(e4:x4=x3+x3/256)(e5:x5=x4+x4/65536)(e6:x6=x5+x5/4294967296):x6%128=1↔x=9223372036854775808:=by
 obtain⟨W,q0,I,av⟩:∃b q,b<256∧x=b+256*q:=⟨x%256,x/256,by omega,by omega⟩
 obtain⟨X,q1,D,ar⟩:∃b q,b<256∧q0=b+256*q:=⟨q0%256,q0/256,by omega,by omega⟩
 obtain⟨p,q2,Z,bd⟩:∃b q,b<256∧q1=b+256*q:=⟨q1%256,q1/256,by omega,by omega⟩
 obtain⟨o,q3,Y,ak⟩:∃b q,b<256∧q2=b+256*q:=⟨q2%256,q2/256,by omega,by omega⟩
 obtain⟨L,q4,M,aq⟩:∃b q,b<256∧q3=b+256*q:=⟨q3%256,q3/256,by omega,by omega⟩
 obtain⟨F,q5,V,az⟩:∃b q,b<256∧q4=b+256*q:=⟨q4%256,q4/256,by omega,by omega⟩
 obtain⟨r,f,E,am⟩:∃b q,b<256∧q5=b+256*q:=⟨q5%256,q5/256,by omega,by omega⟩
 have U:f<256:=by omega
 have hb7':128≤f:=by omega
 have e:=UY I D Z Y M V E U
 have ex:x=W+256*(X+256*(p+256*(o+256*(L+256*(F+256*(r+256*(f+256*0))))))):=by omega
 rw [←ex,←e1,←e2,←e3] at e
 have p0:=(t4 ⟨W,I⟩).2.2.2
 have p1:=(t4 ⟨X,D⟩).2.2.2
 have p2:=(t4 ⟨p,Z⟩).2.2.2
 have p3:=(t4 ⟨o,Y⟩).2.2.2
 have p4:=(t4 ⟨L,M⟩).2.2.2
 have p5:=(t4 ⟨F,V⟩).2.2.2
 have p6:=(t4 ⟨r,E⟩).2.2.2
 have H:=(t4 ⟨f,U⟩).2.2.2
 have hf:=(UR p0.1 p1.1 p2.1 p3.1 p4.1 p5.1 p6.1 H.1 e e4 e5 e6).1
 simp only at p0 p1 p2 p3 p4 p5 p6 H
 rw [hf]
 show (pc W+pc X+pc p+pc o+pc L+pc F+pc r+pc f=1)↔_
 constructor
 ·intro h
  have h7:pc f≠0:=fun hz=>by have:=H.2.1 hz;omega
  have hs:pc W+pc X+pc p+pc o+pc L+pc F+pc r=0∧pc f=1:=by clear p0 p1 p2 p3 p4 p5 p6 H e e1 e2 e3 e4 e5 e6 ex av ar bd ak aq az am hf;omega
  obtain⟨hs,_⟩:=hs
  have z0:=p0.2.1 (by omega)
  have z1:=p1.2.1 (by omega)
  have z2:=p2.2.1 (by omega)
  have z3:=p3.2.1 (by omega)
  have z4:=p4.2.1 (by omega)
  have z5:=p5.2.1 (by omega)
  have z6:=p6.2.1 (by omega)
  have z7:=H.2.2 hb7' (by omega)
  omega
 ·intro h
  obtain rfl:f=128:=by omega
  obtain rfl:W=0:=by omega
  obtain rfl:X=0:=by omega
  obtain rfl:p=0:=by omega
  obtain rfl:o=0:=by omega
  obtain rfl:L=0:=by omega
  obtain rfl:F=0:=by omega
  obtain rfl:r=0:=by omega
  decide
end Pop
end
section
open Go.RowKit
theorem SC {x y:Nat}(hx:x≤9223372036854775807)(hy:y≤9223372036854775807)(P:bV)(t:aV)(w:a0):(binOp .and t (a9 (x:Int)) (a9 (y:Int))).run P w= .ok (a9 ((x&&& y:Nat):Int)) w:=by
 have e:IntKind.i64.wrap ((lQ 64 (x:Int)&&& lQ 64 (y:Int)).toNat:Int)=((x&&& y:Nat):Int):=by
  rw [CN,lV (by omega),lV (by omega),uF (aE Nat.and_le_left hx)]
 rw [←e];rfl
theorem WM {x:Nat}(hx:x≤18446744073709551615)(hh:9223372036854775808≤x)(w:a0):aQ aH 143 #[i5 (x:Int)] w fun e w'=>∃c:Nat,e= .returned (a9 (c:Int))∧Hid (c=1↔x=9223372036854775808)∧w=w':=by
 obtain⟨x1,hx1⟩:∃x1,Pop.f1 8 x=x1:=⟨_,rfl⟩
 obtain⟨x2,hx2⟩:∃x2,Pop.f2 8 x1=x2:=⟨_,rfl⟩
 obtain⟨x3,hx3⟩:∃x3,Pop.f3 8 x2=x3:=⟨_,rfl⟩
 obtain⟨x4,hx4⟩:∃x4,x3+x3/256=x4:=⟨_,rfl⟩
 obtain⟨x5,hx5⟩:∃x5,x4+x4/65536=x5:=⟨_,rfl⟩
 obtain⟨x6,hx6⟩:∃x6,x5+x5/4294967296=x6:=⟨_,rfl⟩
 have hone:=Pop.one (x:=x) (by omega) hh hx1.symm hx2.symm hx3.symm hx4.symm hx5.symm hx6.symm
 have m85:Pop.mk 85 8=6148914691236517205:=by decide
 have m51:Pop.mk 51 8=3689348814741910323:=by decide
 have m15:Pop.mk 15 8=1085102592571150095:=by decide
 unfold Pop.f1 at hx1
 unfold Pop.f2 at hx2
 unfold Pop.f3 at hx3
 rw [m85] at hx1
 rw [m51] at hx2
 rw [m15] at hx3
 have c1:x1≤12297829382473034410:=by
  have h1:x/2&&& 6148914691236517205≤6148914691236517205:=Nat.and_le_right
  have h2:x&&& 6148914691236517205≤6148914691236517205:=Nat.and_le_right
  omega
 have c2:x2≤7378697629483820646:=by
  have h1:x1/4&&& 3689348814741910323≤3689348814741910323:=Nat.and_le_right
  have h2:x1&&& 3689348814741910323≤3689348814741910323:=Nat.and_le_right
  omega
 have c3:x3≤1085102592571150095:=by rw [←hx3];exact Nat.and_le_right
 have c4:x4≤1090000000000000000:=by omega
 have c5:x5≤1100000000000000000:=by omega
 have c6:x6≤1200000000000000000:=by omega
 have H1:=Lib.hid hx1
 have H2:=Lib.hid hx2
 have H3:=Lib.hid hx3
 have H4:=Lib.hid hx4
 have H5:=Lib.hid hx5
 have H6:=Lib.hid hx6
 have HO:=Lib.hid hone
 clear hone hx1 hx2 hx3 hx4 hx5 hx6 m85 m51 m15
 have HB:=Lib.hid hh
 clear hh
 go_enter Tryz.func143,Tryz.ntmps143
 go_wp2_with (first
  | ((with_reducible refine cK (some 4) ?_);refine dC rfl rfl rfl rfl rfl (jS (x:=x) (s:=1) (by omega)) ?_ (hf:=(aE (eR _ _) hx));intro r4 h4 b4)
  | ((with_reducible refine cK (some 5) ?_);refine dC rfl rfl rfl rfl rfl (oS (x:=r4) (y:=6148914691236517205) b4 (by omega)) ?_ (hf:=(aE Nat.and_le_right (by omega)));intro r5 h5 b5)
  | ((with_reducible refine cK (some 7) ?_);refine dC rfl rfl rfl rfl rfl (oS (x:=x) (y:=6148914691236517205) hx (by omega)) ?_ (hf:=(aE Nat.and_le_right (by omega)));intro r7 h7 b7)
  | ((with_reducible refine cK (some 8) ?_);refine dC rfl rfl rfl rfl rfl (mO (x:=r5) (y:=r7)) ?_;intro r8 h8 b8;have e8:x1=r8:=(by have:=H1.out;rw [h8.out,h5.out,h7.out,h4.out,Nat.pow_one,this,fO (by omega)]);clear h8 h5 h7 h4 b8;subst e8)
  | ((with_reducible refine cK (some 10) ?_);refine dC rfl rfl rfl rfl rfl (jS (x:=x1) (s:=2) (by omega)) ?_ (hf:=(by have:=eR x1 (2^2);omega));intro r10 h10 b10)
  | ((with_reducible refine cK (some 11) ?_);refine dC rfl rfl rfl rfl rfl (oS (x:=r10) (y:=3689348814741910323) b10 (by omega)) ?_ (hf:=(aE Nat.and_le_right (by omega)));intro r11 h11 b11)
  | ((with_reducible refine cK (some 13) ?_);refine dC rfl rfl rfl rfl rfl (oS (x:=x1) (y:=3689348814741910323) (by omega) (by omega)) ?_ (hf:=(aE Nat.and_le_right (by omega)));intro r13 h13 b13)
  | ((with_reducible refine cK (some 14) ?_);refine dC rfl rfl rfl rfl rfl (mO (x:=r11) (y:=r13)) ?_;intro r14 h14 b14;have e14:x2=r14:=(by have:=H2.out;rw [h14.out,h11.out,h13.out,h10.out,show (2:Nat)^2=4 from rfl,this,fO (by omega)]);clear h14 h11 h13 h10 b14;subst e14)
  | ((with_reducible refine cK (some 16) ?_);refine dC rfl rfl rfl rfl rfl (jS (x:=x2) (s:=4) (by omega)) ?_ (hf:=(by have:=eR x2 (2^4);omega));intro r16 h16 fZ)
  | ((with_reducible refine cK (some 18) ?_);refine dC rfl rfl rfl rfl rfl (mO (x:=r16) (y:=x2)) ?_;intro r18 h18 b18)
  | ((with_reducible refine cK (some 19) ?_);refine dC rfl rfl rfl rfl rfl (oS (x:=r18) (y:=1085102592571150095) b18 (by omega)) ?_ (hf:=(aE Nat.and_le_right (by omega)));intro r19 h19 b19;have e19:x3=r19:=(by have:=H3.out;have q:r16=x2/16:=h16.out;rw [h19.out,h18.out,q,fO (by omega),this]);clear h19 h18 h16 b19;subst e19)
  | ((with_reducible refine cK (some 22) ?_);refine dC rfl rfl rfl rfl rfl (jS (x:=x3) (s:=8) (by omega)) ?_ (hf:=(by have:=eR x3 (2^8);omega));intro r22 h22 b22)
  | ((with_reducible refine cK (some 23) ?_);refine dC rfl rfl rfl rfl rfl (mO (x:=x3) (y:=r22)) ?_;intro r23 h23 b23;have e23:x4=r23:=(by have:=H4.out;have q:r22=x3/256:=h22.out;rw [h23.out,q,this,fO (by omega)]);clear h23 h22 b23;subst e23)
  | ((with_reducible refine cK (some 26) ?_);refine dC rfl rfl rfl rfl rfl (jS (x:=x4) (s:=16) (by omega)) ?_ (hf:=(by have:=eR x4 (2^16);omega));intro r26 h26 b26)
  | ((with_reducible refine cK (some 27) ?_);refine dC rfl rfl rfl rfl rfl (mO (x:=x4) (y:=r26)) ?_;intro r27 h27 b27;have e27:x5=r27:=(by have:=H5.out;have q:r26=x4/65536:=h26.out;rw [h27.out,q,this,fO (by omega)]);clear h27 h26 b27;subst e27)
  | ((with_reducible refine cK (some 30) ?_);refine dC rfl rfl rfl rfl rfl (jS (x:=x5) (s:=32) (by omega)) ?_ (hf:=(by have:=eR x5 (2^32);omega));intro r30 h30 b30)
  | ((with_reducible refine cK (some 31) ?_);refine dC rfl rfl rfl rfl rfl (mO (x:=x5) (y:=r30)) ?_;intro r31 h31 b31;have e31:x6=r31:=(by have:=H6.out;have q:r30=x5/4294967296:=h30.out;rw [h31.out,q,this,fO (by omega)]);clear h31 h30 b31;subst e31)
  | ((with_reducible refine cK (some 34) ?_);refine yF rfl rfl rfl rfl rfl (SC (x:=x6) (y:=127) (by omega) (by omega)) ?_;intro c hc))
 go_ret
 refine⟨c,rfl,?_,rfl⟩
 show _↔_
 rw [hc.out,show (127:Nat)=2^7-1 from rfl,Nat.and_two_pow_sub_one_eq_mod]
 exact HO.out
theorem BC (hw:Wf xs)(h:nv xs<WB):xs.getD 0 0=nv xs:=by
 cases xs with
 | nil=>rfl
 | cons x r=>
  rw [mS] at h⊢
  have hr:nv r=0:=by
   refine Nat.eq_zero_of_not_pos (fun e=>?_)
   have:=fN WB e
   omega
  rw [hr,gJ,eS]
  rfl
def X3 (w:a0)(z:Int)(e:dR)(w':a0):Prop:=
 ∃v er:Int,e= .returned (.tuple #[a9 v,a9 er])∧Hid ((-9223372036854775808≤z∧z≤9223372036854775807→v=z∧er=0)∧(¬(-9223372036854775808≤z∧z≤9223372036854775807)→v=0∧er=5))∧Ext w w'
theorem KQ (hx:Zi w s A n cap x)(hl:n≤68719476736):aQ aH 62 #[J s A n cap] w (X3 w x):=by
 obtain⟨xs,hr,rfl⟩:=hx
 have hlx:=Lib.hid hr.len
 go_enter Tryz.func62,Tryz.ntmps62
 go_upto_region 1 with (fail)
 have hb1:=Bk.new w 24 (O s A n cap)
 obtain⟨wa,hwa⟩:∃wa,w.alloc (.cells #[.bool s,.slice A n cap] 24)=wa:=⟨_,rfl⟩
 rw [hwa]
 obtain⟨g,hg⟩:∃g,w.heap.size=g:=⟨_,rfl⟩
 rw [hg] at hb1⊢
 have hb1':Bk wa g 24 (O s A n cap):=by rw [←hwa];exact hb1
 have hea:Ext w wa:=by rw [←hwa];exact (Ext.refl w).alloc _
 clear hwa hg hb1
 obtain⟨f1,f2,f3,f4⟩:=hb1'.two
 go_wp2_with fail
 refine (AD (hr.ext hea) (by omega)).mono ?_
 rintro e w1 ⟨b,hb,rfl,hx1'⟩
 have hx1:=hea.trans hx1'
 have hr1:=hr.ext hx1
 clear f1 f2 f3 f4
 obtain⟨f1,f2,f3,f4⟩:=(hb1'.ext hx1').two
 have hbl:=qZ (nv xs)
 rw [←hb.out] at hbl
 by_cases h0:b=0
 ·subst h0
  have hz:nv xs=0:=pH.1 hb.out.symm
  have HZ:=Lib.hid hz
  clear hz hbl
  go_wp2_with fail
  go_ret2
  refine⟨0,0,rfl,?_,hx1⟩
  rw [HZ.out,E5]
  exact⟨fun _=>⟨rfl,rfl⟩,fun h=>absurd ⟨by omega,by omega⟩ h⟩
 ·have b0:((b:Int)==0)=false:=by simp;omega
  have hn0:0<n:=by
   refine Nat.pos_of_ne_zero (fun e=>h0 ?_)
   have:xs= []:=List.eq_nil_of_length_eq_zero (by rw [hlx.out,e])
   rw [hb.out,this];rfl
  obtain⟨a,x0,rfl,hxk,hxb,hcx⟩:=hr1.get (i:=0) hn0
  have hcx0:w1.cell? a=some (i5 (x0:Int)):=by simpa [lR] using hcx
  have hni:0<(n:Int):=by omega
  clear hcx
  by_cases h64:b<64
  ·have hi64:(b:Int)<64:=by omega
   have hlt:nv xs<2^63:=cS hbl (eW (by omega) (by omega))
   have hx0:Hid (x0=nv xs):=(show _=_ by rw [←hxk.out];exact BC hr.wf (by rw [cC];omega))
   have hx63:x0≤9223372036854775807:=by rw [hx0.out];omega
   clear hbl hlt h64 h0
   cases s
   ·go_wp2_with fail
    go_ret2
    refine⟨(x0:Int),0,rfl,?_,hx1⟩
    rw [jW,←hx0.out]
    exact⟨fun _=>⟨rfl,rfl⟩,fun h=>absurd ⟨by omega,by omega⟩ h⟩
   ·go_wp2_with fail
    go_ret2
    refine⟨-(x0:Int),0,rfl,?_,hx1⟩
    rw [kO,←hx0.out]
    exact⟨fun _=>⟨rfl,rfl⟩,fun h=>absurd ⟨by omega,by omega⟩ h⟩
  ·have hi64:¬(b:Int)<64:=by omega
   have hge:2^63≤nv xs:=by
    have h1:=tI (n:=nv xs) (fun e=>h0 (by rw [hb.out,e];rfl))
    rw [←hb.out] at h1
    exact aE (eW (by omega) (by omega)) h1
   by_cases he64:b=64
   ·subst he64
    have hlt:nv xs<WB:=by rw [cC];exact hbl
    have hx0:Hid (x0=nv xs):=(show _=_ by rw [←hxk.out];exact BC hr.wf hlt)
    have hx63:9223372036854775808≤x0:=by rw [hx0.out];omega
    clear hbl hlt h64 h0 hge
    cases s
    ·go_wp2_with fail
     go_ret2
     refine⟨0,5,rfl,?_,hx1⟩
     rw [jW,←hx0.out]
     exact⟨fun h=>absurd h.2 (by omega),fun _=>⟨rfl,rfl⟩⟩
    ·go_wp2_with fail
     refine (WM hxb hx63 _).mono ?_
     rintro e w' ⟨c,rfl,hc,rfl⟩
     by_cases hc1:c=1
     ·have hxx:Hid (x0=9223372036854775808):=hc.out.1 hc1
      subst hc1
      go_wp2_with fail
      go_ret2
      refine⟨-9223372036854775808,0,rfl,?_,hx1⟩
      rw [kO,←hx0.out,hxx.out]
      exact⟨fun _=>⟨rfl,rfl⟩,fun h=>absurd ⟨by omega,by omega⟩ h⟩
     ·have bc:((c:Int)==1)=false:=by simp;omega
      have hxx:Hid (x0≠9223372036854775808):=fun e=>hc1 (hc.out.2 e)
      clear hc1
      go_wp2_with fail
      go_ret2
      refine⟨0,5,rfl,?_,hx1⟩
      rw [kO,←hx0.out]
      exact⟨fun h=>absurd h.1 (by have:=hxx.out;omega),fun _=>⟨rfl,rfl⟩⟩
   ·have be:((b:Int)==64)=false:=by simp;omega
    have hge2:2^64≤nv xs:=by
     have h1:=tI (n:=nv xs) (fun e=>h0 (by rw [hb.out,e];rfl))
     rw [←hb.out] at h1
     exact aE (eW (by omega) (by omega)) h1
    have HG:=Lib.hid hge2
    clear hbl hge hge2 h0 h64 he64
    go_wp2_with fail
    go_ret2
    refine⟨0,5,rfl,?_,hx1⟩
    have:=HG.out
    refine⟨fun h=>?_,fun _=>⟨rfl,rfl⟩⟩
    cases s
    ·rw [jW] at h;omega
    ·rw [kO] at h;omega
theorem KR {v:Nat}(hv1:1≤v)(hv:v≤9223372036854775808):aQ aH 61 #[a9 (-(v:Int))] w (kY w (-(v:Int))):=by
 have hn: -(v:Int)<0:=by omega
 have w1e:IntKind.u64.wrap (-(v:Int))=18446744073709551616-(v:Int):=by
  simp only [uB,q6,pZ]
  simp
  omega
 have w2e:IntKind.u64.wrap (-(18446744073709551616-(v:Int)))=(v:Int):=by
  simp only [uB,q6,pZ]
  simp
  omega
 have W1:=Lib.hid w1e
 have W2:=Lib.hid w2e
 clear w1e w2e
 go_enter Tryz.func61,Tryz.ntmps61
 go_upto_region 2 with (fail)
 obtain⟨g,hg⟩:∃g,w.heap.size=g:=⟨_,rfl⟩
 obtain⟨wa,hwa⟩:∃wa,w.alloc (.cells #[.bool false,.slice none 0 0] 24)=wa:=⟨_,rfl⟩
 rw [hg,hwa]
 have hb:Bk wa g 24 (O false none 0 0):=by rw [←hwa,←hg];exact Bk.new w 24 (O false none 0 0)
 have hea:Ext w wa:=by rw [←hwa];exact (Ext.refl w).alloc _
 have hga:w.heap.size≤g:=Nat.le_of_eq hg
 have hgl:g<wa.heap.size:=hb.lt
 clear hwa hg
 obtain⟨k1,k2,k3,k4⟩:=hb.two
 have h1:Rd (wa.alloc (.cells #[i5 (v:Int)] 65)) (some ⟨wa.heap.size,0,none⟩) 1 1 [v]:=Rd.one wa (by omega)
 have w1e:=W1.out
 have w2e:=W2.out
 go_wp2_with fail
 clear w1e w2e
 refine (k0 (h1.ext (by repeat (first | exact Ext.refl _ | assumption | apply Ext.drewN | apply Ext.drew | apply Ext.alloc)))).mono ?_
 rintro e w1 ⟨A1,n1,c1,rfl,hn1,hr1,ho1,hx1⟩
 rw [sP] at hn1 ho1
 have hx1':Ext wa w1:=Ext.trans (by repeat (first | exact Ext.refl _ | assumption | apply Ext.drewN | apply Ext.drew | apply Ext.alloc)) hx1
 have hd:=hb.ext hx1'
 have hsz:=hx1'.size
 go_wp2_with fail
 refine (jP hn1.out).mono ?_
 rintro e w2 ⟨s',rfl,hs',hx2⟩
 have hd:=hd.ext hx2
 clear k1 k2 k3 k4
 obtain⟨k1,k2,k3,k4⟩:=hd.two
 go_wp2_with fail
 refine iV (l8 G G (hd.two_set _ _)) G ?_
 exact lD hd ((j1 hs'.out hn1.out ho1 (kO _)).ext hx2) (by simp;omega) (hea.trans (hx1'.trans hx2))
theorem KS {v:Int}(h1: -9223372036854775808≤v)(h2:v≤9223372036854775807):aQ aH 61 #[a9 v] w (kY w v):=by
 by_cases h:0≤v
 ·obtain⟨m,rfl⟩:=Int.eq_ofNat_of_zero_le h
  exact KT (by omega)
 ·obtain⟨m,e⟩:∃m:Nat,v= -(m:Int):=⟨v.natAbs,by omega⟩
  subst e
  exact KR (by omega) (by omega)
theorem GZ {x s:Nat}(hs:s≤63)(P:bV)(t:aV)(w:a0):(binOp .shr t (a9 (x:Int)) (a9 (s:Int))).run P w= .ok (a9 ((x/2^s:Nat):Int)) w:=by
 have e:((x:Int)/2^min (s:Int).toNat IntKind.i64.bits)=((x/2^s:Nat):Int):=by
  rw [gX,show min s IntKind.i64.bits=s from g7 (by show s≤64;omega)];simp
 simp only [binOp]
 rw [shift_shr_any _ _ _ _ (by omega),e];rfl
theorem H0 {x:Nat}(hx:x≤9223372036854775807)(P:bV)(t:aV)(w:a0):(binOp .and t (a9 (x:Int)) (a9 1)).run P w= .ok (a9 ((x%2:Nat):Int)) w:=by
 have e:IntKind.i64.wrap ((lQ 64 (x:Int)&&& lQ 64 ((1:Nat):Int)).toNat:Int)=((x%2:Nat):Int):=by
  rw [CN,lV (by omega),lV (by omega),Nat.and_one_is_mod,uF (by omega)]
 rw [←e];rfl
theorem FI {S:Nat}:S^(n/2^k)=S^(n/2^(k+1))*S^(n/2^(k+1))*(if n/2^k%2=1 then S else 1):=by
 have e:n/2^(k+1)=n/2^k/2:=by rw [dJ,Nat.div_div_eq_div_mul]
 rw [e,←dX]
 generalize n/2^k=a
 split
 ·rename_i h
  rw [←dJ]
  congr 1;omega
 ·rename_i h
  rw [dK]
  congr 1;omega
theorem aB:AggT aH 24 2:=⟨fun _=>by kernel_rfl,fun _=>by kernel_rfl⟩
theorem dB:∀w,(isAgg 4).run aH w= .ok false w:=fun _=>by kernel_rfl
theorem bX:∀w,(isAgg 22).run aH w= .ok false w:=fun _=>by kernel_rfl
theorem cQ:Tryz.prog.follows .mixedOrders=true:=by kernel_rfl
def Is (u v:aD)(_:a0):Prop:=v=u
def ZR (b:Nat)(z:Int)(v:aD)(w:a0):Prop:=∃s A n c,v= J s A n c∧Zr w b s A n c z
def WR (b:Nat)(m:Nat)(v:aD)(w:a0):Prop:=∃A n c,v= i9 A n c∧n=(wd m).length∧Own w b 65 1 A n c ((wd m).map bC)
def Wi (w:a0)(A:Option a8)(n c:Nat)(m:Nat):Prop:=∃xs,Rd w A n c xs∧nv xs=m
theorem Wi.ext (h:Wi w A n c m)(e:Ext w w'):Wi w' A n c m:=by
 obtain⟨xs,h1,h2⟩:=h
 exact⟨xs,h1.ext e,h2⟩
theorem Zi.wi (h:Zi w s A n c z):Wi w A n c z.natAbs:=by
 obtain⟨xs,h1,h2⟩:=h
 exact⟨xs,h1,by rw [←h2,kP]⟩
theorem Own.wi (h:Own w b t 1 A n c ((wd m).map bC)):Wi w A n c m:=⟨_,h.rd (mX _),fK m⟩
theorem Wi.len (h:Wi w A n c m):(wd m).length≤n:=by
 obtain⟨xs,h1,rfl⟩:=h
 have:=gT h1.wf
 rw [h1.len] at this;exact this
theorem C3 (hn:n=(wd m).length)(ho:Own w b 65 1 A n c ((wd m).map bC)):Zr w b false A n c (m:Int):=
 j1 (m:=m) (s:=false) (by rw [jW];symm;exact decide_eq_false (by omega)) hn ho (jW m)
def T2 (R S:aD→a0→Prop)(v:aD)(w:a0):Prop:=∃a b,v= .tuple #[a,b]∧R a w∧S b w
def T3 (R S T:aD→a0→Prop)(v:aD)(w:a0):Prop:=∃a b c,v= .tuple #[a,b,c]∧R a w∧S b w∧T c w
def Gv (w:a0)(R:aD→a0→Prop)(e:dR)(w':a0):Prop:=∃v,e= .returned v∧R v w'∧Ext w w'
section
variable {w w':a0}{b:Nat}{z x y:Int}{v u:aD}{R S T:aD→a0→Prop}
theorem gz (hb:b≤w.heap.size)(e:dR)(w':a0)(h:kY w z e w'):Gv w (ZR b z) e w':=by
 obtain⟨s,A,n,c,rfl,h1,h2⟩:=h
 exact⟨_,rfl,⟨s,A,n,c,rfl,h1.mono hb⟩,h2⟩
theorem gw (hb:b≤w.heap.size)(e:dR)(w':a0)(h:j2 w m e w'):Gv w (WR b m) e w':=by
 obtain⟨A,n,c,rfl,h1,h2,o,f⟩:=h
 exact⟨_,rfl,⟨A,n,c,rfl,h1.out,o.mono hb⟩,f⟩
theorem SJ (hb:b≤w.heap.size)(e:dR)(w':a0)(h:tP w m er e w'):Gv w (T2 (WR b m) (Is (a9 er))) e w':=by
 obtain⟨A,n,c,rfl,h1,h2,o,f⟩:=h
 exact⟨_,rfl,⟨_,_,rfl,⟨A,n,c,rfl,h1.out,o.mono hb⟩,rfl⟩,f⟩
theorem Gv.imp (hi:∀v w,R v w→S v w)(e:dR)(w':a0)(h:Gv w R e w'):Gv w S e w':=by
 obtain⟨v,rfl,h1,h2⟩:=h
 exact⟨v,rfl,hi _ _ h1,h2⟩
theorem ZR.imp (hb:b≤b')(v:aD)(w:a0)(h:ZR b' z v w):ZR b z v w:=by
 obtain⟨s,A,n,c,rfl,h⟩:=h
 exact⟨s,A,n,c,rfl,h.mono hb⟩
theorem WR.imp (hb:b≤b')(v:aD)(w:a0)(h:WR b' m v w):WR b m v w:=by
 obtain⟨A,n,c,rfl,h1,h2⟩:=h
 exact⟨A,n,c,rfl,h1,h2.mono hb⟩
theorem T2.imp {R' S':aD→a0→Prop}(h1:∀v w,R v w→R' v w)(h2:∀v w,S v w→S' v w)(v:aD)(w:a0)(h:T2 R S v w):T2 R' S' v w:=by
 obtain⟨a,c,rfl,f,e⟩:=h
 exact⟨a,c,rfl,h1 _ _ f,h2 _ _ e⟩
theorem T3.imp {R' S' T':aD→a0→Prop}(h1:∀v w,R v w→R' v w)(h2:∀v w,S v w→S' v w)(h0:∀v w,T v w→T' v w)(v:aD)(w:a0)(h:T3 R S T v w):T3 R' S' T' v w:=by
 obtain⟨a,c,d,rfl,f,e,o⟩:=h
 exact⟨a,c,d,rfl,h1 _ _ f,h2 _ _ e,h0 _ _ o⟩
theorem Is.imp (v:aD)(w:a0)(h:Is u v w):Is u v w:=h
theorem HH (e:dR)(w':a0)(h:e= .returned u∧Ext w w'):Gv w (Is u) e w':=⟨_,h.1,rfl,h.2⟩
theorem H7 (e:dR)(w':a0)(h:C8 z w e w'):Gv w (Is (a9 z)) e w':=by
 obtain⟨c,h1,_,_,rfl,h2⟩:=h
 exact⟨_,rfl,(show d8 .i64 c=_ by rw [h1.out]),h2⟩
theorem HW {c:Bool}(e:dR)(w':a0)(h:xQ c w e w'):Gv w (Is (.bool c)) e w':=⟨_,h.1,rfl,h.2⟩
end
section
variable {w:a0}{b:Nat}(hb:b≤w.heap.size){s t u:Bool}{A B C:Option a8}{n cap m cap' k cap'':Nat}{x y z:Int}
include hb
theorem nW (hx:Zi w s A n cap x)(hl:n≤274877906944)(hy:Zi w t B m cap' y)(hl':m≤274877906944):aQ aH 68 #[J s A n cap,J t B m cap'] w (Gv w (ZR b (x+y))):=(yD hx hl hy hl').mono (gz hb)
theorem rI (hx:Zi w s A n cap x)(hl:n≤274877906944)(hy:Zi w t B m cap' y)(hl':m≤274877906944):aQ aH 69 #[J s A n cap,J t B m cap'] w (Gv w (ZR b (x-y))):=(KP hx hl hy hl').mono (gz hb)
theorem I4 (hx:Zi w s A n cap x)(hl:n≤68719476736)(hy:Zi w t B m cap' y)(hl':m≤68719476736):aQ aH 39 #[J s A n cap,J t B m cap'] w (Gv w (ZR b (x*y))):=(CQ hx hl hy hl').mono (gz hb)
theorem I3 (hx:Zi w s A n cap x)(hl:n≤68719476736)(hy:Zi w t B m cap' y)(hl':m≤68719476736)(hz:Zi w u C k cap'' z)(hl'':k≤68719476736):aQ aH 70 #[J s A n cap,J t B m cap',J u C k cap''] w (Gv w (ZR b (x*y+z))):=(KV hx hl hy hl' hz hl'').mono (gz hb)
theorem SX (hx:Zi w s A n cap x)(hl:n≤68719476736):aQ aH 66 #[J s A n cap] w (Gv w (ZR b (-x))):=(KU hx hl).mono (gz hb)
theorem I5 (hx:Zi w s A n cap x)(hl:n≤68719476736):aQ aH 67 #[J s A n cap] w (Gv w (ZR b (x.natAbs:Int))):=(KZ hx hl).mono (gz hb)
theorem SY (hx:Zi w s A n cap x)(hl:n≤68719476736):aQ aH 60 #[J s A n cap] w (Gv w (ZR b x)):=(KW hx hl).mono (gz hb)
theorem tB {v:Int}(h1: -9223372036854775808≤v)(h2:v≤9223372036854775807):aQ aH 61 #[a9 v] w (Gv w (ZR b v)):=(KS h1 h2).mono (gz hb)
omit hb in
theorem wF (hn:n=(wd m).length)(ho:Own w b 65 1 A n cap ((wd m).map bC)):aQ aH 124 #[.bool s,i9 A n cap] w (Gv w (ZR b (sg s m))):=
 (jP hn).mono fun e w' h=>by
  obtain⟨s',rfl,h1,h2⟩:=h
  exact⟨_,rfl,⟨s',A,n,cap,rfl,j1 h1.out hn (ho.ext h2) rfl⟩,h2⟩
omit hb in
theorem UJ {i:Nat}(hy:Wi w B m cap' j)(hl':m≤274877906944)(h0:j=0):aQ aH 200 #[i9 A n cap,i9 B m cap'] w (Gv w (Is (.tuple #[i9 none 0 0,a9 4]))):=by
 obtain⟨ys,h1,rfl⟩:=hy
 exact (VE h1 (by omega) h0).mono HH
omit hb in
theorem UI (hx:Wi w A n cap i)(hl:n≤274877906944)(hy:Wi w B m cap' j)(hl':m≤274877906944)(h0:j≠0)(h1:i%j≠0):aQ aH 200 #[i9 A n cap,i9 B m cap'] w (Gv w (Is (.tuple #[i9 none 0 0,a9 8]))):=by
 obtain⟨ys,hy,rfl⟩:=hy
 obtain⟨xs,hx,rfl⟩:=hx
 exact (VD hx hl hy hl' h0 h1).mono HH
theorem UK (hx:Wi w A n cap i)(hl:n≤274877906944)(hy:Wi w B m cap' j)(hl':m≤274877906944)(h0:j≠0)(h1:i%j=0):aQ aH 200 #[i9 A n cap,i9 B m cap'] w (Gv w (T2 (WR b (i/j)) (Is (a9 0)))):=by
 obtain⟨ys,hy,rfl⟩:=hy
 obtain⟨xs,hx,rfl⟩:=hx
 exact (VF hx hl hy hl' h0 h1).mono (SJ hb)
end
section
variable {w:a0}{s t:Bool}{A B:Option a8}{n cap m cap':Nat}{x y:Int}
theorem tA (hx:Zi w s A n cap x)(hl:n≤68719476736):aQ aH 63 #[J s A n cap] w (Gv w (Is (a9 (bH x 0)))):=(yC hx hl).mono H7
theorem T9 (hx:Zi w s A n cap x)(hl:n≤68719476736)(hy:Zi w t B m cap' y)(hl':m≤68719476736):aQ aH 64 #[J s A n cap,J t B m cap'] w (Gv w (Is (a9 (bH x y)))):=(KY hx hl hy hl').mono H7
end
section
variable {P:bV}{Q:dH→Act→a0→Prop}{n:Nat}{l:Fr}{w:a0}{ops:Array bB}{rest:List bB}{d:Nat}{op:Op}{ty:aV}{pos:String}{af:Array fD}{gd:Option (Nat×Bool)}
theorem fW (hw:d5 ops l gd=some true)(hk:kI l op=true)(cells:List aD)(hr:∀w,(execOp (rho l) ⟨some d,op,ty,pos,af,gd⟩).run P w= .ok (.value (i9 (some ⟨w.heap.size,0,none⟩) k k)) (w.alloc (.cells cells.toArray e)))(h:∀g w',NewBk w w' g e cells→wl P ops Q n rest ((d,i9 (some ⟨g,0,none⟩) k k)::l) w')(hn:d<n:=by decide):wl P ops Q n (⟨some d,op,ty,pos,af,gd⟩::rest) l w:=
 fJ hw hn (fun a f=>by rw [rJ hk f];exact hr w) (h _ _ (NewBk.mk' w e cells))
end
def O1 (b x:Nat)(v:aD)(w:a0):Prop:=∃A,v= i9 A 1 1∧Own w b 65 1 A 1 1 [bC x]
theorem O1.mk_ {x:Nat}(h:NewBk w w' g 65 [bC x])(hb:b≤w.heap.size):Own w' b 65 1 (some ⟨g,0,none⟩) 1 1 [bC x]:=
 Own.mk_ (by rw [←h.at_];exact hb) h.bk (aX _) (by rw [eA];omega) G rfl
theorem zT {x:Nat}(h:Own w b 65 1 A 1 1 [bC x])(hx:x≤18446744073709551615):Wi w A 1 1 x:=
 ⟨[x],h.rd (C6 (by rw [cC];omega)),sP x⟩
theorem qO {x:Nat}(h:Own w b 65 1 A 1 1 [bC x])(hx:x≤18446744073709551615)(h0:x≠0):Own w b 65 1 A 1 1 ((wd x).map bC):=by
 rw [D4 (by rw [cC];omega) h0];exact h
theorem rC {x:Nat}(hx:x≤18446744073709551615)(h0:x≠0):1=(wd x).length:=by rw [D4 (by rw [cC];omega) h0];rfl
section
variable {P:bV}{Q:dH→Act→a0→Prop}{n:Nat}{l:Fr}{w:a0}
def nT (n:Nat)(ops:Array bB):Nat→List bB→Fr→Option (Fr×List bB)
 | 0,rest,l=>some (l,rest)
 | _+1,[],_=>none
 | k+1,⟨some d,op,_,_,_,gd⟩::rest,l=>
  match Nat.blt d n with
  | true=>
   match d5 ops l gd with
   | some true=>
    match op with
    | .move x=>match bP l x with
     | some v=>nT n ops k rest ((d,v)::l)
     | none=>none
    | .assign x=>match bP l x with
     | some v=>nT n ops k rest ((d,v)::l)
     | none=>none
    | _=>none
   | some false=>nT n ops k rest ((d,undef)::l)
   | none=>none
  | false=>none
 | _+1,_::_,_=>none
theorem mv {ops:Array bB}:∀(k:Nat){rest rest':List bB}{l l':Fr},nT n ops k rest l=some (l',rest')→wl P ops Q n rest' l' w→wl P ops Q n rest l w
 | 0,rest,rest',l,l',h,hw=>by
  simp only [nT,eH,Prod.mk.injEq] at h
  obtain⟨rfl,rfl⟩:=h
  exact hw
 | k+1,[],rest',l,l',h,hw=>by simp [nT] at h
 | k+1,⟨none,op,ty,pos,af,gd⟩::rest,rest',l,l',h,hw=>by simp [nT] at h
 | k+1,⟨some d,op,ty,pos,af,gd⟩::rest,rest',l,l',h,hw=>by
  unfold nT at h
  split at h
  ·rename_i f
   have hd':d<n:=Nat.le_of_ble_eq_true f
   split at h
   ·rename_i e
    split at h
    ·split at h
     ·rename_i hx
      exact LH e hx hd' (mv k h hw)
     ·cases h
    ·split at h
     ·rename_i hx
      exact LN e hx hd' (mv k h hw)
     ·cases h
    ·cases h
   ·rename_i e
    exact LD e hd' (mv k h hw)
   ·cases h
  ·cases h
theorem sr {y:Code}(h:wl P ol.toArray (Exit.then (fun a w=>y.wp P Q a w) Q) n ol l w):cw P Q n (.seq (.region id ol.toArray false) y) l w:=a7 (a6 h)
theorem a1 {y:Code}(h:cw P Q n y l w):wl P ops (Exit.then (fun a w=>y.wp P Q a w) Q) n [] l w:=aS (aC h)
theorem pu (hk:(d5 ops l gd==some true&&kI l op&&Nat.blt d n)=true)(h:wl P ops Q n rest ((d,v)::l) w)(hr:(execOp (rho l) ⟨some d,op,ty,pos,af,gd⟩).run P w= .ok (.value v) w:=by kernel_rfl):wl P ops Q n (⟨some d,op,ty,pos,af,gd⟩::rest) l w:=by
 rw [dW,dW,beq_iff_eq] at hk
 exact D0 hk.1.1 hk.1.2 (Nat.le_of_ble_eq_true hk.2) hr h
section
variable {ops:Array bB}{rest:List bB}{d:Nat}{ty:aV}{pos:String}{af:Array fD}{gd:Option (Nat×Bool)}{w0:a0}
theorem bx {x:cG}(vs:List aD)(h0:Ext w0 w)(hx:bP l x=some v)(hk:(d5 ops l gd==some true&&Nat.blt d n)=true)(hv:v.cells=vs.toArray)(h:∀g w',Bk w' g t vs→w0.heap.size≤g→Ext w w'→Ext w0 w'→wl P ops Q n rest ((d,a4 g 0)::l) w'):wl P ops Q n (⟨some d,.box t x,ty,pos,af,gd⟩::rest) l w:=by
 rw [dW,beq_iff_eq] at hk
 exact l7 hk.1 hx hv (hn:=(Nat.le_of_ble_eq_true hk.2)) fun g w' nb=>h g w' nb.bk (by rw [←nb.at_];exact h0.size) nb.ext (h0.trans nb.ext)
theorem gN {x:cG}(vs:List aD)(h0:Ext w0 w)(hq:gp<w.heap.size)(hx:bP l x=some v)(hk:(d5 ops l gd==some true&&Nat.blt d n)=true)(hv:v.cells=vs.toArray)(h:∀g w',Bk w' g t vs→w0.heap.size≤g→gp<g→Ext w w'→Ext w0 w'→wl P ops Q n rest ((d,a4 g 0)::l) w'):wl P ops Q n (⟨some d,.box t x,ty,pos,af,gd⟩::rest) l w:=by
 rw [dW,beq_iff_eq] at hk
 exact l7 hk.1 hx hv (hn:=(Nat.le_of_ble_eq_true hk.2)) fun g w' nb=>h g w' nb.bk (by rw [←nb.at_];exact h0.size) (by rw [←nb.at_];exact hq) nb.ext (h0.trans nb.ext)
theorem al (vs:List aD)(h0:Ext w0 w)(hz:∀w,(zeroValue t).run P w= .ok (.agg vs.toArray) w)(hk:(d5 ops l gd==some true&&Nat.blt d n)=true)(h:∀g w',Bk w' g t vs→w0.heap.size≤g→Ext w w'→Ext w0 w'→wl P ops Q n rest ((d,a4 g 0)::l) w'):wl P ops Q n (⟨some d,.alloc t,ty,pos,af,gd⟩::rest) l w:=by
 rw [dW,beq_iff_eq] at hk
 exact jG hk.1 hz G (hn:=(Nat.le_of_ble_eq_true hk.2)) fun g w' nb=>h g w' nb.bk (by rw [←nb.at_];exact h0.size) nb.ext (h0.trans nb.ext)
theorem cO (vs:List aD)(h0:Ext w0 w)(hq:gp<w.heap.size)(hz:∀w,(zeroValue t).run P w= .ok (.agg vs.toArray) w)(hk:(d5 ops l gd==some true&&Nat.blt d n)=true)(h:∀g w',Bk w' g t vs→w0.heap.size≤g→gp<g→Ext w w'→Ext w0 w'→wl P ops Q n rest ((d,a4 g 0)::l) w'):wl P ops Q n (⟨some d,.alloc t,ty,pos,af,gd⟩::rest) l w:=by
 rw [dW,beq_iff_eq] at hk
 exact jG hk.1 hz G (hn:=(Nat.le_of_ble_eq_true hk.2)) fun g w' nb=>h g w' nb.bk (by rw [←nb.at_];exact h0.size) (by rw [←nb.at_];exact hq) nb.ext (h0.trans nb.ext)
theorem cl {xs:Array cG}{R:aD→a0→Prop}(h0:Ext w0 w)(hc:aQ P f vs.toArray w (Gv w R))(hk:(d5 ops l gd==some true&&kI l (.call {callee:= .value (.func f),args:=xs,argTypes:=ts})&&Nat.blt d n)=true)(hr:(execOp (rho l) ⟨some d,.call {callee:= .value (.func f),args:=xs,argTypes:=ts},ty,pos,af,gd⟩).run P w= .ok (.enter f vs.toArray) w)(h:∀v w',R v w'→Ext w w'→Ext w0 w'→wl P ops Q n rest ((d,v)::l) w'):wl P ops Q n (⟨some d,.call {callee:= .value (.func f),args:=xs,argTypes:=ts},ty,pos,af,gd⟩::rest) l w:=by
 rw [dW,dW,beq_iff_eq] at hk
 refine d9 hk.1.1 hk.1.2 hr (Nat.le_of_ble_eq_true hk.2) hc ?_
 rintro _ w' ⟨v,rfl,r,e⟩
 exact dA (h v w' r e (h0.trans e))
theorem lo {x:cG}(hT:AggT P T k)(hb:Bk w g T' vs)(us:List aD)(hx:bP l x=some (a4 g off))(hk:(d5 ops l gd==some true&&Nat.blt d n&&nE us.length k&&Nat.ble (off+k) vs.length)=true)(he:(vs.drop off).take k=us)(h:wl P ops Q n rest ((d,.agg us.toArray)::l) w):wl P ops Q n (⟨some d,.load T x,ty,pos,af,gd⟩::rest) l w:=by
 rw [dW,dW,dW,beq_iff_eq] at hk
 exact aL hk.1.1.1 hx (bA hT hb us (pT hk.1.2) (Nat.le_of_ble_eq_true hk.2) he) h (hn:=(Nat.le_of_ble_eq_true hk.1.1.2))
theorem so {x y:cG}(hT:AggT P T k)(hb:Bk w g T' vs)(us':List aD)(h0:Ext w0 w)(hg:w0.heap.size≤g)(hx:bP l x=some (a4 g off))(hy:bP l y=some (.agg us.toArray))(hk:(d5 ops l gd==some true&&nE us.length k&&Nat.ble (off+k) vs.length&&us.all (·.oneCell'))=true)(he:i8 vs off us=us')(h:∀w',Bk w' g T' us'→Upd g w w'→Ext w0 w'→wl P ops Q n rest l w'):wl P ops Q n (⟨none,.store T x y,ty,pos,af,gd⟩::rest) l w:=by
 rw [dW,dW,dW,beq_iff_eq] at hk
 exact yI hk.1.1.1 hx hy hT (pT hk.1.1.2) hb (Nat.le_of_ble_eq_true hk.1.2) hk.2 us' he fun w' b u _=>h w' b u (u.ext h0 hg)
end
theorem dk {Rs:List (aD→a0→Prop)}{w1:a0}{k:Fr→Prop}{acc:Fr}(hR:Rs[j]?=some (Is v))(hd:dL ol j=some d)(h:Deps ol Rs w0 w1 k ds ((d,v)::acc)):Deps ol Rs w0 w1 k (j::ds) acc:=
 cF hR hd fun v' _ hr _ _=>by
  obtain rfl:=hr
  exact h
theorem pf (g off:Nat)(hk:(d5 ops l gd==some true&&kI l op&&Nat.blt d n)=true)(h:wl P ops Q n rest ((d,a4 g off)::l) w)(hr:(execOp (rho l) ⟨some d,op,ty,pos,af,gd⟩).run P w= .ok (.value (a4 g off)) w:=by kernel_rfl):wl P ops Q n (⟨some d,op,ty,pos,af,gd⟩::rest) l w:=pu hk h (hr:=hr)
theorem bq (h:Nat.ble m k=true):m≤k:=Nat.le_of_ble_eq_true h
theorem aO (h:a≤b)(k:Nat.ble b c=true):a≤c:=aE h (Nat.le_of_ble_eq_true k)
end
abbrev S0:aD:= i9 none 0 0
abbrev F0:aD:= t9
abbrev I0:aD:= a9 0
end
section
open Go.ChangeShapes Go.WideShapes Go.ChangeAt Go.RowKit
theorem Q6:ownKnob Tryz.prog.godebug=none:=by kernel_rfl
theorem BS:Tryz.prog.cellsOf 65=1:=by kernel_rfl
theorem WG (d:DataW H):1≤Rows.uptoBulk d:=by
 cases d with
 | lit l=>cases l <;> simp [Rows.uptoBulk]
 | nil=>simp [Rows.uptoBulk]
 | ptr d=>simp [Rows.uptoBulk]
 | slice elems spare=>simp [Rows.uptoBulk]
 | agg parts=>simp [Rows.uptoBulk]
 | iface t d=>simp [Rows.uptoBulk]
 | map entries=>simp [Rows.uptoBulk]
 | held h=>simp [Rows.uptoBulk]
theorem JQ (l:List (DataW H)):l.length≤Rows.uptoBulkAll l:=by
 induction l with
 | nil=>simp [Rows.uptoBulkAll]
 | cons x r ih=>have:=WG x;simp only [Rows.uptoBulkAll,gD];omega
theorem WF (elems spare:List (DataW H)):elems.length+spare.length≤Rows.uptoBulk (.slice elems spare):=by
 have h1:=JQ elems
 have h2:=JQ spare
 simp only [Rows.uptoBulk]
 omega
theorem WH {l:List (DataW H)}(hk:Rows.uptoSmall H l=true):Rows.uptoBulkAll l≤1048576:=of_decide_eq_true hk
theorem D3 {n:Int}(h:(Lit.int .u64 n).wf=true):0≤n∧n≤18446744073709551615:=by
 simpa [Lit.wf,IntKind.min,IntKind.max,pZ,q6] using h
theorem LQ {n:Int}(h:(Lit.int .i64 n).wf=true): -9223372036854775808≤n∧n≤9223372036854775807:=by
 simpa [Lit.wf,IntKind.min,IntKind.max,pZ,q6] using h
theorem Q3 {enc:aV×aD→H}{f:Func}{s:ChangeSpec}{apart fresh handsOn again:Bool}{ds gs:List (DataW H)}{before:List MemPlace}(hW:DataW.Whole enc P f.params.toList s.vars apart W args.toList ds gs before)(hres:∀(b:Nat) (sp:Nat→Bool) (hd:Bool),DataW.TrodAll enc P W' b sp hd f.resultTypes.toList (v.resultList f.resultTypes.size) (s.fn H (ds++gs)).results [])(hargs:∀sp:Nat→Bool,(∀p∈before,sp p.block=true)→DataW.TrodAll enc P W' 0 sp true f.params.toList args.toList (s.fn H (ds++gs)).args pa)(hvars:∀sp:Nat→Bool,(∀p∈before,sp p.block=true)→DataW.TrodVars enc P W' sp s.vars (s.fn H (ds++gs)).vars pv)(hps:before=pa++pv)(hb:Below W.heap.size W W')(hok:∀(j:Nat) (t:aV) (r:aD),f.resultTypes[j]?=some t→(v.resultList f.resultTypes.size)[j]?=some r→Value.okWide P W' .any 0 t r):s.post enc P f apart fresh handsOn again W args v W':=by
 have o:∀p∈before,p.block<W.heap.size:=fun p e=>hW.lt p e
 have h:∀p∈before,(fun b=>decide (b<W.heap.size)) p.block=true:=fun p e=>by simpa using o p e
 refine⟨ds,gs,before,[],pa,pv,hW,hres _ _ _,hargs _ h,hvars _ h,World.keptBut_mono (fun p e=>⟨e,?_⟩) (hb.frame (· ∈before)),fun _=>?_⟩
 ·rw [hps,List.mem_append] at e
  exact bT e
 ·obtain⟨_,_,_,_,_,D,hn⟩:=hW
  refine⟨hok,_,_,([]++pa)++pv,⟨[]++pa,pv,trodAll_append (hargs _ (fun _ _=>rfl)) (hres _ _ _),hvars _ (fun _ _=>rfl),rfl,?_,?_⟩,?_⟩
  ·intro b off e
   have q:MemPlace.cell b off∈before:=by rw [hps];simpa using e
   rw [hb.frozen (o _ q)]
   exact D b off q
  ·intro E
   have:=hn E
   rw [hps] at this
   simpa using this
  ·intro p e _
   rw [hps]
   simpa using e
theorem RP:laidOutB aH=true:=by kernel_rfl
theorem R6:mapsRowed aH=true:=by kernel_rfl
def NB (P:bV):Bool:=(fI P.types.size).all fun t=>match P.underlying t with
 | some (.slice e)=>decide (0<P.cellsOf e)
 | _=>true
theorem N4:NB aH=true:=by kernel_rfl
theorem NC (ht:t<Tryz.prog.types.size)(hu:Tryz.prog.underlying t=some (.slice e)):0<Tryz.prog.cellsOf e:=by
 have:=eK.1 N4 t (gF.2 ht)
 simpa [hu] using this
theorem yX {enc:aV×aD→H}{d:DataW H}{p:List MemPlace}(ht:t<Tryz.prog.types.size)(h:DataW.Trod enc aH W 0 (fun _=>true) true t v d p)(he:Ext W W')(hp:∀q∈p,q.block<W.heap.size){sp:Nat→Bool}(hsp:∀q∈p,sp q.block=true):DataW.Trod enc aH W' 0 sp true t v d p:=by
 obtain⟨n,hn⟩:=h
 exact⟨n,DataW.trod_stays (kids_rows RP R6) NC (fun h=>by cases h) ht hn (fun q e=>he.below.same (hp q e)) hsp⟩
theorem MU {enc:aV×aD→H}(he:Ext W W'){sp:Nat→Bool}:∀{ts:List aV}{vs:List aD}{ds:List (DataW H)}{p:List MemPlace},(∀t∈ts,t<Tryz.prog.types.size)→
  DataW.TrodAll enc aH W 0 (fun _=>true) true ts vs ds p→(∀q∈p,q.block<W.heap.size)→(∀q∈p,sp q.block=true)→DataW.TrodAll enc aH W' 0 sp true ts vs ds p:=by
 intro ts
 induction ts with
 | nil=>
  intro vs ds p _ h _ _
  obtain⟨rfl,rfl,rfl⟩:=trodAll_nil h
  exact trodAll_mk0
 | cons t ts ih=>
  intro vs ds p ht h o f
  obtain⟨v,vs',d,ds',_,_,rfl,rfl,rfl,h1,h2⟩:=trodAll_cons h
  exact trodAll_cons_mk (yX (ht t (by simp)) h1 he (fun q e=>o q (by simp [e])) (fun q e=>f q (by simp [e]))) (ih (fun t h=>ht t (by simp [h])) h2 (fun q e=>o q (by simp [e])) (fun q e=>f q (by simp [e])))
end
section
open Go.RowKit
structure Zl (w:a0)(A:Option a8)(n cap:Nat)(zs:List Int)(ms:List Nat):Prop where
 len:zs.length=n
 mlen:ms.length=n
 le:n≤cap
 max:cap≤maxLen
 get:∀i,i<n→∃a s B c,A=some a∧w.cell? (a.add (i*2))=some (.bool s)∧w.cell? (a.add (i*2+1))=some (i9 B (ms.getD i 0) c)∧Zi w s B (ms.getD i 0) c (zs.getD i 0)
theorem Zl.ext (h:Zl w A n cap zs ms)(e:Ext w w'):Zl w' A n cap zs ms:=
 ⟨h.len,h.mlen,h.le,h.max,fun i hi=>by
  obtain⟨a,s,B,c,h1,h2,o,f⟩:=h.get i hi
  exact⟨a,s,B,c,h1,e.cell h2,e.cell o,f.ext e⟩⟩
theorem HJ:∀(ms:List Nat) (i:Nat),ms.getD i 0≤ms.sum
 | [],i=>by simp
 | m::r,0=>by simp
 | m::r,i+1=>by
  have:=HJ r i
  simp only [List.getD_cons_succ,List.sum_cons]
  omega
end
section
open Go.ChangeShapes Go.WideShapes Go.ChangeAt Go.RowKit
theorem x8:Tryz.prog.cellsOf 24=2:=by kernel_rfl
theorem JL:Tryz.prog.cellsOf 22=1:=by kernel_rfl
theorem JN:Tryz.prog.cellsOf 4=1:=by kernel_rfl
theorem UU:∃f0 f1:Field,Tryz.prog.underlying 24=some (.struct #[f0,f1])∧f0.type=4∧f0.offset=0∧f1.type=22∧f1.offset=1:=⟨_,_,Tryz.underlying24,rfl,rfl,rfl,rfl⟩
theorem QE {enc:aV×aD→H}{d:DataW H}{p:List MemPlace}(hf:DataW.trod enc aH W 0 (fun _=>true) true fuel 22 [v]=some (d,p)):∃A n cap xs,v= i9 A n cap∧Rd W A n cap xs∧n≤Rows.uptoBulk d∧
   ∀W',Ext W W'→∀sp:Nat→Bool,(∀q∈p,sp q.block=true)→∃fuel',DataW.trod enc aH W' 0 sp true fuel' 22 [v]=some (d,p):=by
 rcases open_ints Tryz.underlying22 Tryz.underlying65 BS hf with⟨r,hx⟩ | ⟨a,n',cap',zs,r,_,hl,L,hz,hx,f,o⟩
 ·obtain rfl:=List.singleton_inj.1 r
  simp only [Prod.mk.injEq] at hx
  obtain⟨rfl,rfl⟩:=hx
  exact⟨none,0,0,[],rfl,Rd.nil W,bJ _,fun W' _ sp _=>by obtain⟨fu,h⟩:=shut_slice_nil (enc:=enc) (w:=W') (base:=0) (spare:=sp) (held:=true) Tryz.underlying22;exact⟨fu,h⟩⟩
 ·obtain rfl:=List.singleton_inj.1 r
  simp only [Prod.mk.injEq] at hx
  obtain⟨rfl,rfl⟩:=hx
  simp only [if_true] at hz
  have F:0<cap'→a.block<W.heap.size:=fun hc=>pO W (a.add 0) (f 0 (by omega)) |> fun h=>by rwa [rK] at h
  have V:∀z∈zs,((z.toNat:Nat):Int)=z:=fun z hz'=>Int.toNat_of_nonneg (D3 (o z hz')).1
  have ab:(zs.take n').length=n':=by rw [dE];omega
  refine⟨some a,n',cap',(zs.take n').map Int.toNat,rfl,⟨⟨by simp;omega,hl,L,fun i hi=>⟨a,rfl,?_⟩,fun b hb hc=>by cases hb;exact F hc⟩,?_⟩,?_,?_⟩
  ·rw [f i (by omega)]
   have D:i<zs.length:=by omega
   have E:zs[i]∈zs:=lO D
   have e:(((zs.take n').map Int.toNat).map bC).getD i undef= i5 ((zs[i].toNat:Nat):Int):=by
    simp [bE,iK,show i<n' by omega,bR D]
   rw [e,V _ E]
   simp [bE,bR D]
  ·intro x hx
   obtain⟨z,Y,rfl⟩:=lN.1 hx
   have:=D3 (o z (List.mem_of_mem_take Y))
   rw [cC];omega
  ·have:=WF (H:=H) (lits .u64 (zs.take n')) (lits .u64 (zs.drop n'))
   have e:(lits (H:=H) .u64 (zs.take n')).length=n':=by simp [lits];omega
   omega
  ·intro W' he sp M
   have hcell':∀i,i<zs.length→W'.cell? (a.add i)=some (i5 (zs.getD i 0)):=fun i hi=>he.cell (f i hi)
   by_cases X:zs.length=0
   ·have U:cap'=0:=by omega
    have Z:n'=0:=by omega
    subst U;subst Z
    have t0:=shut_ints (enc:=enc) (w:=W') (base:=0) (spare:=sp) (held:=true) (a:=a) (len:=0) (cap:=0) (zs:=zs) 0 Tryz.underlying22 Tryz.underlying65 BS (bJ _) (aX _) L (by simp [X]) hcell' o
    exact⟨2,t0⟩
   ·have I:sp a.block=true:=M (.cell a.block a.off) (MemPlace.mem_row.2 ⟨0,by omega,by simp⟩)
    have t0:=shut_ints (enc:=enc) (w:=W') (base:=0) (spare:=sp) (held:=true) (a:=a) (len:=n') (cap:=cap') (zs:=zs) 0 Tryz.underlying22 Tryz.underlying65 BS (bJ _) hl L (by simp [I,hz]) hcell' o
    exact⟨2,t0⟩
theorem vI {enc:aV×aD→H}{c0 c1:aD}{x:DataW H×List MemPlace}(h:DataW.trod enc aH W 0 (fun _=>true) true fuel 24 [c0,c1]=some x):∃s A n cap z,c0= .bool s∧c1= i9 A n cap∧Zi W s A n cap z∧n+1≤Rows.uptoBulk x.1∧
   ∀W',Ext W W'→∀sp:Nat→Bool,(∀q∈x.2,sp q.block=true)→∃fuel',DataW.trod enc aH W' 0 sp true fuel' 24 [c0,c1]=some x:=by
 obtain⟨_,f1,F,I,E,t1,D⟩:=UU
 obtain⟨y0,y1,n,rfl,hl,h0,h1⟩:=trod_struct2 F h
 rw [I,E,JN] at h0
 rw [t1,D,JL] at h1
 have o:(([c0,c1]:List aD).drop 0).take 1= [c0]:=rfl
 have r:(([c0,c1]:List aD).drop 1).take 1= [c1]:=rfl
 rw [o] at h0
 rw [r] at h1
 obtain⟨s,hs,rfl⟩:=DataW.trod_bool Tryz.underlying4 h0
 obtain rfl:c0= .bool s:=by simpa using hs
 obtain⟨A,k,cap,xs,rfl,hx,hb,rx⟩:=QE (d:=y1.1) (p:=y1.2) h1
 refine⟨s,A,k,cap,_,rfl,rfl,⟨xs,hx,rfl⟩,?_,?_⟩
 ·simp only [Rows.uptoBulk,Rows.uptoBulkAll];omega
 ·intro W' he sp e
  obtain⟨fu,f⟩:=rx W' he sp (fun q L=>e q (by simp [L]))
  refine⟨fu+1+1,trod_struct2_mk (y0:=(.lit (.bool s),[])) (y1:=y1) F hl ?_ ?_⟩
  ·rw [I,E,JN,o]
   simp [DataW.trod,Tryz.underlying4]
  ·rw [t1,D,JL,r]
   exact DataW.trod_le (Nat.le_succ _) f
theorem ML (D:Nat→DataW H)(f:Nat→Nat)(n:Nat)(h:∀i,i<n→f i+1≤Rows.uptoBulk (D i)):((fI n).map f).sum+n≤Rows.uptoBulkAll ((fI n).map D):=by
 induction n with
 | zero=>simp [Rows.uptoBulkAll]
 | succ n ih=>
  have ih':=ih (fun i hi=>h i (by omega))
  have hn:=h n (by omega)
  rw [List.range_succ,List.map_append,List.map_append,List.sum_append,List.map_singleton,List.map_singleton]
  have e:∀(l:List (DataW H)) (x:DataW H),Rows.uptoBulkAll (l++ [x])=Rows.uptoBulkAll l+Rows.uptoBulk x:=by
   intro l x
   induction l with
   | nil=>simp [Rows.uptoBulkAll]
   | cons y r ihl=>simp only [u6,Rows.uptoBulkAll,ihl];omega
  rw [e]
  simp only [List.sum_singleton]
  omega
theorem UX {l:List aD}(h:l.length=2):∃a b,l= [a,b]:=by
 match l,h with
 | [a,b],_=>exact⟨a,b,rfl⟩
end
section
open Go.RowKit
theorem UpdO.of (h:w.grownBy w' none):UpdO A w w':=⟨⟨h.os,h.tape,h.output,h.size,fun k e _=>h.block k e (by simp)⟩⟩
theorem Upd.updO (h:Upd g w w'){o:Nat}{x:_}:UpdO (some ⟨g,o,x⟩) w w':=⟨h.by_⟩
theorem FN {cs:List aD}(hv:cs.take k=vs)(hk:k≤cs.length):(i8 cs k us).take (k+us.length)=vs++us:=by
 unfold i8
 have e:(cs.take k++us).length=k+us.length:=by rw [eN,dE,g7 hk]
 rw [←e,List.take_left',hv]
 rfl
def Kept (w:a0)(A A':Option a8):Prop:=∀a',A'=some a'→(∃a,A=some a∧a'.block=a.block)∨w.heap.size≤a'.block
section
variable {P:bV}
theorem vA {z:aD}{s:Nat}(ht:P.underlying t=some (.slice e))(hinfo:(P.info? e).map (fun i=>(i.zero,i.size,i.bytes))=some (some z,s,bytes))(hzs:z.cells.size=s)(hsz:0<s)(hby:bytes≤64){xs:List aD}(hown:Own w base e s A n cap xs)(hb:base≤w.heap.size){a:a8}(hl:news.length=m*s)(hnews:∀j u,news[j]?=some u→w.cell? (a.add j)=some u)(h1:news.all (·.oneCell')=true)(hm:n+m≤1099511627776):∃A' cap' w',(lP #[t,t] ty #[i9 A n cap,i9 (some a) m c]).run P w= .ok (i9 A' (n+m) cap') w'∧Own w' base e s A' (n+m) cap' (xs++news)∧UpdO A w w'∧Kept w A A':=by
 obtain⟨i,hi,X,o,E⟩:=info_parts hinfo
 have h1':∀u∈news,u.oneCell'=true:=by simpa [eK] using h1
 have r:n+m≤maxLen:=by rw [eA];omega
 have h:(n+m)*bytes≤140737488355328:=by
  have:(n+m)*bytes≤1099511627776*64:=j3 hm hby
  omega
 rcases hown with⟨rfl,rfl,rfl,rfl⟩ | ⟨g,cs,rfl,hg,Y,hn,V,I,H⟩
 ·obtain⟨v',w',hr,h2,M,_⟩:=run_append_own (P:=P) w w.heap.size t ty e i z s bytes ht hi X o E hzs hsz (i9 none 0 0) 0 [] (World.ownsRow_nil w _ e s) a m c news hl hnews h1' r h (aX _)
  obtain⟨A',cap',rfl,q⟩:=Own.of_row h2
  exact⟨A',cap',w',hr,q.mono hb,UpdO.of M,fun a' D=>bT (q.block a' D).1⟩
 ·by_cases f:n+m≤cap
  ·have W:n*s+news.length≤cs.length:=by rw [hl,I,←dO];exact eC s f
   obtain⟨w',U,F,Z,hs⟩:=uP (P:=P) news 0 (n*s) w cs Y (by omega) h1'
   rw [eS] at F
   have p:=run_firstCells_some (P:=P) w i.size m a m c news (by rw [o];exact hl) hnews
   rw [o] at p
   refine⟨some ⟨g,0,none⟩,cap,w',?_,bT ⟨g,_,rfl,hg,F,f,V,?_,?_⟩,Z.updO,fun a' D=>cD ⟨_,rfl,by cases D;rfl⟩⟩
   ·simp [lP,kK ht,sizeOf,typeInfo,hi,Builtin.lenOf,f,p,Addr.add_lit,o,U]
   ·unfold i8
    simp only [eN,dE,gS]
    omega
   ·rw [dO,←hl]
    exact FN H (by omega)
  ·have hx:=H
   obtain⟨v',w',hr,h2,M⟩:=run_append_arg_grows (P:=P) w t ty e i z s bytes ht hi X o E hzs hsz ⟨g,0,none⟩ n cap xs
    (by rw [←H,dE];have:=eC s hn;omega)
    (fun j u hj=>by
     have L:=(fS.1 hj).1
     rw [iE,eQ,Y.cell (by rw [←H,dE] at L;omega)]
     rw [←H,iW] at hj
     split at hj
     ·rw [bE,hj];rfl
     ·cases hj) a m c news hl hnews (by omega) r h
   obtain⟨A',cap',rfl,q⟩:=Own.of_row h2
   exact⟨A',cap',w',hr,q.mono hb,UpdO.of M,fun a' D=>bT (q.block a' D).1⟩
variable {Q:dH→Act→a0→Prop}{n:Nat}{l:Fr}{w:a0}{ops:Array bB}{rest:List bB}{d:Nat}{ty:aV}{pos:String}{af:Array fD}{gd:Option (Nat×Bool)}
theorem oM {x y:cG}{z:aD}{s:Nat}{a:a8}{xs:List aD}(hw:d5 ops l gd=some true)(hx:bP l x=some (i9 A k cap))(hy:bP l y=some (i9 (some a) m c))(ht:P.underlying t=some (.slice e))(hinfo:(P.info? e).map (fun i=>(i.zero,i.size,i.bytes))=some (some z,s,bytes))(hzs:z.cells.size=s)(hown:Own w base e s A k cap xs)(hb:base≤w.heap.size)(news:List aD)(hl:news.length=m*s)(hnews:∀j u,news[j]?=some u→w.cell? (a.add j)=some u)(h1:news.all (·.oneCell')=true)(h:∀A' cap' w',Own w' base e s A' (k+m) cap' (xs++news)→UpdO A w w'→Kept w A A'→wl P ops Q n rest ((d,i9 A' (k+m) cap')::l) w')(hsz:0<s:=by decide)(hby:bytes≤64:=by decide)(hm:k+m≤1099511627776:=by omega)(hn:d<n:=by decide):wl P ops Q n (⟨some d,.call {callee:= .builtin .append,args:= #[x,y],argTypes:= #[t,t]},ty,pos,af,gd⟩::rest) l w:=by
 obtain⟨A',cap',w',hr,h2,p,o⟩:=vA (P:=P) (ty:=ty) ht hinfo hzs hsz hby hown hb hl hnews h1 hm
 refine fJ hw hn (fun a' f=>?_) (h A' cap' w' h2 p o)
 unfold execOp
 simp only [resolve,invoke,builtin,cA,g0,eG,mG,iJ,j7,f.ev hx,f.ev hy]
 rw [hr]
 rfl
end
theorem Own.updOT {s:Nat}(h:Own w b t s A n cap vs)(ho:Own w b' T s' B m c us)(hT:t≠T)(x:UpdO B w w'):Own w' b t s A n cap vs:=by
 refine h.updO x (fun p q e f r=>?_)
 rcases ho with⟨h1,_⟩ | ⟨k,cs,E,_,o,_⟩
 ·rw [h1] at e;cases e
 ·rcases h with⟨h2,_⟩ | ⟨k',cs',D,_,hk',_⟩
  ·rw [h2] at f;cases f
  ·rw [E] at e;rw [D] at f
   cases e;cases f
   simp only at r
   subst r
   unfold Bk at o hk'
   rw [o] at hk'
   injection hk' with hk'
   injection hk' with e1 e2
   exact hT e2.symm
theorem QI (v:aD)(h:Bk w g T [v]):∀j u,[v][j]?=some u→w.cell? ((⟨g,0,none⟩:a8).add j)=some u:=by
 intro j u hj
 have e:=(fS.1 hj).1
 rw [iE,eQ,h.cell e,bE,hj];rfl
theorem sJ (A:Option a8)(c k:Nat):oD (if c=0 then A else A.map (·.add (0*1))) (k-0) (c-0)= i9 A k c:=by
 have h0:A.map (·.add (0*1))=A:=by
  cases A with
  | none=>rfl
  | some a=>simp [lR]
 rw [h0,ite_self];rfl
theorem kE:Tryz.prog.underlying 36=some (.slice 22):=by kernel_rfl
theorem kN (w:a0):(sizeOf 22).run aH w= .ok 1 w:=by kernel_rfl
theorem oB (w:a0):(isAgg 22).run aH w= .ok false w:=by kernel_rfl
theorem sZ:(Tryz.prog.info? 22).map (fun i=>(i.zero,i.size,i.bytes))=some (some (i9 none 0 0),1,24):=by kernel_rfl
section
variable {P:bV}{Q:dH→Act→a0→Prop}{n:Nat}{l:Fr}{w:a0}{ops:Array bB}{rest:List bB}{d:Nat}{op:Op}{ty:aV}{pos:String}{af:Array fD}{gd:Option (Nat×Bool)}
def FV:j8→Bool
 | .eql=>false
 | .neq=>false
 | _=>true
theorem OV {x y:cG}{r:aD}(ho:FV o=true)(hb:(binOp o t u v).run P w= .ok r w):((do eqGuard o t x y u v;binOp o t u v):Sem aD).run P w= .ok r w:=by
 cases o <;> first | (cases ho;done) | (simp only [eqGuard,cA];exact hb) | (simp [eqGuard,cA,hb])
theorem nI {x y:cG}{r:aD}(hw:d5 ops l gd=some true)(hx:bP l x=some u)(hy:bP l y=some v)(ho:FV o=true)(hb:∀w,(binOp o t u v).run P w= .ok r w)(h:wl P ops Q n rest ((d,r)::l) w)(hn:d<n:=by decide):wl P ops Q n (⟨some d,.binOp o t x y t',ty,pos,af,gd⟩::rest) l w:=
 fJ hw hn (fun a' f=>by
  have e:((do eqGuard o t x y (a'.eval x) (a'.eval y);binOp o t (a'.eval x) (a'.eval y)):Sem aD).run P w= .ok r w:=by
   rw [f.ev hx,f.ev hy];exact OV ho (hb w)
  show ((((do eqGuard o t x y (a'.eval x) (a'.eval y);binOp o t (a'.eval x) (a'.eval y)):Sem aD)>>=fun r=>pure (gE r)):Sem fU).run P w=_
  rw [cA,e];rfl) h
theorem dF {v':aD}(hw:d5 ops l gd=some true)(hk:kI l op=true)(e:v=v')(h:wl P ops Q n rest ((d,v')::l) w)(hn:d<n:=by decide)(hr:(execOp (rho l) ⟨some d,op,ty,pos,af,gd⟩).run P w= .ok (.value v) w:=by kernel_rfl):wl P ops Q n (⟨some d,op,ty,pos,af,gd⟩::rest) l w:=D0 hw hk hn hr (by rw [e];exact h)
end
theorem jC {x:Nat}(h:x≤18446744073709551615):d8 .u64 (IntKind.u64.wrap (x:Int))= i5 (x:Int):=by rw [IntWalk.u64_in _ ⟨by omega,by omega⟩]
theorem m0 {x:Nat}(h:x≤9223372036854775807):d8 .i64 (IntKind.i64.wrap (x:Int))= a9 (x:Int):=by rw [IntWalk.i64_in _ ⟨by omega,by omega⟩]
section
variable (P:bV) (n:Nat) (ol:List bB) (vs:List aD) (ws:List a0) (w:a0) (dss:List (List Nat)) (l:Fr) (st:List Nat)
def rP (i t:Nat):Prop:=
 match ol[i]? with
 | some o=>if st.contains i then gB P n (dfr ol vs l (bQ dss i)) o (wv ws w t) (match o.dst with | none=> .skip | some _=> .value ((vs[i]?).getD undef)) (wv ws w (t+1)) else gB P n (dfr ol vs l (bQ dss i)) o (wv ws w t) (.value ((vs[i]?).getD undef)) (wv ws w t)
 | none=>True
def lH:List (Nat×Nat)→Prop
 | []=>True
 | (i,t)::r=>rP P n ol vs ws w dss l st i t∧lH r
end
def BJ (n : Nat)(ol : List bB)(st : List Nat)(l : Fr)(dss rl : List (List Nat))(ps : List (Nat × Nat)): Bool :=
  (ol.zipIdx.all fun (o, i) => (match o.guard with | none => true | some _ => false) && (o.after.toList.all fun e => !Region.binds .any e || decide (e.on < i)) &&
    ((bQ rl i).all fun j => decide (j < i) && o.after.toList.any fun e => gU .any e && (e.on == j || (bQ rl e.on).contains j)) &&
    ((bQ dss i).all fun j => (bQ rl i).contains j) &&
    (match o.dst with
     | some d => decide (d < n) && l.all (fun p => p.1 != d) && ol.zipIdx.all (fun (o', j) => j == i || o'.dst != some d)
     | none => st.contains i) &&
    (fI (st.length + 1)).all (fun t => decide (t < gR st (bQ rl i)) || (t != 0 && (bQ rl (st.getD (t - 1) 0)).contains i) || (st.contains i && t != gR st (bQ rl i)) || ps.contains (i, t))) &&
  (fI st.length).all (fun t => decide (st.getD t 0 < ol.length) && (fI t).all fun u => (bQ rl (st.getD t 0)).contains (st.getD u 0))
structure DetOkV (n:Nat)(ol:List bB)(st:List Nat)(l:Fr)(dss rl:List (List Nat))(ps:List (Nat×Nat)):Prop where
 guard:∀(i:Nat) (o:bB),ol[i]?=some o→o.guard=none
 back:∀(i:Nat) (o:bB),ol[i]?=some o→∀e∈o.after,gU .any e=true→e.on<i
 reach:∀(i:Nat) (o:bB),ol[i]?=some o→∀j∈bQ rl i,j<i∧∃e∈o.after,gU .any e=true∧(e.on=j∨j∈bQ rl e.on)
 deps:∀(i:Nat) (o:bB),ol[i]?=some o→∀j∈bQ dss i,j∈bQ rl i
 val:∀(i:Nat) (o:bB),ol[i]?=some o→∀d,o.dst=some d→d<n∧(∀p∈l,p.1≠d)∧∀(j:Nat) (o':bB),ol[j]?=some o'→j≠i→o'.dst≠some d
 sto:∀(i:Nat) (o:bB),ol[i]?=some o→o.dst=none→i∈st
 pair:∀(i:Nat) (o:bB),ol[i]?=some o→∀t,t≤st.length→gR st (bQ rl i)≤t→(t=0∨i ∉ bQ rl (st.getD (t-1) 0))→(i∈st→t=gR st (bQ rl i))→(i,t)∈ps
 inN:∀t,t<st.length→st.getD t 0<ol.length
 ord:∀t,t<st.length→∀u,u<t→st.getD u 0∈bQ rl (st.getD t 0)
theorem VQ {l:Fr}(h:BJ n ol st l dss rl ps=true):DetOkV n ol st l dss rl ps:=by
 simp only [BJ,dW] at h
 obtain⟨h1,h2⟩:=h
 have key:=fun (i:Nat) (o:bB) (f:ol[i]?=some o)=>mV h1 i o f
 simp only [dW] at key
 have q:∀t,t<st.length→st.getD t 0<ol.length∧∀u,u<t→st.getD u 0∈bQ rl (st.getD t 0):=by
  intro t ht
  rw [eK] at h2
  have:=h2 t (gF.2 ht)
  simp only [dW,decide_eq_true_eq,eK,gF,jO] at this
  exact this
 refine⟨fun i o f=>?_,fun i o f e he hb=>?_,fun i o f j hj=>?_,fun i o f j hj=>?_,fun i o f d D=>?_,fun i o f D=>?_,fun i o f t ht _ I hs=>?_,fun t ht=>(q t ht).1,fun t ht=>(q t ht).2⟩
 ·have:=(key i o f).1.1.1.1.1
  cases hg:o.guard with
  | none=>rfl
  | some g=>rw [hg] at this;cases this
 ·have:=(key i o f).1.1.1.1.2
  rw [eK] at this
  have:=this e (by simpa using he)
  simpa [hb] using this
 ·have:=(key i o f).1.1.1.2
  rw [eK] at this
  have:=this j hj
  simp only [dW,decide_eq_true_eq,List.any_eq_true,kM,beq_iff_eq,jO] at this
  obtain⟨M,e,he,hb,E⟩:=this
  exact⟨M,e,by simpa using he,hb,E⟩
 ·have:=(key i o f).1.1.2
  rw [eK] at this
  simpa using this j hj
 ·have:=(key i o f).1.2
  rw [D] at this
  simp only [dW,decide_eq_true_eq] at this
  obtain⟨⟨E,F⟩,H⟩:=this
  refine⟨E,fun p L=>?_,fun j o' ho' r e=>?_⟩
  ·rw [eK] at F
   simpa using F p L
  ·have:=mV H j o' ho'
   simp only [kM,beq_iff_eq,bne_iff_ne] at this
   rcases this with h | h
   ·exact r h
   ·exact h e
 ·have:=(key i o f).1.2
  rw [D] at this
  exact jO.1 this
 ·have:=(key i o f).2
  rw [eK] at this
  have:=this t (gF.2 (by omega))
  simp only [kM,dW,decide_eq_true_eq,bne_iff_ne,ne_eq,jO] at this
  rcases this with ((h | h) | h) | h
  ·omega
  ·rcases I with h0 | h0
   ·exact absurd h0 h.1
   ·exact absurd h.2 h0
  ·exact absurd (hs h.1) h.2
  ·exact h
section
variable {P:bV}{Q:dH→Act→a0→Prop}{n:Nat}{ol:List bB}{vs:List aD}{ws:List a0}{w:a0}{dss rl:List (List Nat)}{l:Fr}{st:List Nat}{ps:List (Nat×Nat)}
theorem IY:∀{ps:List (Nat×Nat)},lH P n ol vs ws w dss l st ps→∀i t,(i,t)∈ps→rP P n ol vs ws w dss l st i t
 | [],_,i,t,h=>by cases h
 | (j,u)::r,h,i,t,hm=>by
  rcases List.mem_cons.1 hm with e | e
  ·cases e;exact h.1
  ·exact IY h.2 i t e
theorem JH (hk:DetOkV n ol st l dss rl ps)(h:Closed ol listed):∀(i:Nat) (o:bB),ol[i]?=some o→(∀e∈o.after,gU .any e=true→listed.getD e.on false=true)→∀j∈bQ rl i,listed.getD j false=true:=by
 intro i
 induction i using Nat.strongRecOn with
 | ind i ih=>
  intro o q f j hj
  obtain⟨_,e,he,hb,h1⟩:=hk.reach i o q j hj
  have p:=hk.back i o q e he hb
  rcases h1 with h1 | h1
  ·rw [←h1];exact f e he hb
  ·have r:e.on<ol.length:=Nat.lt_trans p (fS.1 q).1
   exact ih e.on p _ (bR r) (h e.on _ (bR r) (f e he hb)) j h1
theorem VN (hk:DetOkV n ol st l dss rl ps)(ho:lH P n ol vs ws w dss l st ps)(hfin:eo Q .normal n (rL ol vs l) (wv ws w st.length)):∀(fuel:Nat) (listed:Array Bool) (a:Act) (t:Nat),oO ol.length listed≤fuel→listed.size=ol.length→Closed ol listed→t≤st.length→(∀u,u<st.length→listed.getD (st.getD u 0) false=decide (u<t))→Rp n l a→
   (∀i,i<ol.length→listed.getD i false=true→∀d,dL ol i=some d→a.tmps.getD d undef=(vs[i]?).getD undef)→wpAny P .any ol.toArray Q fuel listed a (wv ws w t):=by
 have fin:∀(listed:Array Bool) (a:Act) (t:Nat),(∀i,i<ol.length→listed.getD i false=true)→t≤st.length→(∀u,u<st.length→listed.getD (st.getD u 0) false=decide (u<t))→Rp n l a→
   (∀i,i<ol.length→listed.getD i false=true→∀d,dL ol i=some d→a.tmps.getD d undef=(vs[i]?).getD undef)→Q .normal a (wv ws w t):=by
  intro listed a t p ht q hr hv
  have e:t=st.length:=by
   rcases gP t st.length with h | h
   ·have h1:=q t h
    rw [p _ (hk.inN t h)] at h1
    simp at h1
   ·omega
  subst e
  exact hfin a (hr.dfr _ fun j hj d I=>hv j (gF.1 hj) (p j (gF.1 hj)) d I)
 intro fuel
 induction fuel with
 | zero=>
  intro listed a t hf hs E ht q hr hv
  have p:∀i,i<ol.length→listed.getD i false=true:=by
   intro i hi
   cases h:listed.getD i false with
   | true=>rfl
   | false=>have:=j9 hi hs h;omega
  refine⟨?_,fin listed a t p ht q hr hv⟩
  refine List.eq_nil_iff_forall_not_mem.2 fun j hj=>?_
  obtain⟨h1,o,ab,_⟩:=iX.1 hj
  have bh:j<ol.length:=(fS.1 ab).1
  rw [j0,p j bh] at h1
  cases h1
 | succ fuel ih=>
  intro listed a t hf hs E ht q hr hv
  refine⟨fun h0=>?_,fun i bf=>?_⟩
  ·refine fin listed a t (fun i hi=>?_) ht q hr hv
   have key:∀k,k≤ol.length→∀i,i<k→listed.getD i false=true:=by
    intro k
    induction k with
    | zero=>intro _ i hi;omega
    | succ k ihk=>
     intro hk' i hi
     have ih':=ihk (by omega)
     rcases gP i k with h | h
     ·exact ih' i h
     ·have e:i=k:=by omega
      subst e
      cases hb:listed.getD i false with
      | true=>rfl
      | false=>
       have ah:i∈Region.ready .any ol.toArray listed:=iX.2 ⟨by rw [j0];exact hb,_,bR (by omega),fun e he au=>ih' _ (hk.back i _ (bR (by omega)) e he au)⟩
       rw [h0] at ah;cases ah
   exact key ol.length (aX _) i hi
  ·obtain⟨bd,o,f,p⟩:=iX.1 bf
   have V:i<ol.length:=(fS.1 f).1
   have hun':listed.getD i false=false:=by rw [←j0];exact bd
   have U:=JH hk E i o f p
   have am:gR st (bQ rl i)≤t:=BR fun u _ ba Z=>by
    have h1:=U _ Z
    rw [q u ba] at h1
    simp at h1;omega
   have aj:t=0∨i ∉ bQ rl (st.getD (t-1) 0):=by
    rcases kC t with h | h
    ·exact cD h
    ·refine bT fun Z=>?_
     have h1:=q (t-1) (by omega)
     rw [decide_eq_true (by omega)] at h1
     have hN:=hk.inN (t-1) (by omega)
     have h2:=JH hk E _ _ (bR hN) (fun e he hb=>E _ _ (bR hN) h1 e he hb) i Z
     rw [hun'] at h2;cases h2
   have r:i∈st→t<st.length∧st.getD t 0=i∧t=gR st (bQ rl i):=by
    intro Z
    obtain⟨u,D,bi⟩:=List.getElem_of_mem Z
    have hg:st.getD u 0=i:=by rw [bE,bR D];exact bi
    have h1:=q u D
    rw [hg,hun'] at h1
    have h2:¬u<t:=by intro h;rw [decide_eq_true h] at h1;cases h1
    have h3:u=t:=by
     rcases gP t u with h | h
     ·have h4:=hk.ord u D t h
      rw [hg] at h4
      have h5:=U _ h4
      rw [q t (by omega)] at h5
      simp at h5
     ·omega
    subst h3
    refine⟨D,hg,?_⟩
    have h4:=AY (st:=st) (js:=bQ rl i) (t:=u) (fun v hv'=>by rw [←hg];exact hk.ord u D v hv')
    omega
   have aF:=IY ho i t (hk.pair i o f t ht am aj (fun Z=>(r Z).2.2))
   unfold rP at aF
   rw [f] at aF
   simp only at aF
   have X:Rp n (dfr ol vs l (bQ dss i)) a:=hr.dfr _ fun j hj d I=>by
    have h1:=U j (hk.deps i o f j hj)
    have h2:=(hk.reach i o f j (hk.deps i o f j hj)).1
    exact hv j (by omega) h1 d I
   have ai:oE o (yielded ol.toArray a.tmps)=true:=by simp [oE,hk.guard i o f]
   unfold wpOp
   rw [m6,f]
   simp only
   rw [if_pos ai]
   refine cD ?_
   unfold Oper.wp
   cases I:o.dst with
   | some d=>
    obtain⟨av,ae,ao⟩:=hk.val i o f d I
    have Y:∀(v:aD) (aq:v=(vs[i]?).getD undef),∀j,j<ol.length→(listed.setIfInBounds i true).getD j false=true→∀e,dL ol j=some e→(a.put (some d) v).tmps.getD e undef=(vs[j]?).getD undef:=fun v aq j hj L e he=>by
     by_cases H:i=j
     ·subst H
      have e1:dL ol i=some d:=by unfold dL;rw [f];exact I
      rw [e1] at he
      cases he
      rw [←aq]
      exact qD hr.size av _
     ·rw [Go.getD_set_ne false H] at L
      have M:e≠d:=by
       intro aw
       subst aw
       obtain⟨oj,ab⟩:∃oj,ol[j]?=some oj:=⟨_,bR hj⟩
       refine ao j oj ab (mB H) ?_
       unfold dL at he
       rw [ab] at he
       exact he
      have:=sI (a:=a) (d:=d) (e:=some e) (fun h=>M (iG h)) v
      exact this.trans (hv j hj L e he)
    by_cases F:i∈st
    ·obtain⟨az,W,_⟩:=r F
     rw [if_pos (by simpa using F),I] at aF
     simp only at aF
     rw [aF a X]
     simp only [kL,I]
     refine ih _ _ (t+1) (by have:=j9 V hs hun';omega) (by simpa using hs) (E.set f p) (by omega) (fun u D=>?_) (hr.put_far ae _) (Y _ G)
     by_cases ak:u=t
     ·subst ak
      rw [W]
      simp [hs,V]
     ·have M:i≠st.getD u 0:=by
       intro e
       rcases gP u t with h | h
       ·have h1:=q u D
        rw [←e,hun',decide_eq_true h] at h1;cases h1
       ·have h4:=hk.ord u D t (by omega)
        rw [W,←e] at h4
        have:=(hk.reach i o f i h4).1
        omega
      rw [Go.getD_set_ne false M,q u D]
      congr 1
      simp only [eq_iff_iff]
      omega
    ·rw [if_neg (by simpa using F)] at aF
     rw [aF a X]
     simp only [kL,I]
     refine ih _ _ t (by have:=j9 V hs hun';omega) (by simpa using hs) (E.set f p) ht (fun u D=>?_) (hr.put_far ae _) (Y _ G)
     rw [Go.getD_set_ne false (fun e=>F (by rw [e,bE,bR D];exact lO D))]
     exact q u D
   | none=>
    have Z:=hk.sto i o f I
    obtain⟨az,W,_⟩:=r Z
    rw [if_pos (by simpa using Z),I] at aF
    simp only at aF
    rw [aF a X]
    simp only [kL,I]
    refine ih _ _ (t+1) (by have:=j9 V hs hun';omega) (by simpa using hs) (E.set f p) (by omega) (fun u D=>?_) hr (fun j hj L e he=>?_)
    ·by_cases ak:u=t
     ·subst ak
      rw [W]
      simp [hs,V]
     ·have M:i≠st.getD u 0:=by
       intro e
       rcases gP u t with h | h
       ·have h1:=q u D
        rw [←e,hun',decide_eq_true h] at h1;cases h1
       ·have h4:=hk.ord u D t (by omega)
        rw [W,←e] at h4
        have:=(hk.reach i o f i h4).1
        omega
      rw [Go.getD_set_ne false M,q u D]
      congr 1
      simp only [eq_iff_iff]
      omega
    ·by_cases H:i=j
     ·subst H
      have e1:dL ol i=none:=by unfold dL;rw [f];exact I
      rw [e1] at he;cases he
     ·rw [Go.getD_set_ne false H] at L
      exact hv j hj L e he
theorem VV (hmix:P.follows .mixedOrders=true)(vs:List aD)(ws:List a0)(st:List Nat)(dss rl:List (List Nat))(ps:List (Nat×Nat))(hk:BJ n ol st l dss rl ps=true)(hw:wv ws w 0=w0.drew)(ho:lH P n ol vs ws w dss l st ps)(hfin:eo Q .normal n (rL ol vs l) (wv ws w st.length)):cw P Q n (.region id ol.toArray true) l w0:=fun a p=>by
 refine wp_region_any hmix ?_
 have f:(oL ol.toArray.size false).size=ol.length:=by simp
 have e:∀i,(oL ol.toArray.size false).getD i false=false:=by
  intro i
  simp only [Array.getD_eq_getD_getElem?,Array.getElem?_replicate]
  split <;> rfl
 have:=VN (VQ hk) ho hfin ol.toArray.size _ a 0 (by
  refine aE List.countP_le_length ?_
  simp) f (fun i o _ h=>by rw [e] at h;cases h) (bJ _) (fun u _=>by rw [e];simp) p (fun i _ h=>by rw [e] at h;cases h)
 rw [hw] at this
 exact this
theorem lZ {t:Nat}{o:bB}(acc:Fr)(ho:ol[i]?=some o)(hs:st.contains i=false)(hv:(vs[i]?).getD undef=v)(hw:wv ws w t=wt)(hacc:dfr ol vs l (bQ dss i)=acc)(h:gB P n acc o wt (.value v) wt)(h':lH P n ol vs ws w dss l st ps):lH P n ol vs ws w dss l st ((i,t)::ps):=⟨by unfold rP;rw [ho];simp only;rw [hs,if_neg (by simp),hv,hw,hacc];exact h,h'⟩
theorem V8 {t:Nat}{o:bB}(acc:Fr)(ho:ol[i]?=some o)(hs:st.contains i=true)(hd:o.dst=some d)(hv:(vs[i]?).getD undef=v)(hw:wv ws w t=wt)(hw':wv ws w (t+1)=wt')(hacc:dfr ol vs l (bQ dss i)=acc)(h:gB P n acc o wt (.value v) wt')(h':lH P n ol vs ws w dss l st ps):lH P n ol vs ws w dss l st ((i,t)::ps):=⟨by unfold rP;rw [ho];simp only;rw [hs,if_pos rfl,hw,hw',hacc,hd];simp only;rw [hv];exact h,h'⟩
theorem V6 {t:Nat}{o:bB}(acc:Fr)(ho:ol[i]?=some o)(hd:o.dst=none)(hs:st.contains i=true)(hw:wv ws w t=wt)(hw':wv ws w (t+1)=wt')(hacc:dfr ol vs l (bQ dss i)=acc)(h:gB P n acc o wt .skip wt')(h':lH P n ol vs ws w dss l st ps):lH P n ol vs ws w dss l st ((i,t)::ps):=⟨by unfold rP;rw [ho];simp only;rw [hs,if_pos rfl,hw,hw',hacc,hd];exact h,h'⟩
theorem V7:lH P n ol vs ws w dss l st []:=trivial
end
def sgn (d:Nat):Nat:=if d<10 then 48+d else 87+d
def B8 (x:Nat):aD:= .int .u8 (x:Int)
theorem E2:sgn 0=48:=rfl
theorem E3 (h:d<36):sgn d≤122:=by unfold sgn;split <;> omega
def aM (bs:List Nat):ByteArray:=⟨(bs.map UInt8.ofNat).toArray⟩
def dV (l:List Nat)(k:Nat):List Nat:=l++cJ (k-l.length) 0
theorem pD (l:List Nat)(k:Nat):(dV l k).length=max l.length k:=by simp only [dV,eN,List.length_replicate];omega
def dM (l:List Nat):List Nat:=l.reverse.map sgn
theorem uJ (l r:List Nat):dM (l++r)=dM r++dM l:=by simp [dM]
theorem uI (l:List Nat):(dM l).length=l.length:=by simp [dM]
theorem M0 (k:Nat):dM (cJ k 0)=cJ k 48:=by simp [dM,E2]
theorem yP (l:List Nat)(k:Nat):dM (dV l k)=cJ (k-l.length) 48++dM l:=by rw [dV,uJ,M0]
theorem jV (w:a0):(sizeOf 5).run aH w= .ok 1 w:=by kernel_rfl
theorem C2 (w:a0):(isAgg 5).run aH w= .ok false w:=by kernel_rfl
theorem jR:Tryz.prog.underlying 183=some (.slice 5):=by kernel_rfl
theorem rD:(Tryz.prog.info? 5).map (fun i=>(i.zero,i.size,i.bytes))=some (some (.int .u8 0),1,1):=by kernel_rfl
theorem xF (w:a0):(isAgg 3).run aH w= .ok false w:=by kernel_rfl
theorem AJ (xs:List Nat)(i x:Nat):(xs.map B8).set i (.int .u8 (x:Int))=(xs.set i x).map B8:=by rw [List.map_set];rfl
section
variable {P:bV}{Q:dH→Act→a0→Prop}{n:Nat}{l:Fr}{w:a0}{ops:Array bB}{rest:List bB}{d:Nat}{op:Op}{ty:aV}{pos:String}{af:Array fD}{gd:Option (Nat×Bool)}
theorem OY {s:Nat}{a:a8}{k:iL}{i:Int}(hT:P.underlying t=some (.array m e))(hs:∀w,(sizeOf e).run P w= .ok s w)(hi:i=(j:Int))(hj:j<m)(hp:a.add (j*s)=p):(Instr.indexAt t (.pointer (some a)) (.int k i)).run P w= .ok (.pointer (some p)) w:=by
 subst hi hp
 have h:(underlying t).run P w= .ok (.array m e) w:=kK hT w
 have f:(Instr.sureAddr (.pointer (some a))).run P w= .ok a w:=rfl
 unfold Instr.indexAt
 simp only [asIntOf,cA,g0,eG,h,f]
 rw [if_pos ⟨by omega,by omega⟩]
 simp only [cA,hs w,eG,g0,gX]
theorem yL (hw:d5 ops l gd=some true){x y:cG}{s:Nat}{a:a8}{k:iL}{i:Int}(hx:bP l x=some (.pointer (some a)))(hy:bP l y=some (.int k i))(hT:P.underlying t=some (.array m e))(hs:∀w,(sizeOf e).run P w= .ok s w)(j:Nat)(hi:i=(j:Int))(hj:j<m)(p:a8)(hp:a.add (j*s)=p)(h:wl P ops Q n rest ((d,.pointer (some p))::l) w)(hn:d<n:=by decide):wl P ops Q n (⟨some d,.indexAddr t x y,ty,pos,af,gd⟩::rest) l w:=
 fJ hw hn (fun a' f=>by
  have e:(Instr.indexAt t (a'.eval x) (a'.eval y)).run P w= .ok (.pointer (some p)) w:=by rw [f.ev hx,f.ev hy];exact OY hT hs hi hj hp
  show ((Instr.indexAt t (a'.eval x) (a'.eval y)>>=fun r=>pure (gE r):Sem fU)).run P w=_
  rw [cA,e];rfl) h
theorem OT {s lo:Nat}{a:a8}(hT:P.underlying t=some (.array m e))(hs:∀w,(sizeOf e).run P w= .ok s w)(h3:lo≤m):(Instr.sliceAt t (.pointer (some a)) (some (a9 (lo:Int))) none none).run P w= .ok (i9 (some (if m=lo then a else a.add (lo*s))) (m-lo) (m-lo)) w:=by
 have h:(underlying t).run P w= .ok (.array m e) w:=kK hT w
 have f:(Instr.sureAddr (.pointer (some a))).run P w= .ok a w:=rfl
 have hb:(Instr.sliceBounds false m m (some (a9 (lo:Int))) none none).run P w= .ok (lo,m,m) w:=by
  unfold Instr.sliceBounds
  simp only [cA,g0,eG,Option.isSome,sM h3]
 unfold Instr.sliceAt
 simp only [cA,h,eG,f,hb,hs w,g0]
theorem PR {x y:cG}{s lo:Nat}{a:a8}(hx:bP l x=some (.pointer (some a)))(hy:bP l y=some (a9 (lo:Int)))(hT:P.underlying t=some (.array m e))(hs:∀w,(sizeOf e).run P w= .ok s w)(h3:lo≤m):gB P n l ⟨dst,.slice t x (some y) none none,ty,pos,af,gd⟩ w (.value (i9 (some (if m=lo then a else a.add (lo*s))) (m-lo) (m-lo))) w:=fun a' f=>by
 have e:(Instr.sliceAt t (a'.eval x) (some (a'.eval y)) none none).run P w= .ok (i9 (some (if m=lo then a else a.add (lo*s))) (m-lo) (m-lo)) w:=by rw [f.ev hx,f.ev hy];exact OT hT hs h3
 show ((Instr.sliceAt t (a'.eval x) (some (a'.eval y)) none none>>=fun r=>pure (gE r):Sem fU)).run P w=_
 rw [cA,e];rfl
theorem PS {x y:cG}{r:aD}(hx:bP l x=some u)(hy:bP l y=some v)(hr:(lP #[t,t] ty #[u,v]).run P w= .ok r w'):gB P n l ⟨dst,.call {callee:= .builtin .append,args:= #[x,y],argTypes:= #[t,t]},ty,pos,af,gd⟩ w (.value r) w':=fun a' e=>by
 unfold execOp
 simp only [resolve,invoke,builtin,cA,g0,eG,mG,iJ,j7,e.ev hx,e.ev hy]
 rw [hr]
 rfl
end
def Signs (w:a0):Prop:=∀d,d<36→w.cell? ⟨4,d,none⟩=some (.int .u8 ((sgn d:Nat):Int))
theorem Signs.ext (h:Signs w)(e:Ext w w'):Signs w':=fun d f=>e.cell (h d f)
def Wr (w:a0)(g base k unit:Nat)(PA:Option a8)(pn pc:Nat)(OA:Option a8)(on oc:Nat):Prop:=
 Bk w g 193 [a9 (base:Int),a9 (k:Int),i5 (unit:Int),i9 PA pn pc,i9 OA on oc]
structure UpdW (lb:Nat)(w w':a0):Prop where
 os:w'.os=w.os
 tape:w'.tape=w.tape
 output:w'.output=w.output
 size:w.heap.size≤w'.heap.size
 low:∀k,k<lb→k<w.heap.size→w'.heap[k]?=w.heap[k]?
 typ:∀(k:Nat) (cs:Array aD) (t:aV) (fr:Nat×Nat),w.heap[k]?=some (.cells cs t fr)→t≠193→t≠5→w'.heap[k]?=some (.cells cs t fr)
section
variable {lb:Nat}{a b c w w':a0}
theorem UpdW.refl (lb:Nat)(w:a0):UpdW lb w w:=⟨rfl,rfl,rfl,aX _,fun _ _ _=>rfl,fun _ _ _ _ h _ _=>h⟩
theorem UpdW.trans (h:UpdW lb a b)(e:Ext b c):UpdW lb a c:=
 ⟨e.below.os.trans h.os,e.below.tape.trans h.tape,e.below.output.trans h.output,aE h.size e.size,fun k f hs=>(e.below.block k (cS hs h.size)).trans (h.low k f hs),fun k cs t fr o h1 h2=>e.heap (h.typ k cs t fr o h1 h2)⟩
theorem UpdW.then (h:UpdW lb a b)(e:UpdW lb b c):UpdW lb a c:=
 ⟨e.os.trans h.os,e.tape.trans h.tape,e.output.trans h.output,aE h.size e.size,fun k f hs=>(e.low k f (cS hs h.size)).trans (h.low k f hs),fun k cs t fr o h1 h2=>e.typ k cs t fr (h.typ k cs t fr o h1 h2) h1 h2⟩
theorem UpdW.upd (h:UpdW lb a b)(u:Upd g b c)(hg:lb≤g)(hn:∀(cs:Array aD) (t:aV) (fr:Nat×Nat),a.heap[g]?=some (.cells cs t fr)→t=193∨t=5):UpdW lb a c:=
 ⟨u.by_.os.trans h.os,u.by_.tape.trans h.tape,u.by_.output.trans h.output,aE h.size u.by_.size,fun k p hs=>(u.by_.block k (cS hs h.size) (fun e=>by injection e with e;omega)).trans (h.low k p hs),fun k cs t fr f h1 h2=>by
  have o:k<a.heap.size:=(mI.1 f).1
  refine (u.by_.block k (cS o h.size) (fun e=>?_)).trans (h.typ k cs t fr f h1 h2)
  injection e with e
  subst e
  rcases hn cs t fr f with e | e
  ·exact h1 e
  ·exact h2 e⟩
theorem UpdW.updO (h:UpdW lb a b)(u:UpdO A b c)(hA:∀p,A=some p→lb≤p.block)(hn:∀(p:a8) (cs:Array aD) (t:aV) (fr:Nat×Nat),A=some p→a.heap[p.block]?=some (.cells cs t fr)→t=193∨t=5):UpdW lb a c:=
 ⟨u.by_.os.trans h.os,u.by_.tape.trans h.tape,u.by_.output.trans h.output,aE h.size u.by_.size,fun k q hs=>(u.by_.block k (cS hs h.size) (fun e=>by
   cases A with
   | none=>cases e
   | some p=>have e':k=p.block:=iG e;have:=hA p rfl;omega)).trans (h.low k q hs),fun k cs t fr f h1 h2=>by
  have o:k<a.heap.size:=(mI.1 f).1
  refine (u.by_.block k (cS o h.size) (fun e=>?_)).trans (h.typ k cs t fr f h1 h2)
  cases A with
  | none=>cases e
  | some p=>
   have e':k=p.block:=iG e
   subst e'
   rcases hn p cs t fr rfl f with e | e
   ·exact h1 e
   ·exact h2 e⟩
theorem UpdW.ext (h:UpdW lb w w')(e:Ext a w)(hl:a.heap.size≤lb):Ext a w':=
 ⟨⟨h.os.trans e.below.os,h.tape.trans e.below.tape,h.output.trans e.below.output,aE e.size h.size,fun k f=>(h.low k (cS f hl) (cS f e.size)).trans (e.below.block k f)⟩⟩
theorem UpdW.bk (h:UpdW lb w w')(hb:Bk w g t vs)(h1:t≠193)(h2:t≠5):Bk w' g t vs:=h.typ g _ _ _ hb h1 h2
theorem UpdW.own {s:Nat}(h:UpdW lb w w')(ho:Own w base t s A n cap vs)(h1:t≠193)(h2:t≠5):Own w' base t s A n cap vs:=by
 rcases ho with ho | ⟨g,cs,f,hb,e,r⟩
 ·exact cD ho
 ·exact bT ⟨g,cs,f,hb,h.bk e h1 h2,r⟩
theorem UpdW.cell (h:UpdW lb w w')(hp:p.block<lb)(hc:w.cell? p=some v):w'.cell? p=some v:=
 (World.cell?_of_block (h.low p.block hp (pO w p hc))).trans hc
theorem UpdW.signs (h:UpdW lb w w')(hs:Signs w)(hl:4<lb):Signs w':=fun d e=>h.cell hl (hs d e)
end
theorem WJ {c:Bool}(e:dR)(w':a0)(h:Gv w (Is (.bool c)) e w'):xQ c w e w':=by
 obtain⟨v,rfl,h1,h2⟩:=h
 exact⟨by rw [h1],h2⟩
theorem uK (k m:Nat):(k:Int).tmod (m:Int)=((k%m:Nat):Int):=rfl
structure PieceK (b k:Nat):Prop where
 le:b^k≤18446744073709551615
 gt:18446744073709551615<b^(k+1)
 le64:k≤64
theorem PZ (hb:2≤b)(h:b^k≤18446744073709551615):k<64:=by
 refine nD (fun e=>?_)
 have h1:2^64≤b^k:=aE (eW (by decide) e) (Nat.pow_le_pow_left hb k)
 omega
theorem Q5 (hb:2≤b)(h:b^(k+1)≤18446744073709551615):k+1≤64:=by have:=PZ hb h;omega
theorem BX (h:Bk w g t vs)(h':w.heap[g]?=some (.cells cs t' fr)):t'=t:=by
 unfold Bk at h
 rw [h] at h'
 injection h' with h'
 injection h' with h1 h2
 exact h2.symm
theorem BZ (h:w.heap.size≤g):¬w.heap[g]?=some (.cells cs t fr):=fun e=>by
 have:=(mI.1 e).1
 omega
theorem zR {t T s:Nat}(h:Own w b t s A n c us)(hb:Bk w g T vs)(hT:t≠T):∀p,A=some p→p.block≠g:=fun p f e=>by
 rcases h with⟨h,_⟩ | ⟨k,cs,q,_,o,_⟩
 ·rw [h] at f;cases f
 ·rw [q] at f
  cases f
  simp only at e
  subst e
  unfold Bk at o hb
  rw [o] at hb
  injection hb with hb
  injection hb with h1 h2
  exact hT h2
theorem xB (g i:Nat):(⟨g,0,none⟩:a8).add (i*1)=⟨g,i,none⟩:=by rw [dK,iE,eQ]
theorem FK {T s:Nat}(h:Own w b T s A n c us):∀(p:a8) (cs:Array aD) (t:aV) (fr:Nat×Nat),A=some p→w.heap[p.block]?=some (.cells cs t fr)→t=T:=fun p cs t fr e h'=>by
 rcases h with⟨h,_⟩ | ⟨k,cs',o,_,f,_⟩
 ·rw [h] at e;cases e
 ·rw [o] at e;cases e
  exact BX f h'
theorem Kept.of {v:a0}(h:Kept v A A')(hs:w.heap.size≤v.heap.size):Kept w A A':=fun p f=>(h p f).imp id (fun e=>aE hs e)
def xI (w:a0)(lb g base k unit:Nat)(PA:Option a8)(pn pc:Nat)(OA:Option a8)(bs:List Nat)(e:dR)(w':a0):Prop:=
 e= .returned (.tuple #[])∧∃OA' on' oc',Wr w' g base k unit PA pn pc OA' on' oc'∧Own w' lb 5 1 OA' on' oc' (bs.map B8)∧UpdW lb w w'∧Kept w OA OA'
theorem IV {x:Nat}(h:i<l.length):(l.set i x).drop i=x::l.drop (i+1):=by
 rw [mH (by rw [List.length_set];exact h),List.getElem_set_self,List.drop_set_of_lt (by omega)]
theorem M2 (l:List Nat)(d:Nat):dM (l++ [d])=sgn d::dM l:=by simp [dM]
theorem L8 {v vv:Nat}(hb:2≤b)(hv:v≤18446744073709551615)(h:db b v=acc++db b vv)(hn:0<(db b vv).length):acc.length<64:=by
 have h1:(db b v).length≤64:=jI hb (cS (show v<2^64 by omega) (Nat.pow_le_pow_left hb 64))
 rw [h,eN] at h1
 omega
theorem XF (l:List Nat):(l.map B8).all (·.oneCell')=true:=by
 rw [eK]
 intro u e
 obtain⟨x,_,rfl⟩:=lN.1 e
 rfl
theorem WP {lo:Nat}(h:Bk w g T (l.map B8))(hl:l.length=64)(hlo:lo≤64):∀j u,((l.drop lo).map B8)[j]?=some u→w.cell? ((if 64=lo then (⟨g,0,none⟩:a8) else (⟨g,0,none⟩:a8).add (lo*1)).add j)=some u:=by
 intro j u hj
 have e:=(fS.1 hj).1
 rw [List.length_map,gS,hl] at e
 rw [if_neg (by omega),xB,iE]
 rw [h.cell (by rw [List.length_map,hl];omega)]
 rw [List.map_drop,oJ] at hj
 rw [bE,hj];rfl
theorem zH (hbl:2≤base)(hbu:base≤36):aQ aH 227 #[a9 base] w (fun e w'=>∃k,PieceK base k∧Gv w (T2 (Is (a9 k)) (Is (i5 ((base^k:Nat):Int)))) e w'):=by
 refine bL Tryz.func227 G (n:=19) G (bq G) (args:= [a9 base]) (bF [(0,a9 base)] ⟨rfl,up⟩ (sr (mv 2 G (a1 (sr (mv 2 G (a1 (a7 (bI ?_)))))))))
 refine cU (T:=a0×Nat×Nat)
  (fun⟨wr,k,p⟩=> [(0,a9 base),(2,a9 0),(3,i5 0),(4,a9 k),(5,i5 p)])
  (fun⟨wr,k,p⟩=>wr)
  (fun⟨wr,k,p⟩=>(Ext w wr)∧(p=base^k)∧(p≤18446744073709551615)∧(k≤64))
  (fun⟨wr,k,p⟩=>18446744073709551616-p)
  (⟨w,0,1⟩:a0×Nat×Nat) ⟨(Ext.refl w),(Nat.pow_zero base).symm,(by decide),(by decide)⟩ G ⟨rfl,rfl,rfl,rfl,rfl,up⟩ ?_
 rintro⟨wr,k,p⟩ ⟨r,q,D,E⟩
 refine cR [(0,a9 base),(2,a9 0),(3,i5 0),(4,a9 k),(5,i5 p)] wr G ⟨rfl,rfl,rfl,rfl,rfl,up⟩ (a7 (a7 ?_))
 have F:1≤p:=by rw [q];exact gC (by omega)
 by_cases f:p≤18446744073709551615/base
 ·have o:p*base≤18446744073709551615:=(Nat.le_div_iff_mul_le (by omega)).1 f
  refine a6 (mv 2 G (dF G G (v:= i5 (IntKind.u64.wrap ((base:Nat):Int))) (v':= i5 base) (jC (by first | omega | exact hle64)) (aR G G G ((18446744073709551615/base:Nat):Int) (kB (a:=18446744073709551615) (b:=base) G G) (aA G G G true (m4 (a:=p) (b:=18446744073709551615/base) G G) (a1 (aY G (aW (aC (bI (sr (mv 2 G (dF G G (v:= i5 (IntKind.u64.wrap ((base:Nat):Int))) (v':= i5 base) (jC (by first | omega | exact hle64)) (aR G G G ((p*base:Nat):Int) (kW (a:=p) (b:=base) G G) ?_)))))))))))))
  refine mv 1 G (a1 (a6 (mv 1 G (aR G G G ((k+1:Nat):Int) (bN (a:=k) (b:=1) G G) (mv 1 G (aS (bG (bW (⟨wr,k+1,p*base⟩:a0×Nat×Nat) ⟨r,(by rw [q,dJ]),o,(Q5 hbl (by rw [dJ,←q];exact o))⟩ (by show 18446744073709551616-p*base<18446744073709551616-p;have:p*2≤p*base:=fN p hbl;omega) G ⟨rfl,rfl,rfl,rfl,rfl,up⟩))))))))
 ·have o:18446744073709551615<p*base:=nD (fun h=>f ((Nat.le_div_iff_mul_le (by omega)).2 h))
  refine a6 (mv 2 G (dF G G (v:= i5 (IntKind.u64.wrap ((base:Nat):Int))) (v':= i5 base) (jC (by first | omega | exact hle64)) (aR G G G ((18446744073709551615/base:Nat):Int) (kB (a:=18446744073709551615) (b:=base) G G) (aA G G G false (m5 (a:=p) (b:=18446744073709551615/base) G G) (a1 (aN G (cN (cI (cL (cM (aC (sr (mv 1 G ?_)))))))))))))
  refine mv 3 G (a1 (aU (aT [a9 k,i5 p] G ⟨rfl,rfl,up⟩ ?_)))
  exact⟨k,⟨by rw [←q];exact D,by rw [dJ,←q];exact o,E⟩,_,rfl,⟨_,_,rfl,rfl,(show d8 .u64 ((p:Nat):Int)=_ by rw [q])⟩,r⟩
theorem EE {pc:Nat}(hS:Signs w)(_hgS:4<lb)(hbl:2≤base)(hbu:base≤36)(hW:Wr w g base k unit PA pn pc OA on oc)(hO:Own w lb 5 1 OA on oc (bs.map B8))(hgl:lb≤g)(hlb:lb≤w.heap.size){v:Nat}(hv:v≤18446744073709551615)(hwd:width≤64)(hon:on≤549755813888):aQ aH 276 #[a4 g 0,i5 v,a9 width] w (xI w lb g base k unit PA pn pc OA (bs++dM (dV (db base v) width))):=by
 refine bL Tryz.func276 G (n:=48) G (bq G) (args:= [a4 g 0,i5 v,a9 width]) (bF [(0,a4 g 0),(1,i5 v),(2,a9 width)] ⟨rfl,rfl,rfl,up⟩ (sr (jG G (z:= .agg ((cJ 64 0).map B8).toArray) (vs:=(cJ 64 0).map B8) (fun _=>by kernel_rfl) G fun f v2 nb=>?_)))
 have bo:=nb.bk
 have E:w.heap.size≤f:=by rw [←nb.at_];exact (UpdW.refl lb w).size
 have bw:g<f:=by rw [←nb.at_];exact hW.lt
 have e5:=nb.ext
 have q:UpdW lb w v2:=(UpdW.refl lb w).trans e5
 have e:Ext w v2:=(Ext.refl w).trans e5
 refine a1 (sr (mv 1 G (a1 (a7 (bI ?_)))))
 refine cU (T:=a0×Nat×Nat×List Nat×List Nat)
  (fun⟨wr,vv,n,l,acc⟩=> [(0,a4 g 0),(2,a9 width),(6,a4 f 0),(1,i5 vv),(7,a9 n)])
  (fun⟨wr,vv,n,l,acc⟩=>wr)
  (fun⟨wr,vv,n,l,acc⟩=>(UpdW lb w wr)∧(Ext w wr)∧(db base v=acc++db base vv)∧(n+acc.length=64)∧(l.length=64)∧(l.drop n=dM acc)∧(vv≤18446744073709551615)∧(Bk wr f 231 (l.map B8)))
  (fun⟨wr,vv,n,l,acc⟩=>vv)
  (⟨v2,v,64,cJ 64 0,[]⟩:a0×Nat×Nat×List Nat×List Nat) ⟨q,e,rfl,rfl,(List.length_replicate),(by rw [List.drop_eq_nil_of_le (by rw [List.length_replicate];decide)];rfl),hv,bo⟩ G ⟨rfl,rfl,rfl,rfl,rfl,up⟩ ?_
 rintro⟨wr,vv,n,l,acc⟩ ⟨q,e,F,hn,Z,aq,bj,b_d⟩
 refine cR [(0,a4 g 0),(2,a9 width),(6,a4 f 0),(1,i5 vv),(7,a9 n)] wr G ⟨rfl,rfl,rfl,rfl,rfl,up⟩ (a7 (a7 ?_))
 by_cases bz:vv>0
 ·have aw:=kU hbl (show vv≠0 by omega)
  have bu:acc.length<64:=L8 hbl hv F (by rw [aw];simp)
  refine a6 (mv 1 G (aA G G G true (fB (a:=vv) (b:=0) G G) (a1 (aY G (aW (aC (bI (sr (mv 1 G (aR G G G ((n-1:Nat):Int) (gI (a:=n) (b:=1) G G) (mv 1 G (a1 (a7 ?_)))))))))))))
  refine a6 (mv 3 G (pf g 0 G (pf g 0 G (aL G G (aP (fun _=>by kernel_rfl) (hW.ext e) G) (dF G G (v:= i5 (IntKind.u64.wrap ((base:Nat):Int))) (v':= i5 base) (jC (by first | omega | exact hle64)) (aR G G G ((vv%base:Nat):Int) (kV (a:=vv) (b:=base) G G) (yL G G G Tryz.underlying232 jV (vv%base) G (cS (fV _ (by omega)) hbu) ⟨4,vv%base,none⟩ (xB _ _) (aL G G (cT C2 ((hS.ext e) _ (cS (fV _ (by omega)) hbu))) (yL G G G Tryz.underlying231 jV (n-1) G (by omega) ⟨f,n-1,none⟩ (xB _ _) ?_)))))))))
  have bm:=b_d
  refine d6 G G G jV G bm (gL (by rw [Z];omega)) G ((l.set (n-1) (sgn (vv%base))).map B8) (AJ _ _ _) fun v6 bd u9 _=>?_
  have M:Ext w v6:=u9.ext e E
  have r:UpdW lb w v6:=q.upd u9 (aE hlb E) (fun _ _ _ h=>absurd h (BZ E))
  refine a1 (a6 (mv 2 G (pf g 0 G (pf g 0 G (aL G G (aP (fun _=>by kernel_rfl) ((hW.ext e).vN u9) G) (dF G G (v:= i5 (IntKind.u64.wrap ((base:Nat):Int))) (v':= i5 base) (jC (by first | omega | exact hle64)) (aR G G G ((vv/base:Nat):Int) (kB (a:=vv) (b:=base) G G) (mv 1 G (aS (bG (bW (⟨v6,vv/base,n-1,l.set (n-1) (sgn (vv%base)),acc++ [vv%base]⟩:a0×Nat×Nat×List Nat×List Nat) ⟨r,M,(by rw [F,aw,List.append_assoc];rfl),(by rw [eN,List.length_singleton];omega),(by rw [List.length_set];exact Z),(by rw [IV (by omega),show n-1+1=n by omega,aq,M2]),(aE (eR _ _) bj),bd⟩ (jM (by omega) (by omega)) G ⟨rfl,rfl,rfl,rfl,rfl,up⟩)))))))))))
 ·refine a6 (mv 1 G (aA G G G false (fC (a:=vv) (b:=0) G G) (a1 (aN G (cN (cI (cL (cM (aC (a7 (bI ?_)))))))))))
  have I:db base v=acc:=by rw [F,show vv=0 by omega,jK,pW]
  refine cU (T:=a0×Nat×List Nat×Nat)
   (fun⟨wq,m,l2,z⟩=> [(0,a4 g 0),(2,a9 width),(6,a4 f 0),(7,a9 m)])
   (fun⟨wq,m,l2,z⟩=>wq)
   (fun⟨wq,m,l2,z⟩=>(UpdW lb w wq)∧(Ext w wq)∧(m+z+acc.length=64)∧(z≤width-acc.length)∧(l2.length=64)∧(l2.drop m=cJ z 48++dM acc)∧(Bk wq f 231 (l2.map B8)))
   (fun⟨wq,m,l2,z⟩=>m)
   (⟨wr,n,l,0⟩:a0×Nat×List Nat×Nat) ⟨q,e,(by omega),(bJ _),Z,aq,b_d⟩ G ⟨rfl,rfl,rfl,rfl,up⟩ ?_
  rintro⟨wq,m,l2,z⟩ ⟨q,e,_,_,D,W,b_d⟩
  refine cR [(0,a4 g 0),(2,a9 width),(6,a4 f 0),(7,a9 m)] wq G ⟨rfl,rfl,rfl,rfl,up⟩ (a7 (a7 ?_))
  by_cases bv:64-m<width
  ·refine a6 (mv 1 G (aR G G G ((64-m:Nat):Int) (gI (a:=64) (b:=m) G G) (mv 1 G (aA G G G true (dG (a:=64-m) (b:=width) G G) (a1 (aY G (aW (aC (bI (sr (mv 1 G (aR G G G ((m-1:Nat):Int) (gI (a:=m) (b:=1) G G) (mv 1 G ?_)))))))))))))
   refine a1 (a6 (mv 1 G (yL G G G Tryz.underlying231 jV (m-1) G (by omega) ⟨f,m-1,none⟩ (xB _ _) ?_)))
   have ao:=b_d
   refine d6 G G G jV G ao (gL (by rw [D];omega)) G ((l2.set (m-1) 48).map B8) (AJ _ _ _) fun aa ah ae _=>?_
   have M:Ext w aa:=ae.ext e E
   have r:UpdW lb w aa:=q.upd ae (aE hlb E) (fun _ _ _ h=>absurd h (BZ E))
   refine aS (bG (bW (⟨aa,m-1,l2.set (m-1) 48,z+1⟩:a0×Nat×List Nat×Nat) ⟨r,M,(by omega),(by omega),(by rw [List.length_set];exact D),(by rw [IV (by omega),show m-1+1=m by omega,W,List.replicate_succ];rfl),ah⟩ (show m-1<m by omega) G ⟨rfl,rfl,rfl,rfl,up⟩))
  ·refine a6 (mv 1 G (aR G G G ((64-m:Nat):Int) (gI (a:=64) (b:=m) G G) (mv 1 G (aA G G G false (cW (a:=64-m) (b:=width) G G) (a1 (aN G (cN (cI (cL (cM (aC (bF [(0,a4 g 0),(2,a9 width),(6,a4 f 0),(7,a9 m),(30,a9 m),(31,a9 ((64-m:Nat):Int)),(32,a9 width),(33,t9)] ⟨rfl,rfl,rfl,rfl,rfl,rfl,rfl,rfl,up⟩ ?_))))))))))))
   obtain⟨V,hv,o⟩:∃v,v=wq.drew∧Ext wq v:=⟨_,rfl,aK.drew⟩
   have r:UpdW lb w V:=q.trans o
   have M:Ext w V:=e.trans o
   have L:=(hO.ext (e.trans o))
   obtain⟨H,U,ai,ar,ab,X,aj⟩:=vA (P:=aH) (t:=183) (ty:=183) (m:=64-m) (c:=64-m) jR rD G (by decide) (by decide) L (aE hlb r.size) (news:=((l2).drop m).map B8) (by rw [List.length_map,gS,D,dK]) (WP (b_d.ext o) (D) (by omega)) (XF _) (by omega)
   have bi:UpdW lb w ai:=r.updO X (fun p hp=>(L.block p hp).1) (fun p cs t fr hp h=>bT ((FK hO) p cs t fr hp h))
   have Y:=((hW.ext (e.trans o)).updO X (zR L (hW.ext (e.trans o)) (by decide)))
   obtain⟨am,ak,au,av,_⟩:=sL (P:=aH) (v:= i9 H (on+(64-m)) U) (off:=4) (T:=183) (fun _=>by kernel_rfl) G Y (bq G) G [a9 (base:Int),a9 (k:Int),i5 (unit:Int),i9 PA pn pc,i9 H (on+(64-m)) U] rfl
   have ba:UpdW lb w am:=bi.upd av hgl (fun _ _ _ h=>cD (BX hW h))
   refine VV cQ (w:=V) [a4 g 0,a4 g 0,a4 g 0,a4 g 4,i9 OA on oc,a9 m,i9 (some (if 64=m then ⟨f,0,none⟩ else (⟨f,0,none⟩:a8).add (m*1))) (64-m) (64-m),i9 H (on+(64-m)) U,a4 g 0,a4 g 4,undef] [V,ai,am] [7,10] [[],[],[1],[2],[3],[],[5],[4,6],[0],[8],[7,9]] [[],[],[1],[1,2],[1,2,3],[],[5],[1,2,3,4,5,6],[0,1,2,3,4,5,6,7],[0,1,2,3,4,5,6,7,8],[0,1,2,3,4,5,6,7,8,9]] [(0,0),(0,1),(1,0),(2,0),(3,0),(4,0),(5,0),(6,0),(7,0),(8,1),(9,1),(10,1)] G hv ?_ ?_
   ·refine lZ _ G G G G G (bO G) (lZ _ G G G G G (bO G) (lZ _ G G G G G (bO G) (lZ _ G G G G G (iN G) (lZ _ G G G G G (iN G) (lZ _ G G G G G (cH G (aP (fun _=>by kernel_rfl) (hW.ext (e.trans o)) G)) (lZ _ G G G G G (bO G) (lZ _ G G G G G (PR G G Tryz.underlying231 jV (by omega)) (V8 _ G G G G G G G (PS G G ar) (lZ _ G G G G G (iN G) (lZ _ G G G G G (iN G) (V6 _ G G G G G G (eO G G ak) ?_)))))))))))
    exact V7
   clear hv
   refine fX [(0,a4 g 0),(2,a9 width),(6,a4 f 0),(7,a9 m),(30,a9 m),(31,a9 ((64-m:Nat):Int)),(32,a9 width),(33,t9),(38,a4 g 0),(39,a4 g 0),(40,a4 g 0),(41,a4 g 4),(42,i9 OA on oc),(43,a9 m),(44,i9 (some (if 64=m then ⟨f,0,none⟩ else (⟨f,0,none⟩:a8).add (m*1))) (64-m) (64-m)),(45,i9 H (on+(64-m)) U),(46,a4 g 0),(47,a4 g 4)] ⟨rfl,rfl,rfl,rfl,rfl,rfl,rfl,rfl,rfl,rfl,rfl,rfl,rfl,rfl,rfl,rfl,rfl,rfl,up⟩ (nZ [] G up ?_)
   have ag:bs.map B8++((l2).drop m).map B8=(bs++dM (dV (db base v) width)).map B8:=by rw [W,←I,yP,show z=width-(db base v).length by rw [I];omega];simp only [List.map_append]
   exact⟨rfl,H,_,_,au,ag▸((ab.updT Y (by decide) av)),ba,aj.of r.size⟩
theorem vR (x y:Int):ln (x.tdiv y)≤ln x:=vV (by rw [Int.natAbs_tdiv];exact eR _ _)
theorem AO (x y:Int):ln (x.tmod y)≤ln x:=vV (by rw [Int.natAbs_tmod];exact Nat.mod_le _ _)
theorem IQ (h:0≤x.tmod y):x.tdiv y=x/y∧x.tmod y=x%y:=by
 have h1:=Int.tdiv_mul_add_tmod x y
 rcases Int.lt_trichotomy y 0 with f | f | f
 ·have h2:x.tmod y< -y:=by have:=uL (x:=x) (y:=y) (by omega);omega
  have e:x.tmod y=x%y:=by
   have:x%y=(x.tmod y+y*x.tdiv y)%y:=by rw [Int.mul_comm y];congr 1;omega
   rw [this,Int.add_mul_emod_self_left,←Int.emod_neg,Int.emod_eq_of_lt h h2]
  refine⟨?_,e⟩
  have o:=Int.mul_ediv_add_emod x y
  rw [←e] at o
  refine Int.eq_of_mul_eq_mul_left (a:=y) (by omega) ?_
  rw [Int.mul_comm y (x.tdiv y)];omega
 ·subst f;simp
 ·have h2:=Int.tmod_lt_of_pos x f
  have e:x.tmod y=x%y:=by
   have:x%y=(x.tmod y+y*x.tdiv y)%y:=by rw [Int.mul_comm y];congr 1;omega
   rw [this,Int.add_mul_emod_self_left,Int.emod_eq_of_lt h h2]
  refine⟨?_,e⟩
  have o:=Int.mul_ediv_add_emod x y
  rw [←e] at o
  refine Int.eq_of_mul_eq_mul_left (a:=y) (by omega) ?_
  rw [Int.mul_comm y (x.tdiv y)];omega
theorem V0 (h:x.tmod y<0)(hy:y<0):x.tdiv y+1=x/y∧x.tmod y-y=x%y:=by
 have h1:=Int.tdiv_mul_add_tmod x y
 have h2: -(x.tmod y)< -y:=by have:=uL (x:=x) (y:=y) (by omega);omega
 have e:x.tmod y-y=x%y:=by
  have:x%y=((x.tmod y-y)+y*(x.tdiv y+1))%y:=by rw [Int.mul_add,Int.mul_comm y];congr 1;omega
  rw [this,Int.add_mul_emod_self_left,←Int.emod_neg,Int.emod_eq_of_lt (by omega) (by omega)]
 refine⟨?_,e⟩
 have f:=Int.mul_ediv_add_emod x y
 rw [←e] at f
 refine Int.eq_of_mul_eq_mul_left (a:=y) (by omega) ?_
 rw [Int.mul_add,Int.mul_comm y (x.tdiv y)];omega
theorem UZ (h:x.tmod y<0)(hy:0<y):x.tdiv y-1=x/y∧x.tmod y+y=x%y:=by
 have h1:=Int.tdiv_mul_add_tmod x y
 have h2: -(x.tmod y)<y:=by have:=uL (x:=x) (y:=y) (by omega);omega
 have e:x.tmod y+y=x%y:=by
  have:x%y=((x.tmod y+y)+y*(x.tdiv y-1))%y:=by rw [Int.mul_sub,Int.mul_comm y];congr 1;omega
  rw [this,Int.add_mul_emod_self_left,Int.emod_eq_of_lt (by omega) (by omega)]
 refine⟨?_,e⟩
 have f:=Int.mul_ediv_add_emod x y
 rw [←e] at f
 refine Int.eq_of_mul_eq_mul_left (a:=y) (by omega) ?_
 rw [Int.mul_sub,Int.mul_comm y (x.tdiv y)];omega
theorem Zi.sg_ (h:Zi w s A n c z):sg s z.natAbs=z:=by
 obtain⟨xs,h1,rfl⟩:=h
 rw [kP]
theorem AQ (h:y≠0):ln (x%y)≤ln y:=by
 refine vV ?_
 have h1:=Int.emod_nonneg x h
 have h2:=Int.emod_lt x h
 omega
theorem T5 {nb:Nat}(hx:Zi w sa Aa na ca x)(la:na≤68719476736)(hy:Zi w sb Ab nb cb y)(lb:nb≤68719476736)(h0:y=0):aQ aH 151 #[J sa Aa na ca,J sb Ab nb cb] w (Gv w (T2 (ZR w.heap.size (0)) (Is (a9 4)))):=by
 have Lx:ln x≤68719476736:=aE hx.ln la
 have Ly:ln y≤68719476736:=aE hy.ln lb
 refine bL Tryz.func151 G (n:=27) G (bq G) (args:= [J sa Aa na ca,J sb Ab nb cb]) (bF [(0,J sa Aa na ca),(1,J sb Ab nb cb)] ⟨rfl,rfl,up⟩ (sr (bx (O sa Aa na ca) (Ext.refl w) G G G fun W _ o _ _ U=>(gN (O sb Ab nb cb) U o.lt G G G fun Y _ D _ _ X H=>(cO [F0,S0] H D.lt (fun _=>by kernel_rfl) G fun _ _ q f _ p h=>(mv 1 G (a1 (sr (pf W 1 G (aL G G (aP bX (o.ext (X.t p)) G) (pf Y 1 G (aL G G (aP bX (D.ext p) G) (cl (vs:= [i9 Aa na ca,i9 Ab nb cb]) h (UJ (i:=0) (hy.ext h).wi (aO lb G) (by omega)) G (by kernel_rfl) fun _ L M I F=>?_)))))))))))))
 obtain rfl:=M
 refine mv 1 G (pu (v:= i9 none 0 0) G (pu (v:= a9 4) G (mv 2 G (a1 (a7 (sr (mv 1 G (pu (v:= no) G (a1 (aY G (sr (pu (v:= .agg #[F0,S0]) G (mv 1 G ?_)))))))))))))
 have e:=(q.ext I)
 refine so aB e [F0,S0] F f G G G G fun _ r E V=>(mv 1 G (a1 (aU (bU (aT [.agg #[F0,S0],a9 4] G ⟨⟨_,rfl,bA aB r [F0,S0] G (bq G) rfl⟩,rfl,up⟩ ?_)))))
 exact⟨_,rfl,⟨_,_,rfl,⟨_,_,_,_,rfl,((Zr.zero (w:=L) (base:=w.heap.size)).updT e E)⟩,rfl⟩,V⟩
theorem T6 {nb:Nat}(hb:b≤w.heap.size)(hx:Zi w sa Aa na ca x)(la:na≤68719476736)(hy:Zi w sb Ab nb cb y)(lb:nb≤68719476736)(h0:y=0):aQ aH 151 #[J sa Aa na ca,J sb Ab nb cb] w (Gv w (T2 (ZR b (0)) (Is (a9 4)))):=(T5 hx la hy lb h0).mono (Gv.imp (T2.imp (ZR.imp hb) Is.imp))
theorem T1 {nb:Nat}(hx:Zi w sa Aa na ca x)(la:na≤68719476736)(hy:Zi w sb Ab nb cb y)(lb:nb≤68719476736)(h0:y≠0)(hd:x.natAbs%y.natAbs≠0):aQ aH 151 #[J sa Aa na ca,J sb Ab nb cb] w (Gv w (T2 (ZR w.heap.size (0)) (Is (a9 8)))):=by
 have Lx:ln x≤68719476736:=aE hx.ln la
 have Ly:ln y≤68719476736:=aE hy.ln lb
 refine bL Tryz.func151 G (n:=27) G (bq G) (args:= [J sa Aa na ca,J sb Ab nb cb]) (bF [(0,J sa Aa na ca),(1,J sb Ab nb cb)] ⟨rfl,rfl,up⟩ (sr (bx (O sa Aa na ca) (Ext.refl w) G G G fun W _ o _ _ U=>(gN (O sb Ab nb cb) U o.lt G G G fun Y _ D _ _ X H=>(cO [F0,S0] H D.lt (fun _=>by kernel_rfl) G fun _ _ q h _ p f=>(mv 1 G (a1 (sr (pf W 1 G (aL G G (aP bX (o.ext (X.t p)) G) (pf Y 1 G (aL G G (aP bX (D.ext p) G) (cl (vs:= [i9 Aa na ca,i9 Ab nb cb]) f (UI (hx.ext f).wi (aO la G) (hy.ext f).wi (aO lb G) (by omega) hd) G (by kernel_rfl) fun _ L M I F=>?_)))))))))))))
 obtain rfl:=M
 refine mv 1 G (pu (v:= i9 none 0 0) G (pu (v:= a9 8) G (mv 2 G (a1 (a7 (sr (mv 1 G (pu (v:= no) G (a1 (aY G (sr (pu (v:= .agg #[F0,S0]) G (mv 1 G ?_)))))))))))))
 have e:=(q.ext I)
 refine so aB e [F0,S0] F h G G G G fun _ r E V=>(mv 1 G (a1 (aU (bU (aT [.agg #[F0,S0],a9 8] G ⟨⟨_,rfl,bA aB r [F0,S0] G (bq G) rfl⟩,rfl,up⟩ ?_)))))
 exact⟨_,rfl,⟨_,_,rfl,⟨_,_,_,_,rfl,((Zr.zero (w:=L) (base:=w.heap.size)).updT e E)⟩,rfl⟩,V⟩
theorem T4 {nb:Nat}(hb:b≤w.heap.size)(hx:Zi w sa Aa na ca x)(la:na≤68719476736)(hy:Zi w sb Ab nb cb y)(lb:nb≤68719476736)(h0:y≠0)(hd:x.natAbs%y.natAbs≠0):aQ aH 151 #[J sa Aa na ca,J sb Ab nb cb] w (Gv w (T2 (ZR b (0)) (Is (a9 8)))):=(T1 hx la hy lb h0 hd).mono (Gv.imp (T2.imp (ZR.imp hb) Is.imp))
theorem SZ {nb:Nat}(hx:Zi w sa Aa na ca x)(la:na≤68719476736)(hy:Zi w sb Ab nb cb y)(lb:nb≤68719476736)(h0:y≠0)(hd:x.natAbs%y.natAbs=0):aQ aH 151 #[J sa Aa na ca,J sb Ab nb cb] w (Gv w (T2 (ZR w.heap.size (x.tdiv y)) (Is (a9 0)))):=by
 have Lx:ln x≤68719476736:=aE hx.ln la
 have Ly:ln y≤68719476736:=aE hy.ln lb
 refine bL Tryz.func151 G (n:=27) G (bq G) (args:= [J sa Aa na ca,J sb Ab nb cb]) (bF [(0,J sa Aa na ca),(1,J sb Ab nb cb)] ⟨rfl,rfl,up⟩ (sr (bx (O sa Aa na ca) (Ext.refl w) G G G fun g1 _ q _ _ ab=>(gN (O sb Ab nb cb) ab q.lt G G G fun g6 _ E _ _ e8 ag=>(cO [F0,S0] ag E.lt (fun _=>by kernel_rfl) G fun _ _ H L _ f e=>(mv 1 G (a1 (sr (pf g1 1 G (aL G G (aP bX (q.ext (e8.t f)) G) (pf g6 1 G (aL G G (aP bX (E.ext f) G) ?_))))))))))))
 have L1:(wd (x.natAbs/y.natAbs)).length≤68719476736:=aE (iP (eR _ _)) Lx
 refine cl (vs:= [i9 Aa na ca,i9 Ab nb cb]) e (UK e.size (hx.ext e).wi (aO la G) (hy.ext e).wi (aO lb G) (by omega) hd) G (by kernel_rfl) fun _ _ ai r Y=>?_
 obtain⟨_,_,rfl,⟨I,V,M,rfl,W,Z⟩,rfl⟩:=ai
 refine mv 1 G (pu (v:= i9 I V M) G (pu (v:= a9 0) G (mv 2 G (a1 (a7 (sr (mv 1 G (pu (v:= t9) G (a1 (aN G (aW (aC (a7 ?_)))))))))))))
 refine a6 (pf g1 0 G (aL G G (aP dB (q.ext (e8.t (f.t r))) G) (pf g6 0 G (aL G G (aP dB (E.ext (f.t r)) G) (pu (v:= .bool (!(sa==sb))) G (mv 1 G ?_))))))
 have ar:ln (sg (!(sa==sb)) (Int.natAbs x/Int.natAbs y))≤68719476736:=(show (wd (sg _ _).natAbs).length≤_ by rw [kP];exact L1)
 refine cl (vs:= [.bool (!(sa==sb)),i9 I V M]) Y (wF W Z) G (by kernel_rfl) fun _ _ ah aa ae=>?_
 obtain⟨F,p,D,o,rfl,aj⟩:=ah
 have h:=(H.ext (r.t aa))
 refine so aB h (O F p D o) ae L G G G G fun _ U ak X=>(mv 1 G (a1 (aU (aT [J F p D o,I0] G ⟨⟨_,rfl,bA aB U (O F p D o) G (bq G) rfl⟩,rfl,up⟩ ?_))))
 exact⟨_,rfl,⟨_,_,rfl,⟨_,_,_,_,rfl,((aj.updT h ak)).cast (by rw [show (!(sa==sb))=(sa != sb) from rfl,zA,hx.sg_,hy.sg_])⟩,rfl⟩,X⟩
theorem T0 {nb:Nat}(hb:b≤w.heap.size)(hx:Zi w sa Aa na ca x)(la:na≤68719476736)(hy:Zi w sb Ab nb cb y)(lb:nb≤68719476736)(h0:y≠0)(hd:x.natAbs%y.natAbs=0):aQ aH 151 #[J sa Aa na ca,J sb Ab nb cb] w (Gv w (T2 (ZR b (x.tdiv y)) (Is (a9 0)))):=(SZ hx la hy lb h0 hd).mono (Gv.imp (T2.imp (ZR.imp hb) Is.imp))
structure ZC where
 s:Bool
 A:Option a8
 n:Nat
 c:Nat
theorem EB (x y:Int): -9223372036854775808≤bH x y∧bH x y≤9223372036854775807:=by have:=EC x y;omega
theorem fQ:Tryz.prog.underlying 25=some (.slice 24):=by kernel_rfl
theorem GY:(Tryz.prog.info? 24).map (fun i=>(i.zero,i.size,i.bytes))=some (some (J false none 0 0),2,32):=by kernel_rfl
def ZC.zero:ZC:=⟨false,none,0,0⟩
def q8 (e:ZC):List aD:= (O e.s e.A e.n e.c)
def jQ:List ZC→List aD
 | []=> []
 | e::r=> .bool e.s:: .slice e.A e.n e.c::jQ r
theorem yE:∀es:List ZC,(jQ es).length=es.length*2
 | []=>rfl
 | e::r=>by simp only [jQ,gD,yE r];omega
theorem uD:∀(es:List ZC) (i:Nat),i<es.length→(jQ es)[i*2]?=some (.bool (es.getD i ZC.zero).s)
 | [],i,h=>by simp at h
 | e::r,0,h=>rfl
 | e::r,i+1,h=>by
  have:=uD r i (by simpa using h)
  simpa [jQ,dO] using this
theorem uC:∀(es:List ZC) (i:Nat),i<es.length→(jQ es)[i*2+1]?=some (.slice (es.getD i ZC.zero).A (es.getD i ZC.zero).n (es.getD i ZC.zero).c)
 | [],i,h=>by simp at h
 | e::r,0,h=>rfl
 | e::r,i+1,h=>by
  have:=uC r i (by simpa using h)
  simpa [jQ,dO] using this
theorem CR:∀(es:List ZC) (i:Nat) (e:ZC),i<es.length→i8 (jQ es) (i*2) (q8 e)=jQ (es.set i e)
 | [],i,e,h=>by simp at h
 | a::r,0,e,h=>by simp [jQ,i8,q8]
 | a::r,i+1,e,h=>by
  have:=CR r i e (by simpa using h)
  simp only [i8,q8,gD,List.length_nil] at this⊢
  rw [show (i+1)*2=i*2+1+1 by omega,show i*2+1+1+(0+1+1)=i*2+(0+1+1)+1+1 by omega]
  simp only [jQ,List.take_succ_cons,List.drop_succ_cons,u6,List.set_cons_succ,this]
theorem Zl.at (h:Zl w A n cap zs ms)(hi:i<n):∃p s B c,A.map (·.add (i*2))=some p∧(∀w',Ext w w'→∀(P:bV) (T:aV),AggT P T 2→(loadVar T p).run P w'= .ok (.agg #[.bool s,i9 B (ms.getD i 0) c]) w')∧Zi w s B (ms.getD i 0) c (zs.getD i 0):=by
 obtain⟨a,s,B,c,rfl,h1,h2,o⟩:=h.get i hi
 refine⟨a.add (i*2),s,B,c,rfl,fun w' e P T f=>sW f [.bool s,i9 B (ms.getD i 0) c] G (fun j hj=>?_),o⟩
 rw [rM]
 match j,hj with
 | 0,_=>exact e.cell h1
 | 1,_=>exact e.cell h2
theorem Zr.updOT (h:Zr w b s A n cap z)(ho:Own w b' T s' B m c us)(x:UpdO B w w')(hT:65≠T:=by decide):Zr w' b s A n cap z:=
 ⟨h.sgn,h.len,h.own.updOT ho hT x⟩
def Zo (w:a0)(b:Nat)(s:Bool)(A:Option a8)(n cap:Nat)(z:Int):Prop:=∃xs,Own w b 65 1 A n cap (xs.map bC)∧Wf xs∧sg s (nv xs)=z
section
variable {w w':a0}{b:Nat}{s:Bool}{A:Option a8}{n cap:Nat}{z:Int}
theorem Zo.zi (h:Zo w b s A n cap z):Zi w s A n cap z:=by obtain⟨xs,h1,h2,e⟩:=h;exact⟨xs,h1.rd h2,e⟩
theorem Zo.ext (h:Zo w b s A n cap z)(x:Ext w w'):Zo w' b s A n cap z:=by obtain⟨xs,h1,h2⟩:=h;exact⟨xs,h1.ext x,h2⟩
theorem Zo.mono (h:Zo w b s A n cap z)(x:b'≤b):Zo w b' s A n cap z:=by obtain⟨xs,h1,h2⟩:=h;exact⟨xs,h1.mono x,h2⟩
theorem Zo.updT (h:Zo w b s A n cap z)(hb:Bk w g T us)(x:Upd g w w')(hT:65≠T:=by decide):Zo w' b s A n cap z:=by obtain⟨xs,h1,h2⟩:=h;exact⟨xs,h1.updT hb hT x,h2⟩
theorem Zo.updOT (h:Zo w b s A n cap z)(ho:Own w b' T s' B m c us)(x:UpdO B w w')(hT:65≠T:=by decide):Zo w' b s A n cap z:=by obtain⟨xs,h1,h2⟩:=h;exact⟨xs,h1.updOT ho hT x,h2⟩
end
def El (m:Option a0)(b:Nat)(w:a0)(e:ZC)(z:Int):Prop:=Zr w b e.s e.A e.n e.c z∨∃w0,m=some w0∧(Zi w0 e.s e.A e.n e.c z∨Zo w b e.s e.A e.n e.c z)
theorem El.ext {m:Option a0}{e:ZC}(h:El m b w e z)(x:Ext w w'):El m b w' e z:=h.imp (·.ext x) (fun⟨w0,h1,h2⟩=>⟨w0,h1,h2.imp id (·.ext x)⟩)
theorem El.updT {m:Option a0}{e:ZC}(h:El m b w e z)(hb:Bk w g T us)(x:Upd g w w')(hT:65≠T:=by decide):El m b w' e z:=h.imp (·.updT hb x hT) (fun⟨w0,h1,h2⟩=>⟨w0,h1,h2.imp id (·.updT hb x hT)⟩)
theorem El.mono {m:Option a0}{e:ZC}(h:El m b w e z)(x:b'≤b):El m b' w e z:=h.imp (·.mono x) (fun⟨w0,h1,h2⟩=>⟨w0,h1,h2.imp id (·.mono x)⟩)
theorem El.updOT {m:Option a0}{e:ZC}(h:El m b w e z)(ho:Own w b' T s' B n c us)(x:UpdO B w w')(hT:65≠T:=by decide):El m b w' e z:=h.imp (·.updOT ho x hT) (fun⟨w0,h1,h2⟩=>⟨w0,h1,h2.imp id (·.updOT ho x hT)⟩)
theorem El.zi {e:ZC}(h:El (some w0) b w e z)(x:Ext w0 w):Zi w e.s e.A e.n e.c z:=by
 rcases h with h | ⟨_,h1,h2⟩
 ·exact h.zi
 ·cases h1;exact h2.elim (·.ext x) (·.zi)
def Lz (m:Option a0)(K b:Nat)(w:a0)(lb:Nat)(A:Option a8)(n cap:Nat)(zs:List Int):Prop:=
 ∃es,Own w lb 24 2 A n cap (jQ es)∧es.length=n∧zs.length=n∧∀i,i<n→(es.getD i ZC.zero).n≤K∧El m b w (es.getD i ZC.zero) (zs.getD i 0)
section
variable {m:Option a0}{K b lb:Nat}{w w':a0}{A:Option a8}{n cap:Nat}{zs:List Int}
theorem Lz.own (h:Lz m K b w lb A n cap zs):∃vs,Own w lb 24 2 A n cap vs:=by obtain⟨es,h1,_⟩:=h;exact⟨_,h1⟩
theorem Lz.block (h:Lz m K b w lb A n cap zs):∀a,A=some a→lb≤a.block∧a.block<w.heap.size:=by obtain⟨vs,h⟩:=h.own;exact h.block
theorem Lz.ext (h:Lz m K b w lb A n cap zs)(x:Ext w w'):Lz m K b w' lb A n cap zs:=by
 obtain⟨es,h1,h2,f,e⟩:=h
 exact⟨es,h1.ext x,h2,f,fun i hi=>⟨(e i hi).1,(e i hi).2.ext x⟩⟩
theorem Lz.mono {K' lb':Nat}(h:Lz m K b w lb A n cap zs)(hK:K≤K')(hb:b'≤b)(hl:lb'≤lb):Lz m K' b' w lb' A n cap zs:=by
 obtain⟨es,h1,h2,f,e⟩:=h
 exact⟨es,h1.mono hl,h2,f,fun i hi=>⟨aE (e i hi).1 hK,(e i hi).2.mono hb⟩⟩
theorem Lz.at (h:Lz m K b w lb A n cap zs)(hi:i<n):∃p s B k c,A.map (·.add (i*2))=some p∧(∀w',Ext w w'→∀(P:bV) (T:aV),AggT P T 2→(loadVar T p).run P w'= .ok (J s B k c) w')∧k≤K∧El m b w ⟨s,B,k,c⟩ (zs.getD i 0):=by
 obtain⟨es,h1,h2,_,q⟩:=h
 obtain⟨a,f,o⟩:=h1.rv.get (i*2) (by omega)
 obtain⟨a',ha',hc'⟩:=h1.rv.get (i*2+1) (by omega)
 rw [f] at ha';cases ha'
 have E:=uD es i (by omega)
 have D:=uC es i (by omega)
 rw [bE,E] at o
 rw [bE,D] at hc'
 refine⟨a.add (i*2),_,_,_,_,by rw [f];rfl,fun w' e P T r=>sW r [.bool (es.getD i ZC.zero).s,.slice (es.getD i ZC.zero).A (es.getD i ZC.zero).n (es.getD i ZC.zero).c] G (fun j hj=>?_),(q i hi).1,(q i hi).2⟩
 rw [rM]
 match j,hj with
 | 0,_=>exact e.cell o
 | 1,_=>exact e.cell hc'
theorem Lz.zl (h:Lz (some w0) K b w lb A n cap zs)(x:Ext w0 w):∃ms,Zl w A n cap zs ms∧∀i,ms.getD i 0≤K:=by
 obtain⟨es,h1,h2,D,p⟩:=h
 have e:∀i,i<n→(es.map (·.n)).getD i 0=(es.getD i ZC.zero).n:=fun i hi=>by
  simp [bE,iK,bR (show i<es.length by omega)]
 refine⟨es.map (·.n),⟨D,by rw [List.length_map,h2],h1.rv.le,h1.rv.max,fun i hi=>?_⟩,fun i=>?_⟩
 ·obtain⟨a,f,o⟩:=h1.rv.get (i*2) (by omega)
  obtain⟨a',ha',hc'⟩:=h1.rv.get (i*2+1) (by omega)
  rw [f] at ha';cases ha'
  have r:=uD es i (by omega)
  have q:=uC es i (by omega)
  rw [bE,r] at o
  rw [bE,q] at hc'
  rw [e i hi]
  exact⟨a,_,_,_,f,o,hc',(p i hi).2.zi x⟩
 ·by_cases hi:i<n
  ·rw [e i hi];exact (p i hi).1
  ·rw [bE,List.getElem?_eq_none (by rw [List.length_map];omega)];exact bJ _
theorem SS {α:Type}{l r:List α}{d:α}(h:i<l.length):(l++r).getD i d=l.getD i d:=by
 rw [bE,bE,List.getElem?_append_left h]
theorem SR {α:Type}{l r:List α}{a d:α}:(l++a::r).getD l.length d=a:=by
 rw [bE,List.getElem?_append_right (aX _),Nat.sub_self];rfl
end
section
variable {Q:dH→Act→a0→Prop}{N:Nat}{l:Fr}{w:a0}{ops:Array bB}{rest:List bB}{d:Nat}{ty:aV}{pos:String}{af:Array fD}{gd:Option (Nat×Bool)}
theorem LA {m:Option a0}{x y:cG}{e:ZC}(hw:d5 ops l gd=some true)(hx:bP l x=some (.pointer (some p)))(hy:bP l y=some (J e.s e.A e.n e.c))(hp:A.map (·.add (i*2))=some p)(hi:i<n)(h:Lz m K b w lb A n cap zs)(he:El m b w e z)(hK:e.n≤K)(k:∀w',Lz m K b w' lb A n cap (zs.set i z)→UpdO A w w'→wl aH ops Q N rest l w'):wl aH ops Q N (⟨none,.store 24 x y,ty,pos,af,gd⟩::rest) l w:=by
 obtain⟨es,h1,h2,H,I⟩:=h
 have h1':=h1
 rcases h1 with⟨rfl,_⟩ | ⟨g,cs,rfl,V,M,hn,F,_,W⟩
 ·cases hp
 ·have hp':p=⟨g,i*2,none⟩:=by
   injection hp with hp
   rw [←hp]
   show (⟨g,0,none⟩:a8).add (i*2)=_
   rw [iE,eQ]
  subst hp'
  have U:=eC 2 hn
  refine yI hw hx (us:=q8 e) hy aB G M (by omega) G _ G fun w' E D hs=>k w' ⟨es.set i e,bT ⟨g,_,rfl,V,E,hn,F,?_,?_⟩,by simp [h2],by simp [H],fun j hj=>?_⟩ D.updO
  ·unfold i8
   simp only [eN,dE,gS,q8,gD,List.length_nil]
   omega
  ·rw [←CR es i e (by omega),←W]
   have L:i*2+2≤n*2:=by omega
   have o:(q8 e).length=2:=rfl
   unfold i8
   rw [o,List.take_append,List.take_append,List.take_take,List.take_take,eN,dE,g7 (by omega:i*2≤cs.length),o,Nat.min_eq_right (by omega),g7 (by omega)]
   congr 1
   ·congr 1
    exact List.take_of_length_le (by rw [o];omega)
   ·rw [List.drop_take]
  ·by_cases f:j=i
   ·subst f
    have r:(es.set j e).getD j ZC.zero=e:=by simp [bE,h2,hj]
    have q:(zs.set j z).getD j 0=z:=by simp [bE,H,hj]
    rw [r,q]
    exact⟨hK,he.updOT h1' D.updO⟩
   ·have r:(es.set i e).getD j ZC.zero=es.getD j ZC.zero:=by simp [bE,mB f]
    have q:(zs.set i z).getD j 0=zs.getD j 0:=by simp [bE,mB f]
    rw [r,q]
    exact⟨(I j hj).1,(I j hj).2.updOT h1' D.updO⟩
end
theorem uG {Q:dH→Act→a0→Prop}{l:Fr}{x y:cG}{k:iL}{a b:Int}(hw:d5 ops l gd=some true)(hx:bP l x=some (.int k a))(hy:bP l y=some (.int k b))(c:Int)(h:wl P ops Q n rest ((d,.int k c)::l) w)(hc:max a b=c:=by omega)(hn:d<n:=by decide):wl P ops Q n (⟨some d,.call {callee:= .builtin .max,args:= #[x,y],argTypes:=ts},ty,pos,af,gd⟩::rest) l w:=by
 refine fJ hw hn (fun a' f=>?_) h
 have e:(if b>a then b else a)=c:=by rw [←hc];split <;> omega
 unfold execOp
 simp only [resolve,invoke,builtin,cA,g0,eG,mG,iJ,j7,f.ev hx,f.ev hy,Builtin.max_,List.foldlM,Builtin.max2,e]
theorem D1 {Q:dH→Act→a0→Prop}{l:Fr}{x y:cG}{k:iL}{a b:Int}(hw:d5 ops l gd=some true)(hx:bP l x=some (.int k a))(hy:bP l y=some (.int k b))(c:Int)(hc:min a b=c)(hn:d<n)(h:wl P ops Q n rest ((d,.int k c)::l) w):wl P ops Q n (⟨some d,.call {callee:= .builtin .min,args:= #[x,y],argTypes:=ts},ty,pos,af,gd⟩::rest) l w:=by
 refine fJ hw hn (fun a' f=>?_) h
 have e:(if b<a then b else a)=c:=by rw [←hc];split <;> omega
 unfold execOp
 simp only [resolve,invoke,builtin,cA,g0,eG,mG,iJ,j7,f.ev hx,f.ev hy,Builtin.min_,List.foldlM,Builtin.min2,e]
theorem EL (hx:Wi w A n c m)(hl:n≤1099511627775):aQ aH 142 #[i9 A n c] w (Gv w (Is (a9 ((dQ m:Nat):Int)))):=by
 obtain⟨xs,h1,rfl⟩:=hx
 refine (AD h1 hl).mono fun e w' h=>?_
 obtain⟨k,h2,rfl,f⟩:=h
 exact⟨_,rfl,(show d8 .i64 (k:Int)=_ by rw [h2.out]),f⟩
theorem O8 {v:Nat}(hx:Wi w A n c m)(hl:n≤1099511627775)(hv0:v≠0)(hvb:v≤18446744073709551615):aQ aH 235 #[i9 A n c,i5 (v:Int)] w (Gv w (T3 (WR w.heap.size (m/v)) (Is (i5 ((m%v:Nat):Int))) (Is (a9 0)))):=by
 obtain⟨xs,h1,rfl⟩:=hx
 refine (J2 h1 hl hv0 hvb).mono fun e w' h=>?_
 obtain⟨A,n,cap,r',rfl,h2,_,p,_,o,f⟩:=h
 exact⟨_,rfl,⟨_,_,_,rfl,⟨A,n,cap,rfl,p.out,o⟩,(show d8 .u64 (r':Int)=_ by rw [h2.out]),rfl⟩,f⟩
def jD (b k at_:Nat):List Nat→List Nat
 | []=> []
 | [x]=>dV (db b x) at_
 | x::y::r=>dV (db b x) k++jD b k at_ (y::r)
theorem BT {x:Nat}:jD b k a (x::r)=dV (db b x) (if r= [] then a else k)++jD b k a r:=by
 cases r with
 | nil=>simp [jD]
 | cons y r=>simp [jD]
theorem qM (h:k≤l.length):dV l k=l:=by rw [dV,Nat.sub_eq_zero_of_le h];simp
theorem FJ:l++dV r k=dV (l++r) (l.length+k):=by
 unfold dV
 rw [List.append_assoc,eN]
 congr 2
 congr 1
 omega
theorem wW (hb:2≤b)(hq:m/b^k≠0):db b m=dV (db b (m%b^k)) k++db b (m/b^k):=by
 have r:0<b^k:=gC (by omega)
 have hl:(db b (m%b^k)).length≤k:=jI hb (fV _ r)
 have f:(dV (db b (m%b^k)) k).length=k:=by rw [pD];omega
 have hn:nb b (dV (db b (m%b^k)) k)=m%b^k:=by rw [dV,QS,iO hb]
 have p:nb b (dV (db b (m%b^k)) k++db b (m/b^k))=m:=by
  rw [sS,hn,f,iO hb,jF]
 have q:Wfb b (dV (db b (m%b^k)) k++db b (m/b^k)):=xJ (xJ (kX hb _) (fun x hx=>by rw [List.eq_of_mem_replicate hx];omega)) (kX hb _)
 have ht:=wU hb (m/b^k)
 have o:(db b (m/b^k)).length≠0:=fun e=>hq ((rA hb).1 e)
 have key:=BN hb q (bT (by
  rw [eN,f,bE,List.getElem?_append_right (by rw [f];omega),f,show k+(db b (m/b^k)).length-1-k=(db b (m/b^k)).length-1 by omega,←bE]
  rcases ht with h | h
  ·exact absurd h o
  ·exact h))
 rw [p] at key
 exact key
theorem WC (hb:2≤b)(_hk:1≤k)(hu:2≤b^k):∀(n m:Nat),m≤n→m≠0→jD b k a (db (b^k) m)=dV (db b m) (((db (b^k) m).length-1)*k+a):=by
 intro n
 induction n with
 | zero=>intro m o h0;omega
 | succ n ih=>
  intro m o h0
  have e:=kU hu h0
  rw [e,BT]
  by_cases h:m/b^k=0
  ·have q:db (b^k) (m/b^k)= []:=by rw [h];rfl
   have D:m%b^k=m:=fO ((Nat.div_eq_zero_iff_lt (by omega)).1 h)
   rw [q,if_pos rfl,D]
   simp [jD]
  ·have f:db (b^k) (m/b^k)≠ []:=fun e=>h ((BP hu).1 e)
   rw [if_neg f,ih (m/b^k) (by have:=jM (show 0<m by omega) (show 1<b^k by omega);omega) h]
   rw [FJ,←wW hb h]
   congr 1
   have hl:(db b (m%b^k)).length≤k:=jI hb (fV _ (by omega))
   have r:0<(db (b^k) (m/b^k)).length:=List.length_pos_iff.2 f
   rw [pD,gD,Nat.max_eq_right hl]
   obtain⟨p,hp'⟩:∃p,(db (b^k) (m/b^k)).length=p+1:=⟨_,(Nat.succ_pred_eq_of_pos r).symm⟩
   rw [hp']
   simp only [pU,dO]
   omega
theorem RH (hb:2≤b)(hu:2≤b^k)(h0:m≠0):((db (b^k) m).length-1)*k<(db b m).length:=by
 have h1:=FG hu h0
 rw [←Nat.pow_mul,cY] at h1
 refine nD fun h=>?_
 have h2:=AN hb m
 have e:=eW (show 0<b by omega) h
 omega
theorem Q4 {pl:Nat}(hb:2≤b)(hk:1≤k)(hu:2≤b^k)(hpl:(db (b^k) m).length=pl):cJ (width-pl*k) 48++dM (jD b k (min (width+k-pl*k) k) (db (b^k) m))=dM (dV (db b m) width):=by
 by_cases h0:m=0
 ·subst h0
  have e:pl=0:=by rw [←hpl];rfl
  subst e
  rw [jK,jK]
  simp [jD,dM,dV,E2]
 ·have o:1≤pl:=by
   have:(db (b^k) m).length≠0:=fun e=>h0 ((rA hu).1 e)
   omega
  have f:=RH hb hu h0
  rw [WC hb hk hu m m (aX _) h0,hpl]
  rw [hpl] at f
  obtain⟨q,rfl⟩:∃q,pl=q+1:=⟨pl-1,by omega⟩
  have h:(db b m).length≤(q+1)*k:=by
   refine jI hb ?_
   have:=AN hu m
   rw [hpl,←Nat.pow_mul,cY] at this
   exact this
  rw [dO,Nat.one_mul] at h
  rw [pU] at f
  rw [pU,dO,Nat.one_mul]
  rw [yP,yP,←List.append_assoc,List.replicate_append_replicate]
  congr 2
  generalize q*k=qk at*
  omega
theorem qQ (v:aD)(h:Bk w g T [v]):∀j u,[v][j]?=some u→w.cell? ((⟨g,0,none⟩:a8).add j)=some u:=by
 intro j u hj
 have e:=(fS.1 hj).1
 rw [iE,eQ,h.cell e,bE,hj];rfl
theorem rB (hb:2≤b)(h:(wd m).length≤n):(db b m).length≤64*n:=by
 refine jI hb ?_
 have h1:=kH m
 rw [mY,←Nat.pow_mul] at h1
 exact cS h1 (aE (eW (by decide) (fN _ h)) (Nat.pow_le_pow_left hb _))
theorem Kept.refl (w:a0)(A:Option a8):Kept w A A:=fun p e=>cD ⟨p,e,rfl⟩
theorem Kept.next {v:a0}(h:Kept w A B)(k:Kept v B C)(hs:w.heap.size≤v.heap.size):Kept w A C:=fun p o=>by
 rcases k p o with⟨q,D,e⟩ | e
 ·rcases h q D with⟨r,hr,f⟩ | f
  ·exact cD ⟨r,hr,by rw [e,f]⟩
  ·exact bT (by omega)
 ·exact bT (aE hs e)
theorem RQ (h:Own w lb 5 1 A n c us)(k:Kept w A B):∀(p:a8) (cs:Array aD) (t:aV) (fr:Nat×Nat),B=some p→w.heap[p.block]?=some (.cells cs t fr)→t=5:=fun p cs t fr f h'=>by
 rcases k p f with⟨q,o,e⟩ | e
 ·rw [e] at h';exact FK h q cs t fr o h'
 ·exact absurd h' (BZ e)
theorem P6 {z:Nat}:(bs++cJ (z+1) 48).map B8=(bs++cJ z 48).map B8++ [.int .u8 48]:=by
 rw [List.replicate_succ',←List.append_assoc,List.map_append];rfl
theorem mQ (h:Own w b T 1 A n c (l.map B8)):n=l.length:=by have:=h.rv.len;rw [List.length_map,dK] at this;exact this.symm
theorem wR (h:q<l.length):l.drop q=l.getD q 0::l.drop (q+1):=by rw [mH h,bE,bR h];rfl
theorem EF {pc:Nat}(hS:Signs w)(hgS:4<lb)(hbl:2≤base)(hbu:base≤36)(hW:Wr w g base k unit PA pn pc OA on oc)(hO:Own w lb 5 1 OA on oc (bs.map B8))(hgl:lb≤g)(hlb:lb≤w.heap.size)(ha:Wi w A an ac m)(hal:an≤4194304)(hun:unit=base^k)(hkk:PieceK base k)(hwd:width≤137438953472)(hon:on≤137438953472):aQ aH 258 #[a4 g 0,i9 A an ac,a9 width] w (xI w lb g base k unit PA pn pc OA (bs++dM (dV (db base m) width))):=by
 have am:(wd m).length≤4194304:=aE ha.len hal
 have ep:unit≤18446744073709551615:=by rw [hun];exact hkk.le
 have cf:1≤k:=by refine Nat.pos_of_ne_zero (fun e=>?_);have:=hkk.gt;rw [e,eQ,Nat.pow_one] at this;omega
 have Z:2≤unit:=by rw [hun];exact aE hbl (aE (Nat.le_of_eq (Nat.pow_one base).symm) (eW (by omega) cf))
 refine bL Tryz.func258 G (n:=93) G (bq G) (args:= [a4 g 0,i9 A an ac,a9 width]) (bF [(0,a4 g 0),(1,i9 A an ac),(2,a9 width)] ⟨rfl,rfl,rfl,up⟩ (sr (mv 1 G (a1 (a7 (bI ?_))))))
 obtain⟨H,L,_⟩:∃H,H≤w.heap.size∧w.heap.size≤H:=⟨_,aX _,(Ext.refl w).size⟩
 refine cU (T:=a0×Option a8×Nat×Nat×Nat×Option a8×Nat×Nat×List Nat)
  (fun⟨wr,QA,qn,qc,mm,r,f,D,ps⟩=> [(0,a4 g 0),(2,a9 width),(1,i9 QA qn qc),(6,i9 r f D)])
  (fun⟨wr,QA,qn,qc,mm,r,f,D,ps⟩=>wr)
  (fun⟨wr,QA,qn,qc,mm,r,f,D,ps⟩=>(UpdW lb w wr)∧(Ext w wr)∧(H≤wr.heap.size)∧(db unit m=ps++db unit mm)∧(ps.length=f)∧(Wi wr QA qn qc mm)∧(qn≤4194304)∧(Own wr H 65 1 r f D (ps.map bC))∧(mm≤m))
  (fun⟨wr,QA,qn,qc,mm,r,f,D,ps⟩=>mm)
  (⟨w,A,an,ac,m,none,0,0,[]⟩:a0×Option a8×Nat×Nat×Nat×Option a8×Nat×Nat×List Nat) ⟨(UpdW.refl lb w),(Ext.refl w),L,rfl,rfl,ha,hal,(Own.nil _ _ _ _),(aX _)⟩ G ⟨rfl,rfl,rfl,rfl,up⟩ ?_
 rintro⟨wr,QA,qn,qc,mm,r,f,D,ps⟩ ⟨o,X,L,bt,av,hq,_,hP,cm⟩
 refine cR [(0,a4 g 0),(2,a9 width),(1,i9 QA qn qc),(6,i9 r f D)] wr G ⟨rfl,rfl,rfl,rfl,up⟩ (a7 (a7 ?_))
 by_cases aq:mm=0
 ·have ef:dQ mm=0:=by rw [aq];rfl
  refine a6 (mv 1 G (d9 G G (vs:= [i9 QA qn qc]) (by kernel_rfl) (by decide) (EL hq (by omega)) ?_))
  rintro _ v1 ⟨_,rfl,r3,e2⟩
  refine dA ?_
  have E:UpdW lb w v1:=o.trans e2
  have dm:Ext w v1:=X.trans e2
  obtain rfl:=r3
  refine aA G G G false (fC (a:=dQ mm) (b:=0) G G) (a1 (aN G (cN (cI (cL (cM (aC (a7 ?_))))))))
  have I:db unit m=ps:=by rw [bt,aq,jK,pW]
  have psWf:Wf ps:=fun x hx=>by have:=kX Z m x (I.symm▸hx);rw [cC];omega
  have psW:∀q,ps.getD q 0≤18446744073709551615:=fun q=>by have:=rN psWf q;rw [cC] at this;omega
  have gi:f*k≤268435456*64:=j3 (by have:=rB Z am;rw [I,av] at this;omega) hkk.le64
  have fy:f≤268435456:=by have:=rB Z am;rw [I,av] at this;omega
  refine a6 (mv 1 G (pu (v:= a9 f) G (aR G G G (((f:Nat):Int)-1) (fH G) (mv 1 G (pf g 0 G (pf g 1 G (aL G G (aP (fun _=>by kernel_rfl) (hW.ext (X.trans e2)) G) (aR G G G (((f*k:Nat):Int)-(k:Int)) (tK (by rw [Int.sub_mul,Int.one_mul,l5]) (by have:=hkk.le64;omega) (by omega)) (mv 1 G (a1 (a7 (sr (mv 1 G ?_)))))))))))))
  refine mv 1 G (a1 (bI ?_))
  refine cU (T:=a0×Nat×Nat×Option a8×Nat×Nat)
   (fun⟨wz,nn,z,OB,ob,M⟩=> [(0,a4 g 0),(2,a9 width),(6,i9 r f D),(10,a9 (((f*k:Nat):Int)-(k:Int))),(11,a9 nn)])
   (fun⟨wz,nn,z,OB,ob,M⟩=>wz)
   (fun⟨wz,nn,z,OB,ob,M⟩=>(UpdW lb w wz)∧(nn+z=width)∧(z≤width-f*k)∧(ob=on+z)∧(Bk wz g 193 [a9 (base:Int),a9 (k:Int),i5 (unit:Int),i9 PA pn pc,i9 OB ob M])∧(Own wz lb 5 1 OB ob M ((bs++cJ z 48).map B8))∧(Kept w OA OB)∧(Own wz H 65 1 r f D (ps.map bC))∧(H≤wz.heap.size))
   (fun⟨wz,nn,z,OB,ob,M⟩=>nn)
   (⟨v1,width,0,OA,on,oc⟩:a0×Nat×Nat×Option a8×Nat×Nat) ⟨E,rfl,(bJ _),rfl,(hW.ext (X.trans e2)),(by rw [List.replicate_zero,pW];exact (hO.ext (X.trans e2))),(Kept.refl w OA),(hP.ext e2),(aE L (e2.size))⟩ G ⟨rfl,rfl,rfl,rfl,rfl,up⟩ ?_
  rintro⟨wz,nn,z,OB,ob,M⟩ ⟨o,_,_,aF,b_g,dg,V,ei,dw⟩
  refine cR [(0,a4 g 0),(2,a9 width),(6,i9 r f D),(10,a9 (((f*k:Nat):Int)-(k:Int))),(11,a9 nn)] wz G ⟨rfl,rfl,rfl,rfl,rfl,up⟩ (a7 (a7 ?_))
  by_cases fx:nn>f*k
  ·refine a6 (mv 3 G (pf g 0 G (pf g 1 G (aL G G (aP (fun _=>by kernel_rfl) b_g G) (aR G G G ((f*k:Nat):Int) (xE) (uG G G G (((f*k:Nat):Int)) (aA G G G true (fB (a:=nn) (b:=f*k) G G) (a1 (aY G (aW (aC (a7 (bI ?_)))))))))))))
   refine a6 (mv 2 G (pf g 0 G (pf g 4 G (aL G G (aP (fun _=>by kernel_rfl) b_g G) (fW G G (k:=1) (e:=5) [.int .u8 48] (fun _=>by kernel_rfl) fun _ v5 nb=>?_)))))
   have fa:=nb.bk
   have e7:=nb.ext
   clear nb
   have E:UpdW lb w v5:=o.trans e7
   have ar:=(dg.ext e7)
   refine oM G G G jR rD G ar (aE hlb E.size) [.int .u8 48] G (qQ _ fa) G fun A9 dh fm ck W ch=>?_
   have dz:=V.next ch E.size
   have bo:UpdW lb w fm:=E.updO W (fun p hp=>(ar.block p hp).1) (fun p cs t fr hp h=>bT (RQ hO V p cs t fr hp h))
   refine pf g 0 G (pf g 4 G ?_)
   have ak:=((b_g.ext e7).updO W (zR ar (b_g.ext e7) (by decide)))
   refine d6 G G G (fun _=>by kernel_rfl) G ak (bq G) G [a9 (base:Int),a9 (k:Int),i5 (unit:Int),i9 PA pn pc,i9 A9 (ob+1) dh] G fun co ea au _=>?_
   have bv:UpdW lb w co:=bo.upd au hgl (fun _ _ _ h=>cD (BX hW h))
   refine aS (bG (aC (a6 (mv 1 G (aR G G G ((nn-1:Nat):Int) (gI (a:=nn) (b:=1) G G) (mv 1 G (aS (bW (⟨co,nn-1,z+1,A9,ob+1,dh⟩:a0×Nat×Nat×Option a8×Nat×Nat) ⟨bv,(by omega),(by omega),(by omega),ea,(by rw [P6];exact (ck.updT ak (by decide) au)),dz,(((ei.ext e7).updOT ar (by decide) W).updT ak (by decide) au),(aE dw ((aE (aE e7.size W.size) au.by_.size)))⟩ (show nn-1<nn by omega) G ⟨rfl,rfl,rfl,rfl,rfl,up⟩))))))))
  ·refine a6 (mv 3 G (pf g 0 G (pf g 1 G (aL G G (aP (fun _=>by kernel_rfl) b_g G) (aR G G G ((f*k:Nat):Int) (xE) (uG G G G (((f*k:Nat):Int)) (aA G G G false (fC (a:=nn) (b:=f*k) G G) (a1 (aN G (cN (cI (cL (cM ?_)))))))))))))
   refine aC (a7 ?_)
   have ew:z=width-f*k:=by omega
   refine a6 (mv 1 G (pu (v:= a9 f) G (aR G G G (((f:Nat):Int)-1) (fH G) (mv 1 G (a1 (bI ?_))))))
   refine cU (T:=a0×Nat×Int×Option a8×Nat×Nat)
    (fun⟨wt,j,ii,OD,od,aa⟩=> [(0,a4 g 0),(2,a9 width),(6,i9 r f D),(10,a9 (((f*k:Nat):Int)-(k:Int))),(12,a9 ii)])
    (fun⟨wt,j,ii,OD,od,aa⟩=>wt)
    (fun⟨wt,j,ii,OD,od,aa⟩=>(UpdW lb w wt)∧(j≤f)∧(ii=(j:Int)-1)∧(od≤on+width+(f-j)*64)∧(Bk wt g 193 [a9 (base:Int),a9 (k:Int),i5 (unit:Int),i9 PA pn pc,i9 OD od aa])∧(Own wt lb 5 1 OD od aa ((bs++cJ (width-f*k) 48++dM (jD base k (min (width+k-f*k) k) (ps.drop j))).map B8))∧(Kept w OA OD)∧(Own wt H 65 1 r f D (ps.map bC)))
    (fun⟨wt,j,ii,OD,od,aa⟩=>j)
    (⟨wz,f,_,OB,ob,M⟩:a0×Nat×Int×Option a8×Nat×Nat) ⟨o,(aX _),rfl,(by omega),b_g,(by rw [List.drop_of_length_le (by omega),show jD base k (min (width+k-f*k) k) []= [] from rfl,←ew];simpa [dM] using (dg)),V,ei⟩ G ⟨rfl,rfl,rfl,rfl,rfl,up⟩ ?_
   rintro⟨wt,j,ii,OD,od,aa⟩ ⟨o,hj,_,_,b_g,ah,V,ao⟩
   refine cR [(0,a4 g 0),(2,a9 width),(6,i9 r f D),(10,a9 (((f*k:Nat):Int)-(k:Int))),(12,a9 ii)] wt G ⟨rfl,rfl,rfl,rfl,rfl,up⟩ (a7 (a7 ?_))
   by_cases fz:0<j
   ·obtain⟨q,rfl⟩:∃q,j=q+1:=⟨j-1,by omega⟩
    obtain rfl:ii=(q:Int):=by omega
    have de:ps.getD q 0≤18446744073709551615:=by have:=psW q;omega
    refine a6 (mv 1 G (aA G G G true (pG (by omega)) (a1 (aY G (aW (aC (a7 (bI (sr (mv 1 G (pf g 0 G (pf g 1 G (aL G G (aP (fun _=>by kernel_rfl) b_g G) ?_)))))))))))))
    refine mv 1 G (a1 (a7 (a7 ?_)))
    by_cases ft:q+1=f
    ·refine a6 (mv 2 G (pu (v:= a9 f) G (aR G G G (((f:Nat):Int)-1) (fH G) (aA G G G true (dD (by omega)) (a1 (aY G (a6 (mv 2 G (aR G G G (((width:Nat):Int)-(((f*k:Nat):Int)-(k:Int))) (fH G (h1:=(by have:=hkk.le64;omega)) (h2:=(by have:=hkk.le64;omega))) (uG G G G (((width+k-f*k:Nat):Int)) (mv 1 G (pf g 0 G (pf g 1 G ?_)))))))))))))
     refine aL G G (aP (fun _=>by kernel_rfl) b_g G) (D1 G G G (((min (width+k-f*k) k:Nat):Int)) (by omega) (by decide) (mv 1 G (a1 (a6 (mv 3 G ?_)))))
     obtain⟨pw,bm,bh,fq⟩:=((ao).rd psWf).at (i:=q) (by omega)
     refine bK G G G bS bM q G pw bm (aL G G (cT d7 bh) (mv 1 G (d9 G G (vs:= [a4 g 0,i5 ((ps.getD q 0:Nat):Int),a9 ((min (width+k-f*k) k:Nat):Int)]) (by kernel_rfl) (by decide) (EE (o.signs hS hgS) hgS hbl hbu b_g ah hgl (aE hlb o.size) de (by have:=hkk.le64;omega) (by have:=hkk.le64;omega)) ?_)))
     rintro _ dx ⟨rfl,fc,cg,fg,dr,ai,ba,bz⟩
     refine dA ?_
     have E:UpdW lb w dx:=o.then ba
     have df:=V.next bz o.size
     have ag:cg≤on+width+(f-q)*64:=by have h1:=(mQ ai).symm;have h2:=mQ ai;rw [h2,eN,uI,pD,←mQ ah];have h3:(db base (ps.getD q 0)).length≤64:=jI hbl (cS (show ps.getD q 0<2^64 by omega) (Nat.pow_le_pow_left hbl 64));have:=hkk.le64;omega
     have U:bs++cJ (width-f*k) 48++dM (jD base k (min (width+k-f*k) k) (ps.drop (q+1)))++dM (dV (db base (ps.getD q 0)) (min (width+k-f*k) k))=bs++cJ (width-f*k) 48++dM (jD base k (min (width+k-f*k) k) (ps.drop q)):=by rw [wR (by omega:q<ps.length),BT,uJ,List.append_assoc,if_pos (List.drop_of_length_le (by omega))]
     refine aS (bG (aC (a6 (mv 1 G (aR G G G (((q:Nat):Int)-1) (fH G) (mv 1 G (aS (bW (⟨dx,q,(q:Int)-1,fc,cg,fg⟩:a0×Nat×Int×Option a8×Nat×Nat) ⟨E,(by omega),rfl,ag,dr,(U▸(ai)),df,(ba.own ao (by decide) (by decide))⟩ (show q<q+1 by omega) G ⟨rfl,rfl,rfl,rfl,rfl,up⟩))))))))
    ·refine a6 (mv 2 G (pu (v:= a9 f) G (aR G G G (((f:Nat):Int)-1) (fH G) (aA G G G false (cB) (a1 (aN G (aW (aC (a6 (mv 3 G ?_))))))))))
     obtain⟨pw,bm,bh,fq⟩:=((ao).rd psWf).at (i:=q) (by omega)
     refine bK G G G bS bM q G pw bm (aL G G (cT d7 bh) (mv 1 G (d9 G G (vs:= [a4 g 0,i5 ((ps.getD q 0:Nat):Int),a9 k]) (by kernel_rfl) (by decide) (EE (o.signs hS hgS) hgS hbl hbu b_g ah hgl (aE hlb o.size) de (by have:=hkk.le64;omega) (by have:=hkk.le64;omega)) ?_)))
     rintro _ ce ⟨rfl,fp,ee,em,dl,ae,az,du⟩
     refine dA ?_
     have E:UpdW lb w ce:=o.then az
     have ej:=V.next du o.size
     have ag:ee≤on+width+(f-q)*64:=by have h1:=(mQ ae).symm;have h2:=mQ ae;rw [h2,eN,uI,pD,←mQ ah];have h3:(db base (ps.getD q 0)).length≤64:=jI hbl (cS (show ps.getD q 0<2^64 by omega) (Nat.pow_le_pow_left hbl 64));have:=hkk.le64;omega
     have U:bs++cJ (width-f*k) 48++dM (jD base k (min (width+k-f*k) k) (ps.drop (q+1)))++dM (dV (db base (ps.getD q 0)) k)=bs++cJ (width-f*k) 48++dM (jD base k (min (width+k-f*k) k) (ps.drop q)):=by rw [wR (by omega:q<ps.length),BT,uJ,List.append_assoc,if_neg (fun e=>by have:=congrArg List.length e;rw [gS] at this;simp only [List.length_nil] at this;omega)]
     refine aS (bG (aC (a6 (mv 1 G (aR G G G (((q:Nat):Int)-1) (fH G) (mv 1 G (aS (bW (⟨ce,q,(q:Int)-1,fp,ee,em⟩:a0×Nat×Int×Option a8×Nat×Nat) ⟨E,(by omega),rfl,ag,dl,(U▸(ae)),ej,(az.own ao (by decide) (by decide))⟩ (show q<q+1 by omega) G ⟨rfl,rfl,rfl,rfl,rfl,up⟩))))))))
   ·refine a6 (mv 1 G (aA G G G false (eF) (a1 (aN G (cN (cI (cL (cM (nZ [] G up ?_)))))))))
    have cv:j=0:=by omega
    have ci:bs++cJ (width-f*k) 48++dM (jD base k (min (width+k-f*k) k) (ps.drop j))=bs++dM (dV (db base m) width):=by rw [cv,gQ,List.append_assoc,←I,hun,Q4 hbl cf (hun▸Z) (by rw [←hun,I,av])]
    exact⟨rfl,OD,_,_,b_g,ci▸(ah),o,V⟩
 ·have ef:dQ mm≠0:=fun e=>aq (pH.1 e)
  have bd:=kU Z aq
  have ez:(wd (mm/unit)).length≤4194304:=aE (iP (aE (eR _ _) cm)) am
  have fv:=rB Z am
  have fw:ps.length<(db unit m).length:=by rw [bt,bd,eN,gD];omega
  refine a6 (mv 1 G (d9 G G (vs:= [i9 QA qn qc]) (by kernel_rfl) (by decide) (EL hq (by omega)) ?_))
  rintro _ cj ⟨_,rfl,ey,F⟩
  refine dA ?_
  have E:UpdW lb w cj:=o.trans F
  have dm:Ext w cj:=X.trans F
  obtain rfl:=ey
  refine aA G G G true (fB (a:=dQ mm) (b:=0) G G) (a1 (aY G (aW (aC (bI (sr (mv 2 G (pf g 0 G (pf g 2 G (aL G G (aP (fun _=>by kernel_rfl) (hW.ext (X.trans F)) G) ?_))))))))))
  have fi:=((hP.ext F)).block
  refine d9 G G (vs:= [i9 QA qn qc,i5 unit]) (by kernel_rfl) (by decide) (O8 (hq.ext F) (by omega) (by omega) ep) ?_
  rintro _ dy ⟨_,rfl,fo,aj⟩
  refine dA ?_
  have bo:UpdW lb w dy:=E.trans aj
  have el:Ext w dy:=dm.trans aj
  obtain⟨_,_,_,rfl,⟨bg,cx,ct,rfl,en,dt⟩,r47_1,r47_2⟩:=fo
  have bw:∀p q,r=some p→bg=some q→p.block≠q.block:=fun p q hp hq=>by have:=(fi p hp).2;have:=(dt.block q hq).1;omega
  obtain rfl:=r47_1
  obtain rfl:=r47_2
  refine mv 1 G (pu (v:= i9 bg cx ct) G (pu (v:= i5 ((mm%unit:Nat):Int)) G (pu (v:= a9 0) G (mv 3 G (a1 (sr (mv 2 G (fW G G (k:=1) (e:=65) [i5 ((mm%unit:Nat):Int)] (fun _=>by kernel_rfl) fun _ dd nb=>?_))))))))
  have eg:=nb.bk
  have Y:=nb.ext
  clear nb
  have bv:UpdW lb w dd:=bo.trans Y
  have fj:Ext w dd:=el.trans Y
  have aw:=(hP.ext (F.t (aj.t Y)))
  refine oM G G G bS iB G aw (aE L ((aE (aE F.size aj.size) Y.size))) [i5 ((mm%unit:Nat):Int)] G (qQ _ eg) G fun fh fd bi cu ab _=>?_
  have da:Ext w bi:=ab.ext fj (fun p hp=>by have:=aw.block p hp;omega)
  have fe:UpdW lb w bi:=(UpdW.refl lb w).trans da
  refine mv 1 G (a1 (a6 (mv 2 G (aS (bG (bW (⟨bi,bg,cx,ct,mm/unit,fh,f+1,fd,ps++ [mm%unit]⟩:a0×Option a8×Nat×Nat×Nat×Option a8×Nat×Nat×List Nat) ⟨fe,da,(aE L ((aE (aE (aE F.size aj.size) Y.size) ab.size))),(by rw [bt,bd,List.append_assoc];rfl),(by rw [eN,av];rfl),((dt.ext Y).updO ab bw).wi,(by rw [en];exact ez),(by rw [List.map_append];exact cu),(aE (eR _ _) cm)⟩ (jM (by omega) (by omega)) G ⟨rfl,rfl,rfl,rfl,up⟩))))))
def dS (b m:Nat):List Nat:=if m=0 then [48] else dM (db b m)
theorem FD:∀(ns:List Nat) (r:ByteArray),(ns.map fun x:Nat=>(x:Int)).foldl (fun r n=>r.push (UInt8.ofNat n.toNat)) r=⟨r.data++(ns.map UInt8.ofNat).toArray⟩
 | [],r=>by simp
 | n::ns,r=>by
  rw [iJ,List.foldl_cons,FD ns]
  simp [ByteArray.push,Array.push]
theorem OQ (h:Own w lb T 1 A n c (bs.map B8)):(Conv.bytesToString (i9 A n c)).run P w= .ok (.string (aM bs)) w:=by
 cases A with
 | none=>
  rcases h with⟨_,_,_,h⟩ | ⟨g,cs,f,_⟩
  ·rw [List.map_eq_nil_iff] at h;subst h;rfl
  ·cases f
 | some a=>
  have hn:=mQ h
  have hl:=uZ (P:=P) (w:=w) (p:=a) (bs.map B8) 0 #[] (fun j hj=>by
   rw [List.length_map] at hj
   obtain⟨a',e,o⟩:=h.rv.get j (by omega)
   cases e
   rw [eQ];exact o)
  have hr:=run_bytesToString (P:=P) w a n c (bs.map fun x:Nat=>(x:Int)) (by
   rw [List.length_map,←hn] at hl
   unfold loadCells
   rw [hl]
   congr 1
   simp [B8,Function.comp_def])
  rw [hr,FD]
  rw [show ByteArray.empty.data= #[] from rfl,Array.empty_append]
  rfl
theorem s8 {Q:dH→Act→a0→Prop}{l:Fr}{x:cG}(hw:d5 ops l gd=some true)(hx:bP l x=some (i9 A k c))(ho:Own w lb T 1 A k c (bs.map B8))(h:wl aH ops Q n rest ((d,.string (aM bs))::l) w)(hn:d<n:=by decide):wl aH ops Q n (⟨some d,.convert 183 9 x,ty,pos,af,gd⟩::rest) l w:=by
 refine fJ hw hn (fun a' o=>?_) h
 have e:(convert 183 9 (a'.eval x)).run aH w= .ok (.string (aM bs)) w:=by
  rw [o.ev hx]
  have h1:(underlying 183).run aH w= .ok (.slice 5) w:=kK jR w
  have h2:(underlying 9).run aH w= .ok .string w:=kK Tryz.underlying9 w
  have f:(underlying 5).run aH w= .ok (.int .u8) w:=kK Tryz.underlying5 w
  unfold convert
  simp only [cA,h1,h2,f,eG]
  exact OQ ho
 show ((convert 183 9 (a'.eval x)>>=fun r=>pure (gE r):Sem fU)).run aH w=_
 rw [cA,e];rfl
theorem MS (a b:List Nat):aM a++aM b=aM (a++b):=by
 unfold aM
 rw [ByteArray.mk_append_mk,List.map_append]
theorem dU (a:List Nat):(aM a).size=a.length:=by simp [aM,ByteArray.size]
theorem yU {a b:List Nat}(h:a.length+b.length≤1099511627776):(binOp .add t (.string (aM a)) (.string (aM b))).run P w= .ok (.string (aM (a++b))) w:=by
 have h1:=run_string_add_sum (P:=P) w (aM a) (aM b) (by rw [dU,dU];omega)
 rw [MS] at h1
 simp [binOp,h1]
theorem B6 (hx:Wi w A n c m)(hl:n≤1099511627776):aQ aH 141 #[i9 A n c] w (Gv w (WR w.heap.size m)):=by
 obtain⟨xs,h1,rfl⟩:=hx
 exact (k0 h1 (hl:=hl)).mono (gw (aX _))
theorem yQ (h:(wd m).length≤n)(hb:2≤b:=by decide):(dS b m).length≤64*n+1:=by
 unfold dS
 split
 ·simp
 ·rw [uI];have:=rB hb h;omega
def fE (x:Int):List Nat:=if x<0 then [45]++dS 10 x.natAbs else dS 10 x.natAbs
theorem EI {pc:Nat}(hS:Signs w)(hgS:4<lb)(hbl:2≤base)(hbu:base≤36)(hW:Wr w g base k unit PA pn pc OA on oc)(hO:Own w lb 5 1 OA on oc (bs.map B8))(hgl:lb≤g)(hlb:lb≤w.heap.size)(ha:Wi w A an ac m)(hal:an≤4194304)(hun:unit=base^k)(hkk:PieceK base k)(hwd:width≤137438953472)(hon:on≤137438953472):aQ aH 228 #[a4 g 0,i9 A an ac,a9 (-1),a9 width] w (xI w lb g base k unit PA pn pc OA (bs++dM (dV (db base m) width))):=by
 refine bL Tryz.func228 G (n:=74) G (bq G) (args:= [a4 g 0,i9 A an ac,a9 (-1),a9 width]) (bF [(0,a4 g 0),(1,i9 A an ac),(2,a9 (-1)),(3,a9 width)] ⟨rfl,rfl,rfl,rfl,up⟩ (a7 (sr (mv 1 G (aA G G G true (by decide) (mv 4 G (pu (v:= no) G (a1 (aY G (sr (mv 3 G (d9 G G (vs:= [a4 g 0,i9 A an ac,a9 width]) (by kernel_rfl) (by decide) (EF hS hgS hbl hbu hW hO hgl (aE hlb (UpdW.refl lb w).size) ha hal hun hkk hwd hon) ?_))))))))))))
 rintro _ r ⟨rfl,D,_,_,o,q,f,h⟩
 refine dA ?_
 have p:UpdW lb w r:=(UpdW.refl lb w).then f
 have e:=(Kept.refl w OA).next h (UpdW.refl lb w).size
 refine a1 (aU (bU (aT [] G up ?_)))
 exact⟨rfl,D,_,_,o,q,p,e⟩
theorem O9 (hS:Signs w)(hx:Wi w A an ac m)(hal:an≤4194304)(hbl:2≤base)(hbu:base≤36)(hl12:(wd m).length≤12):aQ aH 185 #[i9 A an ac,a9 base] w (Gv w (T2 (Is (.string (aM (dS base m)))) (Is (a9 0)))):=by
 refine bL Tryz.func185 G (n:=73) G (bq G) (args:= [i9 A an ac,a9 base]) (bF [(0,i9 A an ac),(1,a9 base)] ⟨rfl,rfl,up⟩ (sr (mv 2 G (a1 (a7 (sr (mv 1 G (aA G G G false (cW (a:=base) (b:=2) G G) (mv 2 G (aA G G G false (fC (a:=base) (b:=36) G G) (pu (v:= t9) G (a1 (aN G ?_)))))))))))))
 refine aW (aC (sr (mv 1 G (cl (vs:= [i9 A an ac]) (Ext.refl w) (B6 (hx.ext (Ext.refl w)) (by omega)) G (by kernel_rfl) fun _ _ r3 _ I=>?_))))
 obtain⟨A4,o,c4,rfl,j4,o4⟩:=r3
 refine mv 1 G (a1 (a7 (a7 ?_)))
 by_cases W:o=0
 ·have r:m=0:=lB.1 (by omega)
  refine a6 (mv 1 G (pu (v:= a9 o) G (aA G G G true (fM (a:=o) (b:=0) G G) (a1 (aY G (sr (mv 2 G (a1 (aU (bU (aT [.string (aM ([48])),I0] G ⟨rfl,rfl,up⟩ ?_)))))))))))
  have h:([48]:List Nat)=dS base m:=by subst r;rfl
  exact⟨_,rfl,⟨_,_,rfl,(show Value.string _=Value.string _ from congrArg (fun l=>Value.string (aM l)) h),rfl⟩,I⟩
 ·have r:m≠0:=fun e=>W (by rw [j4,e];rfl)
  refine a6 (mv 1 G (pu (v:= a9 o) G (aA G G G false (fT (a:=o) (b:=0) G G) (a1 (aN G (aW (aC (sr (mv 1 G (d9 G G (vs:= [a9 base]) (by kernel_rfl) (by decide) (zH hbl hbu) ?_))))))))))
  rintro _ v5 ⟨F,p9,_,rfl,r7,Y⟩
  refine dA ?_
  have E:=I.trans Y
  obtain⟨_,_,rfl,rfl,rfl⟩:=r7
  refine mv 1 G (pu (v:= a9 F) G (pu (v:= i5 ((base^F:Nat):Int)) G (mv 2 G (a1 (sr (mv 3 G (pu (v:= .agg #[a9 base,a9 F,i5 ((base^F:Nat):Int),S0,S0]) G (l7 G G (vs:= [a9 base,a9 F,i5 ((base^F:Nat):Int),S0,S0]) G fun f _ nb=>?_))))))))
  have X:=Nat.le_of_eq nb.at_
  have p:w.heap.size≤v5.heap.size:=E.size
  have q:=nb.bk
  have Z:w.heap.size≤f:=by rw [←nb.at_];exact E.size
  have D:=nb.ext
  clear nb
  have M:=E.trans D
  refine mv 1 G (a1 (a7 (sr (mv 1 G (pu (v:= a9 o) G (aA G G G false (fC (a:=o) (b:=12) G G) (a1 (aN G (aW (aC (sr (mv 3 G (pf f 0 G ?_)))))))))))))
  refine pf f 3 G (aL G G (aP (fun _=>by kernel_rfl) q G) (pu (v:= a9 0) G (aR G G G (-1) (fH G (h1:=(by decide)) (h2:=(by decide))) (d9 G G (vs:= [a4 f 0,i9 A4 o c4,a9 (-1),I0]) (by kernel_rfl) (by decide) (EI (lb:=v5.heap.size) (bs:= []) (hS.ext M) (cS (pO w _ (hS 0 (by decide))) p) hbl hbu q (Own.nil _ _ _ _) X (D.size) (o4.ext (Y.t D)).wi (by omega) G p9 (by decide) (by decide)) ?_))))
  rintro _ _ ⟨rfl,_,_,_,L,H,U,_⟩
  refine dA ?_
  have V:=U.ext M p
  refine a1 (sr (mv 1 G (pf f 0 G (pf f 4 G (aL G G (aP (fun _=>by kernel_rfl) L G) (s8 G G H (mv 2 G (a1 (aU (aT [.string (aM ([]++dM (dV (db base m) 0))),I0] G ⟨rfl,rfl,up⟩ ?_))))))))))
  have h:([]++dM (dV (db base m) 0):List Nat)=dS base m:=by rw [List.nil_append,qM (bJ _),dS,if_neg r]
  exact⟨_,rfl,⟨_,_,rfl,(show Value.string _=Value.string _ from congrArg (fun l=>Value.string (aM l)) h),rfl⟩,V⟩
theorem ON (hS:Signs w)(hx:Wi w A an ac m)(hal:an≤4194304)(hl12:(wd m).length≤12):aQ aH 126 #[i9 A an ac] w (Gv w (Is (.string (aM (dS 10 m))))):=by
 refine bL Tryz.func126 G (n:=11) G (bq G) (args:= [i9 A an ac]) (bF [(0,i9 A an ac)] ⟨rfl,up⟩ (sr (mv 1 G (a1 (sr (mv 1 G (cl (vs:= [i9 A an ac,a9 10]) (Ext.refl w) (O9 (base:=10) (hS.ext (Ext.refl w)) hx (by omega) (by decide) (by decide) hl12) G (by kernel_rfl) fun _ _ f _ e=>?_)))))))
 obtain⟨_,_,rfl,rfl,rfl⟩:=f
 refine mv 1 G (pu (v:= .string (aM (dS 10 m))) G (pu (v:= a9 0) G (mv 2 G (a1 (sr (mv 2 G (a1 (aU (aT [.string (aM (dS 10 m))] G ⟨rfl,up⟩ ?_)))))))))
 exact⟨_,rfl,rfl,e⟩
theorem O0 (hx:Zi w sa Aa na ca x)(la:na≤4194304)(hS:Signs w)(hl12:(wd x.natAbs).length≤12):aQ aH 40 #[J sa Aa na ca] w (Gv w (Is (.string (aM (fE x))))):=by
 have Lx:ln x≤4194304:=aE hx.ln la
 refine bL Tryz.func40 G (n:=13) G (bq G) (args:= [J sa Aa na ca]) (bF [(0,J sa Aa na ca)] ⟨rfl,up⟩ (sr (bx (O sa Aa na ca) (Ext.refl w) G G G fun F _ h _ _ p=>(mv 1 G (a1 (sr (pf F 1 G (aL G G (aP bX h G) (cl (vs:= [i9 Aa na ca]) p (ON (hS.ext p) (hx.ext p).wi (by omega) hl12) G (by kernel_rfl) fun _ _ H E e=>?_)))))))))
 obtain rfl:=H
 refine mv 1 G (a1 (a7 (a7 ?_)))
 by_cases o:x<0
 ·refine a6 (lo aB (h.ext E) (O sa Aa na ca) G G G (cl (vs:= [J sa Aa na ca]) e (tA (hx.ext e) (aO la G)) G (by kernel_rfl) fun _ _ D _ f=>?_))
  obtain rfl:=D
  refine aA G G G true (zF o) (a1 (aY G (sr (mv 1 G (nI G G G (r:= .string (aM (([45])++(dS 10 (Int.natAbs x))))) G (fun w=>yU (a:= [45]) (b:=dS 10 (Int.natAbs x)) (by have:=yQ (b:=10) hl12;show 1+_≤_;omega)) (mv 1 G (a1 (aU (bU (aT [.string (aM (([45])++(dS 10 (Int.natAbs x))))] G ⟨rfl,up⟩ ?_))))))))))
  exact⟨_,rfl,(show Value.string _= .string (aM (fE x)) by rw [fE,if_pos o]),f⟩
 ·refine a6 (lo aB (h.ext E) (O sa Aa na ca) G G G (cl (vs:= [J sa Aa na ca]) e (tA (hx.ext e) (aO la G)) G (by kernel_rfl) fun _ _ q _ f=>?_))
  obtain rfl:=q
  refine aA G G G false (zG) (a1 (aN G (aW (aC (sr (mv 2 G (a1 (aU (aT [.string (aM (dS 10 (Int.natAbs x)))] G ⟨rfl,up⟩ ?_)))))))))
  exact⟨_,rfl,(show Value.string _= .string (aM (fE x)) by rw [fE,if_neg o]),f⟩
end
end Go.Proofs.YtkepckmdjncehaaGreatDoor
