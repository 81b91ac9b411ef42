/- Parts Long, LongB, DivC, Gcd, Int, Same, Sxz, Sxl, Sxw, IntB, IntC, IntD, IntE, Pop, Small, Power, Root, Zg, Sxb, Ab, Upto, Stays, Zs, UptoZ, App, Sxk, Sxf, Rx, Bo, Rxa, Zh, Bz, joined. -/
import Derived.Test.YtkepckmdjncehaaGreatDoorG1
import Derived.IntWalk
import Derived.KernelRfl
import Derived.Test.YtkepckmdjncehaaGreatDoorRows
import Derived.WalkKit
import Derived.ProofKit
import Derived.OpenShut
import Derived.JoinedCond
import Derived.ChangeSame
import Derived.ChangeSlices
import Derived.ChangeStays
import Derived.Deep.Slices
import Derived.DataShut
import Derived.ArgAppend
import Derived.WalkSmall

open Go renaming Addr → aB, BinOp → j3, Calls → aP, Edge → fP, Ending → dL, Exit → dI, IntKind → iN, Next → fI, Oper → bD, Operand → cN, Program → bW, TypeId → aS, Value → aM, World → a6, bodyPost_ret → fO, run_underlying → m8
open Go.Addr renaming add → mZ
open Array renaming getElem?_eq_some_iff → qL, replicate → pA
open BitVec renaming ofInt → p8
open Bool renaming and_eq_true → eK, false_eq_true → EL, or_eq_true → mY
open Go.Builtin renaming append_ → qK
open Go.Instr renaming makeSlice → qJ
open Int renaming emod_nonneg → j0, natCast_mul → mX, toNat_natCast → gZ
open Go.IntKind renaming bits → uG, signed → uF, wrap → wN
open List renaming all_eq_true → fV, cons_append → uE, contains_iff_mem → jR, drop_eq_getElem_cons → nW, drop_zero → gP, getD_eq_getElem?_getD → bK, getElem?_drop → oZ, getElem?_eq_getElem → cC, getElem?_eq_some_iff → gY, getElem?_take → kY, getElem_mem → mD, length_append → fU, length_cons → eN, length_drop → gO, length_take → dH, map_cons → jZ, map_nil → kX, map_toArray → sL, mem_map → qI, mem_range → iT, range → gE, replicate → cJ, size_toArray → AE
open Nat renaming add_mul → dK, add_zero → fC, beq → oX, div_add_mod → mV, div_eq_of_lt → i8, div_le_self → fH, eq_of_beq_eq_true → sJ, eq_zero_or_pos → jQ, le_of_not_lt → oW, le_refl → aZ, le_trans → a8, lt_mul_div_succ → qE, lt_of_le_of_lt → jY, lt_of_lt_of_le → dJ, lt_of_not_le → mU, lt_or_ge → i7, min_eq_left → gD, mod_eq_of_lt → gN, mod_lt → f7, mul_add → cI, mul_add_div → oV, mul_assoc → bX, mul_comm → cL, mul_le_mul_left → fJ, mul_le_mul_right → eI, mul_lt_mul_of_pos_right → sI, mul_one → dV, mul_pos → iL, mul_right_comm → sH, mul_succ → qD, mul_zero → gM, pow_add → dU, pow_le_pow_right → eS, pow_pos → gB, pow_succ → cW, sub_add_cancel → jO, succ_mul → nT, two_pow_pos → mB, zero_add → eJ, zero_le → bJ
open Go.Next renaming value → fZ
open Go.Oper renaming upon → kG
open Option.some renaming inj → m9, injEq → eB
open Or renaming inl → cH, inr → cO
open Go.Region renaming binds → jN, wanted → qA
open Go.Result renaming andThen_ok → eY
open Go.Sem renaming run_bind → cE, run_pure → gT
open Go.Proofs.Tryz renaming prog → aN
open Go.Value renaming int → dP, slice → sF
open Go.World renaming block_lt_of_cell? → u6, setCell → sD
namespace Go.Proofs.YtkepckmdjncehaaGreatDoor
set_option maxRecDepth 20000
set_option maxHeartbeats 8000000
variable {A A' Aa Ab B C OA PA:Option aB}{D K L N U0 V X a b b' base base' bytes c ca cap cap' cb d fuel g g' gp hi i id j k m n n' na off q r x3 x4 x5 x6:Nat}{H:Type}{P:bW}{T T' e t t' t'' ty:aS}{W W' w w' w0 wt wt':a6}{acc bs ds l l1 l2 ms ql st xs ys:List Nat}{af:Array fP}{args cs l' tmps:Array aM}{dss rl:List (List Nat)}{dst:Option Tmp}{er x y z z':Int}{f:FuncId}{fn:Func}{fr:Nat×Nat}{gd:Option (Nat×Bool)}{hi' lo':Option cN}{high low:Option aM}{listed:Array Bool}{news us vs:List aM}{o:j3}{ol rest:List bD}{op:Op}{ops:Array bD}{p:aB}{pa pv:List MemPlace}{pos:String}{ps:List (Nat×Nat)}{s s' sa sb:Bool}{ts:Array aS}{u v:aM}{zs:List Int}
section
open Go.RowKit
def MR (w:a6)(q r:Nat)(e:dL)(w':a6):Prop:=
 ∃A n cap B m cap',e= .returned (.tuple #[we A n cap,we B m cap'])∧Hid (n=(wd q).length)∧Rd w' A n cap (wd q)∧Own w' w.heap.size 65 1 A n cap ((wd q).map bF)∧
  Hid (m=(wd r).length)∧Rd w' B m cap' (wd r)∧Own w' w.heap.size 65 1 B m cap' ((wd r).map bF)∧Ext w w'
def RetQRA (w:a6)(q r:Nat)(e:dL)(w':a6):Prop:=
 ∃A n cap B m cap',e= .returned (.tuple #[we A n cap,we B m cap'])∧Hid (n=(wd q).length)∧Rd w' A n cap (wd q)∧Own w' w.heap.size 65 1 A n cap ((wd q).map bF)∧
  Hid (m=(wd r).length)∧Rd w' B m cap' (wd r)∧Own w' w.heap.size 65 1 B m cap' ((wd r).map bF)∧Ext w w'∧∀p p',A=some p→B=some p'→p.block≠p'.block
theorem RetQRA.old {e:dL}(h:RetQRA w q r e w'):MR w q r e w':=by
 obtain⟨A,n,cap,B,m,cap',h1,h2,f,F,E,o,p,D,_⟩:=h
 exact⟨A,n,cap,B,m,cap',h1,h2,f,F,E,o,p,D⟩
theorem W5 {U M Uh Vh:Nat}(hM:0<M)(hUh:Uh=U/M)(hVh:Vh=V/M)(hbig:WB≤Vh)(hd:d<WB)(h1:d*Vh≤Uh)(h2:d=18446744073709551615∨Uh<(d+1)*Vh)(hU:U<V*WB):U/V≤d∧d≤U/V+1:=by
 have F:0<V:=by
  rcases jQ V with h | h
  ·rw [h,Nat.zero_mul] at hU;omega
  ·exact h
 constructor
 ·rcases h2 with h | h
  ·have:U/V<WB:=Nat.div_lt_of_lt_mul hU
   rw [cP] at this
   omega
  ·have r:U/V*Vh≤Uh:=by
    rw [hUh,Nat.le_div_iff_mul_le hM]
    have o:Vh*M≤V:=by rw [hVh];exact Nat.div_mul_le_self _ _
    have q:=fJ (U/V) o
    have D:=Nat.div_mul_le_self U V
    rw [←bX] at q
    omega
   have p:U/V*Vh<(d+1)*Vh:=by omega
   have:=Nat.lt_of_mul_lt_mul_right p
   omega
 ·refine oW (fun f=>?_)
  have r:d*Vh*M≤U:=by
   have:=eI M h1
   have o:Uh*M≤U:=by rw [hUh];exact Nat.div_mul_le_self _ _
   omega
  have o:V<(Vh+1)*M:=by rw [hVh,cL];exact qE V hM
  have q:U<(U/V+1)*V:=by rw [cL];exact qE U F
  have D:(U/V+1)*V≤(d-1)*V:=eI V (by omega)
  have p:(d-1)*V≤(d-1)*((Vh+1)*M):=fJ _ (Nat.le_of_lt o)
  have E:d*Vh*M<(d-1)*(Vh+1)*M:=by
   rw [bX (d-1)]
   exact jY r (dJ q (a8 D p))
  have H:=Nat.lt_of_mul_lt_mul_right E
  have G:0<d:=jY (bJ _) f
  clear f r o q D p E
  obtain⟨d,rfl⟩:∃e,d=e+1:=⟨d-1,by omega⟩
  rw [Nat.add_sub_cancel,nT,cI,dV] at H
  omega
theorem V0 {L1:Nat}(hD:0<D)(hd1:L/D≤d)(hd2:d≤L/D+1)(_hK:L<K)(hL1:L1<K)(h:L1+d*D=L+K*c)(hc:c≤1):(c=0→d=L/D∧L1=L%D)∧(c=1→d=L/D+1∧∀L2 c2,c2≤1→L2<K→L2+K*c2=L1+D→L2=L%D):=by
 have E:=mV L D
 have F:=f7 L hD
 generalize L/D=q at*
 generalize L%D=r at*
 have e:d=q∨d=q+1:=by omega
 have o:d*D=D*q∨d*D=D*q+D∧d=q+1:=by
  rcases e with rfl | rfl
  ·left;exact cL _ _
  ·right;exact⟨by rw [nT,cL],rfl⟩
 have p:d*D=D*q+D∨d*D=D*q∧d=q:=by
  rcases e with rfl | rfl
  ·right;exact⟨cL _ _,rfl⟩
  ·left;rw [nT,cL]
 generalize d*D=a at*
 generalize D*q=b at*
 constructor
 ·rintro rfl
  rw [gM,fC] at h
  rcases p with p | ⟨p,f⟩
  ·omega
  ·exact⟨f,by omega⟩
 ·rintro rfl
  rw [dV] at h
  rcases o with o | ⟨o,f⟩
  ·omega
  ·refine⟨f,fun L2 c2 _ _ h2=>?_⟩
   rcases (show c2=0∨c2=1 by omega) with rfl | rfl <;> omega
structure Lg (V U0 k:Nat)(l ql:List Nat):Prop where
 eq:U0=WB^k*nv (ql.drop k)*V+nv l
 lt:nv l<V*WB^k
theorem Lg.step (h:Lg V U0 (j+1) l ql)(hj:j<ql.length)(hV:0<V)(hq:q=nv l/(WB^j*V))(hl2:nv l2=nv l%(WB^j*V)):Lg V U0 j l2 (ql.set j q):=by
 have f:0<WB^j*V:=iL (gB gC) hV
 have o:(ql.set j q).drop j=q::ql.drop (j+1):=by
  rw [nW (by rw [List.length_set];exact hj)]
  congr 1
  ·simp
  ·rw [List.drop_set_of_lt (by omega)]
 refine⟨?_,?_⟩
 ·have e:=mV (nv l) (WB^j*V)
  rw [←hq,←hl2] at e
  rw [h.eq,o,pO,cI,dK,cW,bX (WB^j) WB,←e]
  have p:WB^j*q*V=WB^j*V*q:=sH _ _ _
  omega
 ·rw [hl2,cL V];exact f7 _ f
theorem P2 (hn:2≤n)(hl:j+n+1≤l.length)(hw:Wf l)(hlt:nv l<WB^(j+n+1)):nv l/WB^(j+n-2)=(l.getD (j+n) 0*WB+l.getD (j+n-1) 0)*WB+l.getD (j+n-2) 0:=by
 obtain⟨m,rfl⟩:∃m,n=m+2:=⟨n-2,by omega⟩
 have o:=oJ l (j+(m+2)+1) hl
 have e:nv l=nv (l.take (j+(m+2)+1)):=by
  rcases jQ (nv (l.drop (j+(m+2)+1))) with h | h
  ·rw [h,gM,fC] at o;exact o
  ·have:=Nat.le_mul_of_pos_right (WB^(j+(m+2)+1)) h
   omega
 have E:=eT l (j+(m+2)) (by omega)
 have f:=eT l (j+m+1) (by omega)
 have r:=eT l (j+m) (by omega)
 rw [show j+m+1+1=j+(m+2) from by omega] at f
 rw [show j+(m+2)-2=j+m from by omega,show j+(m+2)-1=j+m+1 from by omega,e,E,f,r]
 have F:=lW hw (j+m)
 rw [show WB^(j+(m+2))=WB^(j+m)*(WB*WB) from by rw [show j+(m+2)=j+m+1+1 from by omega,cW,cW,bX],show WB^(j+m+1)=WB^(j+m)*WB from cW _ _]
 generalize l.getD (j+(m+2)) 0=u2
 generalize l.getD (j+m+1) 0=u1
 generalize l.getD (j+m) 0=u0
 have D:nv (l.take (j+m))+WB^(j+m)*u0+WB^(j+m)*WB*u1+WB^(j+m)*(WB*WB)*u2=WB^(j+m)*((u2*WB+u1)*WB+u0)+nv (l.take (j+m)):=by
  have q:WB^(j+m)*WB*u1=WB^(j+m)*(u1*WB):=by rw [bX,cL WB u1]
  have p:WB^(j+m)*(WB*WB)*u2=WB^(j+m)*(u2*WB*WB):=by rw [bX,cL (WB*WB),←bX u2]
  rw [q,p,dK,cI,cI]
  omega
 rw [D,oV (gB gC),i8 F,fC]
theorem P1 (hn:2≤n)(hl:l.length=n)(hw:Wf l):nv l/WB^(n-2)=l.getD (n-1) 0*WB+l.getD (n-2) 0:=by
 obtain⟨m,rfl⟩:∃m,n=m+2:=⟨n-2,by omega⟩
 have p:nv l=nv (l.take (m+1+1)):=by rw [List.take_of_length_le (by omega)]
 have f:=eT l (m+1) (by omega)
 have h:=eT l m (by omega)
 have o:=lW hw m
 rw [show m+2-2=m from rfl,show m+2-1=m+1 from rfl,p,f,h,cW]
 generalize l.getD (m+1) 0=u1
 generalize l.getD m 0=u0
 have e:nv (l.take m)+WB^m*u0+WB^m*WB*u1=WB^m*(u1*WB+u0)+nv (l.take m):=by
  rw [bX,cL WB u1,cI];omega
 rw [e,oV (gB gC),i8 o,fC]
theorem UY {vs:List Nat}(h:Lg V U0 (j+1) l ql)(hn:2≤n)(hl:j+n+1≤l.length)(hw:Wf l)(hvl:vs.length=n)(hvw:Wf vs)(hV:nv vs=V)(hv1:0<vs.getD (n-1) 0):nv l<WB^(j+n+1)∧l.getD (j+n) 0≤vs.getD (n-1) 0∧(d≤18446744073709551615→d*(vs.getD (n-1) 0*WB+vs.getD (n-2) 0)≤(l.getD (j+n) 0*WB+l.getD (j+n-1) 0)*WB+l.getD (j+n-2) 0→
   (d=18446744073709551615∨(l.getD (j+n) 0*WB+l.getD (j+n-1) 0)*WB+l.getD (j+n-2) 0<(d+1)*(vs.getD (n-1) 0*WB+vs.getD (n-2) 0))→nv l/(WB^j*V)≤d∧d≤nv l/(WB^j*V)+1):=by
 have f:V<WB^n:=by rw [←hV,←hvl];exact iV hvw
 have e:nv l<WB^(j+n+1):=by
  have h1:=h.lt
  have h2:V*WB^(j+1)≤WB^n*WB^(j+1):=eI _ (Nat.le_of_lt f)
  rw [←dU,show n+(j+1)=j+n+1 from by omega] at h2
  omega
 have t3:=P2 hn hl hw e
 have t2:=P1 hn hvl hvw
 rw [hV] at t2
 refine⟨e,?_,?_⟩
 ·have h1:WB^(j+n)*l.getD (j+n) 0≤nv l:=by
   have F:=oJ l (j+n+1) hl
   have p:=eT l (j+n) (by omega)
   omega
  have h2:V<WB^(n-1)*(vs.getD (n-1) 0+1):=by
   have p:=eT vs (n-1) (by omega)
   rw [jO (by omega),List.take_of_length_le (by omega),hV] at p
   have D:=lW hvw (n-1)
   rw [p,cI,dV]
   omega
  have q:V*WB^(j+1)<WB^(n-1)*(vs.getD (n-1) 0+1)*WB^(j+1):=sI h2 (gB gC)
  rw [sH,←dU,show n-1+(j+1)=j+n from by omega] at q
  have E:=h.lt
  have r:WB^(j+n)*l.getD (j+n) 0<WB^(j+n)*(vs.getD (n-1) 0+1):=by omega
  have:=Nat.lt_of_mul_lt_mul_left r
  omega
 ·intro _ h1 h2
  rw [←t3] at h1 h2
  rw [←t2] at h1 h2
  have o:V/WB^(n-2)=(WB^j*V)/WB^(j+n-2):=by
   rw [show j+n-2=j+(n-2) from by omega,dU,Nat.mul_div_mul_left _ _ (gB gC)]
  refine W5 (M:=WB^(j+n-2)) (gB gC) J o ?_ (by rw [cP];omega) h1 h2 ?_
  ·rw [t2]
   have:=Nat.le_mul_of_pos_left WB hv1
   omega
  ·have:=h.lt
   rw [cW,←bX,cL V] at this
   exact this
theorem UZ {Y s Q:Nat}(hY:0<Y)(h:X*2^s=Q*(Y*2^s)+L)(hL:L<Y*2^s):Q=X/Y∧L/2^s=X%Y:=by
 have e:=mB s
 have h1:X*2^s/(Y*2^s)=Q:=by rw [h,cL Q,oV (iL hY e),i8 hL,fC]
 have h2:X*2^s%(Y*2^s)=L:=by rw [h,cL Q,Nat.mul_add_mod,gN hL]
 rw [Nat.mul_div_mul_right _ _ e] at h1
 rw [Nat.mul_mod_mul_right] at h2
 exact⟨h1.symm,by rw [←h2,Nat.mul_div_cancel _ e]⟩
theorem UX {s y:Nat}(hx:Wf xs)(hy:Wf ys)(hxl:xs.length=N)(hyl:ys.length=n)(hn:1≤n)(hnN:n≤N)(hyk:ys.getD (n-1) 0=y)(hy0:y≠0)(hyb:y≤18446744073709551615)(hs:s+cV y=64):s<64∧nv ys*2^s<WB^n∧nv xs*2^s<WB^(N+1)∧0<nv ys*2^s∧WB^(n-1)≤nv ys*2^s∧nv xs*2^s<nv ys*2^s*WB^(N+1-n):=by
 have hb:cV y≠0:=fun h=>hy0 (nO.1 h)
 have e:=mB s
 have r:=eT ys (n-1) (by omega)
 rw [jO hn,List.take_of_length_le (by omega),hyk] at r
 have h1:=lW hy (n-1)
 have h2:WB^(n-1)≤nv ys:=by
  have:=Nat.le_mul_of_pos_right (WB^(n-1)) (show 0<y by omega)
  omega
 have F:nv ys≤nv ys*2^s:=Nat.le_mul_of_pos_right _ e
 have D:=pQ y
 have p:=iV hx
 rw [hxl] at p
 have q:=gB (n:=n-1) gC
 refine⟨by omega,?_,?_,by omega,by omega,?_⟩
 ·have o:nv ys<WB^(n-1)*(y+1):=by rw [cI,dV];omega
  have E:WB^(n-1)*(y+1)≤WB^(n-1)*2^cV y:=fJ _ D
  have f:nv ys*2^s<WB^(n-1)*2^cV y*2^s:=sI (by omega) e
  rw [bX,←dU,Nat.add_comm (cV y),hs,←lQ,←cW,Nat.succ_eq_add_one,jO hn] at f
  exact f
 ·rw [cW]
  have o:2^s≤WB:=by rw [lQ];exact eS (by omega) (by omega)
  have E:=sI p e
  have f:=fJ (WB^N) o
  omega
 ·have o:WB^N≤nv ys*WB^(N+1-n):=by
   have:=eI (WB^(N+1-n)) h2
   rw [←dU,show n-1+(N+1-n)=N from by omega] at this
   exact this
  rw [sH]
  exact sI (by omega) e
theorem W3 {u2 u1 u0 v1 v0:Nat}(h2:u2≤v1)(h1:u1≤18446744073709551615)(h0:u0≤18446744073709551615)(hv1:v1≤18446744073709551615)(hv0:v0≤18446744073709551615)(hpos:0<v1)(k1:D≤18446744073709551615)(k2:D*(v1*WB+v0)≤(u2*WB+u1)*WB+u0)(k3:D=18446744073709551615∨(u2*WB+u1)*WB+u0<(D+1)*(v1*WB+v0))(w:a6)(n:Nat):aP aN 267 #[up (u2:Int),up (u1:Int),up (u0:Int),up (v1:Int),up (v0:Int)] (w.drewN n) (fun e w''=>e= .returned (up (D:Int))∧∃m,w''=w.drewN m):=by
 refine Calls.quiet_of ((YT h2 h1 h0 hv1 hv0 hpos (w.drewN n)).mono ?_)
 rintro e w' ⟨d,rfl,a,b,c,m,rfl⟩
 rw [W4 a b.out c.out k1 k2 k3]
 exact⟨rfl,m,rfl⟩
theorem JA (hl:K≤l.length)(hl1:K≤l1.length)(hw:Wf l1)(hd:l1.drop K=l.drop K)(h:nv l<WB^K):nv l1<WB^K:=by
 have o:=oJ l K hl
 have e:=oJ l1 K hl1
 have f:=lW hw K
 rw [hd] at e
 rcases jQ (nv (l.drop K)) with h0 | h0
 ·rw [h0,gM] at e;omega
 ·have:=Nat.le_mul_of_pos_right (WB^K) h0
  omega
theorem YS (hx:Rd w A N cap xs)(hN:N≤274877906944)(hy:Rd w B n cap' ys)(hn:2≤n)(hnN:n≤N)(htop:ys.getD (n-1) 0≠0):aP aN 236 #[we A N cap,we B n cap'] w (RetQRA w (nv xs/nv ys) (nv xs%nv ys)):=by
 obtain⟨b,y,rfl,hyk,hyb,hcy⟩:=hy.get (i:=n-1) (by omega)
 have hlx:=Lib.hid hx.len
 have hly:=Lib.hid hy.len
 have hyp:(0:Int)<(n:Int):=by omega
 go_enter Tryz.func236,Tryz.ntmps236
 go_wp2_with fail
 refine (bits_LeadingZeros64 y hyb _).mono ?_
 rintro e w' ⟨s,hs,hs64',rfl,rfl⟩
 have hstart:=UX hx.wf hy.wf hlx.out hly.out (by omega) hnN hyk.out (by rw [←hyk.out];exact htop) hyb hs.out
 obtain⟨hs64,hVfit,hUfit,hVpos,hVlow,hUV⟩:=hstart
 have HVfit:=Lib.hid hVfit
 have HUfit:=Lib.hid hUfit
 have HVpos:=Lib.hid hVpos
 have HVlow:=Lib.hid hVlow
 have HUV:=Lib.hid hUV
 clear hVfit hUfit hVpos hVlow hUV htop
 go_wp2_with fail
 refine (LC hy (by omega) hs64 (by omega) (aZ _) HVfit.out).mono ?_
 rintro e w1 ⟨gv,vs,rfl,hgv,hbv,hwv,hlv,hvv,hx1⟩
 go_wp2_with fail
 refine (LC (n:=N+1) (hx.ext hx1) (by omega) hs64 (by omega) (by omega) HUfit.out).mono ?_
 rintro e w2 ⟨gu,us,rfl,hgu,hbu,hwu,hlu,hvu,hx2⟩
 obtain⟨M,hM1,hM2⟩:∃M,M+n≤N+1∧N+1≤M+n:=⟨N+1-n,by omega,by omega⟩
 have hmk:=kN (P:=aN) Tryz.underlying22 iD J (by decide) ((N:Int)-(n:Int)+1) (by omega) (by omega)
 have et:((N:Int)-(n:Int)+1).toNat=M:=by omega
 rw [et] at hmk
 clear et
 go_wp2_with fail
 clear hmk
 have hbv2:=hbv.ext hx2
 have hguv:gv<gu:=dJ hbv.lt hgu
 obtain⟨gq,hgq⟩:∃gq,w2.heap.size=gq:=⟨_,rfl⟩
 rw [hgq]
 have hguq:gu<gq:=by rw [←hgq];exact hbu.lt
 obtain⟨wa,hwa⟩:∃wa,w2.alloc (.cells (zc (.int .u64 0) M) 65)=wa:=⟨_,rfl⟩
 rw [hwa]
 have hbq:Bk wa gq 65 ((cJ M 0).map bF):=by
  rw [←hwa,←hgq,←j7];exact Bk.new' _ _ _
 have hea:Ext w2 wa:=by rw [←hwa];exact (Ext.refl w2).alloc _
 have hgw:w.heap.size≤gv:=hgv
 have hgw2:w.heap.size≤gu:=by omega
 have hgw3:w.heap.size≤gq:=by omega
 have hbva:=hbv2.ext hea
 have hbua:=hbu.ext hea
 have hexa:Ext w wa:=(hx1.trans hx2).trans hea
 clear hgq hwa hbv hbu hbv2 hea hcy
 have hL0:Hid (Lg (nv ys*2^s) (nv xs*2^s) M us (cJ M 0)):=by
  refine⟨?_,?_⟩
  ·rw [List.drop_of_length_le (by rw [List.length_replicate];exact aZ _),hvu.out];simp [nv]
  ·rw [hvu.out,show M=N+1-n from by omega];exact HUV.out
 have hv1:Hid (0<vs.getD (n-1) 0):=by
  refine Nat.pos_of_ne_zero (fun h0=>?_)
  have e1:=rB vs (n-1) (by rw [hlv.out];omega) h0
  rw [jO (by omega),List.take_of_length_le (by rw [hlv.out];exact aZ _),hvv.out] at e1
  have e2:=lW hwv (n-1)
  have:=HVlow.out
  omega
 go_loopw [11] (fun u wr=>∃(k:Nat) (l ql:List Nat),k≤M∧u= no ((k:Int)-1)∧Hid (l.length=N+1)∧Wf l∧Hid (ql.length=M)∧Wf ql∧Bk wr gv 65 (vs.map bF)∧Bk wr gu 65 (l.map bF)∧Bk wr gq 65 (ql.map bF)∧
  Hid (Lg (nv ys*2^s) (nv xs*2^s) k l ql)∧Ext w wr) (fun u wr=>(intOf u+1).toNat)
 case atStart=>exact⟨M,us,_,aZ _,fQ,hlu,hwu,List.length_replicate,mR _,hbva,hbua,hbq,hL0,hexa⟩
 case round=>
  obtain⟨k,l,ql,hk,rfl,hll,hwl,hlq,hwq,hbv,hbu,hbq',hL,hr⟩:=hrel
  clear hbva hbua hbq hexa hL0 hlu hvu
  by_cases hk0:0<k
  ·obtain⟨j,rfl⟩:∃j,k=j+1:=⟨k-1,by omega⟩
   have ek:((j+1:Nat):Int)-1=(j:Int):=by omega
   rw [ek]
   obtain⟨u2,hu2k,hu2b,hcu2⟩:=hbu.word hwl (i:=j+n) (by rw [hll.out];omega)
   obtain⟨u1,hu1k,hu1b,hcu1⟩:=hbu.word hwl (i:=j+n-1) (by rw [hll.out];omega)
   obtain⟨u0,hu0k,hu0b,hcu0⟩:=hbu.word hwl (i:=j+n-2) (by rw [hll.out];omega)
   obtain⟨v1,hv1k,hv1b,hcv1⟩:=hbv.word hwv (i:=n-1) (by rw [hlv.out];omega)
   obtain⟨v0,hv0k,hv0b,hcv0⟩:=hbv.word hwv (i:=n-2) (by rw [hlv.out];omega)
   have hgs:=fun d=>UY (d:=d) hL.out hn (by rw [hll.out];omega) hwl hlv.out hwv hvv.out hv1.out
   rw [hu2k.out,hu1k.out,hu0k.out,hv1k.out,hv0k.out] at hgs
   have hu2v:u2≤v1:=(hgs 0).2.1
   have hv1p:0<v1:=by rw [←hv1k.out];exact hv1.out
   have HGS:=Lib.hid hgs
   clear hgs
   have hfin:∀(q:Nat) (l2:List Nat) (wr2:a6),q=nv l/(WB^j*(nv ys*2^s))→nv l2=nv l%(WB^j*(nv ys*2^s))→q≤18446744073709551615→l2.length=N+1→Wf l2→Bk wr2 gv 65 (vs.map bF)→Bk wr2 gu 65 (l2.map bF)→Bk wr2 gq 65 ((ql.set j q).map bF)→Ext w wr2→
     ∃(k:Nat) (l ql:List Nat),k≤M∧dP .i64 ((j:Int)-1)= no ((k:Int)-1)∧Hid (l.length=N+1)∧Wf l∧Hid (ql.length=M)∧Wf ql∧Bk wr2 gv 65 (vs.map bF)∧Bk wr2 gu 65 (l.map bF)∧Bk wr2 gq 65 (ql.map bF)∧
      Hid (Lg (nv ys*2^s) (nv xs*2^s) k l ql)∧Ext w wr2:=by
    intro q l2 wr2 h1 h2 h3 h4 h5 h6 h7 h8 h9
    exact⟨j,l2,ql.set j q,by omega,rfl,h4,h5,(show _=_ by rw [List.length_set];exact hlq.out),gR hwq j (by rw [cP];omega),h6,h7,h8,hL.out.step (by rw [hlq.out];omega) HVpos.out h1 h2,h9⟩
   have FIN:=Lib.hid hfin
   clear hfin
   go_upto_region 9 with (fail)
   obtain⟨d,hdb,hd1,hd2⟩:=W6 ((u2*WB+u1)*WB+u0) (v1*WB+v0) (by rw [cP];omega)
   have hdd:=Lib.hid ((HGS.out d).2.2 hdb hd1 hd2)
   have HLT:=Lib.hid (HGS.out d).1
   have HD1:=Lib.hid hd1
   have HD2:=Lib.hid hd2
   clear hd1 hd2 HGS
   have w1e:IntKind.i64.wrap ((j:Int)+(n:Int))=(j:Int)+(n:Int):=IntWalk.i64_in _ (by omega)
   have w2e:IntKind.i64.wrap ((j:Int)+(n:Int)-1)=(j:Int)+(n:Int)-1:=IntWalk.i64_in _ (by omega)
   have w3e:IntKind.i64.wrap ((j:Int)+(n:Int)-2)=(j:Int)+(n:Int)-2:=IntWalk.i64_in _ (by omega)
   have w4e:IntKind.i64.wrap ((n:Int)-1)=(n:Int)-1:=IntWalk.i64_in _ (by omega)
   have w5e:IntKind.i64.wrap ((n:Int)-2)=(n:Int)-2:=IntWalk.i64_in _ (by omega)
   have t1:((j:Int)+(n:Int)).toNat=j+n:=by omega
   have t2:((j:Int)+(n:Int)-1).toNat=j+n-1:=by omega
   have t3:((j:Int)+(n:Int)-2).toNat=j+n-2:=by omega
   have t4:((n:Int)-1).toNat=n-1:=by omega
   have t5:((n:Int)-2).toNat=n-2:=by omega
   have b1:0≤(j:Int)+(n:Int):=by omega
   have b2:0≤(j:Int)+(n:Int)-1:=by omega
   have b3:0≤(j:Int)+(n:Int)-2:=by omega
   have b4:0≤(n:Int)-1:=by omega
   have b5:0≤(n:Int)-2:=by omega
   have c1:(j:Int)+(n:Int)<(N:Int)+1:=by omega
   have c2:(j:Int)+(n:Int)-1<(N:Int)+1:=by omega
   have c3:(j:Int)+(n:Int)-2<(N:Int)+1:=by omega
   have c4:(n:Int)-1<(n:Int):=by omega
   have c5:(n:Int)-2<(n:Int):=by omega
   go_quiet (exact W3 hu2v hu1b hu0b hv1b hv0b hv1p hdb HD1.out HD2.out _ _)
   clear w1e w2e w3e w4e w5e t1 t2 t3 t4 t5 b1 b2 b3 b4 b5 c1 c2 c3 c4 c5
   obtain⟨wd,hwd⟩:∃wd,wr.drewN nq=wd:=⟨_,rfl⟩
   rw [hwd]
   have hbu1:Bk wd gu 65 (l.map bF):=by rw [←hwd];exact hbu.drewN nq
   have hbv1:Bk wd gv 65 (vs.map bF):=by rw [←hwd];exact hbv.drewN nq
   have hbq1:Bk wd gq 65 (ql.map bF):=by rw [←hwd];exact hbq'.drewN nq
   have hr1:Ext w wd:=by rw [←hwd];exact hr.drewN nq
   clear hwd hcu2 hcu1 hcu0 hcv1 hcv0
   have hvrd:=hbv1.rd hwv (o:=0) (n:=n) (cap:=n) (aZ _) (by rw [hlv.out];omega) (by rw [eG];omega)
   rw [gP,List.take_of_length_le (by rw [hlv.out];exact aZ _)] at hvrd
   go_wp2_with fail
   rw [show j+n+1-j=n+1 from by omega]
   refine (YO (o:=j) (m:=n) hbu1 hwl hvrd (fun a ha=>by cases ha;show gv≠gu;omega) (by rw [hll.out];omega) (by omega) (by omega) hdb).mono ?_
   rintro e w4 ⟨bb,rfl,l1,c,hb4,hw4,hll4,hdr4,hc4,hP4,hu4⟩
   have hll4':Hid (l1.length=N+1):=(show _=_ by rw [hll4.out,hll.out])
   have hL1:Hid (nv l1<WB^(j+n+1)):=JA (by rw [hll.out];omega) (by rw [hll4'.out];omega) hw4 hdr4.out HLT.out
   have hcase:=V0 (D:=WB^j*(nv ys*2^s)) (iL (gB gC) HVpos.out) hdd.out.1 hdd.out.2 HLT.out hL1.out (by
    have h:=hP4.out.2
    rw [hvv.out,Nat.mul_left_comm] at h
    exact h) hc4
   have hbc:=hP4.out.1
   have hbv4:=hbv1.upd hu4 (by omega)
   have hbq4:=hbq1.upd hu4 (by omega)
   have hr4:=hu4.ext hr1 hgw2
   have hbb:bb=false∧c=0∨bb=true∧c=1:=by
    rcases bb with _ | _
    ·left;refine⟨rfl,?_⟩;simp at hbc;omega
    ·right;exact⟨rfl,hbc.1 rfl⟩
   clear hP4 hbc hc4 hbv hbu hbq' hbu1 hbv1 hbq1 hr hr1 hvrd
   rcases hbb with⟨rfl,hc⟩ | ⟨rfl,hc⟩
   ·have h0:=Lib.hid (hcase.1 hc)
    clear hcase hc
    obtain⟨z,hz,_,hcz⟩:=hbq4.word hwq (i:=j) (by rw [hlq.out];omega)
    have hfz:=hbq4.frozen j
    have hjM:(j:Int)<(M:Int):=by omega
    go_wp2_with fail
    go_roundw
    case rel=>exact FIN.out d l1 _ h0.out.1 h0.out.2 hdb hll4'.out hw4 (hbv4.far (by show gv≠gq;omega) _) (hb4.far (by show gu≠gq;omega) _) (by rw [←dX];exact hbq4.set _ _) (hr4.setCell hgw3 _)
    case measure=>simp [intOf]
   ·have h0:=Lib.hid (hcase.2 hc)
    clear hcase hc
    obtain⟨q,rfl⟩:∃q,d=q+1:=⟨_,h0.out.1⟩
    have hq:Hid (q=nv l/(WB^j*(nv ys*2^s))):=(show _=_ from Nat.succ.inj h0.out.1)
    have hvrd:=hbv4.rd hwv (o:=0) (n:=n) (cap:=n) (aZ _) (by rw [hlv.out];omega) (by rw [eG];omega)
    rw [gP,List.take_of_length_le (by rw [hlv.out];exact aZ _)] at hvrd
    go_wp2_with fail
    rw [show j+n+1-j=n+1 from by omega]
    refine (YU (o:=j) (m:=n) hb4 hw4 hvrd (fun a ha=>by cases ha;show gv≠gu;omega) (by rw [hll4'.out];omega) (by omega) (by omega)).mono ?_
    rintro e w5 ⟨rfl,l2,c2,hb5,hw5,hll5,hdr5,hc5,hP5,hu5⟩
    have hll5':Hid (l2.length=N+1):=(show _=_ by rw [hll5.out,hll4'.out])
    have hL2:Hid (nv l2<WB^(j+n+1)):=JA (by rw [hll4'.out];omega) (by rw [hll5'.out];omega) hw5 hdr5.out hL1.out
    have hfin2:Hid (nv l2=nv l%(WB^j*(nv ys*2^s))):=h0.out.2 (nv l2) c2 hc5 hL2.out (by have h:=hP5.out;rw [hvv.out] at h;exact h)
    have hbv5:=hbv4.upd hu5 (by omega)
    have hbq5:=hbq4.upd hu5 (by omega)
    have hr5:=hu5.ext hr4 hgw2
    clear hP5 hc5 hbv4 hbq4 hr4 hb4 hvrd h0
    obtain⟨z,hz,_,hcz⟩:=hbq5.word hwq (i:=j) (by rw [hlq.out];omega)
    have hfz:=hbq5.frozen j
    have hjM:(j:Int)<(M:Int):=by omega
    go_wp2_with fail
    go_roundw
    case rel=>exact FIN.out q l2 _ hq.out hfin2.out (by omega) hll5'.out hw5 (hbv5.far (by show gv≠gq;omega) _) (hb5.far (by show gu≠gq;omega) _) (by rw [←dX];exact hbq5.set _ _) (hr5.setCell hgw3 _)
    case measure=>simp [intOf]
  ·obtain rfl:k=0:=by omega
   have ek:((0:Nat):Int)-1= -1:=rfl
   rw [ek]
   have hLv:Hid (nv l<nv ys*2^s):=by
    have:=hL.out.lt
    rw [Nat.pow_zero,dV] at this
    exact this
   have hQ:=UZ (X:=nv xs) (Y:=nv ys) (s:=s) (Q:=nv ql) (L:=nv l) (Nat.pos_of_mul_pos_right HVpos.out) (by have:=hL.out.eq;simpa using this) hLv.out
   have hln:Hid (nv (l.take n)=nv l):=by
    show _=_
    have e1:=oJ l n (by rw [hll.out];omega)
    rcases jQ (nv (l.drop n)) with h0 | h0
    ·rw [h0,gM,fC] at e1;exact e1.symm
    ·have:=Nat.le_mul_of_pos_right (WB^n) h0
     have h2:=hLv.out
     have h3:=HVfit.out
     omega
   have HQ:=Lib.hid hQ
   clear hQ
   have hurd:=hbu.rd hwl (o:=0) (n:=n) (cap:=N+1) (by omega) (by rw [hll.out];omega) (by rw [eG];omega)
   rw [gP] at hurd
   go_wp2_with fail
   refine (UH hurd (by omega) (by omega)).mono ?_
   rintro e w6 ⟨A6,n6,c6,rfl,hn6,hr6,ho6,hx6⟩
   rw [hln.out,HQ.out.2] at hn6 hr6 ho6
   have hqrd:=(hbq'.ext hx6).rd hwq (o:=0) (n:=M) (cap:=M) (aZ _) (by rw [hlq.out];omega) (by rw [eG];omega)
   rw [gP,List.take_of_length_le (by rw [hlq.out];exact aZ _)] at hqrd
   go_wp2_with fail
   refine (jB hqrd).mono ?_
   rintro e w7 ⟨A7,n7,c7,rfl,hn7,hr7,ho7,hx7⟩
   rw [HQ.out.1] at hn7 hr7 ho7
   go_wp2_with fail
   go_ret2
   exact⟨A7,n7,c7,A6,n6,c6,rfl,hn7,hr7,ho7.mono (hr.trans hx6).size,hn6,hr6.ext hx7,(ho6.mono hr.size).ext hx7,(hr.trans hx6).trans hx7,fun p p' hp hp'=>by have h1:=ho7.block p hp;have h2:=ho6.block p' hp';omega⟩
def MQ (w:a6)(q r:Nat)(er:Int)(e:dL)(w':a6):Prop:=
 ∃A n cap B m cap',e= .returned (.tuple #[we A n cap,we B m cap',no er])∧Hid (n=(wd q).length)∧Rd w' A n cap (wd q)∧Own w' w.heap.size 65 1 A n cap ((wd q).map bF)∧
  Hid (m=(wd r).length)∧Rd w' B m cap' (wd r)∧Own w' w.heap.size 65 1 B m cap' ((wd r).map bF)∧Ext w w'
def RetQREA (w:a6)(q r:Nat)(er:Int)(e:dL)(w':a6):Prop:=
 ∃A n cap B m cap',e= .returned (.tuple #[we A n cap,we B m cap',no er])∧Hid (n=(wd q).length)∧Rd w' A n cap (wd q)∧Own w' w.heap.size 65 1 A n cap ((wd q).map bF)∧
  Hid (m=(wd r).length)∧Rd w' B m cap' (wd r)∧Own w' w.heap.size 65 1 B m cap' ((wd r).map bF)∧Ext w w'∧∀p p',A=some p→B=some p'→p.block≠p'.block
theorem RetQREA.old {e:dL}(h:RetQREA w q r er e w'):MQ w q r er e w':=by
 obtain⟨A,n,cap,B,m,cap',h1,h2,f,F,E,o,p,D,_⟩:=h
 exact⟨A,n,cap,B,m,cap',h1,h2,f,F,E,o,p,D⟩
theorem OG (h:m≠0):(wd m).getD ((wd m).length-1) 0≠0:=by
 intro h0
 have hl:0<(wd m).length:=Nat.pos_of_ne_zero (fun e=>h (m0.1 e))
 have f:=rB (wd m) ((wd m).length-1) (by omega) h0
 rw [jO (by omega),List.take_of_length_le (aZ _),dA] at f
 have h2:=lW (oS m) ((wd m).length-1)
 have o:=IF h
 omega
theorem AZ {v:Nat}(h:1=(wd m).length)(hv:(wd m).getD 0 0=v):m=v:=by
 have e:=eT (wd m) 0 (by omega)
 rw [List.take_of_length_le (by omega),dA,hv] at e
 simpa [nv] using e
theorem YZ (hy:Rd w B n' cap' ys)(hl':n'≤1099511627775)(h0:nv ys=0):aP aN 199 #[we A n cap,we B n' cap'] w (fun e w'=>e= .returned (.tuple #[we none 0 0,we none 0 0,no 4])∧Ext w w'):=by
 go_enter Tryz.func199,Tryz.ntmps199
 go_wp2_with fail
 refine (jB hy).mono ?_
 rintro e w1 ⟨A1,n1,c1,rfl,hn1,hr1,ho1,hx1⟩
 obtain rfl:n1=0:=by rw [hn1.out,h0];rfl
 go_wp2_with fail
 go_ret3
 exact⟨rfl,hx1⟩
theorem Z0 (hx:Rd w A n cap xs)(hl:n≤274877906944)(hy:Rd w B n' cap' ys)(hl':n'≤274877906944)(h0:nv ys≠0):aP aN 199 #[we A n cap,we B n' cap'] w (RetQREA w (nv xs/nv ys) (nv xs%nv ys) 0):=by
 go_enter Tryz.func199,Tryz.ntmps199
 go_wp2_with fail
 refine (jB hy).mono ?_
 rintro e w1 ⟨A1,n1,c1,rfl,hn1,hr1,ho1,hx1⟩
 have hn1p:0<n1:=by
  rw [hn1.out];exact Nat.pos_of_ne_zero (fun e=>h0 (m0.1 e))
 have hn1b:n1≤n':=by
  have:=gJ hy.wf
  rw [hn1.out,←hy.len];exact this
 have b0:((n1:Int)==0)=false:=by simp;omega
 by_cases h1:n1=1
 ·subst h1
  obtain⟨a,v,rfl,hvk,hvb,hcv⟩:=hr1.get (i:=0) (by omega)
  have hv:Hid (nv ys=v):=AZ hn1.out hvk.out
  have hcv0:w1.cell? a=some (up (v:Int)):=by simpa [mZ] using hcv
  go_wp2_with fail
  refine (DE (hx.ext hx1) (by omega) (v:=v) (by rw [←hv.out];exact h0) hvb).mono ?_
  rintro e w2 ⟨A2,n2,c2,r,rfl,hr,hrb,hn2,hr2,ho2,hx2⟩
  go_wp2_with fail
  have hone:=Rd.one w2 hrb
  refine (jB hone).mono ?_
  rintro e w3 ⟨A3,n3,c3,rfl,hn3,hr3,ho3,hx3⟩
  rw [uY,hr.out,←hv.out] at hn3 hr3 ho3
  rw [←hv.out] at hn2 hr2 ho2
  have hal:Ext w2 w3:=((Ext.refl w2).alloc _).trans hx3
  go_wp2_with fail
  go_ret3
  exact⟨A2,n2,c2,A3,n3,c3,rfl,hn2,hr2.ext hal,(ho2.mono hx1.size).ext hal,hn3,hr3,ho3.mono (a8 (hx1.trans hx2).size (by simp)),(hx1.trans hx2).trans hal,fun p p' hp hp'=>by have h1:=ho2.block p hp;have h2:=ho3.block p' hp';simp only [World.alloc,Array.size_push] at h2;omega⟩
 ·have b1:((n1:Int)==1)=false:=by simp;omega
  go_wp2_with fail
  refine (jB (hx.ext hx1)).mono ?_
  rintro e w2 ⟨A2,n2,c2,rfl,hn2,hr2,ho2,hx2⟩
  have hn2b:n2≤n:=by
   have:=gJ hx.wf
   rw [hn2.out,←hx.len];exact this
  go_wp2_with fail
  refine (tD hr2 (hr1.ext hx2)).mono ?_
  rintro e w3 ⟨c,hc,hcl,hch,rfl,hx3⟩
  rw [dA,dA] at hc
  by_cases hlt:nv xs<nv ys
  ·have hneg:c<0:=by rw [hc.out];exact lO.2 hlt
   go_wp2_with fail
   go_ret3
   rw [i8 hlt,gN hlt]
   exact⟨none,0,0,A2,n2,c2,rfl,rfl,Rd.nil _,Own.nil _ _ _ _,hn2,hr2.ext hx3,(ho2.mono hx1.size).ext hx3,(hx1.trans hx2).trans hx3,fun p p' hp=>by cases hp⟩
  ·have hneg:¬c<0:=by rw [hc.out,lO];exact hlt
   have HL:=Lib.hid hlt
   have hn12:n1≤n2:=by rw [hn1.out,hn2.out];exact gK (by omega)
   clear hlt
   go_wp2_with fail
   refine (YS (hr2.ext hx3) (by omega) ((hr1.ext hx2).ext hx3) (by omega) hn12 (by rw [hn1.out];exact OG h0)).mono ?_
   rintro e w4 ⟨A4,n4,c4,A5,n5,c5,rfl,hn4,hr4,ho4,hn5,hr5,ho5,hx4,hap⟩
   rw [dA,dA] at hn4 hr4 ho4 hn5 hr5 ho5
   go_wp2_with fail
   go_ret3
   have hs:=((hx1.trans hx2).trans hx3)
   exact⟨A4,n4,c4,A5,n5,c5,rfl,hn4,hr4,ho4.mono hs.size,hn5,hr5,ho5.mono hs.size,hs.trans hx4,hap⟩
theorem tP (hx:Rd w A n cap xs)(hy:Rd w B n' cap' ys)(h0:nv ys≠0)(hl:n≤274877906944:=by omega)(hl':n'≤274877906944:=by omega):aP aN 199 #[we A n cap,we B n' cap'] w (MQ w (nv xs/nv ys) (nv xs%nv ys) 0):=(Z0 hx hl hy hl' h0).mono fun e w' h=>h.old
theorem YY (hx:Rd w A n cap xs)(hl:n≤274877906944)(hy:Rd w B n' cap' ys)(hl':n'≤274877906944)(h0:nv ys≠0)(h1:nv xs%nv ys=0):aP aN 200 #[we A n cap,we B n' cap'] w (zQ w (nv xs/nv ys) 0):=by
 go_enter Tryz.func200,Tryz.ntmps200
 have H1:=Lib.hid h1
 clear h1
 go_wp2_with fail
 refine (tP hx hy h0 (hl:=hl) (hl':=hl')).mono ?_
 rintro e w1 ⟨A4,n4,c4,A5,n5,c5,rfl,hn4,hr4,ho4,hn5,hr5,ho5,hx4⟩
 obtain rfl:n5=0:=by rw [hn5.out,H1.out];rfl
 go_wp2_with fail
 go_ret2
 exact⟨A4,n4,c4,rfl,hn4,hr4,ho4,hx4⟩
def F2:Option aM→Nat
 | some (.int _ z)=>z.toNat
 | _=>0
def numAt (w:a6):aM→Nat
 | .slice (some a) n _=>nv ((gE n).map fun i=>F2 (w.cell? (a.add i)))
 | _=>0
theorem Rd.numAt (h:Rd w A n cap xs):Go.Proofs.YtkepckmdjncehaaGreatDoor.numAt w (we A n cap)=nv xs:=by
 have f:=h.len
 cases A with
 | none=>
  have hn:n=0:=by
   rcases jQ n with h0 | h0
   ·exact h0
   ·obtain⟨a,o,_⟩:=h.rv.get 0 (by omega)
    cases o
  have:xs= []:=List.eq_nil_of_length_eq_zero (by omega)
  subst this
  rfl
 | some a=>
  show nv _=_
  congr 1
  apply List.ext_getElem
  ·simp [f]
  ·intro i h1 h2
   obtain⟨a',x,o,hx,_,p⟩:=h.get (i:=i) (by omega)
   cases o
   have e:xs[i]=x:=by
    have:=hx.out
    simpa [bK,cC h2] using this
   simp [p,F2,e]
theorem KC (a b:Nat):Nat.gcd a b=Nat.gcd b (a%b):=by
 rw [Nat.gcd_comm a b,Nat.gcd_rec b a,Nat.gcd_comm]
def a0C (w:a6)(x:Nat)(e:dL)(w':a6):Prop:=
 ∃g,e= .returned (we (some ⟨g,0,none⟩) 1 1)∧w.heap.size≤g∧Bk w' g 65 ([x].map bF)∧x≤18446744073709551615∧Ext w w'
theorem YN {x y:Nat}(hx:x≤18446744073709551615)(hy:y≤18446744073709551615)(w:a6):aP aN 238 #[up (x:Int),up (y:Int)] w (a0C w (Nat.gcd x y)):=by
 go_enter Tryz.func238,Tryz.ntmps238
 go_wp2_with fail
 go_loopw [0,1] (fun u v wr=>∃a b:Nat,u= up (a:Int)∧v= up (b:Int)∧a≤18446744073709551615∧b≤18446744073709551615∧Hid (Nat.gcd a b=Nat.gcd x y)∧Ext w wr) (fun u v wr=>(intOf v).toNat)
 case atStart=>exact⟨x,y,rfl,rfl,hx,hy,rfl,Ext.refl w⟩
 case round=>
  obtain⟨a,b,rfl,rfl,ha,hb,hg,hr⟩:=hrel
  by_cases h0:b=0
  ·subst h0
   have b0:((0:Int) != 0)=false:=rfl
   go_wp2_with fail
   go_ret
   have e:Nat.gcd x y=a:=by rw [←hg.out,Nat.gcd_zero_right]
   rw [e]
   exact⟨wr.heap.size,rfl,hr.size,Bk.new wr 65 [up (a:Int)],ha,hr.alloc _⟩
  ·have b0:((b:Int) != 0)=true:=by simp;omega
   have b1:((b:Int)==0)=false:=by simp;omega
   have h2:¬(b:Int)≤0:=by omega
   have h5:=j0 (a:Int) (b:=(b:Int)) (by omega)
   have h6:=Int.emod_lt_of_pos (a:Int) (b:=(b:Int)) (by omega)
   have HM:=Lib.hid (f7 a (show 0<b by omega))
   go_wp2_with fail
   go_quiet (fail)
   go_wp2_with fail
   go_roundw
   case rel=>exact⟨b,a%b,rfl,fQ (h:=(by simp)),hb,by have:=HM.out;omega,(show _=_ by rw [←hg.out,←KC]),hr.drewN _⟩
   case measure=>have:=HM.out;simp [intOf];omega
theorem YX (hx:Rd w A n cap xs)(hl:n≤274877906944)(hy:Rd w B n' cap' ys)(hl':n'≤274877906944):aP aN 202 #[we A n cap,we B n' cap'] w (iF w (Nat.gcd (nv xs) (nv ys))):=by
 go_enter Tryz.func202,Tryz.ntmps202
 go_wp2_with fail
 refine (jB hx).mono ?_
 rintro e w1 ⟨A1,n1,c1,rfl,hn1,hr1,ho1,hx1⟩
 have hn1b:n1≤274877906944:=by rw [hn1.out];exact a8 (by have:=gJ hx.wf;rw [hx.len] at this;exact this) hl
 go_wp2_with fail
 refine (jB (hy.ext hx1)).mono ?_
 rintro e w2 ⟨A2,n2,c2,rfl,hn2,hr2,ho2,hx2⟩
 have hn2b:n2≤274877906944:=by rw [hn2.out];exact a8 (by have:=gJ hy.wf;rw [hy.len] at this;exact this) hl'
 go_wp2_with fail
 go_loopw [5,6] (fun u v wr=>∃(A B:Option aB) (n cap m cap' a b:Nat),u= we A n cap∧v= we B m cap'∧n≤274877906944∧m≤274877906944∧Hid (n=(wd a).length)∧Hid (m=(wd b).length)∧Rd wr A n cap (wd a)∧Own wr w.heap.size 65 1 A n cap ((wd a).map bF)∧
  Rd wr B m cap' (wd b)∧Own wr w.heap.size 65 1 B m cap' ((wd b).map bF)∧Hid (Nat.gcd a b=Nat.gcd (nv xs) (nv ys))∧Ext w wr) (fun u v wr=>numAt wr v)
 case atStart=>exact⟨A1,A2,n1,c1,n2,c2,nv xs,nv ys,rfl,rfl,hn1b,hn2b,hn1,hn2,hr1.ext hx2,ho1.ext hx2,hr2,ho2.mono hx1.size,rfl,hx1.trans hx2⟩
 case round=>
  obtain⟨A,B,n,cap,m,cap',a,b,rfl,rfl,hnb,hmb,hn,hm,hra,hoa,hrb,aE,hg,hr⟩:=hrel
  clear hr1 hr2 ho1 ho2 hx hy hn1 hn2
  by_cases hm0:0<m
  ·have hb0:b≠0:=fun h=>by rw [hm.out,h] at hm0;simp [nC] at hm0
   have HB:=Lib.hid hb0
   clear hb0
   by_cases hcase:n=1∧m=1
   ·obtain⟨rfl,rfl⟩:=hcase
    obtain⟨p,x,rfl,hxk,hxb,hcx⟩:=hra.get (i:=0) (by omega)
    obtain⟨q,y,rfl,hyk,hyb,hcy⟩:=hrb.get (i:=0) (by omega)
    have ea:Hid (a=x):=AZ hn.out hxk.out
    have eb:Hid (b=y):=AZ hm.out hyk.out
    have hcx0:wr.cell? p=some (up (x:Int)):=by simpa [mZ] using hcx
    have hcy0:wr.cell? q=some (up (y:Int)):=by simpa [mZ] using hcy
    clear hcx hcy
    go_wp2_with fail
    go_region_with (first
     | (go_at_call 238;refine (YN hxb hyb _).mono ?_;rintro er w5 ⟨g5,rfl,hg5,hb5,hx5b,hx5⟩))
    all_goals
     go_wp2_with fail
     go_ret
     have h5:Ext w w5:=hr.trans (Ext.trans (by repeat (first | exact Ext.refl _ | assumption | apply Ext.drewN | apply Ext.drew | apply Ext.alloc)) hx5)
     have hgs:wr.heap.size≤g5:=hg5
     have hne:Nat.gcd x y≠0:=by
      have:=Nat.gcd_pos_of_pos_right x (n:=y) (Nat.pos_of_ne_zero (by rw [←eb.out];exact HB.out))
      omega
     have e6:Nat.gcd (nv xs) (nv ys)=Nat.gcd x y:=by rw [←hg.out,ea.out,eb.out]
     rw [e6]
     exact sB (ys:= [Nat.gcd x y]) (a8 hr.size hgs) hb5 J (aZ _) (by rw [eG];omega) (by rw [wY (by rw [cP];omega) hne];rfl) h5
   ·have hd:decide ((n:Int)=1)=false∨decide ((m:Int)=1)=false:=by
     by_cases h:n=1
     ·right;simp;omega
     ·left;simp;omega
    have key:∀(Q' R':Option aB) (nq cq nr cr:Nat) (w5:a6),Hid (nr=(wd (a%b)).length)→Rd w5 R' nr cr (wd (a%b))→Own w5 wr.heap.size 65 1 R' nr cr ((wd (a%b)).map bF)→Ext wr w5→
      (∃(A B':Option aB) (n cap m' cap'' a b:Nat),sF B m cap'= we A n cap∧sF R' nr cr= we B' m' cap''∧n≤274877906944∧m'≤274877906944∧Hid (n=(wd a).length)∧Hid (m'=(wd b).length)∧Rd w5 A n cap (wd a)∧Own w5 w.heap.size 65 1 A n cap ((wd a).map bF)∧
       Rd w5 B' m' cap'' (wd b)∧Own w5 w.heap.size 65 1 B' m' cap'' ((wd b).map bF)∧Hid (Nat.gcd a b=Nat.gcd (nv xs) (nv ys))∧Ext w w5)∧numAt w5 (we R' nr cr)<numAt wr (we B m cap'):=by
     intro Q' R' nq cq nr cr w5 h1 h2 h3 h4
     have hmod:a%b<b:=f7 a (Nat.pos_of_ne_zero HB.out)
     refine⟨⟨B,R',m,cap',nr,cr,b,a%b,rfl,rfl,hmb,?_,hm,h1,hrb.ext h4,aE.ext h4,h2,h3.mono hr.size,(show _=_ by rw [←hg.out,←KC]),hr.trans h4⟩,?_⟩
     ·rw [h1.out]
      refine a8 (gK (Nat.le_of_lt hmod)) ?_
      rw [←hm.out];exact hmb
     ·rw [h2.numAt,hrb.numAt,dA,dA];exact hmod
    have KEY:=Lib.hid key
    clear key
    by_cases hn1':n=1
    ·have hm1:((m:Int)==1)=false:=by
      have:¬m=1:=fun h=>hcase ⟨hn1',h⟩
      simp;omega
     have bn1:((n:Int)==1)=true:=by simp;omega
     clear hcase hd hn1'
     go_wp2_with fail
     refine (tP hra hrb (by rw [dA];exact HB.out)).mono ?_
     rintro e w5 ⟨Aq,nq,cq,Ar,nr,cr,rfl,hnq,hrq,hoq,hnr,hrr,hor,hx5⟩
     rw [dA,dA] at hnr hrr hor
     go_wp2_with fail
     go_roundw
     case rel=>exact (KEY.out Aq Ar nq cq nr cr w5 hnr hrr hor hx5).1
     case measure=>exact (KEY.out Aq Ar nq cq nr cr w5 hnr hrr hor hx5).2
    ·have bn1:((n:Int)==1)=false:=by simp;omega
     clear hcase hd hn1'
     go_wp2_with fail
     refine (tP hra hrb (by rw [dA];exact HB.out)).mono ?_
     rintro e w5 ⟨Aq,nq,cq,Ar,nr,cr,rfl,hnq,hrq,hoq,hnr,hrr,hor,hx5⟩
     rw [dA,dA] at hnr hrr hor
     go_wp2_with fail
     go_roundw
     case rel=>exact (KEY.out Aq Ar nq cq nr cr w5 hnr hrr hor hx5).1
     case measure=>exact (KEY.out Aq Ar nq cq nr cr w5 hnr hrr hor hx5).2
  ·have hb0:b=0:=m0.1 (by rw [←hm.out];omega)
   have e:Nat.gcd (nv xs) (nv ys)=a:=by rw [←hg.out,hb0,Nat.gcd_zero_right]
   have HE:=Lib.hid e
   clear e hb0
   go_wp2_with fail
   go_ret
   rw [HE.out]
   exact⟨A,n,cap,rfl,hn,hra,hoa,hr⟩
def sg (s:Bool)(m:Nat):Int:=if s then-(m:Int) else m
theorem lS (m:Nat):sg false m=m:=rfl
theorem sU (m:Nat):sg true m= -(m:Int):=rfl
theorem lB (s:Bool)(m:Nat):(sg s m).natAbs=m:=by cases s <;> simp [sg]
theorem BI (z:Int):sg (decide (z<0)) z.natAbs=z:=by
 by_cases h:z<0
 ·rw [decide_eq_true h,sU];omega
 ·rw [decide_eq_false h,lS];omega
theorem QJ (s:Bool):sg s 0=0:=by cases s <;> rfl
theorem xG:sg s m=0↔m=0:=by cases s <;> simp [sg]
theorem xF (s:Bool)(m:Nat):sg (!s) m= -sg s m:=by cases s <;> simp [sg]
theorem uP (s:Bool)(m:Nat):decide (sg s m<0)=(s&&decide (0<m)):=by
 cases s
 ·simp [sg]
 ·by_cases h:0<m
  ·simp [sg,h]
  ·have:m=0:=by omega
   subst this
   simp [sg]
theorem BJ (s:Bool)(m k:Nat):sg s (m+k)=sg s m+sg s k:=by cases s <;> simp [sg] <;> omega
theorem sV (h:k≤m):sg s (m-k)=sg s m+sg (!s) k:=by cases s <;> simp [sg] <;> omega
theorem G7 (s t:Bool)(m k:Nat):sg (s != t) (m*k)=sg s m*sg t k:=by
 cases s <;> cases t <;> simp [sg,Int.mul_neg,Int.neg_mul]
theorem BH (s t:Bool)(m k:Nat):sg (s != t) (m/k)=(sg s m).tdiv (sg t k):=by
 cases s <;> cases t <;> simp [sg,Int.tdiv_neg,Int.neg_tdiv]
theorem G6 (s t:Bool)(m k:Nat):sg s (m%k)=(sg s m).tmod (sg t k):=by
 cases s <;> cases t <;> simp [sg,Int.tmod_neg,Int.neg_tmod] <;> rfl
def ln (z:Int):Nat:=(wd z.natAbs).length
theorem dZ (h:x.natAbs≤y.natAbs):ln x≤ln y:=gK h
theorem g0 (x:Int):ln (-x)=ln x:=by unfold ln;rw [Int.natAbs_neg]
theorem dN (hx:ln x≤a)(hy:ln y≤b):ln (x+y)≤max a b+1:=by
 have h1:=gK (Int.natAbs_add_le x y)
 have h2:=vG x.natAbs y.natAbs
 unfold ln at*
 omega
theorem jT (hx:ln x≤a)(hy:ln y≤b):ln (x-y)≤max a b+1:=by
 rw [Int.sub_eq_add_neg]
 exact dN hx (by rw [g0];exact hy)
theorem cK (hx:ln x≤a)(hy:ln y≤b):ln (x*y)≤a+b:=by
 have h2:=vF x.natAbs y.natAbs
 unfold ln at*
 rw [Int.natAbs_mul]
 omega
theorem kP (m:Nat):ln (m:Int)=(wd m).length:=by unfold ln;rw [Int.natAbs_natCast]
theorem V1:ln 0=0:=rfl
theorem JI:ln 1=1:=by decide+kernel
def Zi (w:a6)(s:Bool)(A:Option aB)(n cap:Nat)(z:Int):Prop:=∃xs,Rd w A n cap xs∧sg s (nv xs)=z
theorem Zi.ext (h:Zi w s A n cap z)(e:Ext w w'):Zi w' s A n cap z:=by
 obtain⟨xs,h1,h2⟩:=h
 exact⟨xs,h1.ext e,h2⟩
theorem Zi.ln (h:Zi w s A n cap z):Go.Proofs.YtkepckmdjncehaaGreatDoor.ln z≤n:=by
 obtain⟨xs,h1,rfl⟩:=h
 have:=gJ h1.wf
 rw [h1.len] at this
 unfold Go.Proofs.YtkepckmdjncehaaGreatDoor.ln
 rw [lB]
 exact this
theorem Zi.not (h:Zi w s A n cap z):Zi w (!s) A n cap (-z):=by
 obtain⟨xs,h1,rfl⟩:=h
 exact⟨xs,h1,xF _ _⟩
structure Zr (w:a6)(base:Nat)(s:Bool)(A:Option aB)(n cap:Nat)(z:Int):Prop where
 sgn:s=decide (z<0)
 len:n=ln z
 own:Own w base 65 1 A n cap ((wd z.natAbs).map bF)
theorem Zr.rd (h:Zr w base s A n cap z):Rd w A n cap (wd z.natAbs):=h.own.rd (oS _)
theorem Zr.ext (h:Zr w base s A n cap z)(e:Ext w w'):Zr w' base s A n cap z:=⟨h.sgn,h.len,h.own.ext e⟩
theorem Zr.mono (h:Zr w base s A n cap z)(e:base'≤base):Zr w base' s A n cap z:=⟨h.sgn,h.len,h.own.mono e⟩
theorem Zr.zi (h:Zr w base s A n cap z):Zi w s A n cap z:=⟨_,h.rd,by rw [dA,h.sgn,BI]⟩
theorem Zr.upd (h:Zr w base s A n cap z)(hg:g<base)(e:Upd g w w'):Zr w' base s A n cap z:=
 ⟨h.sgn,h.len,h.own.upd e (fun a f=>by have:=(h.own.block a f).1;omega)⟩
theorem Zr.cast (h:Zr w base s A n cap z)(e:z=z'):Zr w base s A n cap z':=e▸h
theorem Zr.le (h:Zr w base s A n cap z)(hb:ln z≤b):n≤b:=by rw [h.len];exact hb
theorem Zr.ln_le (h:Zr w base s A n cap z)(hb:n≤b):ln z≤b:=by rw [←h.len];exact hb
theorem Zr.zero:Zr w base false none 0 0 0:=⟨by decide,rfl,Own.nil _ _ _ _⟩
def lR (w:a6)(z:Int)(e:dL)(w':a6):Prop:=
 ∃s A n cap,e= .returned (O s A n cap)∧Zr w' w.heap.size s A n cap z∧Ext w w'
def a0A (w:a6)(z:Int)(er:Int)(e:dL)(w':a6):Prop:=
 ∃s A n cap,e= .returned (.tuple #[O s A n cap,no er])∧Zr w' w.heap.size s A n cap z∧Ext w w'
def wB (w:a6)(q r:Int)(er:Int)(e:dL)(w':a6):Prop:=
 ∃s A n cap s' B m cap',e= .returned (.tuple #[O s A n cap,O s' B m cap',no er])∧Zr w' w.heap.size s A n cap q∧Zr w' w.heap.size s' B m cap' r∧Ext w w'
theorem jL (h:s'=decide (sg s m<0))(hn:n=(wd m).length)(ho:Own w base 65 1 A n cap ((wd m).map bF))(hz:sg s m=z):Zr w base s' A n cap z:=by
 have e:z.natAbs=m:=by rw [←hz,lB]
 rw [hz] at h
 exact⟨h,by unfold ln;rw [e];exact hn,by rw [e];exact ho⟩
theorem Bk.two {a b:aM}(h:Bk w g t [a,b]):w.cell? ⟨g,0,none⟩=some a∧w.cell? ⟨g,1,none⟩=some b∧w.frozen? ⟨g,0,none⟩=false∧w.frozen? ⟨g,1,none⟩=false:=
 ⟨h.cell (i:=0) (by simp),h.cell (i:=1) (by simp),h.frozen 0,h.frozen 1⟩
theorem Bk.two_set {a b:aM}(h:Bk w g t [a,b])(u v:aM):Bk ((w.setCell ⟨g,0,none⟩ u).setCell ⟨g,1,none⟩ v) g t [u,v]:=(h.set 0 u).set 1 v
theorem Upd.two (u v:aM):Upd g w ((w.setCell ⟨g,0,none⟩ u).setCell ⟨g,1,none⟩ v):=((Upd.refl g w).setCell 0 u).setCell 1 v
theorem Bk.sec {l:Array aM}{a b:aM}:Bk ((w.alloc (.cells l t')).alloc (.cells #[a,b] t)) (w.heap.size+1) t [a,b]:=by
 have:=Bk.new (w.alloc (.cells l t')) t [a,b]
 simpa using this
theorem Bk.thi {l:Array aM}{a b:aM}:Bk (((w.alloc (.cells l t')).alloc (.cells l' t'')).alloc (.cells #[a,b] t)) (w.heap.size+2) t [a,b]:=by
 have:=Bk.new ((w.alloc (.cells l t')).alloc (.cells l' t'')) t [a,b]
 simpa using this
theorem Bk.fou {t''':aS}{l l'':Array aM}{a b:aM}:Bk ((((w.alloc (.cells l t')).alloc (.cells l' t'')).alloc (.cells l'' t''')).alloc (.cells #[a,b] t)) (w.heap.size+3) t [a,b]:=by
 have:=Bk.new (((w.alloc (.cells l t')).alloc (.cells l' t'')).alloc (.cells l'' t''')) t [a,b]
 simpa using this
theorem DU (w:a6)(t t':aS)(a b c d:aM):∃g g2 wa,w.heap.size+1=g2∧w.heap.size=g∧(w.alloc (.cells #[a,b] t)).alloc (.cells #[c,d] t')=wa∧Bk wa g t [a,b]∧Bk wa g2 t' [c,d]∧Ext w wa∧g<g2∧g2<wa.heap.size∧g≠g2∧g2≠g:=
 ⟨_,_,_,rfl,rfl,rfl,(Bk.new w t [a,b]).alloc _,Bk.sec,((Ext.refl w).alloc _).alloc _,by omega,by simp,by omega,by omega⟩
theorem vW (w:a6)(t t' t'':aS)(a b c d e f:aM):∃g g2 g3 wa,w.heap.size+1+1=g3∧w.heap.size+1=g2∧w.heap.size=g∧((w.alloc (.cells #[a,b] t)).alloc (.cells #[c,d] t')).alloc (.cells #[e,f] t'')=wa∧Bk wa g t [a,b]∧Bk wa g2 t' [c,d]∧Bk wa g3 t'' [e,f]∧Ext w wa∧g<g2∧g2<g3∧g3<wa.heap.size∧g≠g2∧g2≠g∧g≠g3∧g3≠g∧g2≠g3∧g3≠g2:=
 ⟨_,_,_,_,rfl,rfl,rfl,rfl,((Bk.new w t [a,b]).alloc _).alloc _,Bk.sec.alloc _,Bk.thi,(((Ext.refl w).alloc _).alloc _).alloc _,by omega,by omega,by simp,by omega,by omega,by omega,by omega,by omega,by omega⟩
theorem vV (w:a6)(t t' t'' t''':aS)(a b c d e f i j:aM):∃g g2 g3 g4 wa,w.heap.size+1+1+1=g4∧w.heap.size+1+1=g3∧w.heap.size+1=g2∧w.heap.size=g∧(((w.alloc (.cells #[a,b] t)).alloc (.cells #[c,d] t')).alloc (.cells #[e,f] t'')).alloc (.cells #[i,j] t''')=wa∧Bk wa g t [a,b]∧Bk wa g2 t' [c,d]∧Bk wa g3 t'' [e,f]∧Bk wa g4 t''' [i,j]∧Ext w wa∧g<g2∧g2<g3∧g3<g4∧g4<wa.heap.size∧g≠g2∧g2≠g∧g≠g3∧g3≠g∧g2≠g3∧g3≠g2∧g≠g4∧g4≠g∧g2≠g4∧g4≠g2∧g3≠g4∧g4≠g3:=
 ⟨_,_,_,_,_,rfl,rfl,rfl,rfl,rfl,(((Bk.new w t [a,b]).alloc _).alloc _).alloc _,(Bk.sec.alloc _).alloc _,Bk.thi.alloc _,Bk.fou,((((Ext.refl w).alloc _).alloc _).alloc _).alloc _,by omega,by omega,by omega,by simp,by omega,by omega,by omega,by omega,by omega,by omega,by omega,by omega,by omega,by omega,by omega,by omega⟩
theorem lL {w2:a6}{x y:aM}(_hb:Bk w2 g T [x,y])(hz:Zr w2 base s A n cap z)(he:Ext w w2)(hg:g<base:=by omega)(hw:w.heap.size≤g:=by omega):lR w z (.returned (O s A n cap)) ((w2.setCell ⟨g,0,none⟩ (.bool s)).setCell ⟨g,1,none⟩ (we A n cap)):=
 ⟨s,A,n,cap,rfl,(hz.upd hg (Upd.two _ _)).mono (by omega),(Upd.two _ _).ext he hw⟩
theorem lU {a b:aM}{s:Tmp}(hf:fn.results= #[.cell s 24])(hs:tmps.getD s undef= i5 g 0)(h:Bk w g t [a,b]):(results fn tmps).run aN w= .ok (.agg #[a,b]) w:=by
 obtain⟨h1,h2,_,_⟩:=h.two
 have hs2:tmps[s]?.getD undef= i5 g 0:=by simpa using hs
 simp [results,hf,hs2,loadVar,loadCells,loadCellsFrom,go_sem,h1,h2]
def bE (x y:Int):Int:=if x<y then-1 else if x=y then 0 else 1
theorem GC (x y:Int): -1≤bE x y∧bE x y≤1:=by unfold bE;split <;> (try split) <;> omega
theorem pH:bE x y<0↔x<y:=by unfold bE;split <;> (try split) <;> omega
theorem kA:bE x y=0↔x=y:=by unfold bE;split <;> (try split) <;> omega
theorem qV:0<bE x y↔y<x:=by unfold bE;split <;> (try split) <;> omega
def E9 (v:Int)(w:a6)(e:dL)(w':a6):Prop:=∃c:Int,Hid (c=v)∧ -1≤c∧c≤1∧e= .returned (no c)∧Ext w w'
theorem kZ (hn:n=(wd m).length):aP aN 124 #[.bool s,we A n cap] w fun e w'=>∃s',e= .returned (O s' A n cap)∧Hid (s'=decide (sg s m<0))∧Ext w w':=by
 have hm:decide (0<m)=decide (0<n):=by
  by_cases h:m=0
  ·rw [h] at hn⊢;rw [hn];rfl
  ·have:n≠0:=fun e=>h (m0.1 (by rw [←hn,e]))
   rw [decide_eq_true (show 0<m by omega),decide_eq_true (show 0<n by omega)]
 have HM:Hid (decide (sg s m<0)=(s&&decide (0<n))):=(show _=_ by rw [uP,hm])
 clear hm hn
 go_enter Tryz.func124,Tryz.ntmps124
 cases s
 ·go_wp2_with fail
  refine fO (v:= O false A n cap) (by simp [results,Tryz.results124,go_sem]) J ?_
  exact⟨_,rfl,(show _=_ by rw [HM.out];rfl),(Ext.refl w).alloc _⟩
 ·by_cases h:n=0
  ·subst h
   go_wp2_with fail
   refine fO (v:= O false A 0 cap) (by simp [results,Tryz.results124,go_sem]) J ?_
   exact⟨_,rfl,(show _=_ by rw [HM.out];rfl),(Ext.refl w).alloc _⟩
  ·have h0:0<n:=by omega
   have hd:decide (0<n)=true:=decide_eq_true h0
   have hi:0<(n:Int):=by omega
   go_wp2_with fail
   refine fO (v:= O true A n cap) (by simp [results,Tryz.results124,go_sem]) J ?_
   exact⟨_,rfl,(show _=_ by rw [HM.out,hd];rfl),(Ext.refl w).alloc _⟩
theorem AP (hx:Zi w s A n cap x)(hl:n≤68719476736):aP aN 66 #[O s A n cap] w (lR w (-x)):=by
 obtain⟨xs,hr,rfl⟩:=hx
 go_enter Tryz.func66,Tryz.ntmps66
 go_upto_region 1 with (fail)
 obtain⟨g,g2,wa,hg2,hg,hwa,hb1,hb2,hea,l12,l2,n12,n21⟩:=DU w 24 24 (.bool s) (we A n cap) (AS) (we none 0 0)
 rw [hg2,hg,hwa]
 have hgw:w.heap.size≤g:=Nat.le_of_eq hg
 clear hwa hg hg2
 obtain⟨f1,f2,f3,f4⟩:=hb1.two
 obtain⟨k1,k2,k3,k4⟩:=hb2.two
 go_region_held3 (fun w'=>w'.cell? ⟨g,0,none⟩=some (.bool s)∧w'.cell? ⟨g,1,none⟩=some (we A n cap)) (go_keep)
  (first
  | (go_at_call 141;refine (jB (hr.ext (by repeat (first | exact Ext.refl _ | assumption | apply Ext.drewN | apply Ext.drew | apply Ext.alloc)))).mono ?_;rintro e w1 ⟨A1,n1,c1,rfl,hn1,hr1,ho1,hx1⟩;have he1:Ext wa w1:=Ext.trans (by repeat (first | exact Ext.refl _ | assumption | apply Ext.drewN | apply Ext.drew | apply Ext.alloc)) hx1;have hc1:=hb1.ext he1;have hc2:=hb2.ext he1;obtain⟨f1',f2',f3',f4'⟩:=hc1.two;obtain⟨k1',k2',k3',k4'⟩:=hc2.two)
  | (go_at_call 124;refine (kZ hn1.out).mono ?_;rintro e w2 ⟨s',rfl,hs',hx2⟩;have hd1:=hc1.ext hx2;have hd2:=hc2.ext hx2;obtain⟨f1'',f2'',f3'',f4''⟩:=hd1.two;obtain⟨k1'',k2'',k3'',k4''⟩:=hd2.two))
 go_wp2_with fail
 refine fO (lU J J (hd2.two_set _ _)) J ?_
 exact lL hd2 ((jL hs'.out hn1.out ho1 (xF _ _)).ext hx2) (hea.trans (he1.trans hx2)) (hg:=(by first | omega | (simp;omega)))
theorem NO (hx:Zi w s A n cap x)(hl:n≤68719476736):aP aN 67 #[O s A n cap] w (lR w (x.natAbs:Int)):=by
 obtain⟨xs,hr,rfl⟩:=hx
 go_enter Tryz.func67,Tryz.ntmps67
 go_upto_region 1 with (fail)
 obtain⟨g,g2,wa,hg2,hg,hwa,hb1,hb2,hea,l12,l2,n12,n21⟩:=DU w 24 24 (.bool s) (we A n cap) (AS) (we none 0 0)
 rw [hg2,hg,hwa]
 have hgw:w.heap.size≤g:=Nat.le_of_eq hg
 clear hwa hg hg2
 obtain⟨f1,f2,f3,f4⟩:=hb1.two
 go_wp2_with fail
 refine (jB (hr.ext hea)).mono ?_
 rintro e w1 ⟨A1,n1,c1,rfl,hn1,hr1,ho1,hx1⟩
 have hc2:=hb2.ext hx1
 go_wp2_with fail
 refine (kZ hn1.out).mono ?_
 rintro e w2 ⟨s',rfl,hs',hx2⟩
 have hd2:=hc2.ext hx2
 obtain⟨k1,k2,k3,k4⟩:=hd2.two
 go_wp2_with fail
 refine fO (lU J J (hd2.two_set _ _)) J ?_
 exact lL hd2 ((jL hs'.out hn1.out ho1 (by rw [lB,lS])).ext hx2) (hea.trans (hx1.trans hx2))
theorem ER {t:Bool}(hx:Zi w s A n cap x)(hl:n≤68719476736)(hy:Zi w t B m cap' y)(hl':m≤68719476736):aP aN 39 #[O s A n cap,O t B m cap'] w (lR w (x*y)):=by
 obtain⟨xs,hr,rfl⟩:=hx
 obtain⟨ys,hq,rfl⟩:=hy
 go_enter Tryz.func39,Tryz.ntmps39
 go_upto_region 1 with (fail)
 obtain⟨g,g2,g3,wa,hg3,hg2,hg,hwa,hb1,hb2,hb3,hea,l12,l23,l3,n12,n21,n13,n31,n23,n32⟩:=vW w 24 24 24 (.bool s) (we A n cap) (.bool t) (we B m cap') (AS) (we none 0 0)
 rw [hg3,hg2,hg,hwa]
 have hgw:w.heap.size≤g:=Nat.le_of_eq hg
 clear hwa hg hg2 hg3
 obtain⟨f1,f2,f3,f4⟩:=hb1.two
 obtain⟨h1,h2,h3,h4⟩:=hb2.two
 obtain⟨k1,k2,k3,k4⟩:=hb3.two
 go_region_held3 (fun w'=>w'.cell? ⟨g,0,none⟩=some (.bool s)∧w'.cell? ⟨g,1,none⟩=some (we A n cap)∧w'.cell? ⟨g2,0,none⟩=some (.bool t)∧w'.cell? ⟨g2,1,none⟩=some (we B m cap')) (go_keep)
  (first
  | (go_at_call 125;refine (vD (hr.ext (by repeat (first | exact Ext.refl _ | assumption | apply Ext.drewN | apply Ext.drew | apply Ext.alloc))) (hq.ext (by repeat (first | exact Ext.refl _ | assumption | apply Ext.drewN | apply Ext.drew | apply Ext.alloc)))).mono ?_;rintro e w1 ⟨A1,n1,c1,rfl,hn1,hr1,ho1,hx1⟩;have he1:Ext wa w1:=Ext.trans (by repeat (first | exact Ext.refl _ | assumption | apply Ext.drewN | apply Ext.drew | apply Ext.alloc)) hx1;have hc1:=hb1.ext he1;have hc2:=hb2.ext he1;have hc3:=hb3.ext he1;obtain⟨f1',f2',f3',f4'⟩:=hc1.two;obtain⟨h1',h2',h3',h4'⟩:=hc2.two;obtain⟨k1',k2',k3',k4'⟩:=hc3.two)
  | (go_at_call 124;refine (kZ hn1.out).mono ?_;rintro e w2 ⟨s',rfl,hs',hx2⟩;have hd1:=hc1.ext hx2;have hd2:=hc2.ext hx2;have hd3:=hc3.ext hx2;obtain⟨f1'',f2'',f3'',f4''⟩:=hd1.two;obtain⟨h1'',h2'',h3'',h4''⟩:=hd2.two;obtain⟨k1'',k2'',k3'',k4''⟩:=hd3.two))
 go_wp2_with fail
 refine fO (lU J J (hd3.two_set _ _)) J ?_
 exact lL hd3 ((jL hs'.out hn1.out ho1 (G7 _ _ _ _)).ext hx2) (hea.trans (he1.trans hx2)) (hg:=(by first | omega | (simp;omega)))
theorem uH (hx:Zi w s A n cap x)(hl:n≤68719476736):aP aN 63 #[O s A n cap] w (E9 (bE x 0) w):=by
 obtain⟨xs,hr,rfl⟩:=hx
 go_enter Tryz.func63,Tryz.ntmps63
 go_upto_region 1 with (fail)
 have hb1:=Bk.new w 24 (a5 s A n cap)
 obtain⟨wa,hwa⟩:∃wa,w.alloc (.cells #[.bool s,.slice A n cap] 24)=wa:=⟨_,rfl⟩
 rw [hwa]
 obtain⟨g,hg⟩:∃g,w.heap.size=g:=⟨_,rfl⟩
 rw [hg] at hb1⊢
 have hb1':Bk wa g 24 (a5 s A n cap):=by rw [←hwa];exact hb1
 have hea:Ext w wa:=by rw [←hwa];exact (Ext.refl w).alloc _
 clear hwa hg hb1
 obtain⟨f1,f2,f3,f4⟩:=hb1'.two
 go_wp2_with fail
 refine (xZ (hr.ext hea) (by omega)).mono ?_
 rintro e w1 ⟨b,hb,rfl,hx1'⟩
 have hx1:=hea.trans hx1'
 obtain⟨f1',f2',f3',f4'⟩:=(hb1'.ext hx1').two
 by_cases h0:b=0
 ·subst h0
  have hz:nv xs=0:=nO.1 hb.out.symm
  have HZ:=Lib.hid hz
  clear hz
  go_wp2_with fail
  go_ret
  exact⟨0,(show _=_ by rw [HZ.out,QJ];rfl),by omega,by omega,rfl,hx1⟩
 ·have bb:((b:Int)==0)=false:=by simp;omega
  have hz:0<nv xs:=Nat.pos_of_ne_zero (fun e=>h0 (by rw [hb.out,e];rfl))
  have HZ:=Lib.hid hz
  clear hz h0
  cases s
  ·go_wp2_with fail
   go_ret
   refine⟨1,?_,by omega,by omega,rfl,hx1⟩
   show _=_
   rw [lS,bE,if_neg (by omega),if_neg (by have:=HZ.out;omega)]
  ·go_wp2_with fail
   go_ret
   refine⟨-1,?_,by omega,by omega,rfl,hx1⟩
   show _=_
   rw [sU,bE,if_pos (by have:=HZ.out;omega)]
def sC (b:Bool)(w:a6)(e:dL)(w':a6):Prop:=e= .returned (.bool b)∧Ext w w'
theorem SG (hx:Rd w A n cap xs)(hl:n≤1099511627776)(hy:Rd w B n' cap' ys)(hl':n'≤1099511627776):aP aN 108 #[we A n cap,we B n' cap'] w (sC (decide (xs=ys)) w):=by
 have hlx:=Lib.hid hx.len
 have hly:=Lib.hid hy.len
 by_cases hn:n=n'
 ·subst hn
  have h1:((n:Int) != (n:Int))=false:=by simp
  go_enter Tryz.func108,Tryz.ntmps108
  go_wp2_with fail
  go_loopw [5] (fun u wr=>∃i:Nat,i≤n∧u= no (i:Int)∧Hid (xs.take i=ys.take i)∧Ext w wr) (fun u wr=>n-(intOf u).toNat)
  case atStart=>exact⟨0,bJ _,rfl,rfl,Ext.refl w⟩
  case round=>
   obtain⟨i,hi,rfl,hv,hext⟩:=hrel
   by_cases h0:i<n
   ·obtain⟨a,p,rfl,hxk,hxb,hc⟩:=(hx.ext hext).get (i:=i) (by omega)
    obtain⟨b,q,rfl,hyk,hyb,hd⟩:=(hy.ext hext).get (i:=i) (by omega)
    by_cases hpq:p=q
    ·subst hpq
     have h2:((p:Int) != (p:Int))=false:=by simp
     go_wp2_with fail
     go_quiet (fail)
     go_wp2_with fail
     go_roundw
     case rel=>
      refine⟨i+1,by omega,by go_num,?_,(by repeat (first | exact Ext.refl _ | assumption | apply Ext.drewN | apply Ext.drew | apply Ext.alloc))⟩
      show _=_
      rw [uM xs i (by rw [hlx.out];omega) 0,uM ys i (by rw [hly.out];omega) 0,hv.out,hxk.out,hyk.out]
     case measure=>simp [intOf];omega
    ·have h2:((p:Int) != (q:Int))=true:=by simp;omega
     go_wp2_with fail
     go_quiet (fail)
     go_wp2_with fail
     go_ret
     have hne:decide (xs=ys)=false:=by
      refine decide_eq_false (fun e=>hpq ?_)
      rw [←hxk.out,←hyk.out,e]
     rw [hne]
     exact⟨rfl,(by repeat (first | exact Ext.refl _ | assumption | apply Ext.drewN | apply Ext.drew | apply Ext.alloc))⟩
   ·go_wp2_with fail
    go_ret
    have he:decide (xs=ys)=true:=by
     refine decide_eq_true ?_
     have h:=hv.out
     rwa [List.take_of_length_le (by rw [hlx.out];omega),List.take_of_length_le (by rw [hly.out];omega)] at h
    rw [he]
    exact⟨rfl,hext⟩
 ·have h1:((n:Int) != (n':Int))=true:=by simp;omega
  go_enter Tryz.func108,Tryz.ntmps108
  go_wp2_with fail
  go_ret
  have hne:decide (xs=ys)=false:=decide_eq_false (fun e=>hn (by rw [←hlx.out,←hly.out,e]))
  rw [hne]
  exact⟨rfl,Ext.refl w⟩
theorem Own.updT {s:Nat}(h:Own w base t s A n cap vs)(hb:Bk w g T us)(hT:t≠T)(e:Upd g w w'):Own w' base t s A n cap vs:=by
 refine h.upd e (fun a f hg=>?_)
 rcases h with⟨h,_⟩ | ⟨k,cs,p,_,o,_⟩
 ·rw [h] at f;cases f
 ·rw [p] at f
  cases f
  simp only at hg
  subst hg
  unfold Bk at o hb
  rw [o] at hb
  injection hb with hb
  injection hb with h1 h2
  exact hT h2
theorem Zr.updT (h:Zr w base s A n cap z)(hb:Bk w g T us)(e:Upd g w w')(hT:65≠T:=by decide):Zr w' base s A n cap z:=
 ⟨h.sgn,h.len,h.own.updT hb hT e⟩
theorem Bk.updN (h:Bk w g T vs)(e:Upd g' w w')(hne:g≠g'):Bk w' g T vs:=h.upd e hne
theorem Bk.vN (h:Bk w g T vs)(e:Upd g' w w')(hne : g≠g' := by omega):Bk w' g T vs := h.updN e hne
theorem tG (x:Int):ln (x.natAbs:Int)=ln x:=by unfold ln;rw [Int.natAbs_natCast]
theorem GB (h:x=y):cG .eql (bE x y) 0=some true:=by
 have e:bE x y=0:=kA.2 h
 rw [e];rfl
theorem qW (h:x≠y):cG .eql (bE x y) 0=some false:=by
 have e:¬bE x y=0:=fun e=>h (kA.1 e)
 simp only [cG,eB,beq_eq_false_iff_ne,ne_eq];exact e
theorem lT (h:x≠y):cG .neq (bE x y) 0=some true:=by
 have e:¬bE x y=0:=fun e=>h (kA.1 e)
 simp only [cG,eB,bne_iff_ne,ne_eq];exact e
theorem lC (h:x=y):cG .neq (bE x y) 0=some false:=by
 have e:bE x y=0:=kA.2 h
 rw [e];rfl
theorem sW (h:x<y):cG .lss (bE x y) 0=some true:=by
 have e:=pH.2 h
 simp only [cG,eB,decide_eq_true_eq];exact e
theorem sX (h:y≤x:=by omega):cG .lss (bE x y) 0=some false:=by
 have e:¬bE x y<0:=fun e=>by have:=pH.1 e;omega
 simp only [cG,eB,decide_eq_false_iff_not];exact e
theorem G9 (h:x≤y):cG .leq (bE x y) 0=some true:=by
 have e:¬0<bE x y:=fun e=>by have:=qV.1 e;omega
 simp only [cG,eB,decide_eq_true_eq];omega
theorem BL (h:y<x):cG .leq (bE x y) 0=some false:=by
 have e:=qV.2 h
 simp only [cG,eB,decide_eq_false_iff_not];omega
theorem uQ (h:y<x):cG .gtr (bE x y) 0=some true:=by
 have e:=qV.2 h
 simp only [cG,eB,decide_eq_true_eq];exact e
theorem oF (h:x≤y:=by omega):cG .gtr (bE x y) 0=some false:=by
 have e:¬0<bE x y:=fun e=>by have:=qV.1 e;omega
 simp only [cG,eB,decide_eq_false_iff_not];exact e
theorem QO (h:y≤x):cG .geq (bE x y) 0=some true:=by
 have e:¬bE x y<0:=fun e=>by have:=pH.1 e;omega
 simp only [cG,eB,decide_eq_true_eq];omega
theorem QP (h:x<y):cG .geq (bE x y) 0=some false:=by
 have e:=pH.2 h
 simp only [cG,eB,decide_eq_false_iff_not];omega
structure AggT (P:bW)(T:aS)(k:Nat):Prop where
 agg:∀w,(isAgg T).run P w= .ok true w
 size:∀w,(sizeOf T).run P w= .ok k w
theorem BS (h:w.cell? p=some v):(load p).run P w= .ok v w:=by
 simp only [load,Sem.run,h]
theorem BO (h:w.cell? p=some u)(hf:w.frozen? p=false)(h1:v.oneCell'=true):(store p v).run P w= .ok () (w.setCell p v):=by
 rw [run_store P w p v .plain h1,h,hf];rfl
theorem xM {P:bW}{w:a6}{p:aB}:∀(vs:List aM) (i:Nat) (acc:Array aM),(∀j,j<vs.length→w.cell? (p.add (i+j))=some (vs.getD j undef))→
  (loadCellsFrom p i vs.length acc).run P w= .ok (acc++vs.toArray) w
 | [],i,acc,_=>by simp [loadCellsFrom]
 | v::vs,i,acc,h=>by
  have h0:=h 0 (by simp)
  simp only [fC,List.getD_cons_zero] at h0
  have ih:=xM (P:=P) (p:=p) vs (i+1) (acc.push v) (fun j f=>by
   have:=h (j+1) (by simpa using f)
   rw [show i+1+j=i+(j+1) by omega]
   simpa using this)
  show ((load (p.add i)>>=fun v=>loadCellsFrom p (i+1) vs.length (acc.push v):Sem (Array aM))).run P w=_
  have e:(load (p.add i)).run P w= .ok v w:=BS h0
  rw [cE,e]
  simp only [eY,ih]
  simp
theorem bH (hT:AggT P T k)(hb:Bk w g T' vs)(us:List aM)(hu:us.length=k)(hle:off+k≤vs.length)(he:(vs.drop off).take k=us):(loadVar T ⟨g,off,none⟩).run P w= .ok (.agg us.toArray) w:=by
 subst hu
 have h1:=xM (P:=P) (w:=w) (p:=⟨g,off,none⟩) us 0 #[] (fun j e=>by
  rw [eJ,kV,hb.cell (by omega)]
  congr 1
  rw [←he]
  simp only [bK,kY,oZ]
  rw [if_pos e])
 unfold loadVar loadCells
 rw [cE,hT.agg w]
 simp only [eY,if_true,cE,hT.size w,h1]
 simp
theorem bM (hT:∀w,(isAgg T).run P w= .ok false w)(hb:Bk w g T' vs)(hv:vs[i]?=some v):(loadVar T ⟨g,i,none⟩).run P w= .ok v w:=by
 have hi:i<vs.length:=(gY.1 hv).1
 have e:=hb.cell hi
 rw [bK,hv] at e
 unfold loadVar
 rw [cE,hT w]
 simp only [eY,EL,if_false]
 exact BS e
def jA (vs:List aM)(off:Nat)(us:List aM):List aM:=vs.take off++us++vs.drop (off+us.length)
theorem BD {P:bW}{g:Nat}{T:aS}:∀(us:List aM) (i off:Nat) (w:a6) (vs:List aM),Bk w g T vs→off+i+us.length≤vs.length→(∀u∈us,u.oneCell'=true)→
  ∃w',(storeCells ⟨g,off,none⟩ us i).run P w= .ok () w'∧Bk w' g T (jA vs (off+i) us)∧Upd g w w'∧w'.heap.size=w.heap.size
 | [],i,off,w,vs,hb,_,_=>⟨w,rfl,by simpa [jA] using hb,Upd.refl g w,rfl⟩
 | u::us,i,off,w,vs,hb,hle,h1=>by
  have hi:off+i<vs.length:=by simp at hle;omega
  have q:=hb.cell hi
  have hf:=hb.frozen (off+i)
  have f:=hb.set (off+i) u
  obtain⟨w',hr,h,o,hs⟩:=BD (P:=P) us (i+1) off (w.setCell ⟨g,off+i,none⟩ u) (vs.set (off+i) u) f (by simp at hle⊢;omega) (fun x hx=>h1 x (by simp [hx]))
  refine⟨w',?_,?_,((Upd.refl g w).setCell (off+i) u).trans o,by rw [hs];simp [sD]⟩
  ·show ((store ((⟨g,off,none⟩:aB).add i) u>>=fun _=>storeCells ⟨g,off,none⟩ us (i+1):Sem Unit)).run P w=_
   rw [kV,cE,BO q hf (h1 u (by simp))]
   exact hr
  ·have e:jA (vs.set (off+i) u) (off+(i+1)) us=jA vs (off+i) (u::us):=by
    unfold jA
    have p:(vs.set (off+i) u).take (off+(i+1))=vs.take (off+i)++ [u]:=by
     rw [show off+(i+1)=off+i+1 by omega,uM _ _ (by simpa using hi) undef,List.take_set_of_le (aZ _)]
     congr 2
     rw [bK,List.getElem?_set_self hi];rfl
    rw [p,List.drop_set_of_lt (by omega)]
    simp only [eN,List.append_assoc,uE,List.nil_append]
    rw [show off+(i+1)+us.length=off+i+(us.length+1) by omega]
   rw [←e];exact h
theorem iJ (hT:AggT P T k)(hk:us.length=k)(hb:Bk w g T' vs)(hle:off+k≤vs.length)(h1:us.all (·.oneCell')=true)(us':List aM)(he:jA vs off us=us'):∃w',(storeVar T ⟨g,off,none⟩ (.agg us.toArray)).run P w= .ok () w'∧Bk w' g T' us'∧Upd g w w'∧w'.heap.size=w.heap.size:=by
 subst hk
 obtain⟨w',hr,f,h,hs⟩:=BD (P:=P) us 0 off w vs hb (by omega) (by simpa [fV] using h1)
 rw [fC,he] at f
 refine⟨w',?_,f,h,hs⟩
 unfold storeVar
 rw [cE]
 show ((sizeOf T).run P w).andThen _=_
 rw [hT.size w]
 have e:(Value.agg us.toArray).cells=us.toArray:=rfl
 simp only [eY,e,AE,ne_eq,not_true,if_false]
 exact hr
theorem F3 {Q:dI→Act→a6→Prop}{l:Fr}(hw:dB ops l gd=some true){x y:cN}(hx:bV l x=some (i5 g off))(hy:bV l y=some (.agg us.toArray))(hT:AggT P T k)(hk:us.length=k)(hb:Bk w g T' vs)(hle:off+k≤vs.length)(h1:us.all (·.oneCell')=true)(us':List aM)(he:jA vs off us=us')(h:∀w',Bk w' g T' us'→Upd g w w'→w'.heap.size=w.heap.size→wl P ops Q n rest l w'):wl P ops Q n (⟨none,.store T x y,ty,pos,af,gd⟩::rest) l w:=by
 obtain⟨w',hr,e,f,hs⟩:=iJ (P:=P) hT hk hb hle h1 us' he
 exact AW hw (p:=⟨g,off,none⟩) hx hy (w':=w') hr (h w' e f hs)
theorem dE {Q:dI→Act→a6→Prop}{l:Fr}(hw:dB ops l gd=some true){x y:cN}(hx:bV l x=some (i5 g off))(hy:bV l y=some v)(hT:∀w,(sizeOf T).run P w= .ok 1 w)(hv:v.cells= #[v])(hb:Bk w g T' vs)(hle:off<vs.length)(h1:v.oneCell'=true)(us':List aM)(he:vs.set off v=us')(h:∀w',Bk w' g T' us'→Upd g w w'→w'.heap.size=w.heap.size→wl P ops Q n rest l w'):wl P ops Q n (⟨none,.store T x y,ty,pos,af,gd⟩::rest) l w:=by
 have e:=hb.set off v
 rw [he] at e
 refine AW hw (p:=⟨g,off,none⟩) hx hy (w':=w.setCell ⟨g,off,none⟩ v) ?_ (h _ e ((Upd.refl g w).setCell off v) (by simp [sD]))
 unfold storeVar
 rw [cE]
 show ((sizeOf T).run P w).andThen _=_
 rw [hT w]
 simp only [eY,hv,AE,eN,List.length_nil,ne_eq,not_true,eJ,if_false]
 show ((store ((⟨g,off,none⟩:aB).add 0) v>>=fun _=>storeCells ⟨g,off,none⟩ [] (0+1):Sem Unit)).run P w=_
 rw [kV,fC,cE,BO (hb.cell hle) (hb.frozen off) h1]
 rfl
section
variable {P:bW}{Q:dI→Act→a6→Prop}{n:Nat}{l:Fr}{w:a6}{ops:Array bD}{rest:List bD}{d:Nat}{ty:aS}{pos:String}{af:Array fP}{gd:Option (Nat×Bool)}
theorem GN {s:Nat}{a:aB}{k:iN}{i:Int}(hT:P.underlying t=some (.slice e))(hs:∀w,(sizeOf e).run P w= .ok s w)(h0:0≤i)(h1:i<m):(Instr.indexAt t (we (some a) m c) (.int k i)).run P w= .ok (.pointer (some (a.add (i.toNat*s)))) w:=by
 have f:(underlying t).run P w= .ok (.slice e) w:=m8 hT w
 unfold Instr.indexAt
 simp only [asIntOf,cE,gT,eY,f]
 rw [if_pos ⟨h0,h1⟩]
 simp only [cE,hs w,eY,gT]
theorem wX (hw:dB ops l gd=some true){x y:cN}{s:Nat}{a:aB}{k:iN}{i:Int}(hx:bV l x=some (we (some a) m c))(hy:bV l y=some (.int k i))(hT:P.underlying t=some (.slice e))(hs:∀w,(sizeOf e).run P w= .ok s w)(p:aB)(hp:a.add (i.toNat*s)=p)(h:wl P ops Q n rest ((d,.pointer (some p))::l) w)(h0:0≤i:=by omega)(h1:i<m:=by omega)(hn:d<n:=by decide):wl P ops Q n (⟨some d,.indexAddr t x y,ty,pos,af,gd⟩::rest) l w:=
 fW hw hn (fun a' f=>by
  have e:(Instr.indexAt t (a'.eval x) (a'.eval y)).run P w= .ok (.pointer (some p)) w:=by rw [f.ev hx,f.ev hy,←hp];exact GN hT hs h0 h1
  show ((Instr.indexAt t (a'.eval x) (a'.eval y)>>=fun r=>pure (fZ r):Sem fI)).run P w=_
  rw [cE,e];rfl) h
def IL (v:Option aM)(k:Nat)(dflt:Nat):Prop:=(v=none∧k=dflt)∨v=some (no (k:Int))
theorem uT {k:BoundsCode}(h:i≤cap):(Instr.sliceBound (no (i:Int)) cap k).run P w= .ok i w:=by
 unfold Instr.sliceBound
 simp only [asIntOf,cE,gT,eY]
 rw [if_pos ⟨by omega,by omega⟩]
 rfl
theorem RJ {s lo:Nat}(hT:P.underlying t=some (.slice e))(hs:∀w,(sizeOf e).run P w= .ok s w)(h1:IL low lo 0)(h2:IL high hi m)(h3:lo≤hi)(h4:hi≤c):(Instr.sliceAt t (we A m c) low high none).run P w= .ok (we (if c=lo then A else A.map (·.add (lo*s))) (hi-lo) (c-lo)) w:=by
 have f:(underlying t).run P w= .ok (.slice e) w:=m8 hT w
 have hb:(Instr.sliceBounds true m c low high none).run P w= .ok (lo,hi,c) w:=by
  unfold Instr.sliceBounds
  rcases h1 with⟨rfl,rfl⟩ | rfl <;> rcases h2 with⟨rfl,rfl⟩ | rfl
  ·simp only [cE,gT,eY]
  ·simp only [cE,gT,eY,uT h4,if_true]
  ·simp only [cE,gT,eY,Option.isSome,uT h3]
  ·simp only [cE,gT,eY,Option.isSome,uT h4,uT h3,if_true]
 unfold Instr.sliceAt
 simp only [cE,f,eY]
 unfold Instr.slice
 simp only [cE,f,eY,hb,hs w,gT]
theorem mI (hw:dB ops l gd=some true){x:cN}{s lo:Nat}(hx:bV l x=some (we A m c))(hT:P.underlying t=some (.slice e))(hs:∀w,(sizeOf e).run P w= .ok s w)(h1:match lo' with | none=>lo=0 | some y=>bV l y=some (no (lo:Int)))(h2:match hi' with | none=>hi=m | some y=>bV l y=some (no (hi:Int)))(h3:lo≤hi)(h4:hi≤c)(hv:sF (if c=lo then A else A.map (·.add (lo*s))) (hi-lo) (c-lo)=v)(hn:d<n)(h:wl P ops Q n rest ((d,v)::l) w):wl P ops Q n (⟨some d,.slice t x lo' hi' none,ty,pos,af,gd⟩::rest) l w:=
 fW hw hn (fun a' f=>by
  have e:(Instr.sliceAt t (a'.eval x) (lo'.map a'.eval) (hi'.map a'.eval) (Option.map a'.eval none)).run P w= .ok v w:=by
   rw [f.ev hx,←hv]
   refine RJ hT hs ?_ ?_ h3 h4
   ·cases lo' with
    | none=>exact cH ⟨rfl,h1⟩
    | some y=>exact cO (by show some (a'.eval y)=_;rw [f.ev h1])
   ·cases hi' with
    | none=>exact cH ⟨rfl,h2⟩
    | some y=>exact cO (by show some (a'.eval y)=_;rw [f.ev h2])
  show ((Instr.sliceAt t (a'.eval x) (lo'.map a'.eval) (hi'.map a'.eval) (Option.map a'.eval none)>>=fun r=>pure (fZ r):Sem fI)).run P w=_
  rw [cE,e];rfl) h
theorem yC (hT:AggT P T k)(us:List aM)(hu:us.length=k)(hc:∀j,j<us.length→w.cell? (p.add j)=some (us.getD j undef)):(loadVar T p).run P w= .ok (.agg us.toArray) w:=by
 subst hu
 have h1:=xM (P:=P) (w:=w) (p:=p) us 0 #[] (fun j e=>by rw [eJ];exact hc j e)
 unfold loadVar loadCells
 rw [cE,hT.agg w]
 simp only [eY,if_true,cE,hT.size w,h1]
 simp
theorem dF (hT:∀w,(isAgg T).run P w= .ok false w)(hc:w.cell? p=some v):(loadVar T p).run P w= .ok v w:=by
 unfold loadVar
 rw [cE,hT w]
 simp only [eY,EL,if_false]
 exact BS hc
end
theorem a0s (a:aB):a.add 0=a:=by simp [mZ]
theorem JB (h:i<n):cG .lss (i:Int) (n:Int)=some true:=by simp only [cG,eB,decide_eq_true_eq];omega
theorem JC (h:n≤i):cG .lss (i:Int) (n:Int)=some false:=by simp only [cG,eB,decide_eq_false_iff_not];omega
theorem rN {a b:Int}(h:b≤a:=by omega):cG .geq a b=some true:=by simp only [cG,eB,decide_eq_true_eq];omega
theorem kQ {a b:Int}(h:a<b:=by omega):cG .geq a b=some false:=by simp only [cG,eB,decide_eq_false_iff_not];omega
theorem vE {a b:Int}(h:a<b):cG .lss a b=some true:=by simp only [cG,eB,decide_eq_true_eq];omega
theorem rD {a b:Int}(h:b≤a:=by omega):cG .lss a b=some false:=by simp only [cG,eB,decide_eq_false_iff_not];omega
theorem vK {a b:Int}(h:b<a):cG .gtr a b=some true:=by simp only [cG,eB,decide_eq_true_eq];omega
theorem oN {a b:Int}(h:a≤b:=by omega):cG .gtr a b=some false:=by simp only [cG,eB,decide_eq_false_iff_not];omega
theorem JS {a b:Int}(h:a≤b):cG .leq a b=some true:=by simp only [cG,eB,decide_eq_true_eq];omega
theorem JT {a b:Int}(h:b<a):cG .leq a b=some false:=by simp only [cG,eB,decide_eq_false_iff_not];omega
theorem eP {a b:Int}(h:a=b):cG .eql a b=some true:=by subst h;simp [cG]
theorem fA {a b:Int}(h:a≠b):cG .eql a b=some false:=by simp only [cG,eB,beq_eq_false_iff_ne,ne_eq];exact h
theorem nF {a b:Int}(h:a≠b:=by omega):cG .neq a b=some true:=by simp only [cG,eB,bne_iff_ne,ne_eq];exact h
theorem lI {a b:Int}(h:a=b):cG .neq a b=some false:=by subst h;simp [cG]
theorem tT {a b c:Int}(h:a+b=c:=by omega)(h1: -9223372036854775808≤c:=by omega)(h2:c≤9223372036854775807:=by omega):fN .add .i64 a b=some c:=by
 simp only [fN,eB];rw [h];exact IntWalk.i64_in _ ⟨h1,h2⟩
theorem eL {a b c:Int}(h:a-b=c)(h1: -9223372036854775808≤c:=by omega)(h2:c≤9223372036854775807:=by omega):fN .sub .i64 a b=some c:=by
 simp only [fN,eB];rw [h];exact IntWalk.i64_in _ ⟨h1,h2⟩
theorem vX {a b c:Int}(h:a*b=c)(h1: -9223372036854775808≤c)(h2:c≤9223372036854775807):fN .mul .i64 a b=some c:=by
 simp only [fN,eB];rw [h];exact IntWalk.i64_in _ ⟨h1,h2⟩
theorem a0p {a b c:Int}(hb:b≠0)(h:a.tdiv b=c)(h1: -9223372036854775808≤c)(h2:c≤9223372036854775807):fN .quo .i64 a b=some c:=by
 simp only [fN];rw [if_neg hb,h,eB];exact IntWalk.i64_in _ ⟨h1,h2⟩
theorem Rd.at (h:Rd w A n c xs)(hi:i<n):∃p,A.map (·.add (i*1))=some p∧w.cell? p=some (up ((xs.getD i 0:Nat):Int))∧xs.getD i 0≤18446744073709551615:=by
 obtain⟨a,x,rfl,e,hb,f⟩:=h.get hi
 refine⟨a.add i,by rw [dV];rfl,?_,by rw [e.out];exact hb⟩
 rw [e.out];exact f
theorem Rd.updL (h:Rd w A n c xs)(e:Upd g w w')(hne:0<c→∀a,A=some a→a.block≠g):Rd w' A n c xs:=
 ⟨⟨h.rv.len,h.rv.le,h.rv.max,fun i hi=>by
  obtain⟨a,f,o⟩:=h.rv.get i hi
  exact⟨a,f,e.cell o (by rw [tS];exact hne (by have:=h.rv.le;omega) a f)⟩,fun a f o=>dJ (h.rv.blk a f o) e.size⟩,h.wf⟩
theorem eA (g i:Nat):(some (⟨g,0,none⟩:aB)).map (·.add (i*1))=some ⟨g,i,none⟩:=by
 rw [dV]
 show some ((⟨g,0,none⟩:aB).add i)=_
 rw [kV,eJ]
section
variable {P:bW}{Q:dI→Act→a6→Prop}{n:Nat}{l:Fr}{w:a6}{ops:Array bD}{rest:List bD}{d:Nat}{op:Op}{ty:aS}{pos:String}{af:Array fP}{gd:Option (Nat×Bool)}
theorem GO {s:Nat}{k:iN}{i:Int}(hT:P.underlying t=some (.slice e))(hs:∀w,(sizeOf e).run P w= .ok s w)(hi:i=(j:Int))(hj:j<m)(hp:A.map (·.add (j*s))=some p):(Instr.indexAt t (we A m c) (.int k i)).run P w= .ok (.pointer (some p)) w:=by
 subst hi
 cases A with
 | none=>cases hp
 | some a=>
  have h:=GN (P:=P) (w:=w) (t:=t) (e:=e) (s:=s) (m:=m) (c:=c) (a:=a) (k:=k) (i:=(j:Int)) hT hs (by omega) (by omega)
  rw [h]
  rw [gZ]
  injection hp with hp
  rw [←hp]
theorem cD (hw:dB ops l gd=some true){x y:cN}{s:Nat}{k:iN}{i:Int}(hx:bV l x=some (we A m c))(hy:bV l y=some (.int k i))(hT:P.underlying t=some (.slice e))(hs:∀w,(sizeOf e).run P w= .ok s w)(j:Nat)(hi:i=(j:Int))(p:aB)(hp:A.map (·.add (j*s))=some p)(h:wl P ops Q n rest ((d,.pointer (some p))::l) w)(hj:j<m:=by omega)(hn:d<n:=by decide):wl P ops Q n (⟨some d,.indexAddr t x y,ty,pos,af,gd⟩::rest) l w:=
 fW hw hn (fun a' f=>by
  have e:(Instr.indexAt t (a'.eval x) (a'.eval y)).run P w= .ok (.pointer (some p)) w:=by rw [f.ev hx,f.ev hy];exact GO hT hs hi hj hp
  show ((Instr.indexAt t (a'.eval x) (a'.eval y)>>=fun r=>pure (fZ r):Sem fI)).run P w=_
  rw [cE,e];rfl) h
theorem fX {x y:cN}{s:Nat}{k:iN}{i:Int}(hx:bV l x=some (we A m c))(hy:bV l y=some (.int k i))(hT:P.underlying t=some (.slice e))(hs:∀w,(sizeOf e).run P w= .ok s w)(j:Nat)(hi:i=(j:Int))(p:aB)(hp:A.map (·.add (j*s))=some p)(hj:j<m:=by omega):gS P n l ⟨dst,.indexAddr t x y,ty,pos,af,gd⟩ w (.value (.pointer (some p))) w:=fun a' f=>by
 have e:(Instr.indexAt t (a'.eval x) (a'.eval y)).run P w= .ok (.pointer (some p)) w:=by rw [f.ev hx,f.ev hy];exact GO hT hs hi hj hp
 show ((Instr.indexAt t (a'.eval x) (a'.eval y)>>=fun r=>pure (fZ r):Sem fI)).run P w=_
 rw [cE,e];rfl
theorem lD {x y:cN}{k:iN}{a b:Int}(hx:bV l x=some (.int k a))(hy:bV l y=some (.int k b))(c:Bool)(hc:cG o a b=some c):gS P n l ⟨dst,.binOp o t x y t',ty,pos,af,gd⟩ w (.value (.bool c)) w:=fun a' f=>by
 have e:((do eqGuard o t x y (a'.eval x) (a'.eval y);binOp o t (a'.eval x) (a'.eval y)):Sem aM).run P w= .ok (.bool c) w:=by
  rw [f.ev hx,f.ev hy];exact GP hc
 show ((((do eqGuard o t x y (a'.eval x) (a'.eval y);binOp o t (a'.eval x) (a'.eval y)):Sem aM)>>=fun r=>pure (fZ r)):Sem fI).run P w=_
 rw [cE,e];rfl
theorem lV {x y:cN}{k:iN}{a b:Int}(hx:bV l x=some (.int k a))(hy:bV l y=some (.int k b))(c:Int)(hc:fN o k a b=some c):gS P n l ⟨dst,.binOp o t x y t',ty,pos,af,gd⟩ w (.value (.int k c)) w:=fun a' f=>by
 have e:((do eqGuard o t x y (a'.eval x) (a'.eval y);binOp o t (a'.eval x) (a'.eval y)):Sem aM).run P w= .ok (.int k c) w:=by
  rw [f.ev hx,f.ev hy];exact BT hc
 show ((((do eqGuard o t x y (a'.eval x) (a'.eval y);binOp o t (a'.eval x) (a'.eval y)):Sem aM)>>=fun r=>pure (fZ r)):Sem fI).run P w=_
 rw [cE,e];rfl
theorem BN (hT:∀w,(sizeOf T).run P w= .ok 1 w)(hv:v.cells= #[v])(hb:Bk w g T' vs)(hle:off<vs.length)(h1:v.oneCell'=true)(us':List aM)(he:vs.set off v=us'):∃w',(storeVar T ⟨g,off,none⟩ v).run P w= .ok () w'∧Bk w' g T' us'∧Upd g w w'∧w'.heap.size=w.heap.size:=by
 have e:=hb.set off v
 rw [he] at e
 refine⟨w.setCell ⟨g,off,none⟩ v,?_,e,(Upd.refl g w).setCell off v,by simp [sD]⟩
 unfold storeVar
 rw [cE]
 show ((sizeOf T).run P w).andThen _=_
 rw [hT w]
 simp only [eY,hv,AE,eN,List.length_nil,ne_eq,not_true,eJ,if_false]
 show ((store ((⟨g,off,none⟩:aB).add 0) v>>=fun _=>storeCells ⟨g,off,none⟩ [] (0+1):Sem Unit)).run P w=_
 rw [kV,fC,cE,BO (hb.cell hle) (hb.frozen off) h1]
 rfl
theorem oA {z:aM}{x y:cN}(hw:dB ops l gd=some true){i:Int}(hx:bV l x=some (no i))(hy:bV l y=some (no i))(hi:i=(k:Int))(ht:P.underlying t=some (.slice e))(hinfo:(P.info? e).map (fun i=>(i.zero,i.size,i.bytes))=some (some z,1,bytes))(hz:z.cells= #[z])(h:∀g w',w.heap.size=g→Bk w' g e (cJ k z)→Ext w w'→wl P ops Q n rest ((d,we (some ⟨g,0,none⟩) k k)::l) w')(hby:bytes≤64:=by decide)(hk:k≤1099511627776:=by omega)(hn:d<n:=by decide):wl P ops Q n (⟨some d,.makeSlice t x y,ty,pos,af,gd⟩::rest) l w:=by
 subst hi
 have f:=kN (P:=P) ht hinfo hz hby (k:Int) (by omega) (by omega) w
 rw [gZ] at f
 refine fW hw hn (fun a' o=>?_) (h _ (w.alloc (.cells (zc z k) e)) J (Bk.new' _ _ _) ((Ext.refl w).alloc _))
 have e':(qJ t (a'.eval x) (a'.eval y)).run P w= .ok (we (some ⟨w.heap.size,0,none⟩) k k) (w.alloc (.cells (zc z k) e)):=by rw [o.ev hx,o.ev hy];exact f
 show ((qJ t (a'.eval x) (a'.eval y)>>=fun r=>pure (fZ r):Sem fI)).run P w=_
 rw [cE,e'];rfl
end
theorem iB (hT:∀w,(isAgg T).run P w= .ok false w)(hb:Bk w g T' (l.map bF))(hi:i<l.length):(loadVar T ⟨g,i,none⟩).run P w= .ok (up ((l.getD i 0:Nat):Int)) w:=by
 refine bM hT hb ?_
 simp [bK,cC hi]
theorem iC {x:Nat}(h:l.length=N):(l.set i x).length=N:=by rw [List.length_set];exact h
theorem gV {f:Nat→aM}(h:i<l.length):i<(l.map f).length:=by rw [List.length_map];exact h
theorem eD {A B:Int}(ha:A=(a:Int))(hb:B=(b:Int))(h:a<b:=by omega):cG .lss A B=some true:=by subst ha hb;exact vE (by omega)
theorem eE {A B:Int}(ha:A=(a:Int))(hb:B=(b:Int))(h:b≤a:=by omega):cG .lss A B=some false:=by subst ha hb;exact rD
theorem nM {A B:Int}(ha:A=(a:Int))(hb:B=(b:Int))(h:a≤b:=by omega):cG .leq A B=some true:=by subst ha hb;exact JS (by omega)
theorem nN {A B:Int}(ha:A=(a:Int))(hb:B=(b:Int))(h:b<a:=by omega):cG .leq A B=some false:=by subst ha hb;exact JT (by omega)
theorem eW {A B:Int}(ha:A=(a:Int))(hb:B=(b:Int))(h:b<a:=by omega):cG .gtr A B=some true:=by subst ha hb;exact vK (by omega)
theorem fS {A B:Int}(ha:A=(a:Int))(hb:B=(b:Int))(h:a≤b:=by omega):cG .gtr A B=some false:=by subst ha hb;exact oN
theorem gA {A B:Int}(ha:A=(a:Int))(hb:B=(b:Int))(h:b≤a:=by omega):cG .geq A B=some true:=by subst ha hb;exact rN
theorem m6 {A B:Int}(ha:A=(a:Int))(hb:B=(b:Int))(h:a<b:=by omega):cG .geq A B=some false:=by subst ha hb;exact kQ
theorem fF {A B:Int}(ha:A=(a:Int))(hb:B=(b:Int))(h:a=b:=by omega):cG .eql A B=some true:=by subst ha hb;exact eP (by omega)
theorem eR {A B:Int}(ha:A=(a:Int))(hb:B=(b:Int))(h:a≠b:=by omega):cG .eql A B=some false:=by subst ha hb;exact fA (by omega)
theorem tR {A B:Int}(ha:A=(a:Int))(hb:B=(b:Int))(h:a≠b:=by omega):cG .neq A B=some true:=by subst ha hb;exact nF
theorem vU {A B:Int}(ha:A=(a:Int))(hb:B=(b:Int))(h:a=b:=by omega):cG .neq A B=some false:=by subst ha hb;exact lI (by omega)
theorem iY {A B:Int}(ha:A=(a:Int))(hb:B=(b:Int))(h:a+b≤18446744073709551615:=by omega):fN .add .u64 A B=some ((a+b:Nat):Int):=by
 subst ha hb;simp only [fN,eB];rw [←Int.natCast_add];exact IntWalk.u64_in _ ⟨by omega,by omega⟩
theorem zH {A B:Int}(ha:A=(a:Int))(hb:B=(b:Int))(h:b≤a:=by omega)(h2:a≤18446744073709551615:=by omega):fN .sub .u64 A B=some ((a-b:Nat):Int):=by
 subst ha hb;simp only [fN,eB];rw [show (a:Int)-(b:Int)=((a-b:Nat):Int) by omega];exact IntWalk.u64_in _ ⟨by omega,by omega⟩
theorem kU {A B:Int}(ha:A=(a:Int))(hb:B=(b:Int))(h:a*b≤18446744073709551615:=by omega):fN .mul .u64 A B=some ((a*b:Nat):Int):=by
 subst ha hb;simp only [fN,eB];rw [←mX];exact IntWalk.u64_in _ ⟨by omega,by omega⟩
theorem jK {A B:Int}(ha:A=(a:Int))(hb:B=(b:Int))(h:b≠0:=by omega)(h2:a≤18446744073709551615:=by omega):fN .quo .u64 A B=some ((a/b:Nat):Int):=by
 subst ha hb
 have e:((a:Int)).tdiv (b:Int)=((a/b:Nat):Int):=rfl
 have p:a/b≤a:=fH a b
 have o:(0:Int)≤((a/b:Nat):Int):=Int.natCast_nonneg _
 have f:((a/b:Nat):Int)≤(a:Int):=Int.ofNat_le.2 p
 simp only [fN];rw [if_neg (by omega),e,eB]
 generalize ((a/b:Nat):Int)=q at o f
 exact IntWalk.u64_in _ ⟨by omega,by omega⟩
theorem jJ {k:iN}{A B:Int}(ha:A=(a:Int))(hb:B=(b:Int))(h:b≠0:=by omega):fN .rem k A B=some ((a%b:Nat):Int):=by
 subst ha hb
 have e:((a:Int)).tmod (b:Int)=((a%b:Nat):Int):=rfl
 simp only [fN];rw [if_neg (by omega),e]
theorem cA {A B:Int}(ha:A=(a:Int))(hb:B=(b:Int))(h:a+b≤9223372036854775807:=by omega):fN .add .i64 A B=some ((a+b:Nat):Int):=by
 subst ha hb;exact tT
theorem gL {A B:Int}(ha:A=(a:Int))(hb:B=(b:Int))(h:b≤a:=by omega)(h2:a≤9223372036854775807:=by omega):fN .sub .i64 A B=some ((a-b:Nat):Int):=by
 subst ha hb;exact eL (by omega)
theorem oQ {A B:Int}(ha:A=(a:Int))(hb:B=(b:Int))(h:a*b≤9223372036854775807:=by omega):fN .mul .i64 A B=some ((a*b:Nat):Int):=by
 subst ha hb;exact vX (by rw [←mX]) (by omega) (by omega)
theorem lP {A B:Int}(ha:A=(a:Int))(hb:B=(b:Int))(h:b≠0:=by omega)(h2:a≤9223372036854775807:=by omega):fN .quo .i64 A B=some ((a/b:Nat):Int):=by
 subst ha hb
 have o:a/b≤a:=fH a b
 have f:(0:Int)≤((a/b:Nat):Int):=Int.natCast_nonneg _
 have e:((a/b:Nat):Int)≤(a:Int):=Int.ofNat_le.2 o
 refine a0p (by omega) J ?_ ?_
 ·show _≤((a/b:Nat):Int)
  generalize ((a/b:Nat):Int)=q at f e
  omega
 ·show ((a/b:Nat):Int)≤_
  generalize ((a/b:Nat):Int)=q at f e
  omega
theorem bT (w:a6):(sizeOf 65).run aN w= .ok 1 w:=by kernel_rfl
theorem cT (w:a6):(isAgg 65).run aN w= .ok false w:=by kernel_rfl
theorem bU:Tryz.prog.underlying 22=some (.slice 65):=Tryz.underlying22
theorem RU {a b:aM}{s u:Tmp}(hf:fn.results= #[.cell s 24,.tmp u])(hs:tmps.getD s undef= i5 g 0)(hu:tmps.getD u undef=v)(h:Bk w g t [a,b]):(results fn tmps).run aN w= .ok (.tuple #[.agg #[a,b],v]) w:=by
 obtain⟨h1,h2,_,_⟩:=h.two
 have hs2:tmps[s]?.getD undef= i5 g 0:=by simpa using hs
 have hu2:tmps[u]?.getD undef=v:=by simpa using hu
 simp [results,hf,hs2,hu2,loadVar,loadCells,loadCellsFrom,go_sem,h1,h2]
theorem nD {a b c d:aM}{s s' u:Tmp}(hf:fn.results= #[.cell s 24,.cell s' 24,.tmp u])(hs:tmps.getD s undef= i5 g 0)(hs':tmps.getD s' undef= i5 g' 0)(hu:tmps.getD u undef=v)(h:Bk w g t [a,b])(h':Bk w g' t' [c,d]):(results fn tmps).run aN w= .ok (.tuple #[.agg #[a,b],.agg #[c,d],v]) w:=by
 obtain⟨h1,h2,_,_⟩:=h.two
 obtain⟨h3,h4,_,_⟩:=h'.two
 have hs2:tmps[s]?.getD undef= i5 g 0:=by simpa using hs
 have hs3:tmps[s']?.getD undef= i5 g' 0:=by simpa using hs'
 have hu2:tmps[u]?.getD undef=v:=by simpa using hu
 simp [results,hf,hs2,hs3,hu2,loadVar,loadCells,loadCellsFrom,go_sem,h1,h2,h3,h4]
theorem Bk.two_far {l:List aM}(h:Bk w g t l)(hne:g≠g')(u v:aM):Bk ((w.setCell ⟨g',0,none⟩ u).setCell ⟨g',1,none⟩ v) g t l:=(h.far (p:=⟨g',0,none⟩) hne u).far (p:=⟨g',1,none⟩) hne v
theorem wQ {t:Bool}(hx:Zi w s A n cap x)(hl:n≤274877906944)(hy:Zi w t B m cap' y)(hl':m≤274877906944):aP aN 68 #[O s A n cap,O t B m cap'] w (lR w (x+y)):=by
 obtain⟨xs,hr,rfl⟩:=hx
 obtain⟨ys,hq,rfl⟩:=hy
 go_enter Tryz.func68,Tryz.ntmps68
 go_upto_region 1 with (fail)
 obtain⟨g,g2,g3,wa,hg3,hg2,hg,hwa,hb1,hb2,hb3,hea,l12,l23,l3,n12,n21,n13,n31,n23,n32⟩:=vW w 24 24 24 (.bool s) (we A n cap) (.bool t) (we B m cap') (AS) (we none 0 0)
 rw [hg3,hg2,hg,hwa]
 have hgw:w.heap.size≤g:=Nat.le_of_eq hg
 clear hwa hg hg2 hg3
 obtain⟨f1,f2,f3,f4⟩:=hb1.two
 obtain⟨h1,h2,h3,h4⟩:=hb2.two
 obtain⟨k1,k2,k3,k4⟩:=hb3.two
 by_cases hst:s=t
 ·have bs:(s==t)=true:=by rw [hst];cases t <;> rfl
  go_upto_region 2 with (fail)
  go_region_held3 (fun w'=>w'.cell? ⟨g,0,none⟩=some (.bool s)∧w'.cell? ⟨g,1,none⟩=some (we A n cap)∧w'.cell? ⟨g2,0,none⟩=some (.bool t)∧w'.cell? ⟨g2,1,none⟩=some (we B m cap')) (go_keep)
   (first
   | (go_at_call 145;refine (y7 (hr.ext (by repeat (first | exact Ext.refl _ | assumption | apply Ext.drewN | apply Ext.drew | apply Ext.alloc))) (by omega) (hq.ext (by repeat (first | exact Ext.refl _ | assumption | apply Ext.drewN | apply Ext.drew | apply Ext.alloc))) (by omega)).mono ?_;rintro e w1 ⟨A1,n1,c1,rfl,hn1,hr1,ho1,hx1⟩;have he1:Ext wa w1:=Ext.trans (by repeat (first | exact Ext.refl _ | assumption | apply Ext.drewN | apply Ext.drew | apply Ext.alloc)) hx1;have hb1:=hb1.ext he1;have hb2:=hb2.ext he1;have hb3:=hb3.ext he1;obtain⟨f1,f2,f3,f4⟩:=hb1.two;obtain⟨h1,h2,h3,h4⟩:=hb2.two;obtain⟨k1,k2,k3,k4⟩:=hb3.two)
   | (go_at_call 124;refine (kZ hn1.out).mono ?_;rintro e w2 ⟨s',rfl,hs',hx2⟩;have hd1:=hb1.ext hx2;have hd2:=hb2.ext hx2;have hd3:=hb3.ext hx2;obtain⟨f1,f2,f3,f4⟩:=hd1.two;obtain⟨h1,h2,h3,h4⟩:=hd2.two;obtain⟨k1,k2,k3,k4⟩:=hd3.two))
  go_wp2_with fail
  refine fO (lU J J (hd3.two_set _ _)) J ?_
  exact lL hd3 ((jL hs'.out hn1.out ho1 (by rw [BJ,hst])).ext hx2) (hea.trans (he1.trans hx2)) (hg:=(by first | omega | (simp;omega)))
 ·have bs:(s==t)=false:=by cases s <;> cases t <;> simp_all
  have ht:Hid (t= !s):=by show _=_;cases s <;> cases t <;> simp_all
  clear hst
  go_wp2_with fail
  refine (tD (hr.ext hea) (hq.ext hea)).mono ?_
  rintro e w1 ⟨c,hc,hcl,hch,rfl,hx1⟩
  have hb1:=hb1.ext hx1
  have hb2:=hb2.ext hx1
  have hb3:=hb3.ext hx1
  have he1:=hea.trans hx1
  have hsz:=hx1.size
  clear f1 f2 f3 f4 h1 h2 h3 h4 k1 k2 k3 k4
  obtain⟨f1,f2,f3,f4⟩:=hb1.two
  obtain⟨h1,h2,h3,h4⟩:=hb2.two
  by_cases hlt:c<0
  ·have hle:nv xs≤nv ys:=by rw [hc.out] at hlt;exact Nat.le_of_lt (lO.1 hlt)
   have HLE:=Lib.hid hle
   clear hle
   go_upto_region 5 with (fail)
   obtain⟨wb,hwb⟩:∃wb,(((w1.setCell ⟨g,0,none⟩ (.bool t)).setCell ⟨g,1,none⟩ (.slice B m cap')).setCell ⟨g2,0,none⟩ (.bool s)).setCell ⟨g2,1,none⟩ (.slice A n cap)=wb:=⟨_,rfl⟩
   rw [hwb]
   have hd1:Bk wb g 24 (a5 t B m cap'):=by rw [←hwb];exact (hb1.two_set _ _).two_far n12 _ _
   have hd2:Bk wb g2 24 (a5 s A n cap):=by rw [←hwb];exact (hb2.two_far n21 _ _).two_set _ _
   have hd3:Bk wb g3 24 (a5 false none 0 0):=by rw [←hwb];exact (hb3.two_far n31 _ _).two_far n32 _ _
   have heb:Ext w wb:=by
    rw [←hwb]
    exact (Upd.two _ _).ext ((Upd.two _ _).ext he1 hgw) (by omega)
   have hszb:wb.heap.size=w1.heap.size:=by rw [←hwb];simp [sD]
   clear hwb f1 f2 f3 f4 h1 h2 h3 h4
   obtain⟨f1,f2,f3,f4⟩:=hd1.two
   obtain⟨h1,h2,h3,h4⟩:=hd2.two
   go_wp2_with fail
   refine (CJ (hq.ext heb) (hr.ext heb) HLE.out).mono ?_
   rintro e w2 ⟨A2,n2,c2,rfl,hn2,hr2,ho2,hx2⟩
   obtain⟨f1,f2,f3,f4⟩:=(hd1.ext hx2).two
   have hd3:=hd3.ext hx2
   go_wp2_with fail
   refine (kZ hn2.out).mono ?_
   rintro e w3 ⟨s',rfl,hs',hx3⟩
   have hd3:=hd3.ext hx3
   obtain⟨k1,k2,k3,k4⟩:=hd3.two
   go_wp2_with fail
   refine fO (lU J J (hd3.two_set _ _)) J ?_
   exact lL hd3 ((jL hs'.out hn2.out ho2 (by rw [sV HLE.out,ht.out,Bool.not_not,Int.add_comm])).ext hx3) (heb.trans (hx2.trans hx3))
  ·have hle:nv ys≤nv xs:=by rw [hc.out] at hlt;exact oW (fun h=>hlt (lO.2 h))
   have HLE:=Lib.hid hle
   clear hle
   go_wp2_with fail
   refine (CJ (hr.ext he1) (hq.ext he1) HLE.out).mono ?_
   rintro e w2 ⟨A2,n2,c2,rfl,hn2,hr2,ho2,hx2⟩
   obtain⟨f1,f2,f3,f4⟩:=(hb1.ext hx2).two
   have hd3:=hb3.ext hx2
   go_wp2_with fail
   refine (kZ hn2.out).mono ?_
   rintro e w3 ⟨s',rfl,hs',hx3⟩
   have hd3:=hd3.ext hx3
   obtain⟨k1,k2,k3,k4⟩:=hd3.two
   go_wp2_with fail
   refine fO (lU J J (hd3.two_set _ _)) J ?_
   exact lL hd3 ((jL hs'.out hn2.out ho2 (by rw [sV HLE.out,ht.out])).ext hx3) (he1.trans (hx2.trans hx3))
theorem EP {t:Bool}(hx:Zi w s A n cap x)(hl:n≤274877906944)(hy:Zi w t B m cap' y)(hl':m≤274877906944):aP aN 69 #[O s A n cap,O t B m cap'] w (lR w (x-y)):=by
 go_enter Tryz.func69,Tryz.ntmps69
 go_upto_region 1 with (fail)
 obtain⟨g,g2,g3,wa,hg3,hg2,hg,hwa,hb1,hb2,hb3,hea,l12,l23,l3,n12,n21,n13,n31,n23,n32⟩:=vW w 24 24 24 (.bool s) (we A n cap) (.bool t) (we B m cap') (AS) (we none 0 0)
 rw [hg3,hg2,hg,hwa]
 have hgw:w.heap.size≤g:=Nat.le_of_eq hg
 clear hwa hg hg2 hg3
 obtain⟨f1,f2,f3,f4⟩:=hb1.two
 obtain⟨h1,h2,h3,h4⟩:=hb2.two
 obtain⟨k1,k2,k3,k4⟩:=hb3.two
 go_wp2_with fail
 refine (wQ (hx.ext hea) hl (hy.not.ext hea) hl').mono ?_
 rintro e w1 ⟨s1,A1,n1,c1,rfl,z1,hx1⟩
 have hd3:=hb3.ext hx1
 clear f1 f2 f3 f4 h1 h2 h3 h4 k1 k2 k3 k4
 obtain⟨k1,k2,k3,k4⟩:=hd3.two
 go_wp2_with fail
 refine fO (lU J J (hd3.two_set _ _)) J ?_
 exact lL hd3 (z1.cast Int.sub_eq_add_neg.symm) (hea.trans hx1)
theorem NJ {t u:Bool}{cap'':Nat}(hx:Zi w s A n cap x)(hl:n≤68719476736)(hy:Zi w t B m cap' y)(hl':m≤68719476736)(hz:Zi w u C k cap'' z)(hl'':k≤68719476736):aP aN 70 #[O s A n cap,O t B m cap',O u C k cap''] w (lR w (x*y+z)):=by
 have lx:=a8 hx.ln hl
 have ly:=a8 hy.ln hl'
 go_enter Tryz.func70,Tryz.ntmps70
 go_upto_region 1 with (fail)
 obtain⟨g,g2,g3,g4,wa,hg4,hg3,hg2,hg,hwa,hb1,hb2,hb3,hb4,hea,l12,l23,l34,l4,n12,n21,n13,n31,n23,n32,n14,n41,n24,n42,n34,n43⟩:=vV w 24 24 24 24 (.bool s) (we A n cap) (.bool t) (we B m cap') (.bool u) (we C k cap'') (AS) (we none 0 0)
 rw [hg4,hg3,hg2,hg,hwa]
 have hgw:w.heap.size≤g:=Nat.le_of_eq hg
 clear hwa hg hg2 hg3 hg4
 obtain⟨f1,f2,f3,f4⟩:=hb1.two
 obtain⟨h1,h2,h3,h4⟩:=hb2.two
 obtain⟨i1,i2,i3,i4⟩:=hb3.two
 obtain⟨k1,k2,k3,k4⟩:=hb4.two
 go_region_held3 (fun w'=>w'.cell? ⟨g,0,none⟩=some (.bool s)∧w'.cell? ⟨g,1,none⟩=some (we A n cap)∧w'.cell? ⟨g2,0,none⟩=some (.bool t)∧w'.cell? ⟨g2,1,none⟩=some (we B m cap')∧w'.cell? ⟨g3,0,none⟩=some (.bool u)∧w'.cell? ⟨g3,1,none⟩=some (we C k cap'')) (go_keep)
  (first
  | (go_at_call 39;refine (ER (hx.ext (by repeat (first | exact Ext.refl _ | assumption | apply Ext.drewN | apply Ext.drew | apply Ext.alloc))) hl (hy.ext (by repeat (first | exact Ext.refl _ | assumption | apply Ext.drewN | apply Ext.drew | apply Ext.alloc))) hl').mono ?_;rintro e w1 ⟨s1,A1,n1,c1,rfl,z1,hx1⟩;have q1:n1≤274877906944:=(a8 (z1.le (cK lx ly)) (by omega));have he1:Ext wa w1:=Ext.trans (by repeat (first | exact Ext.refl _ | assumption | apply Ext.drewN | apply Ext.drew | apply Ext.alloc)) hx1;have hb1:=hb1.ext he1;have hb2:=hb2.ext he1;have hb3:=hb3.ext he1;have hb4:=hb4.ext he1;obtain⟨f1,f2,f3,f4⟩:=hb1.two;obtain⟨h1,h2,h3,h4⟩:=hb2.two;obtain⟨i1,i2,i3,i4⟩:=hb3.two;obtain⟨k1,k2,k3,k4⟩:=hb4.two)
  | (go_at_call 68;refine (wQ z1.zi q1 (hz.ext (hea.trans he1)) (by omega)).mono ?_;rintro e w2 ⟨s2,A2,n2,c2,rfl,z2,hx2⟩;have hb1:=hb1.ext hx2;have hb2:=hb2.ext hx2;have hb3:=hb3.ext hx2;have hb4:=hb4.ext hx2;obtain⟨f1,f2,f3,f4⟩:=hb1.two;obtain⟨h1,h2,h3,h4⟩:=hb2.two;obtain⟨i1,i2,i3,i4⟩:=hb3.two;obtain⟨k1,k2,k3,k4⟩:=hb4.two))
 go_wp2_with fail
 have hsz:=he1.size
 refine fO (lU J J (hb4.two_set _ _)) J ?_
 exact lL hb4 z2 (hea.trans (he1.trans hx2))
theorem NN {t:Bool}(hx:Zi w s A n cap x)(hl:n≤68719476736)(hy:Zi w t B m cap' y)(hl':m≤68719476736):aP aN 64 #[O s A n cap,O t B m cap'] w (E9 (bE x y) w):=by
 go_enter Tryz.func64,Tryz.ntmps64
 go_upto_region 1 with (fail)
 obtain⟨g,g2,wa,hg2,hg,hwa,hb1,hb2,hea,l12,l2,n12,n21⟩:=DU w 24 24 (.bool s) (we A n cap) (.bool t) (we B m cap')
 rw [hg2,hg,hwa]
 have hgw:w.heap.size≤g:=Nat.le_of_eq hg
 clear hwa hg hg2
 obtain⟨f1,f2,f3,f4⟩:=hb1.two
 obtain⟨h1,h2,h3,h4⟩:=hb2.two
 go_region_held3 (fun w'=>w'.cell? ⟨g,0,none⟩=some (.bool s)∧w'.cell? ⟨g,1,none⟩=some (we A n cap)∧w'.cell? ⟨g2,0,none⟩=some (.bool t)∧w'.cell? ⟨g2,1,none⟩=some (we B m cap')) (go_keep)
  (first
  | (go_at_call 63;(with_reducible refine (uH (hx.ext (hea.trans (by repeat (first | exact Ext.refl _ | assumption | apply Ext.drewN | apply Ext.drew | apply Ext.alloc)))) hl).mono ?_);rintro e w2 ⟨c,hc,hcl,hch,rfl,hx2⟩;have he2:Ext wa w2:=Ext.trans (by repeat (first | exact Ext.refl _ | assumption | apply Ext.drewN | apply Ext.drew | apply Ext.alloc)) hx2;obtain⟨f1,f2,f3,f4⟩:=(hb1.ext he2).two;obtain⟨h1,h2,h3,h4⟩:=(hb2.ext he2).two)
  | (go_at_call 63;(with_reducible refine (uH (hy.ext (hea.trans (by repeat (first | exact Ext.refl _ | assumption | apply Ext.drewN | apply Ext.drew | apply Ext.alloc)))) hl').mono ?_);rintro e w2 ⟨d,hd,hdl,hdh,rfl,hx2⟩;have he2:Ext wa w2:=Ext.trans (by repeat (first | exact Ext.refl _ | assumption | apply Ext.drewN | apply Ext.drew | apply Ext.alloc)) hx2;obtain⟨f1,f2,f3,f4⟩:=(hb1.ext he2).two;obtain⟨h1,h2,h3,h4⟩:=(hb2.ext he2).two))
 all_goals
  have e2:=hea.trans he2
  clear hx2
  have p1:c<0↔x<0:=by rw [hc.out];exact pH
  have p2:c=0↔x=0:=by rw [hc.out];exact kA
  have p3:d<0↔y<0:=by rw [hd.out];exact pH
  have p4:d=0↔y=0:=by rw [hd.out];exact kA
  have hlt:c<d→x<y:=by omega
  have hgt:d<c→y<x:=by omega
  have H1:=Lib.hid p1
  have H2:=Lib.hid p2
  have H3:=Lib.hid p3
  have H4:=Lib.hid p4
  clear p1 p2 p3 p4
  rcases Int.lt_trichotomy c d with h | h | h
  ·have bn:(c != d)=true:=by simp;omega
   have HL:=Lib.hid (hlt h)
   clear hlt hgt
   go_wp2_with fail
   go_ret
   exact⟨-1,(show _=_ by rw [bE,if_pos HL.out]),by omega,by omega,rfl,e2⟩
  ·subst h
   have bn:(c != c)=false:=by simp
   clear hlt hgt
   obtain⟨xs,hr,hxv⟩:=hx
   obtain⟨ys,hq,hyv⟩:=hy
   have HX:=Lib.hid hxv
   have HY:=Lib.hid hyv
   clear hxv hyv
   go_wp2_with fail
   refine (tD (hr.ext e2) (hq.ext e2)).mono ?_
   rintro e w3 ⟨k,hk,hkl,hkh,rfl,hx3⟩
   have fin:c*k=bE x y:=by
    have ax:x.natAbs=nv xs:=by rw [←HX.out,lB]
    have ay:y.natAbs=nv ys:=by rw [←HY.out,lB]
    have k1:k<0↔nv xs<nv ys:=by rw [hk.out];exact lO
    have k2:0<k↔nv ys<nv xs:=by rw [hk.out];exact DP
    have p1:=H1.out
    have p2:=H2.out
    have p3:=H3.out
    have p4:=H4.out
    have hc3:c= -1∨c=0∨c=1:=by omega
    have hk3:k= -1∨k=0∨k=1:=by omega
    rcases hc3 with rfl | rfl | rfl
    ·rcases hk3 with J | rfl | rfl <;> (unfold bE;split <;> (try split) <;> omega)
    ·unfold bE;split <;> (try split) <;> omega
    ·rcases hk3 with J | rfl | rfl <;> (unfold bE;split <;> (try split) <;> omega)
   have FIN:=Lib.hid fin
   clear fin
   have hc3:c= -1∨c=0∨c=1:=by omega
   rcases hc3 with rfl | rfl | rfl
   ·go_wp2_with fail
    go_ret
    exact⟨-k,(show _=_ by rw [←FIN.out];omega),by omega,by omega,rfl,e2.trans hx3⟩
   ·go_wp2_with fail
    go_ret
    exact⟨0,(show _=_ by rw [←FIN.out];omega),by omega,by omega,rfl,e2.trans hx3⟩
   ·go_wp2_with fail
    go_ret
    exact⟨k,(show _=_ by rw [←FIN.out];omega),by omega,by omega,rfl,e2.trans hx3⟩
  ·have bn:(c != d)=true:=by simp;omega
   have hnl:¬c<d:=by omega
   have HG:=Lib.hid (hgt h)
   clear hlt hgt
   go_wp2_with fail
   go_ret
   exact⟨1,(show _=_ by have:=HG.out;rw [bE,if_neg (by omega),if_neg (by omega)]),by omega,by omega,rfl,e2⟩
theorem ES {t:Bool}(hx:Zi w s A n cap x)(hl:n≤68719476736)(hy:Zi w t B m cap' y)(hl':m≤68719476736)(h0:y≠0)(h1:y∣x):aP aN 151 #[O s A n cap,O t B m cap'] w (a0A w (x.tdiv y) 0):=by
 obtain⟨xs,hr,rfl⟩:=hx
 obtain⟨ys,hq,rfl⟩:=hy
 have hz:nv ys≠0:=fun e=>h0 (xG.2 e)
 have hd:nv xs%nv ys=0:=by
  have:=Int.natAbs_dvd_natAbs.2 h1
  rw [lB,lB] at this
  exact Nat.mod_eq_zero_of_dvd this
 have HZ:=Lib.hid hz
 have HD:=Lib.hid hd
 clear hz h0 hd h1
 go_enter Tryz.func151,Tryz.ntmps151
 go_upto_region 1 with (fail)
 obtain⟨g,g2,g3,wa,hg3,hg2,hg,hwa,hb1,hb2,hb3,hea,l12,l23,l3,n12,n21,n13,n31,n23,n32⟩:=vW w 24 24 24 (.bool s) (we A n cap) (.bool t) (we B m cap') (AS) (we none 0 0)
 rw [hg3,hg2,hg,hwa]
 have hgw:w.heap.size≤g:=Nat.le_of_eq hg
 clear hwa hg hg2 hg3
 obtain⟨f1,f2,f3,f4⟩:=hb1.two
 obtain⟨h1,h2,h3,h4⟩:=hb2.two
 obtain⟨k1,k2,k3,k4⟩:=hb3.two
 go_wp2_with fail
 refine (YY (hr.ext hea) (by omega) (hq.ext hea) (by omega) HZ.out HD.out).mono ?_
 rintro e w1 ⟨A1,n1,c1,rfl,hn1,hr1,ho1,hx1⟩
 have hb1:=hb1.ext hx1
 have hb2:=hb2.ext hx1
 have hb3:=hb3.ext hx1
 have he1:=hea.trans hx1
 have hsz:=hx1.size
 clear f1 f2 f3 f4 h1 h2 h3 h4 k1 k2 k3 k4
 obtain⟨f1,f2,f3,f4⟩:=hb1.two
 obtain⟨h1,h2,h3,h4⟩:=hb2.two
 obtain⟨k1,k2,k3,k4⟩:=hb3.two
 go_wp2_with fail
 refine (kZ hn1.out).mono ?_
 rintro e w2 ⟨s',rfl,hs',hx2⟩
 have hd3:=hb3.ext hx2
 clear f1 f2 f3 f4 h1 h2 h3 h4 k1 k2 k3 k4
 obtain⟨k1,k2,k3,k4⟩:=hd3.two
 go_wp2_with fail
 refine fO (RU J J J (hd3.two_set _ _)) J ?_
 obtain⟨s4,A4,n4,c4,he,hz,hx⟩:=lL (w:=w) hd3 ((jL hs'.out hn1.out ho1 (BH _ _ _ _)).ext hx2) (he1.trans hx2)
 cases he
 exact⟨_,_,_,_,rfl,hz,hx⟩
theorem ME {t:Bool}(hx:Zi w s A n cap x)(hl:n≤68719476736)(hy:Zi w t B m cap' y)(hl':m≤68719476736):aP aN 157 #[O s A n cap,O t B m cap'] w (lR w (Int.gcd x y:Int)):=by
 obtain⟨xs,hr,rfl⟩:=hx
 obtain⟨ys,hq,rfl⟩:=hy
 go_enter Tryz.func157,Tryz.ntmps157
 go_upto_region 1 with (fail)
 obtain⟨g,g2,g3,wa,hg3,hg2,hg,hwa,hb1,hb2,hb3,hea,l12,l23,l3,n12,n21,n13,n31,n23,n32⟩:=vW w 24 24 24 (.bool s) (we A n cap) (.bool t) (we B m cap') (AS) (we none 0 0)
 rw [hg3,hg2,hg,hwa]
 have hgw:w.heap.size≤g:=Nat.le_of_eq hg
 clear hwa hg hg2 hg3
 obtain⟨f1,f2,f3,f4⟩:=hb1.two
 obtain⟨h1,h2,h3,h4⟩:=hb2.two
 obtain⟨k1,k2,k3,k4⟩:=hb3.two
 go_wp2_with fail
 refine (YX (hr.ext hea) (by omega) (hq.ext hea) (by omega)).mono ?_
 rintro e w1 ⟨A1,n1,c1,rfl,hn1,hr1,ho1,hx1⟩
 have hd3:=hb3.ext hx1
 clear f1 f2 f3 f4 h1 h2 h3 h4 k1 k2 k3 k4
 obtain⟨k1,k2,k3,k4⟩:=hd3.two
 go_wp2_with fail
 refine fO (lU J J (hd3.two_set _ _)) J ?_
 refine lL hd3 (jL (s:=false) (m:=Nat.gcd (nv xs) (nv ys)) ?_ hn1.out ho1 ?_) (hea.trans hx1)
 ·rw [lS];simp
 ·rw [lS,Int.gcd,lB,lB]
theorem EQ {v:Nat}(hv:v≤9223372036854775807):aP aN 61 #[no (v:Int)] w (lR w ((v:Int))):=by
 have hn:¬(v:Int)<0:=by omega
 go_enter Tryz.func61,Tryz.ntmps61
 go_upto_region 3 with (fail)
 obtain⟨g,hg⟩:∃g,w.heap.size=g:=⟨_,rfl⟩
 obtain⟨wa,hwa⟩:∃wa,w.alloc (.cells #[.bool false,.slice none 0 0] 24)=wa:=⟨_,rfl⟩
 rw [hg,hwa]
 have hb:Bk wa g 24 (a5 false none 0 0):=by rw [←hwa,←hg];exact Bk.new w 24 (a5 false none 0 0)
 have hea:Ext w wa:=by rw [←hwa];exact (Ext.refl w).alloc _
 have hga:w.heap.size≤g:=Nat.le_of_eq hg
 have hgl:g<wa.heap.size:=hb.lt
 clear hwa hg
 obtain⟨k1,k2,k3,k4⟩:=hb.two
 have h1:Rd (wa.alloc (.cells #[up (v:Int)] 65)) (some ⟨wa.heap.size,0,none⟩) 1 1 [v]:=Rd.one wa (by omega)
 go_wp2_with fail
 refine (jB (h1.ext (by repeat (first | exact Ext.refl _ | assumption | apply Ext.drewN | apply Ext.drew | apply Ext.alloc)))).mono ?_
 rintro e w1 ⟨A1,n1,c1,rfl,hn1,hr1,ho1,hx1⟩
 rw [uY] at hn1 ho1
 have hx1':Ext wa w1:=Ext.trans (by repeat (first | exact Ext.refl _ | assumption | apply Ext.drewN | apply Ext.drew | apply Ext.alloc)) hx1
 have hd:=hb.ext hx1'
 have hsz:=hx1'.size
 go_wp2_with fail
 refine (kZ hn1.out).mono ?_
 rintro e w2 ⟨s',rfl,hs',hx2⟩
 have hd:=hd.ext hx2
 clear k1 k2 k3 k4
 obtain⟨k1,k2,k3,k4⟩:=hd.two
 go_wp2_with fail
 refine fO (lU J J (hd.two_set _ _)) J ?_
 exact lL hd ((jL hs'.out hn1.out ho1 (lS _)).ext hx2) (hea.trans (hx1'.trans hx2)) (hg:=(by simp;omega))
theorem NG {t:Bool}(hx:Zi w s A n cap x)(_hl:n≤68719476736)(hy:Zi w t B m cap' y)(hl':m≤68719476736)(h0:y=0):aP aN 148 #[O s A n cap,O t B m cap'] w (wB w 0 0 4):=by
 obtain⟨xs,hr,rfl⟩:=hx
 obtain⟨ys,hq,hyv⟩:=hy
 have hz:nv ys=0:=xG.1 (by rw [hyv,h0])
 have HZ:=Lib.hid hz
 clear hz h0 hyv
 go_enter Tryz.func148,Tryz.ntmps148
 go_upto_region 1 with (fail)
 obtain⟨g,g2,g3,g4,wa,hg4,hg3,hg2,hg,hwa,hb1,hb2,hb3,hb4,hea,l12,l23,l34,l4,n12,n21,n13,n31,n23,n32,n14,n41,n24,n42,n34,n43⟩:=vV w 24 24 24 24 (.bool s) (we A n cap) (.bool t) (we B m cap') (AS) (we none 0 0) (AS) (we none 0 0)
 rw [hg4,hg3,hg2,hg,hwa]
 have hgw:w.heap.size≤g:=Nat.le_of_eq hg
 clear hwa hg hg2 hg3 hg4
 obtain⟨f1,f2,f3,f4⟩:=hb1.two
 obtain⟨h1,h2,h3,h4⟩:=hb2.two
 go_wp2_with fail
 refine (YZ (hq.ext hea) (by omega) HZ.out).mono ?_
 rintro e w1 ⟨rfl,hx1⟩
 clear f1 f2 f3 f4 h1 h2 h3 h4
 have hb3:=hb3.ext hx1
 have hb4:=hb4.ext hx1
 have hsz:=hx1.size
 have e1:=hea.trans hx1
 obtain⟨i1,i2,i3,i4⟩:=hb3.two
 obtain⟨k1,k2,k3,k4⟩:=hb4.two
 go_wp2_with fail
 refine fO (nD J J J J ((hb3.two_set _ _).two_far n34 _ _) ((hb4.two_far n43 _ _).two_set _ _)) J ?_
 exact⟨_,_,_,_,_,_,_,_,rfl,Zr.zero,Zr.zero,(Upd.two _ _).ext ((Upd.two _ _).ext e1 (by omega)) (by omega)⟩
theorem EO {t:Bool}(hx : Zi w s A n cap x)(hl : n ≤ 68719476736)(hy : Zi w t B m cap' y)(hl' : m ≤ 68719476736)(h0 : y ≠ 0):aP aN 148 #[.agg #[.bool s, we A n cap], .agg #[.bool t, we B m cap']] w (wB w (x.tdiv y) (x.tmod y) 0) := by
  obtain ⟨xs, hr, rfl⟩ := hx
  obtain ⟨ys, hq, rfl⟩ := hy
  have hz : nv ys ≠ 0 := fun e => h0 (xG.2 e)
  have HZ := Lib.hid hz
  clear hz h0
  go_enter Tryz.func148, Tryz.ntmps148
  go_upto_region 1 with (fail)
  obtain ⟨g, g2, g3, g4, wa, hg4, hg3, hg2, hg, hwa, hb1, hb2, hb3, hb4, hea, l12, l23, l34, l4, n12, n21, n13, n31, n23, n32, n14, n41, n24, n42, n34, n43⟩ := vV w 24 24 24 24 (.bool s) (we A n cap) (.bool t) (we B m cap') (AS) (we none 0 0) (AS) (we none 0 0)
  rw [hg4, hg3, hg2, hg, hwa]
  have hgw : w.heap.size ≤ g := Nat.le_of_eq hg
  clear hwa hg hg2 hg3 hg4
  obtain ⟨f1, f2, f3, f4⟩ := hb1.two
  obtain ⟨h1, h2, h3, h4⟩ := hb2.two
  go_wp2_with fail
  refine (tP (hr.ext hea) (hq.ext hea) HZ.out).mono ?_
  rintro e w1 ⟨Aq, nq, cq, Ar, nr, cr, rfl, hnq, hrq, hoq, hnr, hrr, hor, hx1⟩
  clear f1 f2 f3 f4 h1 h2 h3 h4
  have hb1 := hb1.ext hx1
  have hb2 := hb2.ext hx1
  have hb3 := hb3.ext hx1
  have hb4 := hb4.ext hx1
  have hsz := hx1.size
  have e1 := hea.trans hx1
  go_upto_region 4 with (fail)
  obtain ⟨f1, f2, f3, f4⟩ := hb1.two
  obtain ⟨h1, h2, h3, h4⟩ := hb2.two
  obtain ⟨i1, i2, i3, i4⟩ := hb3.two
  obtain ⟨k1, k2, k3, k4⟩ := hb4.two
  go_region_held3 (fun w' => w'.cell? ⟨g, 0, none⟩ = some (.bool s) ∧ w'.cell? ⟨g, 1, none⟩ = some (we A n cap) ∧ w'.cell? ⟨g2, 0, none⟩ = some (.bool t) ∧ w'.cell? ⟨g2, 1, none⟩ = some (we B m cap')) (go_keep)
    (first
    | (go_at_call 124; (with_reducible refine (kZ hnq.out).mono ?_); rintro e w5 ⟨s5, rfl, hs5, hx5⟩; have he5 : Ext w1 w5 := Ext.trans (by repeat (first | exact Ext.refl _ | assumption | apply Ext.drewN | apply Ext.drew | apply Ext.alloc)) hx5; clear f1 f2 f3 f4 h1 h2 h3 h4 i1 i2 i3 i4 k1 k2 k3 k4; obtain ⟨f1, f2, f3, f4⟩ := (hb1.ext he5).two; obtain ⟨h1, h2, h3, h4⟩ := (hb2.ext he5).two; obtain ⟨i1, i2, i3, i4⟩ := (hb3.ext he5).two; obtain ⟨k1, k2, k3, k4⟩ := (hb4.ext he5).two)
    | (go_at_call 124; (with_reducible refine (kZ hnr.out).mono ?_); rintro e w6 ⟨s6, rfl, hs6, hx6⟩; have he6 : Ext w1 w6 := Ext.trans (by repeat (first | exact Ext.refl _ | assumption | apply Ext.drewN | apply Ext.drew | apply Ext.alloc)) hx6; clear f1 f2 f3 f4 h1 h2 h3 h4 i1 i2 i3 i4 k1 k2 k3 k4; obtain ⟨f1, f2, f3, f4⟩ := (hb1.ext he6).two; obtain ⟨h1, h2, h3, h4⟩ := (hb2.ext he6).two; obtain ⟨i1, i2, i3, i4⟩ := (hb3.ext he6).two; obtain ⟨k1, k2, k3, k4⟩ := (hb4.ext he6).two))
  all_goals
    clear f1 f2 f3 f4 h1 h2 h3 h4 i1 i2 i3 i4 k1 k2 k3 k4
    first
    | (obtain ⟨wb, hwb⟩ : ∃ wb, (((w6.setCell ⟨g3, 0, none⟩ (.bool s5)).setCell ⟨g3, 1, none⟩ (.slice Aq nq cq)).setCell ⟨g4, 0, none⟩ (.bool s6)).setCell ⟨g4, 1, none⟩ (.slice Ar nr cr) = wb := ⟨_, rfl⟩
       rw [hwb]
       have hL := he6)
    | (obtain ⟨wb, hwb⟩ : ∃ wb, (((w5.setCell ⟨g3, 0, none⟩ (.bool s5)).setCell ⟨g3, 1, none⟩ (.slice Aq nq cq)).setCell ⟨g4, 0, none⟩ (.bool s6)).setCell ⟨g4, 1, none⟩ (.slice Ar nr cr) = wb := ⟨_, rfl⟩
       rw [hwb]
       have hL := he5)
    have q3 : Bk wb g3 24 [.bool s5, we Aq nq cq] := by rw [← hwb]; exact ((hb3.ext hL).two_set _ _).two_far n34 _ _
    have q4 : Bk wb g4 24 [.bool s6, we Ar nr cr] := by rw [← hwb]; exact ((hb4.ext hL).two_far n43 _ _).two_set _ _
    have r5 : Zr wb w.heap.size s5 Aq nq cq ((sg s (nv xs)).tdiv (sg t (nv ys))) := by
      rw [← hwb]
      exact (((((jL hs5.out hnq.out hoq (BH _ _ _ _)).ext hL).upd (by omega) (Upd.two _ _)).upd (by omega) (Upd.two _ _)).mono (by omega))
    have r6 : Zr wb w.heap.size s6 Ar nr cr ((sg s (nv xs)).tmod (sg t (nv ys))) := by
      rw [← hwb]
      exact (((((jL hs6.out hnr.out hor (G6 _ _ _ _)).ext hL).upd (by omega) (Upd.two _ _)).upd (by omega) (Upd.two _ _)).mono (by omega))
    have eb : Ext w wb := by rw [← hwb]; exact (Upd.two _ _).ext ((Upd.two _ _).ext (e1.trans hL) (by omega)) (by omega)
    clear hwb
    go_wp2_with fail
    refine fO (nD J J J J q3 q4) J ?_
    exact ⟨s5, Aq, nq, cq, s6, Ar, nr, cr, rfl, r5, r6, eb⟩
structure Flo (q r x y:Int):Prop where
 eq:q*y+r=x
 pos:0<y→0≤r∧r<y
 neg:y<0→y<r∧r≤0
theorem kL (h:y≠0):(x.tmod y).natAbs<y.natAbs:=by
 rw [Int.natAbs_tmod]
 exact f7 _ (by omega)
theorem KW (h0:y≠0)(h:x.tmod y=0∨(decide (x.tmod y<0)=decide (y<0))):Flo (x.tdiv y) (x.tmod y) x y:=by
 have h1:=kL (x:=x) h0
 refine⟨by rw [Int.mul_comm];exact Int.mul_tdiv_add_tmod x y,fun _=>?_,fun hn=>?_⟩
 ·rcases h with h | h
  ·omega
  ·have e:¬y<0:=by omega
   rw [decide_eq_false e] at h
   have:=of_decide_eq_false h
   omega
 ·rcases h with h | h
  ·omega
  ·rw [decide_eq_true hn] at h
   have:=of_decide_eq_true h
   omega
theorem XO (h0:y≠0)(h:x.tmod y≠0)(h2:decide (x.tmod y<0)≠decide (y<0)):Flo (x.tdiv y-1) (x.tmod y+y) x y:=by
 have h1:=kL (x:=x) h0
 refine⟨?_,fun _=>?_,fun hn=>?_⟩
 ·have:=Int.mul_tdiv_add_tmod x y
  rw [Int.sub_mul,Int.one_mul,Int.mul_comm]
  omega
 ·have f:¬y<0:=by omega
  rw [decide_eq_false f] at h2
  have:x.tmod y<0:=by
   refine Int.lt_of_not_ge (fun _=>h2 (decide_eq_false (by omega)))
  omega
 ·rw [decide_eq_true hn] at h2
  have:¬x.tmod y<0:=fun e=>h2 (decide_eq_true e)
  omega
theorem Zi.sgn (h:Zi w s A n cap z)(h0:z≠0):s=decide (z<0):=by
 obtain⟨xs,_,rfl⟩:=h
 have f:nv xs≠0:=fun e=>h0 (xG.2 e)
 rw [uP,decide_eq_true (show 0<nv xs by omega),Bool.and_true]
theorem MC (w:a6)(t t':aS)(l l':List aM):∃g g2 wa,w.heap.size+1=g2∧w.heap.size=g∧(w.alloc (.cells l.toArray t)).alloc (.cells l'.toArray t')=wa∧Bk wa g t l∧Bk wa g2 t' l'∧Ext w wa∧g<g2∧g2<wa.heap.size∧g≠g2∧g2≠g:=by
 refine⟨_,_,_,rfl,rfl,rfl,(Bk.new w t l).alloc _,?_,((Ext.refl w).alloc _).alloc _,by omega,by simp,by omega,by omega⟩
 have:=Bk.new (w.alloc (.cells l.toArray t)) t' l'
 simpa using this
theorem Zr.upd_hi (h0:Zr w0 base' s A n cap z')(hw:w0.heap.size≤g)(h:Zr w base s A n cap z)(e:Upd g w w'):Zr w' base s A n cap z:=
 ⟨h.sgn,h.len,h.own.upd e (fun a f=>by have:=(h0.own.block a f).2;omega)⟩
def a0F (w:a6)(x y:Int)(e:dL)(w':a6):Prop:=∃q r,Hid (Flo q r x y)∧wB w q r 0 e w'
theorem NM {t:Bool}(hx : Zi w s A n cap x)(hl : n ≤ 68719476736)(hy : Zi w t B m cap' y)(hl' : m ≤ 68719476736)(h0 : y ≠ 0):aP aN 149 #[.agg #[.bool s, we A n cap], .agg #[.bool t, we B m cap']] w (a0F w x y) := by
  have HT := Lib.hid (hy.sgn h0)
  have H0 := Lib.hid h0
  have LX := Lib.hid (a8 hx.ln hl)
  have LY := Lib.hid (a8 hy.ln hl')
  clear h0
  go_enter Tryz.func149, Tryz.ntmps149
  go_upto_region 1 with (fail)
  obtain ⟨g, g2, g3, g4, wa, hg4, hg3, hg2, hg, hwa, hb1, hb2, hb3, hb4, hea, l12, l23, l34, l4, n12, n21, n13, n31, n23, n32, n14, n41, n24, n42, n34, n43⟩ := vV w 24 24 24 24 (.bool s) (we A n cap) (.bool t) (we B m cap') (AS) (we none 0 0) (AS) (we none 0 0)
  rw [hg4, hg3, hg2, hg, hwa]
  have hgw : w.heap.size ≤ g := Nat.le_of_eq hg
  clear hwa hg hg2 hg3 hg4
  obtain ⟨f1, f2, f3, f4⟩ := hb1.two
  obtain ⟨h1, h2, h3, h4⟩ := hb2.two
  go_wp2_with fail
  refine (EO (hx.ext hea) hl (hy.ext hea) hl' H0.out).mono ?_
  rintro e w1 ⟨sq, Aq, nq, cq, sr, Ar, nr, cr, rfl, zq, zr, hx1⟩
  clear f1 f2 f3 f4 h1 h2 h3 h4
  have bq : nq ≤ 68719476736 := zq.le (a8 (dZ (by rw [Int.natAbs_tdiv]; exact fH _ _)) LX.out)
  have br : nr ≤ 68719476736 := zr.le (a8 (dZ (Nat.le_of_lt (kL H0.out))) LY.out)
  go_upto_region 2 with (fail)
  obtain ⟨g7, g8, v1, hg8, hg7, hv1, hb7, hb8, he, l78, l8, n78, n87⟩ := MC w1 24 24 [.bool sq, we Aq nq cq] [.bool sr, we Ar nr cr]
  rw [hg8, hg7, hv1]
  have hs7 : w1.heap.size ≤ g7 := Nat.le_of_eq hg7
  have zr1 := zr
  have zq := zq.ext he
  have zr := zr.ext he
  have x1 := hx1.trans he
  have hb2 := hb2.ext x1
  have hb3 := hb3.ext x1
  have hb4 := hb4.ext x1
  have e1 := hea.trans x1
  have sz1 := hx1.size
  clear hg8 hg7 hv1 he hb1 hx1
  obtain ⟨f1, f2, f3, f4⟩ := hb7.two
  obtain ⟨h1, h2, h3, h4⟩ := hb8.two
  obtain ⟨i1, i2, i3, i4⟩ := hb2.two
  have hn37 : g3 ≠ g7 := by omega
  have hn38 : g3 ≠ g8 := by omega
  have hn47 : g4 ≠ g7 := by omega
  have hn48 : g4 ≠ g8 := by omega
  have hn27 : g2 ≠ g7 := by omega
  have hn28 : g2 ≠ g8 := by omega
  have hn73 := hn37.symm
  have hn83 := hn38.symm
  have hn74 := hn47.symm
  have hn84 := hn48.symm
  by_cases hr0 : x.tmod y = 0
  · obtain rfl : nr = 0 := by rw [zr.len, hr0]; rfl
    have HF : Hid (Flo (x.tdiv y) (x.tmod y) x y) := KW H0.out (cH hr0)
    clear hr0
    go_upto_region 5 with (fail)
    clear f1 f2 f3 f4 h1 h2 h3 h4 i1 i2 i3 i4
    obtain ⟨f1, f2, f3, f4⟩ := hb7.two
    obtain ⟨h1, h2, h3, h4⟩ := hb8.two
    obtain ⟨i1, i2, i3, i4⟩ := hb3.two
    obtain ⟨k1, k2, k3, k4⟩ := hb4.two
    go_region_held3 (fun w' => w'.cell? ⟨g7, 0, none⟩ = some (.bool sq) ∧ w'.cell? ⟨g7, 1, none⟩ = some (we Aq nq cq) ∧ w'.cell? ⟨g8, 0, none⟩ = some (.bool sr) ∧ w'.cell? ⟨g8, 1, none⟩ = some (we Ar 0 cr)) (go_keep) (fail)
    all_goals
      go_wp2_with fail
      first
      | (refine fO (nD rfl rfl rfl rfl (((hb3.drew).two_set _ _).two_far n34 _ _) (((hb4.drew).two_far n43 _ _).two_set _ _)) rfl ?_
         exact ⟨x.tdiv y, x.tmod y, HF, _, _, _, _, _, _, _, _, rfl, (((zq.ext aL.drew).upd (by omega) (Upd.two _ _)).upd (by omega) (Upd.two _ _)).mono (by omega), (((zr.ext aL.drew).upd (by omega) (Upd.two _ _)).upd (by omega) (Upd.two _ _)).mono (by omega), (Upd.two _ _).ext ((Upd.two _ _).ext e1.drew (by omega)) (by omega)⟩)
      | (refine fO (nD rfl rfl rfl rfl (((hb3.drew).two_far n34 _ _).two_set _ _) (((hb4.drew).two_set _ _).two_far n43 _ _)) rfl ?_
         exact ⟨x.tdiv y, x.tmod y, HF, _, _, _, _, _, _, _, _, rfl, (((zq.ext aL.drew).upd (by omega) (Upd.two _ _)).upd (by omega) (Upd.two _ _)).mono (by omega), (((zr.ext aL.drew).upd (by omega) (Upd.two _ _)).upd (by omega) (Upd.two _ _)).mono (by omega), (Upd.two _ _).ext ((Upd.two _ _).ext e1.drew (by omega)) (by omega)⟩)
  · have hnn : 0 < nr := by
      have : nr ≠ 0 := fun e => hr0 (by have h := zr.len; rw [e] at h; have := m0.1 h.symm; omega)
      omega
    have hn : 0 < (nr : Int) := by omega
    by_cases hss : sr = t
    · have bs : (sr == t) = true := by rw [hss]; cases t <;> rfl
      have HF : Hid (Flo (x.tdiv y) (x.tmod y) x y) := KW H0.out (cO (by rw [← zr.sgn, ← HT.out, hss]))
      clear hr0 hss
      go_upto_region 5 with (fail)
      clear f1 f2 f3 f4 h1 h2 h3 h4 i1 i2 i3 i4
      obtain ⟨f1, f2, f3, f4⟩ := hb7.two
      obtain ⟨h1, h2, h3, h4⟩ := hb8.two
      obtain ⟨i1, i2, i3, i4⟩ := hb3.two
      obtain ⟨k1, k2, k3, k4⟩ := hb4.two
      go_region_held3 (fun w' => w'.cell? ⟨g7, 0, none⟩ = some (.bool sq) ∧ w'.cell? ⟨g7, 1, none⟩ = some (we Aq nq cq) ∧ w'.cell? ⟨g8, 0, none⟩ = some (.bool sr) ∧ w'.cell? ⟨g8, 1, none⟩ = some (we Ar nr cr)) (go_keep) (fail)
      all_goals
        go_wp2_with fail
        first
        | (refine fO (nD rfl rfl rfl rfl (((hb3.drew).two_set _ _).two_far n34 _ _) (((hb4.drew).two_far n43 _ _).two_set _ _)) rfl ?_
           exact ⟨x.tdiv y, x.tmod y, HF, _, _, _, _, _, _, _, _, rfl, (((zq.ext aL.drew).upd (by omega) (Upd.two _ _)).upd (by omega) (Upd.two _ _)).mono (by omega), (((zr.ext aL.drew).upd (by omega) (Upd.two _ _)).upd (by omega) (Upd.two _ _)).mono (by omega), (Upd.two _ _).ext ((Upd.two _ _).ext e1.drew (by omega)) (by omega)⟩)
        | (refine fO (nD rfl rfl rfl rfl (((hb3.drew).two_far n34 _ _).two_set _ _) (((hb4.drew).two_set _ _).two_far n43 _ _)) rfl ?_
           exact ⟨x.tdiv y, x.tmod y, HF, _, _, _, _, _, _, _, _, rfl, (((zq.ext aL.drew).upd (by omega) (Upd.two _ _)).upd (by omega) (Upd.two _ _)).mono (by omega), (((zr.ext aL.drew).upd (by omega) (Upd.two _ _)).upd (by omega) (Upd.two _ _)).mono (by omega), (Upd.two _ _).ext ((Upd.two _ _).ext e1.drew (by omega)) (by omega)⟩)
    · have bs : (sr == t) = false := by cases sr <;> cases t <;> simp_all
      have HF : Hid (Flo (x.tdiv y - 1) (x.tmod y + y) x y) := XO H0.out hr0 (by rw [← zr.sgn, ← HT.out]; exact hss)
      clear hr0 hss
      go_upto_region 3 with (fail)
      go_region_with (first
        | (go_at_call 61; refine (EQ (v := 1) (by omega)).mono ?_; rintro e w5 ⟨s5, A5, n5, c5, rfl, z5, hx5⟩; have b5 : n5 ≤ 1 := z5.le (by decide +kernel); have he5 : Ext v1 w5 := Ext.trans (by repeat (first | exact Ext.refl _ | assumption | apply Ext.drewN | apply Ext.drew | apply Ext.alloc)) hx5; clear f1 f2 f3 f4 h1 h2 h3 h4 i1 i2 i3 i4; obtain ⟨f1, f2, f3, f4⟩ := (hb7.ext he5).two)
        | (go_at_call 69; refine (EP (zq.zi.ext (by repeat (first | exact Ext.refl _ | assumption | apply Ext.drewN | apply Ext.drew | apply Ext.alloc))) (by omega) z5.zi (by omega)).mono ?_; rintro e w6 ⟨s6, A6, n6, c6, rfl, z6, hx6⟩; have he6 : Ext v1 w6 := he5.trans hx6; clear f1 f2 f3 f4; obtain ⟨f1, f2, f3, f4⟩ := (hb7.ext he6).two))
      all_goals
        clear f1 f2 f3 f4
        obtain ⟨wb, hwb⟩ : ∃ wb, (w6.setCell ⟨g7, 0, none⟩ (.bool s6)).setCell ⟨g7, 1, none⟩ (.slice A6 n6 c6) = wb := ⟨_, rfl⟩
        rw [hwb]
        have sz5 := he5.size
        have q7 : Bk wb g7 24 [.bool s6, we A6 n6 c6] := by rw [← hwb]; exact (hb7.ext he6).two_set _ _
        have q8 : Bk wb g8 24 [.bool sr, we Ar nr cr] := by rw [← hwb]; exact (hb8.ext he6).two_far n87 _ _
        have q2 : Bk wb g2 24 [.bool t, we B m cap'] := by rw [← hwb]; exact (hb2.ext he6).two_far hn27 _ _
        have q3 : Bk wb g3 24 [AS, we none 0 0] := by rw [← hwb]; exact (hb3.ext he6).two_far hn37 _ _
        have q4 : Bk wb g4 24 [AS, we none 0 0] := by rw [← hwb]; exact (hb4.ext he6).two_far hn47 _ _
        have y6 : Zr wb w5.heap.size s6 A6 n6 c6 (x.tdiv y - 1) := by rw [← hwb]; exact z6.upd (by omega) (Upd.two _ _)
        have yr : Zr wb wa.heap.size sr Ar nr cr (x.tmod y) := by rw [← hwb]; exact Zr.upd_hi zr1 hs7 (zr.ext he6) (Upd.two _ _)
        have eb : Ext w wb := by rw [← hwb]; exact (Upd.two _ _).ext (e1.trans he6) (by omega)
        have szb : w6.heap.size ≤ wb.heap.size := by rw [← hwb]; simp [sD]
        have sz6 := hx6.size
        clear hwb
        obtain ⟨h1, h2, h3, h4⟩ := q8.two
        obtain ⟨i1, i2, i3, i4⟩ := q2.two
        go_wp2_with fail
        refine (wQ yr.zi (by omega) (hy.ext eb) (by omega)).mono ?_
        rintro e w7 ⟨s9, A9, n9, c9, rfl, z9, hx7⟩
        clear h1 h2 h3 h4 i1 i2 i3 i4
        obtain ⟨h1, h2, h3, h4⟩ := (q8.ext hx7).two
        go_upto_region 5 with (fail)
        clear h1 h2 h3 h4
        obtain ⟨wc, hwc⟩ : ∃ wc, (w7.setCell ⟨g8, 0, none⟩ (.bool s9)).setCell ⟨g8, 1, none⟩ (.slice A9 n9 c9) = wc := ⟨_, rfl⟩
        rw [hwc]
        have u7 : Bk wc g7 24 [.bool s6, we A6 n6 c6] := by rw [← hwc]; exact (q7.ext hx7).two_far n78 _ _
        have u8 : Bk wc g8 24 [.bool s9, we A9 n9 c9] := by rw [← hwc]; exact (q8.ext hx7).two_set _ _
        have u3 : Bk wc g3 24 [AS, we none 0 0] := by rw [← hwc]; exact (q3.ext hx7).two_far hn38 _ _
        have u4 : Bk wc g4 24 [AS, we none 0 0] := by rw [← hwc]; exact (q4.ext hx7).two_far hn48 _ _
        have t6 : Zr wc w5.heap.size s6 A6 n6 c6 (x.tdiv y - 1) := by rw [← hwc]; exact (y6.ext hx7).upd (by omega) (Upd.two _ _)
        have t9 : Zr wc wb.heap.size s9 A9 n9 c9 (x.tmod y + y) := by rw [← hwc]; exact z9.upd (by omega) (Upd.two _ _)
        have ec : Ext w wc := by rw [← hwc]; exact (Upd.two _ _).ext (eb.trans hx7) (by omega)
        clear hwc q7 q8 q2 q3 q4
        obtain ⟨f1, f2, f3, f4⟩ := u7.two
        obtain ⟨h1, h2, h3, h4⟩ := u8.two
        obtain ⟨i1, i2, i3, i4⟩ := u3.two
        obtain ⟨k1, k2, k3, k4⟩ := u4.two
        go_region_held3 (fun w' => w'.cell? ⟨g7, 0, none⟩ = some (.bool s6) ∧ w'.cell? ⟨g7, 1, none⟩ = some (we A6 n6 c6) ∧ w'.cell? ⟨g8, 0, none⟩ = some (.bool s9) ∧ w'.cell? ⟨g8, 1, none⟩ = some (we A9 n9 c9)) (go_keep) (fail)
        all_goals
          go_wp2_with fail
          first
          | (refine fO (nD rfl rfl rfl rfl (((u3.drew).two_set _ _).two_far n34 _ _) (((u4.drew).two_far n43 _ _).two_set _ _)) rfl ?_
             exact ⟨x.tdiv y - 1, x.tmod y + y, HF, _, _, _, _, _, _, _, _, rfl, (((t6.ext aL.drew).upd (by omega) (Upd.two _ _)).upd (by omega) (Upd.two _ _)).mono (by omega), (((t9.ext aL.drew).upd (by omega) (Upd.two _ _)).upd (by omega) (Upd.two _ _)).mono (by omega), (Upd.two _ _).ext ((Upd.two _ _).ext ec.drew (by omega)) (by omega)⟩)
          | (refine fO (nD rfl rfl rfl rfl (((u3.drew).two_far n34 _ _).two_set _ _) (((u4.drew).two_set _ _).two_far n43 _ _)) rfl ?_
             exact ⟨x.tdiv y - 1, x.tmod y + y, HF, _, _, _, _, _, _, _, _, rfl, (((t6.ext aL.drew).upd (by omega) (Upd.two _ _)).upd (by omega) (Upd.two _ _)).mono (by omega), (((t9.ext aL.drew).upd (by omega) (Upd.two _ _)).upd (by omega) (Upd.two _ _)).mono (by omega), (Upd.two _ _).ext ((Upd.two _ _).ext ec.drew (by omega)) (by omega)⟩)
end
section
namespace Pop
def mk (m:Nat):Nat→Nat
 | 0=>0
 | k+1=>m+256*mk m k
theorem vY (a A m M:Nat)(ha:a<256)(hm:m<256:=by omega):(a+256*A)&&& (m+256*M)=(a&&& m)+256*(A&&& M):=by
 have h1:((a+256*A)&&& (m+256*M))%2^8=a&&& m:=by
  rw [Nat.and_mod_two_pow]
  congr 1 <;> omega
 have h2:((a+256*A)&&& (m+256*M))/2^8=A&&& M:=by
  rw [Nat.and_div_two_pow]
  congr 1 <;> omega
 have e:=Nat.mod_add_div ((a+256*A)&&& (m+256*M)) (2^8)
 rw [h1,h2] at e
 exact e.symm
def f1 (k x:Nat):Nat:=(x/2&&& mk 85 k)+(x&&& mk 85 k)
def f2 (k x:Nat):Nat:=(x/4&&& mk 51 k)+(x&&& mk 51 k)
def f3 (k x:Nat):Nat:=(x/16+x)&&& mk 15 k
def d1 (b:Nat):Nat:=(b/2&&& 85)+(b&&& 85)
def d2 (b:Nat):Nat:=(b/4&&& 51)+(b&&& 51)
def d3 (b:Nat):Nat:=(b/16+b)&&& 15
def pc (b:Nat):Nat:=d3 (d2 (d1 b))
theorem t1:∀b:Fin 256,∀p:Fin 2,((b.val/2+128*p.val)&&& 85)=(b.val/2&&& 85):=by decide+kernel
theorem t2:∀b:Fin 256,∀p:Fin 4,((b.val/4+64*p.val)&&& 51)=(b.val/4&&& 51):=by decide+kernel
theorem t3:∀b:Fin 256,∀p:Fin 5,((d2 (d1 b.val)/16+d2 (d1 b.val)+16*p.val)&&& 15)=pc b.val:=by decide+kernel
theorem t4:∀b:Fin 256,d1 b.val<256∧d2 (d1 b.val)<69∧d2 (d1 b.val)%16≤4∧pc b.val≤8∧(pc b.val=0→b.val=0)∧(128≤b.val→pc b.val≤1→b.val=128):=by decide+kernel
theorem YC {B:Nat}(hb:b<256):f1 (k+1) (b+256*B)=d1 b+256*f1 k B:=by
 unfold f1 d1
 rw [show mk 85 (k+1)=85+256*mk 85 k from rfl]
 have e:(b+256*B)/2=(b/2+128*(B%2))+256*(B/2):=by omega
 rw [e,vY _ _ _ _ (by omega),vY _ _ _ _ hb,t1 ⟨b,hb⟩ ⟨B%2,by omega⟩]
 show (b/2&&& 85)+_+_=_
 omega
theorem YB {B:Nat}(hb:b<256):f2 (k+1) (b+256*B)=d2 b+256*f2 k B:=by
 unfold f2 d2
 rw [show mk 51 (k+1)=51+256*mk 51 k from rfl]
 have e:(b+256*B)/4=(b/4+64*(B%4))+256*(B/4):=by omega
 rw [e,vY _ _ _ _ (by omega),vY _ _ _ _ hb,t2 ⟨b,hb⟩ ⟨B%4,by omega⟩]
 show (b/4&&& 51)+_+_=_
 omega
theorem pG {B:Nat}(hb:b<256)(hB:f2 k (f1 k B)%16≤4):f3 (k+1) (f2 (k+1) (f1 (k+1) (b+256*B)))=pc b+256*f3 k (f2 k (f1 k B))∧f2 (k+1) (f1 (k+1) (b+256*B))%16≤4:=by
 obtain⟨h1,h2,_,_⟩:=t4 ⟨b,hb⟩
 rw [YC hb,YB h1]
 refine⟨?_,by omega⟩
 generalize f2 k (f1 k B)=C at*
 unfold f3
 rw [show mk 15 (k+1)=15+256*mk 15 k from rfl]
 have e:(d2 (d1 b)+256*C)/16+(d2 (d1 b)+256*C)=(d2 (d1 b)/16+d2 (d1 b)+16*(C%16))+256*(C/16+C):=by omega
 have h2':d2 (d1 b)<69:=h2
 rw [e,vY _ _ _ _ (by omega),t3 ⟨b,hb⟩ ⟨C%16,by omega⟩]
theorem YE {b0 b1 b2 b3 b4 b5 b6 b7:Nat}(h0:b0<256)(h1:b1<256)(h2:b2<256)(h3:b3<256)(h4:b4<256)(h5:b5<256)(h6:b6<256)(h7:b7<256):f3 8 (f2 8 (f1 8 (b0+256*(b1+256*(b2+256*(b3+256*(b4+256*(b5+256*(b6+256*(b7+256*0))))))))))
   =pc b0+256*(pc b1+256*(pc b2+256*(pc b3+256*(pc b4+256*(pc b5+256*(pc b6+256*pc b7)))))):=by
 have e:=pG (k:=0) (B:=0) h7 (by decide)
 have o:=pG h6 e.2
 have p:=pG h5 o.2
 have h:=pG h4 p.2
 have f:=pG h3 h.2
 have s2:=pG h2 f.2
 have s1:=pG h1 s2.2
 have q:=pG h0 s1.2
 rw [q.1,s1.1,s2.1,f.1,h.1,p.1,o.1,e.1]
 simp [f3,mk]
theorem XL {p0 p1 p2 p3 p4 p5 p6 p7:Nat}(h0:p0≤8)(h1:p1≤8)(h2:p2≤8)(h3:p3≤8)(h4:p4≤8)(h5:p5≤8)(h6:p6≤8)(h7:p7≤8)(e3:x3=p0+256*(p1+256*(p2+256*(p3+256*(p4+256*(p5+256*(p6+256*p7)))))))(e4:x4=x3+x3/256)(e5:x5=x4+x4/65536)(e6:x6=x5+x5/4294967296):x6%128=p0+p1+p2+p3+p4+p5+p6+p7∧x6<18446744073709551616:=by
 have f:x4=(p0+p1)+256*((p1+p2)+256*((p2+p3)+256*((p3+p4)+256*((p4+p5)+256*((p5+p6)+256*((p6+p7)+256*p7)))))):=by omega
 clear e3 e4
 have e:x5=(p0+p1+p2+p3)+256*((p1+p2+p3+p4)+256*((p2+p3+p4+p5)+256*((p3+p4+p5+p6)+256*((p4+p5+p6+p7)+256*((p5+p6+p7)+256*((p6+p7)+256*p7)))))):=by omega
 clear f e5
 have gq:x5/4294967296=(p4+p5+p6+p7)+256*((p5+p6+p7)+256*((p6+p7)+256*p7)):=by omega
 rw [gq] at e6
 have h:x6=(p0+p1+p2+p3+p4+p5+p6+p7)+256*(((p1+p2+p3+p4)+256*((p2+p3+p4+p5)+256*((p3+p4+p5+p6)+256*((p4+p5+p6+p7)+256*((p5+p6+p7)+256*((p6+p7)+256*p7))))))+((p5+p6+p7)+256*((p6+p7)+256*p7))):=by omega
 clear gq e6 e
 omega
theorem one {x x1 x2:Nat}(hx:x<18446744073709551616)(hh:9223372036854775808≤x)(e1:x1=f1 8 x)(e2:x2=f2 8 x1)(e3:x3=f3 8 x2)(e4:x4=x3+x3/256)(e5:x5=x4+x4/65536)(e6:x6=x5+x5/4294967296):x6%128=1↔x=9223372036854775808:=by
 obtain⟨I,q0,p,az⟩:∃b q,b<256∧x=b+256*q:=⟨x%256,x/256,by omega,by omega⟩
 obtain⟨o,q1,D,am⟩:∃b q,b<256∧q0=b+256*q:=⟨q0%256,q0/256,by omega,by omega⟩
 obtain⟨G,q2,E,aq⟩:∃b q,b<256∧q1=b+256*q:=⟨q1%256,q1/256,by omega,by omega⟩
 obtain⟨W,q3,F,ba⟩:∃b q,b<256∧q2=b+256*q:=⟨q2%256,q2/256,by omega,by omega⟩
 obtain⟨U,q4,r,ap⟩:∃b q,b<256∧q3=b+256*q:=⟨q3%256,q3/256,by omega,by omega⟩
 obtain⟨M,q5,H,bd⟩:∃b q,b<256∧q4=b+256*q:=⟨q4%256,q4/256,by omega,by omega⟩
 obtain⟨X,f,L,ar⟩:∃b q,b<256∧q5=b+256*q:=⟨q5%256,q5/256,by omega,by omega⟩
 have Y:f<256:=by omega
 have hb7':128≤f:=by omega
 have e:=YE p D E F r H L Y
 have ex:x=I+256*(o+256*(G+256*(W+256*(U+256*(M+256*(X+256*(f+256*0))))))):=by omega
 rw [←ex,←e1,←e2,←e3] at e
 have Z:=(t4 ⟨I,p⟩).2.2.2
 have p1:=(t4 ⟨o,D⟩).2.2.2
 have p2:=(t4 ⟨G,E⟩).2.2.2
 have p3:=(t4 ⟨W,F⟩).2.2.2
 have p4:=(t4 ⟨U,r⟩).2.2.2
 have p5:=(t4 ⟨M,H⟩).2.2.2
 have p6:=(t4 ⟨X,L⟩).2.2.2
 have V:=(t4 ⟨f,Y⟩).2.2.2
 have hf:=(XL Z.1 p1.1 p2.1 p3.1 p4.1 p5.1 p6.1 V.1 e e4 e5 e6).1
 simp only at Z p1 p2 p3 p4 p5 p6 V
 rw [hf]
 show (pc I+pc o+pc G+pc W+pc U+pc M+pc X+pc f=1)↔_
 constructor
 ·intro h
  have h7:pc f≠0:=fun hz=>by have:=V.2.1 hz;omega
  have hs:pc I+pc o+pc G+pc W+pc U+pc M+pc X=0∧pc f=1:=by clear Z p1 p2 p3 p4 p5 p6 V e e1 e2 e3 e4 e5 e6 ex az am aq ba ap bd ar hf;omega
  obtain⟨hs,_⟩:=hs
  have z0:=Z.2.1 (by omega)
  have z1:=p1.2.1 (by omega)
  have z2:=p2.2.1 (by omega)
  have z3:=p3.2.1 (by omega)
  have z4:=p4.2.1 (by omega)
  have z5:=p5.2.1 (by omega)
  have z6:=p6.2.1 (by omega)
  have z7:=V.2.2 hb7' (by omega)
  omega
 ·intro h
  obtain rfl:f=128:=by omega
  obtain rfl:I=0:=by omega
  obtain rfl:o=0:=by omega
  obtain rfl:G=0:=by omega
  obtain rfl:W=0:=by omega
  obtain rfl:U=0:=by omega
  obtain rfl:M=0:=by omega
  obtain rfl:X=0:=by omega
  decide
end Pop
end
section
open Go.RowKit
theorem NH {v:Nat}(hv1:1≤v)(hv:v≤9223372036854775808):aP aN 61 #[no (-(v:Int))] w (lR w (-(v:Int))):=by
 have hn: -(v:Int)<0:=by omega
 have w1e:IntKind.u64.wrap (-(v:Int))=18446744073709551616-(v:Int):=by
  simp only [wN,uG,uF]
  simp
  omega
 have w2e:IntKind.u64.wrap (-(18446744073709551616-(v:Int)))=(v:Int):=by
  simp only [wN,uG,uF]
  simp
  omega
 have W1:=Lib.hid w1e
 have W2:=Lib.hid w2e
 clear w1e w2e
 go_enter Tryz.func61,Tryz.ntmps61
 go_upto_region 2 with (fail)
 obtain⟨g,hg⟩:∃g,w.heap.size=g:=⟨_,rfl⟩
 obtain⟨wa,hwa⟩:∃wa,w.alloc (.cells #[.bool false,.slice none 0 0] 24)=wa:=⟨_,rfl⟩
 rw [hg,hwa]
 have hb:Bk wa g 24 (a5 false none 0 0):=by rw [←hwa,←hg];exact Bk.new w 24 (a5 false none 0 0)
 have hea:Ext w wa:=by rw [←hwa];exact (Ext.refl w).alloc _
 have hga:w.heap.size≤g:=Nat.le_of_eq hg
 have hgl:g<wa.heap.size:=hb.lt
 clear hwa hg
 obtain⟨k1,k2,k3,k4⟩:=hb.two
 have h1:Rd (wa.alloc (.cells #[up (v:Int)] 65)) (some ⟨wa.heap.size,0,none⟩) 1 1 [v]:=Rd.one wa (by omega)
 have w1e:=W1.out
 have w2e:=W2.out
 go_wp2_with fail
 clear w1e w2e
 refine (jB (h1.ext (by repeat (first | exact Ext.refl _ | assumption | apply Ext.drewN | apply Ext.drew | apply Ext.alloc)))).mono ?_
 rintro e w1 ⟨A1,n1,c1,rfl,hn1,hr1,ho1,hx1⟩
 rw [uY] at hn1 ho1
 have hx1':Ext wa w1:=Ext.trans (by repeat (first | exact Ext.refl _ | assumption | apply Ext.drewN | apply Ext.drew | apply Ext.alloc)) hx1
 have hd:=hb.ext hx1'
 have hsz:=hx1'.size
 go_wp2_with fail
 refine (kZ hn1.out).mono ?_
 rintro e w2 ⟨s',rfl,hs',hx2⟩
 have hd:=hd.ext hx2
 clear k1 k2 k3 k4
 obtain⟨k1,k2,k3,k4⟩:=hd.two
 go_wp2_with fail
 refine fO (lU J J (hd.two_set _ _)) J ?_
 exact lL hd ((jL hs'.out hn1.out ho1 (sU _)).ext hx2) (hea.trans (hx1'.trans hx2)) (hg:=(by simp;omega))
theorem NI {v:Int}(h1: -9223372036854775808≤v)(h2:v≤9223372036854775807):aP aN 61 #[no v] w (lR w v):=by
 by_cases h:0≤v
 ·obtain⟨m,rfl⟩:=Int.eq_ofNat_of_zero_le h
  exact EQ (by omega)
 ·obtain⟨m,e⟩:∃m:Nat,v= -(m:Int):=⟨v.natAbs,by omega⟩
  subst e
  exact NH (by omega) (by omega)
theorem UR (t s:Nat):∀m:Nat,(m+1)*t*s^m≤t^(m+1)+m*s^(m+1):=by
 intro m
 induction m with
 | zero=>simp
 | succ m ih=>
  have h1:=fJ t ih
  have o:2*(t*s)≤t*t+s*s:=by
   rcases Nat.le_total t s with h | h
   ·obtain⟨d,rfl⟩:=Nat.exists_eq_add_of_le h
    have e:(t+d)*(t+d)=t*t+t*d+(t*d+d*d):=by rw [dK,cI,cI,cL d t]
    have f:t*(t+d)=t*t+t*d:=cI _ _ _
    rw [e,f]
    omega
   ·obtain⟨d,rfl⟩:=Nat.exists_eq_add_of_le h
    have e:(s+d)*(s+d)=s*s+s*d+(s*d+d*d):=by rw [dK,cI,cI,cL d s]
    have f:(s+d)*s=s*s+s*d:=by rw [dK,cL d s]
    rw [e,f]
    omega
  have h2:=fJ ((m+1)*s^m) o
  have e:t*((m+1)*t*s^m)=(m+1)*s^m*(t*t):=by
   simp only [cL,Nat.mul_left_comm,bX]
  have f:t*(t^(m+1)+m*s^(m+1))=t^(m+1+1)+m*(t*s^(m+1)):=by
   rw [cI,cW t (m+1),cL t (t^(m+1)),Nat.mul_left_comm]
  have q:(m+1)*s^m*(2*(t*s))=2*((m+1)*(t*s^(m+1))):=by
   rw [cW];simp only [cL,Nat.mul_left_comm,bX]
  have D:(m+1)*s^m*(t*t+s*s)=(m+1)*s^m*(t*t)+(m+1)*s^(m+1+1):=by
   rw [cI,cW,cW];simp only [cL,bX]
  rw [e,f] at h1
  rw [q,D] at h2
  have r:(m+1+1)*t*s^(m+1)=m*(t*s^(m+1))+2*(t*s^(m+1)):=by
   rw [bX,←dK]
  have p:(m+1)*(t*s^(m+1))=m*(t*s^(m+1))+t*s^(m+1):=nT _ _
  rw [r]
  rw [p] at h2
  omega
theorem U9 {s:Nat}(hq:X<(q+1)*s^m):X<(((s*m+q)/(m+1))+1)^(m+1):=by
 have h1:=UR (((s*m+q)/(m+1))+1) s m
 have h2:s*m+q+1≤(m+1)*((s*m+q)/(m+1)+1):=by
  have:=qE (s*m+q) (show 0<m+1 by omega)
  exact this
 have f:=eI (s^m) h2
 have e:(s*m+q+1)*s^m=m*s^(m+1)+(q+1)*s^m:=by
  rw [Nat.add_assoc,dK,cW]
  congr 1
  rw [cL s m,bX,cL s (s^m)]
 rw [e] at f
 omega
theorem U8 {s:Nat}(hs:0<s)(hq:q=X/s^m)(h:s≤(s*m+q)/(m+1)):s^(m+1)≤X:=by
 have h1:s*(m+1)≤s*m+q:=(Nat.le_div_iff_mul_le (by omega)).1 h
 have h2:s≤q:=by rw [qD] at h1;omega
 rw [hq] at h2
 have:=(Nat.le_div_iff_mul_le (gB hs)).1 h2
 rw [cW,cL]
 exact this
theorem K1 {x s:Nat}(hs:s≤63)(P:bW)(t:aS)(w:a6):(binOp .shr t (no (x:Int)) (no (s:Int))).run P w= .ok (no ((x/2^s:Nat):Int)) w:=by
 have e:((x:Int)/2^min (s:Int).toNat IntKind.i64.bits)=((x/2^s:Nat):Int):=by
  rw [gZ,show min s IntKind.i64.bits=s from gD (by show s≤64;omega)];simp
 simp only [binOp]
 rw [shift_shr_any _ _ _ _ (by omega),e];rfl
theorem K4 {x:Nat}(hx:x≤9223372036854775807)(P:bW)(t:aS)(w:a6):(binOp .and t (no (x:Int)) (no 1)).run P w= .ok (no ((x%2:Nat):Int)) w:=by
 have e:IntKind.i64.wrap ((p8 64 (x:Int)&&& p8 64 ((1:Nat):Int)).toNat:Int)=((x%2:Nat):Int):=by
  rw [BitVec.toNat_and,pM (by omega),pM (by omega),Nat.and_one_is_mod,AU]
 rw [←e];rfl
theorem TN {S n k:Nat}:S^(n/2^k)=S^(n/2^(k+1))*S^(n/2^(k+1))*(if n/2^k%2=1 then S else 1):=by
 have e:n/2^(k+1)=n/2^k/2:=by rw [cW,Nat.div_div_eq_div_mul]
 rw [e,←dU]
 generalize n/2^k=a
 split
 ·rename_i h
  rw [←cW]
  congr 1;omega
 ·rename_i h
  rw [dV]
  congr 1;omega
theorem TM {S:Nat}:S^(n/2^k)≤S^n+1:=by
 rcases jQ S with h | h
 ·subst h
  have:(0:Nat)^(n/2^k)≤1:=by
   rcases jQ (n/2^k) with e | e
   ·rw [e];simp
   ·rw [Nat.zero_pow e];omega
  generalize (0:Nat)^n=z
  omega
 ·have:=eS h (fH n (2^k))
  omega
theorem YR (hx:Rd w A n cap xs)(hl:n≤17179869184)(hk:k≤4611686018427387904)(hL:(wd (nv xs^k)).length≤17179869184):aP aN 246 #[we A n cap,no (k:Int)] w (iF w (nv xs^k)):=by
 have HL:=Lib.hid hL
 clear hL
 have small:∀j,(wd (nv xs^(k/2^j))).length≤17179869185:=by
  intro j
  refine a8 (gK TM) ?_
  have h1:=vG (nv xs^k) 1
  have h2:(wd 1).length=1:=by decide+kernel
  have:=HL.out
  omega
 have SM:=Lib.hid small
 clear small
 go_enter Tryz.func246,Tryz.ntmps246
 go_wp2_with fail
 refine (bits_Len k (by omega) _).mono ?_
 rintro e w' ⟨b,hb,hb64,rfl,rfl⟩
 obtain⟨wa,hwa⟩:∃wa,w.alloc (.cells #[.int .u64 1] 65)=wa:=⟨_,rfl⟩
 rw [hwa]
 have h1:Own wa w.heap.size 65 1 (some ⟨w.heap.size,0,none⟩) 1 1 ((wd 1).map bF):=by
  have e1:wd 1= [1]:=by decide+kernel
  rw [e1,←hwa]
  exact Own.mk_ (aZ _) (Bk.new w 65 [up 1]) (aZ _) (by rw [eG];omega) J rfl
 have he:Ext w wa:=by rw [←hwa];exact (Ext.refl w).alloc _
 have hstart:Hid (nv xs^(k/2^b)=1):=by
  show _=_
  rw [i8 (by rw [hb.out];exact pQ k)];rfl
 clear hwa
 go_wp2_with fail
 go_loopw [5,6] (fun u v wr=>∃(P:Option aB) (m c j:Nat),u= we P m c∧v= no ((j:Int)-1)∧j≤b∧Hid (m=(wd (nv xs^(k/2^j))).length)∧Own wr w.heap.size 65 1 P m c ((wd (nv xs^(k/2^j))).map bF)∧Ext w wr) (fun u v wr=>(intOf v+1).toNat)
 case atStart=>exact⟨_,1,1,b,rfl,rfl,aZ _,(show _=_ by rw [hstart.out];decide+kernel),by rw [hstart.out];exact h1,he⟩
 case round=>
  obtain⟨P,m,c,j,rfl,rfl,hj,hm,ho,hr⟩:=hrel
  clear h1 he hstart
  by_cases hj0:0<j
  ·obtain⟨j,rfl⟩:∃i,j=i+1:=⟨j-1,by omega⟩
   have ek:((j+1:Nat):Int)-1=(j:Int):=by omega
   rw [ek]
   have hmb:m≤17179869185:=by rw [hm.out];exact SM.out _
   have hph:=Lib.hid (@TN (nv xs) k j)
   have hrd:=ho.rd (oS _)
   go_wp2_with fail
   refine (CK hrd (by omega)).mono ?_
   rintro e w2 ⟨A2,n2,c2,rfl,hn2,hr2,ho2,hx2⟩
   rw [dA] at hn2 hr2 ho2
   have hn2b:n2≤34359738370:=by
    have:=vF (nv xs^(k/2^(j+1))) (nv xs^(k/2^(j+1)))
    have h3:=SM.out (j+1)
    rw [hn2.out];omega
   by_cases hodd:k/2^j%2=1
   ·have HO:=Lib.hid hodd
    clear hodd
    go_wp2_with (first
     | ((with_reducible refine d5 (some 20) ?_);refine mG rfl rfl rfl rfl rfl (K1 (x:=k) (s:=j) (by omega)) ?_;intro d hd)
     | ((with_reducible refine d5 (some 21) ?_);refine mG rfl rfl rfl rfl rfl (K4 (x:=d) (by rw [hd.out];exact a8 (fH _ _) (by omega))) ?_;intro b2 hb2;have bt:((b2:Int)==1)=true:=(by rw [hb2.out,hd.out,HO.out];rfl)))
    refine (vD hr2 (hx.ext (hr.trans hx2))).mono ?_
    rintro e w3 ⟨A3,n3,c3,rfl,hn3,hr3,ho3,hx3⟩
    have ep:nv xs^(k/2^(j+1))*nv xs^(k/2^(j+1))*nv xs=nv xs^(k/2^j):=by
     have:=hph.out
     rw [if_pos HO.out] at this
     exact this.symm
    rw [dA,ep] at hn3 hr3 ho3
    have HE:=(hr.trans hx2).size
    clear ep
    go_wp2_with fail
    go_roundw
    case rel=>exact⟨A3,n3,c3,j,rfl,rfl,by omega,hn3,ho3.mono HE,(hr.trans hx2).trans hx3⟩
    case measure=>simp [intOf]
   ·have HO:=Lib.hid hodd
    clear hodd
    go_wp2_with (first
     | ((with_reducible refine d5 (some 20) ?_);refine mG rfl rfl rfl rfl rfl (K1 (x:=k) (s:=j) (by omega)) ?_;intro d hd)
     | ((with_reducible refine d5 (some 21) ?_);refine mG rfl rfl rfl rfl rfl (K4 (x:=d) (by rw [hd.out];exact a8 (fH _ _) (by omega))) ?_;intro b2 hb2;have bt:((b2:Int)==1)=false:=(by have h1:=hb2.out;have h2:=HO.out;rw [←hd.out] at h2;simp;omega)))
    have ep:nv xs^(k/2^(j+1))*nv xs^(k/2^(j+1))=nv xs^(k/2^j):=by
     have:=hph.out
     rw [if_neg HO.out,dV] at this
     exact this.symm
    rw [ep] at hn2 ho2
    go_roundw
    case rel=>exact⟨A2,n2,c2,j,rfl,rfl,by omega,hn2,ho2.mono hr.size,hr.trans hx2⟩
    case measure=>simp [intOf]
  ·obtain rfl:j=0:=by omega
   have ek:((0:Nat):Int)-1= -1:=rfl
   rw [ek]
   have e0:k/2^0=k:=by rw [Nat.pow_zero,Nat.div_one]
   rw [e0] at hm ho
   clear e0
   go_wp2_with fail
   go_ret
   exact⟨P,m,c,rfl,hm,ho.rd (oS _),ho,hr⟩
theorem VT {a b:Int}{x y:Nat}(ha:a=(x:Int))(hb:b=(y:Int))(hy:y≠0)(hx:x≤9223372036854775807)(P:bW)(t:aS)(w:a6):(binOp .quo t (no a) (no b)).run P w= .ok (no ((x/y:Nat):Int)) w:=by
 subst ha;subst hb
 exact CS hy hx P t w
theorem OS {x s:Nat}(hs:s≤64)(P:bW)(t:aS)(w:a6):(binOp .shl t (up (x:Int)) (no (s:Int))).run P w= .ok (up ((x*2^s%18446744073709551616:Nat):Int)) w:=by
 have e:((x:Int)*2^min (s:Int).toNat IntKind.u64.bits)=((x*2^s:Nat):Int):=by
  rw [gZ,show min s IntKind.u64.bits=s from gD hs];simp
 simp only [binOp]
 rw [shift_shl_any _ _ _ _ (by omega),e,nZ];rfl
theorem JQ (h:m<64*L){x:Nat}(hx:x≤2^m):(wd x).length≤L:=by
 refine iX ?_
 rw [lQ,←Nat.pow_mul]
 exact jY hx (Nat.pow_lt_pow_right (by omega) h)
def IsRoot (X k r:Nat):Prop:=r^k≤X∧X<(r+1)^k
theorem IsRoot.le {s:Nat}(h:IsRoot X k r)(hs:X<(s+1)^k):r≤s:=by
 refine oW (fun e=>?_)
 have h1:=Nat.pow_le_pow_left (Nat.succ_le_of_lt e) k
 have:=h.1
 rw [Nat.succ_eq_add_one] at h1
 omega
theorem IsRoot.uniq {s:Nat}(h:IsRoot X k r)(g:IsRoot X k s):r=s:=Nat.le_antisymm (h.le g.2) (g.le h.2)
def MO (w:a6)(X k:Nat)(e:dL)(w':a6):Prop:=∃r,Hid (IsRoot X k r)∧iF w r e w'
theorem RQ {T:Nat}(hk:1≤k)(hT:T=(cV X+k-1)/k):X<(2^T+1)^k:=by
 have h1:=pQ X
 have e:cV X≤T*k:=by
  have h2:=qE (cV X+k-1) (show 0<k by omega)
  rw [←hT,cI,dV,cL k] at h2
  omega
 refine dJ h1 (a8 (eS (by omega) e) ?_)
 rw [Nat.pow_mul]
 exact Nat.pow_le_pow_left (by omega) k
theorem YP (hx:Rd w A n cap xs)(hl:n≤1099511627775)(h0:nv xs=0){k:Int}:aP aN 207 #[we A n cap,no k] w (iF w 0):=by
 go_enter Tryz.func207,Tryz.ntmps207
 go_wp2_with fail
 refine (xZ hx hl).mono ?_
 rintro e w1 ⟨b,hb,rfl,hx1⟩
 obtain rfl:b=0:=by rw [hb.out,h0];rfl
 go_wp2_with fail
 go_ret
 exact MP J hx1
theorem QL {s:Nat}:nv ((cJ (q+1) 0).set q (2^s))=2^(64*q+s):=by
 have h:=oK (l:=cJ (q+1) 0) (k:=q) (by rw [List.length_replicate];omega) (2^s)
 have e:(cJ (q+1) 0).getD q 0=0:=by
  simp [bK]
 rw [xT,e,gM,fC,eJ] at h
 rw [h,lQ,←Nat.pow_mul,←dU]
theorem YQ (hx:Rd w A n cap xs)(hl:n≤67108864)(h0:nv xs≠0)(hm:1≤m)(hm2:m≤cV (nv xs))(hK1:m+1≤K)(hK2:K≤m+1):aP aN 207 #[we A n cap,no (K:Int)] w (MO w (nv xs) K):=by
 have hbl:cV (nv xs)≤64*n:=rW (by rw [Nat.pow_mul,←lQ,←hx.len];exact iV hx.wf)
 have H0:=Lib.hid h0
 have HK:Hid (K=m+1):=Nat.le_antisymm hK2 hK1
 clear h0
 go_enter Tryz.func207,Tryz.ntmps207
 go_wp2_with fail
 refine (xZ hx (by omega)).mono ?_
 rintro e w1 ⟨b,hb,rfl,hx1⟩
 have hb1:b≤64*n:=by rw [hb.out];exact hbl
 have hb2:m≤b:=by rw [hb.out];exact hm2
 have bz:((b:Int)==0)=false:=by simp;omega
 clear hbl hm2
 obtain⟨t,ht⟩:∃t,(b+m)/K=t:=⟨_,rfl⟩
 have htb:t≤b:=by
  rw [←ht,HK.out]
  refine Nat.le_of_lt_succ ((Nat.div_lt_iff_lt_mul (by omega)).2 ?_)
  have h3:(b+1)*(m+1)=b*m+b+m+1:=by rw [dK,cI];omega
  rw [Nat.succ_eq_add_one,h3]
  generalize b*m=z
  omega
 obtain⟨q,hq⟩:∃q,t/64=q:=⟨_,rfl⟩
 obtain⟨s,hs⟩:∃s,t%64=s:=⟨_,rfl⟩
 have hqb:q≤n:=by omega
 have hqt:t=64*q+s:=by omega
 have hs64:s<64:=by omega
 have Q24:∀(P:bW) (t':aS) (w:a6),(binOp .quo t' (no ((b:Int)+(K:Int)-1)) (no (K:Int))).run P w= .ok (no t) w:=by
  rw [←ht]
  exact VT (a:=(b:Int)+(K:Int)-1) (b:=(K:Int)) (x:=b+m) (y:=K) (by omega) J (by omega) (by omega)
 have Q25:∀(P:bW) (t':aS) (w:a6),(binOp .quo t' (no (t:Int)) (no 64)).run P w= .ok (no q) w:=by
  rw [←hq]
  exact CS (x:=t) (y:=64) (by omega) (by omega)
 have Q38:∀(P:bW) (t':aS) (w:a6),(binOp .rem t' (no (t:Int)) (no 64)).run P w= .ok (no s) w:=by
  rw [←hs]
  exact K3 (x:=t) (y:=64) (by omega) (by omega)
 have hp:2^s≤2^63:=eS (by omega) (by omega)
 obtain⟨z,hz⟩:∃z,2^s=z:=⟨_,rfl⟩
 have hzb:z≤18446744073709551615:=by omega
 have Q39:∀(P:bW) (t':aS) (w:a6),(binOp .shl t' (up 1) (no (s:Int))).run P w= .ok (up z) w:=by
  have:=OS (x:=1) (s:=s) (by omega)
  rw [Nat.one_mul,gN (by omega),hz] at this
  exact this
 have HT:Hid (t=(cV (nv xs)+K-1)/K):=by
  show _=_
  rw [←ht,←hb.out];congr 1
  omega
 have HTK:Hid (t*m≤2*b):=by
  have h1:=Nat.div_mul_le_self (b+m) K
  rw [ht,HK.out,qD] at h1
  show _≤_
  omega
 have HZ:=Lib.hid hz
 have HQT:=Lib.hid hqt
 have hmk:=kN (P:=aN) Tryz.underlying22 iD J (by decide) ((q:Int)+1) (by omega) (by omega)
 have et:((q:Int)+1).toNat=q+1:=by omega
 rw [et] at hmk
 clear et ht hq hs hp hz hqt
 go_upto_region 6 with (first
  | ((with_reducible refine d5 (some 24) ?_);refine mG rfl rfl rfl rfl rfl Q24 ?_;intro r hr;obtain rfl:t=r:=hr.out.symm;clear hr)
  | ((with_reducible refine d5 (some 25) ?_);refine mG rfl rfl rfl rfl rfl Q25 ?_;intro r hr;obtain rfl:q=r:=hr.out.symm;clear hr)
  | ((with_reducible refine d5 (some 33) ?_);refine mG rfl rfl rfl rfl rfl Q24 ?_;intro r hr;obtain rfl:t=r:=hr.out.symm;clear hr))
 clear hmk
 obtain⟨g,hg⟩:∃g,w1.heap.size=g:=⟨_,rfl⟩
 rw [hg]
 obtain⟨wa,hwa⟩:∃wa,w1.alloc (.cells (zc (.int .u64 0) (q+1)) 65)=wa:=⟨_,rfl⟩
 rw [hwa]
 have hbk:Bk wa g 65 ((cJ (q+1) 0).map bF):=by
  rw [←hwa,←hg,←j7];exact Bk.new' _ _ _
 have hea:Ext w wa:=by rw [←hwa];exact hx1.alloc _
 have hgs:w.heap.size≤g:=by rw [←hg];exact hx1.size
 clear hg hwa
 obtain⟨o,ho,_,hco⟩:=hbk.word (mR _) (i:=q) (by rw [List.length_replicate];omega)
 have hfr:=hbk.frozen q
 go_upto_region 7 with (first
  | ((with_reducible refine d5 (some 36) ?_);refine mG rfl rfl rfl rfl rfl Q25 ?_;intro r hr;obtain rfl:q=r:=hr.out.symm;clear hr)
  | ((with_reducible refine d5 (some 38) ?_);refine mG rfl rfl rfl rfl rfl Q38 ?_;intro r hr;obtain rfl:s=r:=hr.out.symm;clear hr)
  | ((with_reducible refine d5 (some 39) ?_);refine eC rfl rfl rfl rfl rfl Q39 ?_;intro r hr hrb;obtain rfl:z=r:=hr.out.symm;clear hr hrb))
 have hRd:Rd (wa.setCell ⟨g,q,none⟩ (up (z:Int))) (some ⟨g,0,none⟩) (q+1) (q+1) ((cJ (q+1) 0).set q z):=by
  have hB:Bk (wa.setCell ⟨g,q,none⟩ (up (z:Int))) g 65 (((cJ (q+1) 0).set q z).map bF):=by
   rw [←dX];exact hbk.set _ _
  have:=hB.rd (gR (mR _) q (by rw [cP];omega)) (o:=0) (n:=q+1) (cap:=q+1) (aZ _) (by rw [List.length_set,List.length_replicate];omega) (by rw [eG];omega)
  rw [gP,List.take_of_length_le (by rw [List.length_set,List.length_replicate];omega)] at this
  exact this
 have hN0:Hid (nv ((cJ (q+1) 0).set q z)=2^t):=by
  show _=_
  rw [←HZ.out,QL,←HQT.out]
 have ek:=Lib.hid (show (K:Int)-1=(m:Int) by omega)
 have hXn:Hid ((wd (nv xs)).length≤n):=by
  have:=gJ hx.wf
  rw [hx.len] at this
  exact this
 have hPL:∀S,S≤2^t→(wd (S^m)).length≤2*n+1:=by
  intro S hS
  refine JQ (m:=2*b) (by omega) ?_
  refine a8 (Nat.pow_le_pow_left hS m) ?_
  rw [←Nat.pow_mul]
  exact eS (by omega) HTK.out
 have HPL:=Lib.hid hPL
 have hWm:Hid ((wd m).length≤1):=iX (by rw [cP,Nat.pow_one];omega)
 have hSL:∀S,S≤2^t→(wd S).length≤q+1:=by
  intro S hS
  exact JQ (m:=t) (by rw [HQT.out];omega) hS
 have HSL:=Lib.hid hSL
 clear hPL hSL hbk hco hfr ho
 go_loopw [6] (fun u wr=>∃(A':Option aB) (n' c' S:Nat) (l:List Nat),u= we A' n' c'∧n'≤q+1∧Rd wr A' n' c' l∧Hid (nv l=S)∧Hid (0<S)∧Hid (nv xs<(S+1)^K)∧Hid (S≤2^t)∧Ext w wr) (fun u wr=>numAt wr u)
 case atStart=>exact⟨_,q+1,q+1,2^t,_,rfl,aZ _,hRd,hN0,mB t,RQ (by omega) HT.out,aZ _,hea.setCell hgs _⟩
 case round=>
  obtain⟨A2,n2,c2,S,l,rfl,hn2,hrd,hS,hS0,hup,hST,hr⟩:=hrel
  clear hRd hN0 hea hgs hx1
  have hP0:Hid (S^m≠0):=Nat.ne_of_gt (gB hS0.out)
  go_wp2_with fail
  rw [ek.out]
  refine (YR hrd (by omega) (k:=m) (by omega) (by rw [hS.out];exact a8 (HPL.out S hST.out) (by omega))).mono ?_
  rintro e w3 ⟨A3,n3,c3,rfl,hn3,hr3,ho3,hx3⟩
  rw [hS.out] at hn3 hr3
  have hn3b:n3≤2*n+1:=by rw [hn3.out];exact HPL.out S hST.out
  go_wp2_with fail
  refine (tP (hx.ext (hr.trans hx3)) hr3 (by rw [dA];exact hP0.out)).mono ?_
  rintro e w4 ⟨Aq,nq,cq,Ar,nr,cr,rfl,hnq,hrq,hoq,hnr,hrr,hor,hx4⟩
  rw [dA] at hnq hrq
  have hnqb:nq≤n:=by rw [hnq.out];exact a8 (gK (fH _ _)) hXn.out
  clear ho3 hoq hnr hrr hor
  go_wp2_with fail
  rw [ek.out]
  refine (J4 (hrd.ext (hx3.trans hx4)) (by omega) (x:=m) (by omega)).mono ?_
  rintro e w5 ⟨A5,n5,c5,rfl,hn5,hr5,ho5,hx5⟩
  rw [hS.out] at hn5 hr5
  have hn5b:n5≤q+2:=by
   have h1:=vF S m
   have h2:=HSL.out S hST.out
   have h3:=hWm.out
   rw [hn5.out];omega
  go_wp2_with fail
  refine (y7 hr5 (by omega) (hrq.ext hx5) (by omega)).mono ?_
  rintro e w6 ⟨A6,n6,c6,rfl,hn6,hr6,ho6,hx6⟩
  rw [dA,dA] at hn6 hr6
  have hn6b:n6≤q+n+3:=by
   have h1:=vG (S*m) (nv xs/S^m)
   rw [←hn5.out,←hnq.out,←hn6.out] at h1
   omega
  clear ho5 ho6
  go_wp2_with fail
  refine (DE hr6 (by omega) (v:=K) (by omega) (by omega)).mono ?_
  rintro e w7 ⟨A7,n7,c7,r7,rfl,hr7k,hr7b,hn7,hr7,ho7,hx7⟩
  rw [dA] at hn7 hr7
  have hx37:Ext wr w7:=hx3.trans (hx4.trans (hx5.trans (hx6.trans hx7)))
  have hn7b:n7≤q+n+3:=by
   rw [hn7.out];exact a8 (gK (fH _ _)) (by rw [←hn6.out];exact hn6b)
  obtain⟨N,hN⟩:∃N,(S*m+nv xs/S^m)/K=N:=⟨_,rfl⟩
  rw [hN] at hn7 hr7
  have HN:=Lib.hid hN
  clear hr7k ho7 hN
  go_wp2_with fail
  refine (tD hr7 (hrd.ext hx37)).mono ?_
  rintro e w8 ⟨c,hc,hcl,hch,rfl,hx8⟩
  rw [dA,hS.out] at hc
  by_cases hlt:c<0
  ·have hNS:N<S:=by rw [hc.out] at hlt;exact lO.1 hlt
   have HNS:=Lib.hid hNS
   clear hNS
   have hab:Hid (nv xs<(N+1)^K):=by
    have h1:=U9 (X:=nv xs) (s:=S) (q:=nv xs/S^m) (m:=m) (by
     have:=qE (nv xs) (Nat.pos_of_ne_zero hP0.out)
     rw [cL] at this
     exact this)
    rw [←HK.out,HN.out] at h1
    exact h1
   go_wp2_with fail
   go_roundw
   case rel=>
    refine⟨A7,n7,c7,N,wd N,rfl,?_,hr7.ext hx8,dA N,?_,hab,a8 (Nat.le_of_lt HNS.out) hST.out,hr.trans (hx37.trans hx8)⟩
    ·rw [hn7.out];exact HSL.out N (a8 (Nat.le_of_lt HNS.out) hST.out)
    ·refine Nat.pos_of_ne_zero (fun e=>?_)
     have:=hab.out
     rw [e,eJ,Nat.one_pow] at this
     exact H0.out (by omega)
   case measure=>
    rw [(hr7.ext hx8).numAt,hrd.numAt,dA,hS.out]
    exact HNS.out
  ·have hge:0≤c:=by omega
   have hNS:Hid (S≤N):=by
    rw [hc.out] at hlt
    exact oW (fun h=>hlt (lO.2 h))
   go_wp2_with fail
   refine (jB (hrd.ext (hx37.trans hx8))).mono ?_
   rintro e w9 ⟨A9,n9,c9,rfl,hn9,hr9,ho9,hx9⟩
   rw [hS.out] at hn9 hr9 ho9
   go_wp2_with fail
   go_ret
   have hx08:=hr.trans (hx37.trans hx8)
   refine⟨S,⟨?_,hup.out⟩,A9,n9,c9,rfl,hn9,hr9,ho9.mono hx08.size,hx08.trans hx9⟩
   rw [HK.out]
   refine U8 hS0.out J ?_
   rw [←HK.out,HN.out]
   exact hNS.out
theorem a0h (h:X≠0):1≤cV X:=Nat.pos_of_ne_zero (fun e=>h (nO.1 e))
theorem IsRoot.zero (hk:1≤k):IsRoot 0 k 0:=⟨by rw [Nat.zero_pow (by omega)];exact aZ _,by rw [eJ,Nat.one_pow];omega⟩
theorem IsRoot.le_self (hk:1≤k)(h:IsRoot X k r):r≤X:=by
 refine a8 ?_ h.1
 rcases jQ r with e | e
 ·omega
 ·have:=eS e hk
  rw [Nat.pow_one] at this
  exact this
def a0y (w:a6)(X:Nat)(e:dL)(w':a6):Prop:=∃r,Hid (IsRoot X 2 r)∧MR w r (X-r*r) e w'
def a0x (w:a6)(X:Nat)(e:dL)(w':a6):Prop:=∃r,Hid (IsRoot X 2 r)∧RetQRA w r (X-r*r) e w'
theorem YV (hx:Rd w A n cap xs)(hl:n≤67108864):aP aN 164 #[we A n cap] w (a0x w (nv xs)):=by
 have hXn:Hid ((wd (nv xs)).length≤n):=by
  have:=gJ hx.wf
  rw [hx.len] at this
  exact this
 go_enter Tryz.func164,Tryz.ntmps164
 go_wp2_with fail
 refine (jB hx).mono ?_
 rintro e w1 ⟨A1,n1,c1,rfl,hn1,hr1,ho1,hx1⟩
 have hn1b:n1≤n:=by rw [hn1.out];exact hXn.out
 go_wp2_with fail
 have hroot:aP aN 207 #[we A1 n1 c1,no 2] w1 (MO w1 (nv xs) 2):=by
  by_cases h0:nv xs=0
  ·refine (YP hr1 (by omega) (by rw [dA];exact h0)).mono ?_
   intro e w2 h
   exact⟨0,(show IsRoot _ _ _ by rw [h0];exact IsRoot.zero (by omega)),h⟩
  ·have:=YQ hr1 (by omega) (by rw [dA];exact h0) (m:=1) (K:=2) (aZ _) (by rw [dA];exact a0h h0) (by omega) (by omega)
   rw [dA] at this
   exact this
 refine hroot.mono ?_
 rintro e w2 ⟨r,hir,A2,n2,c2,rfl,hn2,hr2,ho2,hx2⟩
 have hrr:Hid (r*r≤nv xs):=by
  have:=hir.out.1
  rw [Nat.pow_two] at this
  exact this
 have hn2b:n2≤n:=by rw [hn2.out];exact a8 (gK (hir.out.le_self (by omega))) hXn.out
 clear hroot
 go_wp2_with fail
 refine (CK hr2 (by omega)).mono ?_
 rintro e w3 ⟨A3,n3,c3,rfl,hn3,hr3,ho3,hx3⟩
 rw [dA] at hn3 hr3
 have hn3b:n3≤n:=by rw [hn3.out];exact a8 (gK hrr.out) hXn.out
 go_wp2_with fail
 refine (CJ (hx.ext (hx1.trans (hx2.trans hx3))) hr3 (by rw [dA];exact hrr.out)).mono ?_
 rintro e w4 ⟨A4,n4,c4,rfl,hn4,hr4,ho4,hx4⟩
 rw [dA] at hn4 hr4 ho4
 go_wp2_with fail
 go_ret2
 have hx34:=hx3.trans hx4
 exact⟨r,hir,A2,n2,c2,A4,n4,c4,rfl,hn2,hr2.ext hx34,(ho2.ext hx34).mono hx1.size,hn4,hr4,ho4.mono (hx1.trans (hx2.trans hx3)).size,hx1.trans (hx2.trans hx34),fun p p' hp hp'=>by have h1:=ho2.block p hp;have h2:=ho4.block p' hp';have h3:=hx3.size;omega⟩
theorem YW (hx:Rd w A n cap xs)(hl:n≤67108864):aP aN 164 #[we A n cap] w (a0y w (nv xs)):=(YV hx hl).mono fun e w' ⟨r,h1,h2⟩=>⟨r,h1,h2.old⟩
theorem aA:AggT aN 24 2:=⟨fun _=>by kernel_rfl,fun _=>by kernel_rfl⟩
theorem bC:AggT aN 52 4:=⟨fun _=>by kernel_rfl,fun _=>by kernel_rfl⟩
theorem fM:∀w,(isAgg 4).run aN w= .ok false w:=fun _=>by kernel_rfl
theorem dS:∀w,(isAgg 22).run aN w= .ok false w:=fun _=>by kernel_rfl
theorem bY:Tryz.prog.follows .mixedOrders=true:=by kernel_rfl
def Is (u v:aM)(_:a6):Prop:=v=u
def ZR (b:Nat)(z:Int)(v:aM)(w:a6):Prop:=∃s A n c,v= O s A n c∧Zr w b s A n c z
def WR (b:Nat)(m:Nat)(v:aM)(w:a6):Prop:=∃A n c,v= we A n c∧n=(wd m).length∧Own w b 65 1 A n c ((wd m).map bF)
def Wi (w:a6)(A:Option aB)(n c:Nat)(m:Nat):Prop:=∃xs,Rd w A n c xs∧nv xs=m
theorem Wi.ext (h:Wi w A n c m)(e:Ext w w'):Wi w' A n c m:=by
 obtain⟨xs,h1,h2⟩:=h
 exact⟨xs,h1.ext e,h2⟩
theorem Zi.wi (h:Zi w s A n c z):Wi w A n c z.natAbs:=by
 obtain⟨xs,h1,h2⟩:=h
 exact⟨xs,h1,by rw [←h2,lB]⟩
theorem Own.wi (h:Own w b t 1 A n c ((wd m).map bF)):Wi w A n c m:=⟨_,h.rd (oS _),dA m⟩
theorem Wi.len (h:Wi w A n c m):(wd m).length≤n:=by
 obtain⟨xs,h1,rfl⟩:=h
 have:=gJ h1.wf
 rw [h1.len] at this;exact this
def PR (b:Nat)(T:aS)(vs:List aM)(v:aM)(w:a6):Prop:=∃g,v= i5 g 0∧b≤g∧Bk w g T vs
theorem PR.old (h:PR b T vs v w):ED w v:=by
 obtain⟨g,h1,_,h2⟩:=h
 exact⟨g,h1,h2.lt⟩
theorem pY (hn:n=(wd m).length)(ho:Own w b 65 1 A n c ((wd m).map bF)):Zr w b false A n c (m:Int):=
 jL (m:=m) (s:=false) (by rw [lS];symm;exact decide_eq_false (by omega)) hn ho (lS m)
def T2 (R S:aM→a6→Prop)(v:aM)(w:a6):Prop:=∃a b,v= .tuple #[a,b]∧R a w∧S b w
def T3 (R S T:aM→a6→Prop)(v:aM)(w:a6):Prop:=∃a b c,v= .tuple #[a,b,c]∧R a w∧S b w∧T c w
def Gv (w:a6)(R:aM→a6→Prop)(e:dL)(w':a6):Prop:=∃v,e= .returned v∧R v w'∧Ext w w'
section
variable {w w':a6}{b:Nat}{z x y:Int}{v u:aM}{R S T:aM→a6→Prop}
theorem gz (hb:b≤w.heap.size)(e:dL)(w':a6)(h:lR w z e w'):Gv w (ZR b z) e w':=by
 obtain⟨s,A,n,c,rfl,h1,h2⟩:=h
 exact⟨_,rfl,⟨s,A,n,c,rfl,h1.mono hb⟩,h2⟩
theorem CT (hb:b≤w.heap.size)(e:dL)(w':a6)(h:wB w x y er e w'):Gv w (T3 (ZR b x) (ZR b y) (Is (no er))) e w':=by
 obtain⟨s,A,n,c,s',B,m,c',rfl,h1,h1',h2⟩:=h
 exact⟨_,rfl,⟨_,_,_,rfl,⟨s,A,n,c,rfl,h1.mono hb⟩,⟨s',B,m,c',rfl,h1'.mono hb⟩,rfl⟩,h2⟩
theorem gw (hb:b≤w.heap.size)(e:dL)(w':a6)(h:iF w m e w'):Gv w (WR b m) e w':=by
 obtain⟨A,n,c,rfl,h1,h2,f,o⟩:=h
 exact⟨_,rfl,⟨A,n,c,rfl,h1.out,f.mono hb⟩,o⟩
theorem Gv.imp (hi:∀v w,R v w→S v w)(e:dL)(w':a6)(h:Gv w R e w'):Gv w S e w':=by
 obtain⟨v,rfl,h1,h2⟩:=h
 exact⟨v,rfl,hi _ _ h1,h2⟩
theorem ZR.imp (hb:b≤b')(v:aM)(w:a6)(h:ZR b' z v w):ZR b z v w:=by
 obtain⟨s,A,n,c,rfl,h⟩:=h
 exact⟨s,A,n,c,rfl,h.mono hb⟩
theorem WR.imp (hb:b≤b')(v:aM)(w:a6)(h:WR b' m v w):WR b m v w:=by
 obtain⟨A,n,c,rfl,h1,h2⟩:=h
 exact⟨A,n,c,rfl,h1,h2.mono hb⟩
theorem T2.imp {R' S':aM→a6→Prop}(h1:∀v w,R v w→R' v w)(h2:∀v w,S v w→S' v w)(v:aM)(w:a6)(h:T2 R S v w):T2 R' S' v w:=by
 obtain⟨a,c,rfl,e,f⟩:=h
 exact⟨a,c,rfl,h1 _ _ e,h2 _ _ f⟩
theorem T3.imp {R' S' T':aM→a6→Prop}(h1:∀v w,R v w→R' v w)(h2:∀v w,S v w→S' v w)(h0:∀v w,T v w→T' v w)(v:aM)(w:a6)(h:T3 R S T v w):T3 R' S' T' v w:=by
 obtain⟨a,c,d,rfl,e,o,f⟩:=h
 exact⟨a,c,d,rfl,h1 _ _ e,h2 _ _ o,h0 _ _ f⟩
theorem Is.imp (v:aM)(w:a6)(h:Is u v w):Is u v w:=h
theorem K5 (e:dL)(w':a6)(h:E9 z w e w'):Gv w (Is (no z)) e w':=by
 obtain⟨c,h1,_,_,rfl,h2⟩:=h
 exact⟨_,rfl,(show dP .i64 c=_ by rw [h1.out]),h2⟩
theorem CY {c:Bool}(e:dL)(w':a6)(h:sC c w e w'):Gv w (Is (.bool c)) e w':=⟨_,h.1,rfl,h.2⟩
end
section
variable {w:a6}{b:Nat}(hb:b≤w.heap.size){s t u:Bool}{A B C:Option aB}{n cap m cap' k cap'':Nat}{x y z:Int}
include hb
theorem vM (hx:Zi w s A n cap x)(hl:n≤274877906944)(hy:Zi w t B m cap' y)(hl':m≤274877906944):aP aN 68 #[O s A n cap,O t B m cap'] w (Gv w (ZR b (x+y))):=(wQ hx hl hy hl').mono (gz hb)
theorem yJ (hx:Zi w s A n cap x)(hl:n≤274877906944)(hy:Zi w t B m cap' y)(hl':m≤274877906944):aP aN 69 #[O s A n cap,O t B m cap'] w (Gv w (ZR b (x-y))):=(EP hx hl hy hl').mono (gz hb)
theorem rO (hx:Zi w s A n cap x)(hl:n≤68719476736)(hy:Zi w t B m cap' y)(hl':m≤68719476736):aP aN 39 #[O s A n cap,O t B m cap'] w (Gv w (ZR b (x*y))):=(ER hx hl hy hl').mono (gz hb)
theorem D1 (hx:Zi w s A n cap x)(hl:n≤68719476736)(hy:Zi w t B m cap' y)(hl':m≤68719476736)(hz:Zi w u C k cap'' z)(hl'':k≤68719476736):aP aN 70 #[O s A n cap,O t B m cap',O u C k cap''] w (Gv w (ZR b (x*y+z))):=(NJ hx hl hy hl' hz hl'').mono (gz hb)
theorem vL (hx:Zi w s A n cap x)(hl:n≤68719476736):aP aN 66 #[O s A n cap] w (Gv w (ZR b (-x))):=(AP hx hl).mono (gz hb)
theorem WG (hx:Zi w s A n cap x)(hl:n≤68719476736):aP aN 67 #[O s A n cap] w (Gv w (ZR b (x.natAbs:Int))):=(NO hx hl).mono (gz hb)
theorem kE {v:Int}(h1: -9223372036854775808≤v)(h2:v≤9223372036854775807):aP aN 61 #[no v] w (Gv w (ZR b v)):=(NI h1 h2).mono (gz hb)
theorem D0 (hx:Zi w s A n cap x)(hl:n≤68719476736)(hy:Zi w t B m cap' y)(hl':m≤68719476736)(h0:y≠0):aP aN 148 #[O s A n cap,O t B m cap'] w (Gv w (T3 (ZR b (x.tdiv y)) (ZR b (x.tmod y)) (Is (no 0)))):=(EO hx hl hy hl' h0).mono (CT hb)
theorem XB (hx:Wi w A n cap i)(hl:n≤67108864):aP aN 164 #[we A n cap] w (fun e w'=>∃r,IsRoot i 2 r∧Gv w (T2 (WR b r) (WR b (i-r*r))) e w'):=by
 obtain⟨xs,h1,rfl⟩:=hx
 refine (YW h1 hl).mono ?_
 rintro e w' ⟨r,h2,_,_,_,_,_,_,rfl,o,_,f,p,_,q,h⟩
 exact⟨r,h2.out,_,rfl,⟨_,_,rfl,⟨_,_,_,rfl,o.out,f.mono hb⟩,⟨_,_,_,rfl,p.out,q.mono hb⟩⟩,h⟩
theorem vP (hx:Zi w s A n cap x)(hl:n≤68719476736)(hy:Zi w t B m cap' y)(hl':m≤68719476736):aP aN 157 #[O s A n cap,O t B m cap'] w (Gv w (ZR b (Int.gcd x y:Int))):=(ME hx hl hy hl').mono (gz hb)
end
section
variable {w:a6}{s t:Bool}{A B:Option aB}{n cap m cap':Nat}{x y:Int}
theorem iE (hx:Zi w s A n cap x)(hl:n≤68719476736):aP aN 63 #[O s A n cap] w (Gv w (Is (no (bE x 0)))):=(uH hx hl).mono K5
theorem kR (hx:Zi w s A n cap x)(hl:n≤68719476736)(hy:Zi w t B m cap' y)(hl':m≤68719476736):aP aN 64 #[O s A n cap,O t B m cap'] w (Gv w (Is (no (bE x y)))):=(NN hx hl hy hl').mono K5
end
section
variable {P:bW}{Q:dI→Act→a6→Prop}{n:Nat}{l:Fr}{w:a6}{ops:Array bD}{rest:List bD}{d:Nat}{op:Op}{ty:aS}{pos:String}{af:Array fP}{gd:Option (Nat×Bool)}
theorem iO (hw:dB ops l gd=some true)(hk:m4 l op=true)(cells:List aM)(hr:∀w,(execOp (rho l) ⟨some d,op,ty,pos,af,gd⟩).run P w= .ok (.value (we (some ⟨w.heap.size,0,none⟩) k k)) (w.alloc (.cells cells.toArray e)))(h:∀g w',NewBk w w' g e cells→wl P ops Q n rest ((d,we (some ⟨g,0,none⟩) k k)::l) w')(hn:d<n:=by decide):wl P ops Q n (⟨some d,op,ty,pos,af,gd⟩::rest) l w:=
 fW hw hn (fun a f=>by rw [vQ hk f];exact hr w) (h _ _ (NewBk.mk' w e cells))
end
def O1 (b x:Nat)(v:aM)(w:a6):Prop:=∃A,v= we A 1 1∧Own w b 65 1 A 1 1 [bF x]
theorem O1.mk_ {x:Nat}(h:NewBk w w' g 65 [bF x])(hb:b≤w.heap.size):Own w' b 65 1 (some ⟨g,0,none⟩) 1 1 [bF x]:=
 Own.mk_ (by rw [←h.at_];exact hb) h.bk (aZ _) (by rw [eG];omega) J rfl
theorem C9 {x:Nat}(h:Own w b 65 1 A 1 1 [bF x])(hx:x≤18446744073709551615):Wi w A 1 1 x:=
 ⟨[x],h.rd (E6 (by rw [cP];omega)),uY x⟩
theorem rA {x:Nat}(h:Own w b 65 1 A 1 1 [bF x])(hx:x≤18446744073709551615)(h0:x≠0):Own w b 65 1 A 1 1 ((wd x).map bF):=by
 rw [wY (by rw [cP];omega) h0];exact h
theorem rL {x:Nat}(hx:x≤18446744073709551615)(h0:x≠0):1=(wd x).length:=by rw [wY (by rw [cP];omega) h0];rfl
section
variable {P:bW}{Q:dI→Act→a6→Prop}{n:Nat}{l:Fr}{w:a6}
def pP (n:Nat)(ops:Array bD):Nat→List bD→Fr→Option (Fr×List bD)
 | 0,rest,l=>some (l,rest)
 | _+1,[],_=>none
 | k+1,⟨some d,op,_,_,_,gd⟩::rest,l=>
  match Nat.blt d n with
  | true=>
   match dB ops l gd with
   | some true=>
    match op with
    | .move x=>match bV l x with
     | some v=>pP n ops k rest ((d,v)::l)
     | none=>none
    | .assign x=>match bV l x with
     | some v=>pP n ops k rest ((d,v)::l)
     | none=>none
    | _=>none
   | some false=>pP n ops k rest ((d,undef)::l)
   | none=>none
  | false=>none
 | _+1,_::_,_=>none
theorem mv {ops:Array bD}:∀(k:Nat){rest rest':List bD}{l l':Fr},pP n ops k rest l=some (l',rest')→wl P ops Q n rest' l' w→wl P ops Q n rest l w
 | 0,rest,rest',l,l',h,hw=>by
  simp only [pP,eB,Prod.mk.injEq] at h
  obtain⟨rfl,rfl⟩:=h
  exact hw
 | k+1,[],rest',l,l',h,hw=>by simp [pP] at h
 | k+1,⟨none,op,ty,pos,af,gd⟩::rest,rest',l,l',h,hw=>by simp [pP] at h
 | k+1,⟨some d,op,ty,pos,af,gd⟩::rest,rest',l,l',h,hw=>by
  unfold pP at h
  split at h
  ·rename_i e
   have hd':d<n:=Nat.le_of_ble_eq_true e
   split at h
   ·rename_i hg
    split at h
    ·split at h
     ·rename_i hx
      exact O5 hg hx hd' (mv k h hw)
     ·cases h
    ·split at h
     ·rename_i hx
      exact O9 hg hx hd' (mv k h hw)
     ·cases h
    ·cases h
   ·rename_i hg
    exact O0 hg hd' (mv k h hw)
   ·cases h
  ·cases h
theorem sr {y:Code}(h:wl P ol.toArray (Exit.then (fun a w=>y.wp P Q a w) Q) n ol l w):cw P Q n (.seq (.region id ol.toArray false) y) l w:=aD (aF h)
theorem a7 {y:Code}(h:cw P Q n y l w):wl P ops (Exit.then (fun a w=>y.wp P Q a w) Q) n [] l w:=aX (aO h)
theorem pu (hk:(dB ops l gd==some true&&m4 l op&&Nat.blt d n)=true)(h:wl P ops Q n rest ((d,v)::l) w)(hr:(execOp (rho l) ⟨some d,op,ty,pos,af,gd⟩).run P w= .ok (.value v) w:=by kernel_rfl):wl P ops Q n (⟨some d,op,ty,pos,af,gd⟩::rest) l w:=by
 rw [eK,eK,beq_iff_eq] at hk
 exact F5 hk.1.1 hk.1.2 (Nat.le_of_ble_eq_true hk.2) hr h
section
variable {ops:Array bD}{rest:List bD}{d:Nat}{ty:aS}{pos:String}{af:Array fP}{gd:Option (Nat×Bool)}{w0:a6}
theorem bx {x:cN}(vs:List aM)(h0:Ext w0 w)(hx:bV l x=some v)(hk:(dB ops l gd==some true&&Nat.blt d n)=true)(hv:v.cells=vs.toArray)(h:∀g w',Bk w' g t vs→w0.heap.size≤g→Ext w w'→Ext w0 w'→wl P ops Q n rest ((d,i5 g 0)::l) w'):wl P ops Q n (⟨some d,.box t x,ty,pos,af,gd⟩::rest) l w:=by
 rw [eK,beq_iff_eq] at hk
 exact uI hk.1 hx hv (Nat.le_of_ble_eq_true hk.2) fun g w' nb=>h g w' nb.bk (by rw [←nb.at_];exact h0.size) nb.ext (h0.trans nb.ext)
theorem fG {x:cN}(vs:List aM)(h0:Ext w0 w)(hq:gp<w.heap.size)(hx:bV l x=some v)(hk:(dB ops l gd==some true&&Nat.blt d n)=true)(hv:v.cells=vs.toArray)(h:∀g w',Bk w' g t vs→w0.heap.size≤g→gp<g→Ext w w'→Ext w0 w'→wl P ops Q n rest ((d,i5 g 0)::l) w'):wl P ops Q n (⟨some d,.box t x,ty,pos,af,gd⟩::rest) l w:=by
 rw [eK,beq_iff_eq] at hk
 exact uI hk.1 hx hv (Nat.le_of_ble_eq_true hk.2) fun g w' nb=>h g w' nb.bk (by rw [←nb.at_];exact h0.size) (by rw [←nb.at_];exact hq) nb.ext (h0.trans nb.ext)
theorem al (vs:List aM)(h0:Ext w0 w)(hz:∀w,(zeroValue t).run P w= .ok (.agg vs.toArray) w)(hk:(dB ops l gd==some true&&Nat.blt d n)=true)(h:∀g w',Bk w' g t vs→w0.heap.size≤g→Ext w w'→Ext w0 w'→wl P ops Q n rest ((d,i5 g 0)::l) w'):wl P ops Q n (⟨some d,.alloc t,ty,pos,af,gd⟩::rest) l w:=by
 rw [eK,beq_iff_eq] at hk
 exact iH hk.1 hz J (hn:=(Nat.le_of_ble_eq_true hk.2)) fun g w' nb=>h g w' nb.bk (by rw [←nb.at_];exact h0.size) nb.ext (h0.trans nb.ext)
theorem bL (vs:List aM)(h0:Ext w0 w)(hq:gp<w.heap.size)(hz:∀w,(zeroValue t).run P w= .ok (.agg vs.toArray) w)(hk:(dB ops l gd==some true&&Nat.blt d n)=true)(h:∀g w',Bk w' g t vs→w0.heap.size≤g→gp<g→Ext w w'→Ext w0 w'→wl P ops Q n rest ((d,i5 g 0)::l) w'):wl P ops Q n (⟨some d,.alloc t,ty,pos,af,gd⟩::rest) l w:=by
 rw [eK,beq_iff_eq] at hk
 exact iH hk.1 hz J (hn:=(Nat.le_of_ble_eq_true hk.2)) fun g w' nb=>h g w' nb.bk (by rw [←nb.at_];exact h0.size) (by rw [←nb.at_];exact hq) nb.ext (h0.trans nb.ext)
theorem cl {xs:Array cN}{R:aM→a6→Prop}(h0:Ext w0 w)(hc:aP P f vs.toArray w (Gv w R))(hk:(dB ops l gd==some true&&m4 l (.call {callee:= .value (.func f),args:=xs,argTypes:=ts})&&Nat.blt d n)=true)(hr:(execOp (rho l) ⟨some d,.call {callee:= .value (.func f),args:=xs,argTypes:=ts},ty,pos,af,gd⟩).run P w= .ok (.enter f vs.toArray) w)(h:∀v w',R v w'→Ext w w'→Ext w0 w'→wl P ops Q n rest ((d,v)::l) w'):wl P ops Q n (⟨some d,.call {callee:= .value (.func f),args:=xs,argTypes:=ts},ty,pos,af,gd⟩::rest) l w:=by
 rw [eK,eK,beq_iff_eq] at hk
 refine dQ hk.1.1 hk.1.2 hr (Nat.le_of_ble_eq_true hk.2) hc ?_
 rintro _ w' ⟨v,rfl,r,e⟩
 exact dR (h v w' r e (h0.trans e))
theorem lo {x:cN}(hT:AggT P T k)(hb:Bk w g T' vs)(us:List aM)(hx:bV l x=some (i5 g off))(hk:(dB ops l gd==some true&&Nat.blt d n&&oX us.length k&&Nat.ble (off+k) vs.length)=true)(he:(vs.drop off).take k=us)(h:wl P ops Q n rest ((d,.agg us.toArray)::l) w):wl P ops Q n (⟨some d,.load T x,ty,pos,af,gd⟩::rest) l w:=by
 rw [eK,eK,eK,beq_iff_eq] at hk
 exact bB hk.1.1.1 hx (bH hT hb us (sJ hk.1.2) (Nat.le_of_ble_eq_true hk.2) he) h (hn:=(Nat.le_of_ble_eq_true hk.1.1.2))
theorem so {x y:cN}(hT:AggT P T k)(hb:Bk w g T' vs)(us':List aM)(h0:Ext w0 w)(hg:w0.heap.size≤g)(hx:bV l x=some (i5 g off))(hy:bV l y=some (.agg us.toArray))(hk:(dB ops l gd==some true&&oX us.length k&&Nat.ble (off+k) vs.length&&us.all (·.oneCell'))=true)(he:jA vs off us=us')(h:∀w',Bk w' g T' us'→Upd g w w'→Ext w0 w'→wl P ops Q n rest l w'):wl P ops Q n (⟨none,.store T x y,ty,pos,af,gd⟩::rest) l w:=by
 rw [eK,eK,eK,beq_iff_eq] at hk
 exact F3 hk.1.1.1 hx hy hT (sJ hk.1.1.2) hb (Nat.le_of_ble_eq_true hk.1.2) hk.2 us' he fun w' b u _=>h w' b u (u.ext h0 hg)
end
theorem dk {Rs:List (aM→a6→Prop)}{w1:a6}{k:Fr→Prop}{acc:Fr}(hR:Rs[j]?=some (Is v))(hd:cQ ol j=some d)(h:Deps ol Rs w0 w1 k ds ((d,v)::acc)):Deps ol Rs w0 w1 k (j::ds) acc:=
 aT hR hd fun v' _ hr _ _=>by
  obtain rfl:=hr
  exact h
theorem pf (g off:Nat)(hk:(dB ops l gd==some true&&m4 l op&&Nat.blt d n)=true)(h:wl P ops Q n rest ((d,i5 g off)::l) w)(hr:(execOp (rho l) ⟨some d,op,ty,pos,af,gd⟩).run P w= .ok (.value (i5 g off)) w:=by kernel_rfl):wl P ops Q n (⟨some d,op,ty,pos,af,gd⟩::rest) l w:=pu hk h (hr:=hr)
theorem bq (h:Nat.ble m k=true):m≤k:=Nat.le_of_ble_eq_true h
theorem aK (h:a≤b)(k:Nat.ble b c=true):a≤c:=a8 h (Nat.le_of_ble_eq_true k)
end
abbrev S0:aM:= we none 0 0
abbrev F0:aM:= AS
abbrev I0:aM:= no 0
end
section
open Go.ChangeShapes Go.WideShapes Go.ChangeAt Go.RowKit
theorem TT:ownKnob Tryz.prog.godebug=none:=by kernel_rfl
theorem DS:Tryz.prog.cellsOf 65=1:=by kernel_rfl
theorem a0c (d:DataW H):1≤Rows.uptoBulk d:=by
 cases d with
 | lit l=>cases l <;> simp [Rows.uptoBulk]
 | nil=>simp [Rows.uptoBulk]
 | ptr d=>simp [Rows.uptoBulk]
 | slice elems spare=>simp [Rows.uptoBulk]
 | agg parts=>simp [Rows.uptoBulk]
 | iface t d=>simp [Rows.uptoBulk]
 | map entries=>simp [Rows.uptoBulk]
 | held h=>simp [Rows.uptoBulk]
theorem M8 (l:List (DataW H)):l.length≤Rows.uptoBulkAll l:=by
 induction l with
 | nil=>simp [Rows.uptoBulkAll]
 | cons x r ih=>have:=a0c x;simp only [Rows.uptoBulkAll,eN];omega
theorem M6 (elems spare:List (DataW H)):elems.length+spare.length≤Rows.uptoBulk (.slice elems spare):=by
 have h1:=M8 elems
 have h2:=M8 spare
 simp only [Rows.uptoBulk]
 omega
theorem a0d {l:List (DataW H)}(hk:Rows.uptoSmall H l=true):Rows.uptoBulkAll l≤1048576:=of_decide_eq_true hk
theorem F8 {n:Int}(h:(Lit.int .u64 n).wf=true):0≤n∧n≤18446744073709551615:=by
 simpa [Lit.wf,IntKind.min,IntKind.max,uF,uG] using h
theorem TO {enc:aS×aM→H}{f:Func}{s:ChangeSpec}{apart fresh handsOn again:Bool}{ds gs:List (DataW H)}{before:List MemPlace}(hW:DataW.Whole enc P f.params.toList s.vars apart W args.toList ds gs before)(hres:∀(b:Nat) (sp:Nat→Bool) (hd:Bool),DataW.TrodAll enc P W' b sp hd f.resultTypes.toList (v.resultList f.resultTypes.size) (s.fn H (ds++gs)).results [])(hargs:∀sp:Nat→Bool,(∀p∈before,sp p.block=true)→DataW.TrodAll enc P W' 0 sp true f.params.toList args.toList (s.fn H (ds++gs)).args pa)(hvars:∀sp:Nat→Bool,(∀p∈before,sp p.block=true)→DataW.TrodVars enc P W' sp s.vars (s.fn H (ds++gs)).vars pv)(hps:before=pa++pv)(hb:Below W.heap.size W W')(hok:∀(j:Nat) (t:aS) (r:aM),f.resultTypes[j]?=some t→(v.resultList f.resultTypes.size)[j]?=some r→Value.okWide P W' .any 0 t r):s.post enc P f apart fresh handsOn again W args v W':=by
 have o:∀p∈before,p.block<W.heap.size:=fun p e=>hW.lt p e
 have h:∀p∈before,(fun b=>decide (b<W.heap.size)) p.block=true:=fun p e=>by simpa using o p e
 refine⟨ds,gs,before,[],pa,pv,hW,hres _ _ _,hargs _ h,hvars _ h,World.keptBut_mono (fun p e=>⟨e,?_⟩) (hb.frame (· ∈before)),fun _=>?_⟩
 ·rw [hps,List.mem_append] at e
  exact cO e
 ·obtain⟨_,_,_,_,_,E,hn⟩:=hW
  refine⟨hok,_,_,([]++pa)++pv,⟨[]++pa,pv,trodAll_append (hargs _ (fun _ _=>rfl)) (hres _ _ _),hvars _ (fun _ _=>rfl),rfl,?_,?_⟩,?_⟩
  ·intro b off e
   have q:MemPlace.cell b off∈before:=by rw [hps];simpa using e
   rw [hb.frozen (o _ q)]
   exact E b off q
  ·intro D
   have:=hn D
   rw [hps] at this
   simpa using this
  ·intro p e _
   rw [hps]
   simpa using e
theorem VL:laidOutB aN=true:=by kernel_rfl
theorem US:mapsRowed aN=true:=by kernel_rfl
def QB (P:bW):Bool:=(gE P.types.size).all fun t=>match P.underlying t with
 | some (.slice e)=>decide (0<P.cellsOf e)
 | _=>true
theorem Q9:QB aN=true:=by kernel_rfl
theorem QC (ht:t<Tryz.prog.types.size)(hu:Tryz.prog.underlying t=some (.slice e)):0<Tryz.prog.cellsOf e:=by
 have:=fV.1 Q9 t (iT.2 ht)
 simpa [hu] using this
theorem PW {enc:aS×aM→H}{d:DataW H}{p:List MemPlace}(ht:t<Tryz.prog.types.size)(h:DataW.Trod enc aN W 0 (fun _=>true) true t v d p)(he:Ext W W')(hp:∀q∈p,q.block<W.heap.size){sp:Nat→Bool}(hsp:∀q∈p,sp q.block=true):DataW.Trod enc aN W' 0 sp true t v d p:=by
 obtain⟨n,hn⟩:=h
 exact⟨n,DataW.trod_stays (kids_rows VL US) QC (fun h=>by cases h) ht hn (fun q e=>he.below.same (hp q e)) hsp⟩
theorem PV {enc:aS×aM→H}(he:Ext W W'){sp:Nat→Bool}:∀{ts:List aS}{vs:List aM}{ds:List (DataW H)}{p:List MemPlace},(∀t∈ts,t<Tryz.prog.types.size)→
  DataW.TrodAll enc aN W 0 (fun _=>true) true ts vs ds p→(∀q∈p,q.block<W.heap.size)→(∀q∈p,sp q.block=true)→DataW.TrodAll enc aN W' 0 sp true ts vs ds p:=by
 intro ts
 induction ts with
 | nil=>
  intro vs ds p _ h _ _
  obtain⟨rfl,rfl,rfl⟩:=trodAll_nil h
  exact trodAll_mk0
 | cons t ts ih=>
  intro vs ds p ht h o f
  obtain⟨v,vs',d,ds',_,_,rfl,rfl,rfl,h1,h2⟩:=trodAll_cons h
  exact trodAll_cons_mk (PW (ht t (by simp)) h1 he (fun q e=>o q (by simp [e])) (fun q e=>f q (by simp [e]))) (ih (fun t h=>ht t (by simp [h])) h2 (fun q e=>o q (by simp [e])) (fun q e=>f q (by simp [e])))
end
section
open Go.RowKit
structure Zl (w:a6)(A:Option aB)(n cap:Nat)(zs:List Int)(ms:List Nat):Prop where
 len:zs.length=n
 mlen:ms.length=n
 le:n≤cap
 max:cap≤maxLen
 get:∀i,i<n→∃a s B c,A=some a∧w.cell? (a.add (i*2))=some (.bool s)∧w.cell? (a.add (i*2+1))=some (we B (ms.getD i 0) c)∧Zi w s B (ms.getD i 0) c (zs.getD i 0)
theorem Zl.ext (h:Zl w A n cap zs ms)(e:Ext w w'):Zl w' A n cap zs ms:=
 ⟨h.len,h.mlen,h.le,h.max,fun i hi=>by
  obtain⟨a,s,B,c,h1,h2,f,o⟩:=h.get i hi
  exact⟨a,s,B,c,h1,e.cell h2,e.cell f,o.ext e⟩⟩
theorem KA:∀(ms:List Nat) (i:Nat),ms.getD i 0≤ms.sum
 | [],i=>by simp
 | m::r,0=>by simp
 | m::r,i+1=>by
  have:=KA r i
  simp only [List.getD_cons_succ,List.sum_cons]
  omega
def mS (zs:List Int):Prop:=zs≠ []∧∀i,1≤i→i<zs.length→0<zs.getD i 0
end
section
open Go.ChangeShapes Go.WideShapes Go.ChangeAt Go.RowKit
theorem vT:Tryz.prog.cellsOf 24=2:=by kernel_rfl
theorem LZ:Tryz.prog.cellsOf 22=1:=by kernel_rfl
theorem M2:Tryz.prog.cellsOf 4=1:=by kernel_rfl
theorem XV:∃f0 f1:Field,Tryz.prog.underlying 24=some (.struct #[f0,f1])∧f0.type=4∧f0.offset=0∧f1.type=22∧f1.offset=1:=⟨_,_,Tryz.underlying24,rfl,rfl,rfl,rfl⟩
theorem TY {enc:aS×aM→H}{d:DataW H}{p:List MemPlace}(hf:DataW.trod enc aN W 0 (fun _=>true) true fuel 22 [v]=some (d,p)):∃A n cap xs,v= we A n cap∧Rd W A n cap xs∧n≤Rows.uptoBulk d∧
   ∀W',Ext W W'→∀sp:Nat→Bool,(∀q∈p,sp q.block=true)→∃fuel',DataW.trod enc aN W' 0 sp true fuel' 22 [v]=some (d,p):=by
 rcases open_ints Tryz.underlying22 Tryz.underlying65 DS hf with⟨D,hx⟩ | ⟨a,n',cap',zs,D,_,hl,V,hz,hx,f,o⟩
 ·obtain rfl:=List.singleton_inj.1 D
  simp only [Prod.mk.injEq] at hx
  obtain⟨rfl,rfl⟩:=hx
  exact⟨none,0,0,[],rfl,Rd.nil W,bJ _,fun W' _ sp _=>by obtain⟨fu,h⟩:=shut_slice_nil (enc:=enc) (w:=W') (base:=0) (spare:=sp) (held:=true) Tryz.underlying22;exact⟨fu,h⟩⟩
 ·obtain rfl:=List.singleton_inj.1 D
  simp only [Prod.mk.injEq] at hx
  obtain⟨rfl,rfl⟩:=hx
  simp only [if_true] at hz
  have G:0<cap'→a.block<W.heap.size:=fun hc=>u6 W (a.add 0) (f 0 (by omega)) |> fun h=>by rwa [tS] at h
  have U:∀z∈zs,((z.toNat:Nat):Int)=z:=fun z hz'=>Int.toNat_of_nonneg (F8 (o z hz')).1
  have ab:(zs.take n').length=n':=by rw [dH];omega
  refine⟨some a,n',cap',(zs.take n').map Int.toNat,rfl,⟨⟨by simp;omega,hl,V,fun i hi=>⟨a,rfl,?_⟩,fun b hb hc=>by cases hb;exact G hc⟩,?_⟩,?_,?_⟩
  ·rw [f i (by omega)]
   have r:i<zs.length:=by omega
   have F:zs[i]∈zs:=mD r
   have e:(((zs.take n').map Int.toNat).map bF).getD i undef= up ((zs[i].toNat:Nat):Int):=by
    simp [bK,List.getElem?_map,show i<n' by omega,cC r]
   rw [e,U _ F]
   simp [bK,cC r]
  ·intro x hx
   obtain⟨z,M,rfl⟩:=qI.1 hx
   have:=F8 (o z (List.mem_of_mem_take M))
   rw [cP];omega
  ·have:=M6 (H:=H) (lits .u64 (zs.take n')) (lits .u64 (zs.drop n'))
   have e:(lits (H:=H) .u64 (zs.take n')).length=n':=by simp [lits];omega
   omega
  ·intro W' he sp I
   have hcell':∀i,i<zs.length→W'.cell? (a.add i)=some (up (zs.getD i 0)):=fun i hi=>he.cell (f i hi)
   by_cases L:zs.length=0
   ·have Y:cap'=0:=by omega
    have Z:n'=0:=by omega
    subst Y;subst Z
    have X:=shut_ints (enc:=enc) (w:=W') (base:=0) (spare:=sp) (held:=true) (a:=a) (len:=0) (cap:=0) (zs:=zs) 0 Tryz.underlying22 Tryz.underlying65 DS (bJ _) (aZ _) V (by simp [L]) hcell' o
    exact⟨2,X⟩
   ·have E:sp a.block=true:=I (.cell a.block a.off) (MemPlace.mem_row.2 ⟨0,by omega,by simp⟩)
    have X:=shut_ints (enc:=enc) (w:=W') (base:=0) (spare:=sp) (held:=true) (a:=a) (len:=n') (cap:=cap') (zs:=zs) 0 Tryz.underlying22 Tryz.underlying65 DS (bJ _) hl V (by simp [E,hz]) hcell' o
    exact⟨2,X⟩
theorem uW {enc:aS×aM→H}{c0 c1:aM}{x:DataW H×List MemPlace}(h:DataW.trod enc aN W 0 (fun _=>true) true fuel 24 [c0,c1]=some x):∃s A n cap z,c0= .bool s∧c1= we A n cap∧Zi W s A n cap z∧n+1≤Rows.uptoBulk x.1∧
   ∀W',Ext W W'→∀sp:Nat→Bool,(∀q∈x.2,sp q.block=true)→∃fuel',DataW.trod enc aN W' 0 sp true fuel' 24 [c0,c1]=some x:=by
 obtain⟨_,f1,F,E,o,t1,r⟩:=XV
 obtain⟨y0,y1,n,rfl,hl,h0,h1⟩:=trod_struct2 F h
 rw [E,o,M2] at h0
 rw [t1,r,LZ] at h1
 have D:(([c0,c1]:List aM).drop 0).take 1= [c0]:=rfl
 have G:(([c0,c1]:List aM).drop 1).take 1= [c1]:=rfl
 rw [D] at h0
 rw [G] at h1
 obtain⟨s,hs,rfl⟩:=DataW.trod_bool Tryz.underlying4 h0
 obtain rfl:c0= .bool s:=by simpa using hs
 obtain⟨A,k,cap,xs,rfl,hx,hb,rx⟩:=TY (d:=y1.1) (p:=y1.2) h1
 refine⟨s,A,k,cap,_,rfl,rfl,⟨xs,hx,rfl⟩,?_,?_⟩
 ·simp only [Rows.uptoBulk,Rows.uptoBulkAll];omega
 ·intro W' he sp e
  obtain⟨fu,f⟩:=rx W' he sp (fun q I=>e q (by simp [I]))
  refine⟨fu+1+1,trod_struct2_mk (y0:=(.lit (.bool s),[])) (y1:=y1) F hl ?_ ?_⟩
  ·rw [E,o,M2,D]
   simp [DataW.trod,Tryz.underlying4]
  ·rw [t1,r,LZ,G]
   exact DataW.trod_le (Nat.le_succ _) f
theorem M1:Tryz.prog.cellsOf 52=4:=by kernel_rfl
theorem XW:∃f0 f1:Field,Tryz.prog.underlying 52=some (.struct #[f0,f1])∧f0.type=24∧f0.offset=0∧f1.type=24∧f1.offset=2:=⟨_,_,Tryz.underlying52,rfl,rfl,rfl,rfl⟩
theorem PM (D:Nat→DataW H)(f:Nat→Nat)(n:Nat)(h:∀i,i<n→f i+1≤Rows.uptoBulk (D i)):((gE n).map f).sum+n≤Rows.uptoBulkAll ((gE n).map D):=by
 induction n with
 | zero=>simp [Rows.uptoBulkAll]
 | succ n ih=>
  have ih':=ih (fun i hi=>h i (by omega))
  have hn:=h n (by omega)
  rw [List.range_succ,List.map_append,List.map_append,List.sum_append,List.map_singleton,List.map_singleton]
  have e:∀(l:List (DataW H)) (x:DataW H),Rows.uptoBulkAll (l++ [x])=Rows.uptoBulkAll l+Rows.uptoBulk x:=by
   intro l x
   induction l with
   | nil=>simp [Rows.uptoBulkAll]
   | cons y r ihl=>simp only [uE,Rows.uptoBulkAll,ihl];omega
  rw [e]
  simp only [List.sum_singleton]
  omega
theorem YD {l:List aM}(h:l.length=2):∃a b,l= [a,b]:=by
 match l,h with
 | [a,b],_=>exact⟨a,b,rfl⟩
end
section
open Go.RowKit
theorem UpdO.of (h:w.grownBy w' none):UpdO A w w':=⟨⟨h.os,h.tape,h.output,h.size,fun k e _=>h.block k e (by simp)⟩⟩
theorem Upd.updO (h:Upd g w w'){o:Nat}{x:_}:UpdO (some ⟨g,o,x⟩) w w':=⟨h.by_⟩
theorem TU {cs:List aM}(hv:cs.take k=vs)(hk:k≤cs.length):(jA cs k us).take (k+us.length)=vs++us:=by
 unfold jA
 have e:(cs.take k++us).length=k+us.length:=by rw [fU,dH,gD hk]
 rw [←e,List.take_left',hv]
 rfl
def Kept (w:a6)(A A':Option aB):Prop:=∀a',A'=some a'→(∃a,A=some a∧a'.block=a.block)∨w.heap.size≤a'.block
section
variable {P:bW}
theorem GR {z:aM}{s:Nat}(ht:P.underlying t=some (.slice e))(hinfo:(P.info? e).map (fun i=>(i.zero,i.size,i.bytes))=some (some z,s,bytes))(hzs:z.cells.size=s)(hsz:0<s)(hby:bytes≤64){xs:List aM}(hown:Own w base e s A n cap xs)(hb:base≤w.heap.size){a:aB}(hl:news.length=m*s)(hnews:∀j u,news[j]?=some u→w.cell? (a.add j)=some u)(h1:news.all (·.oneCell')=true)(hm:n+m≤1099511627776):∃A' cap' w',(qK #[t,t] ty #[we A n cap,we (some a) m c]).run P w= .ok (we A' (n+m) cap') w'∧Own w' base e s A' (n+m) cap' (xs++news)∧UpdO A w w'∧Kept w A A':=by
 obtain⟨i,hi,W,o,p⟩:=info_parts hinfo
 have h1':∀u∈news,u.oneCell'=true:=by simpa [fV] using h1
 have E:n+m≤maxLen:=by rw [eG];omega
 have h:(n+m)*bytes≤140737488355328:=by
  have:(n+m)*bytes≤1099511627776*64:=Nat.mul_le_mul hm hby
  omega
 rcases hown with⟨rfl,rfl,rfl,rfl⟩ | ⟨g,cs,rfl,hg,Y,hn,I,U,r⟩
 ·obtain⟨v',w',hr,h2,L,_⟩:=run_append_own (P:=P) w w.heap.size t ty e i z s bytes ht hi W o p hzs hsz (we none 0 0) 0 [] (World.ownsRow_nil w _ e s) a m c news hl hnews h1' E h (aZ _)
  obtain⟨A',cap',rfl,D⟩:=Own.of_row h2
  exact⟨A',cap',w',hr,D.mono hb,UpdO.of L,fun a' q=>cO (D.block a' q).1⟩
 ·by_cases f:n+m≤cap
  ·have X:n*s+news.length≤cs.length:=by rw [hl,U,←dK];exact eI s f
   obtain⟨w',V,F,Z,hs⟩:=BD (P:=P) news 0 (n*s) w cs Y (by omega) h1'
   rw [fC] at F
   have G:=run_firstCells_some (P:=P) w i.size m a m c news (by rw [o];exact hl) hnews
   rw [o] at G
   refine⟨some ⟨g,0,none⟩,cap,w',?_,cO ⟨g,_,rfl,hg,F,f,I,?_,?_⟩,Z.updO,fun a' q=>cH ⟨_,rfl,by cases q;rfl⟩⟩
   ·simp [qK,m8 ht,sizeOf,typeInfo,hi,Builtin.lenOf,f,G,Addr.add_lit,o,V]
   ·unfold jA
    simp only [fU,dH,gO]
    omega
   ·rw [dK,←hl]
    exact TU r (by omega)
  ·have hx:=r
   obtain⟨v',w',hr,h2,L⟩:=run_append_arg_grows (P:=P) w t ty e i z s bytes ht hi W o p hzs hsz ⟨g,0,none⟩ n cap xs
    (by rw [←r,dH];have:=eI s hn;omega)
    (fun j u H=>by
     have M:=(gY.1 H).1
     rw [kV,eJ,Y.cell (by rw [←r,dH] at M;omega)]
     rw [←r,kY] at H
     split at H
     ·rw [bK,H];rfl
     ·cases H) a m c news hl hnews (by omega) E h
   obtain⟨A',cap',rfl,D⟩:=Own.of_row h2
   exact⟨A',cap',w',hr,D.mono hb,UpdO.of L,fun a' q=>cO (D.block a' q).1⟩
variable {Q:dI→Act→a6→Prop}{n:Nat}{l:Fr}{w:a6}{ops:Array bD}{rest:List bD}{d:Nat}{ty:aS}{pos:String}{af:Array fP}{gd:Option (Nat×Bool)}
theorem qM {x y:cN}{z:aM}{s:Nat}{a:aB}{xs:List aM}(hw:dB ops l gd=some true)(hx:bV l x=some (we A k cap))(hy:bV l y=some (we (some a) m c))(ht:P.underlying t=some (.slice e))(hinfo:(P.info? e).map (fun i=>(i.zero,i.size,i.bytes))=some (some z,s,bytes))(hzs:z.cells.size=s)(hown:Own w base e s A k cap xs)(hb:base≤w.heap.size)(news:List aM)(hl:news.length=m*s)(hnews:∀j u,news[j]?=some u→w.cell? (a.add j)=some u)(h1:news.all (·.oneCell')=true)(h:∀A' cap' w',Own w' base e s A' (k+m) cap' (xs++news)→UpdO A w w'→Kept w A A'→wl P ops Q n rest ((d,we A' (k+m) cap')::l) w')(hsz:0<s:=by decide)(hby:bytes≤64:=by decide)(hm:k+m≤1099511627776:=by omega)(hn:d<n:=by decide):wl P ops Q n (⟨some d,.call {callee:= .builtin .append,args:= #[x,y],argTypes:= #[t,t]},ty,pos,af,gd⟩::rest) l w:=by
 obtain⟨A',cap',w',hr,h2,o,p⟩:=GR (P:=P) (ty:=ty) ht hinfo hzs hsz hby hown hb hl hnews h1 hm
 refine fW hw hn (fun a' f=>?_) (h A' cap' w' h2 o p)
 unfold execOp
 simp only [resolve,invoke,builtin,cE,gT,eY,sL,jZ,kX,f.ev hx,f.ev hy]
 rw [hr]
 rfl
end
theorem Own.updOT {s s':Nat}(h:Own w b t s A n cap vs)(ho:Own w b' T s' B m c us)(hT:t≠T)(x:UpdO B w w'):Own w' b t s A n cap vs:=by
 refine h.updO x (fun p q f e hg=>?_)
 rcases ho with⟨h1,_⟩ | ⟨k,cs,D,_,o,_⟩
 ·rw [h1] at f;cases f
 ·rcases h with⟨h2,_⟩ | ⟨k',cs',r,_,hk',_⟩
  ·rw [h2] at e;cases e
  ·rw [D] at f;rw [r] at e
   cases f;cases e
   simp only at hg
   subst hg
   unfold Bk at o hk'
   rw [o] at hk'
   injection hk' with hk'
   injection hk' with e1 e2
   exact hT e2.symm
theorem BF (A:Option aB)(c k:Nat):sF (if c=0 then A else A.map (·.add (0*1))) (k-0) (c-0)= we A k c:=by
 have h0:A.map (·.add (0*1))=A:=by
  cases A with
  | none=>rfl
  | some a=>simp [mZ]
 rw [h0,ite_self];rfl
theorem x7:Tryz.prog.underlying 36=some (.slice 22):=by kernel_rfl
theorem BC (w:a6):(sizeOf 22).run aN w= .ok 1 w:=by kernel_rfl
theorem E2 (w:a6):(isAgg 22).run aN w= .ok false w:=by kernel_rfl
theorem VP:(Tryz.prog.info? 22).map (fun i=>(i.zero,i.size,i.bytes))=some (some (we none 0 0),1,24):=by kernel_rfl
section
variable {P:bW}{Q:dI→Act→a6→Prop}{n:Nat}{l:Fr}{w:a6}{ops:Array bD}{rest:List bD}{d:Nat}{op:Op}{ty:aS}{pos:String}{af:Array fP}{gd:Option (Nat×Bool)}
def IW:j3→Bool
 | .eql=>false
 | .neq=>false
 | _=>true
theorem RL {x y:cN}{r:aM}(ho:IW o=true)(hb:(binOp o t u v).run P w= .ok r w):((do eqGuard o t x y u v;binOp o t u v):Sem aM).run P w= .ok r w:=by
 cases o <;> first | (cases ho;done) | (simp only [eqGuard,cE];exact hb) | (simp [eqGuard,cE,hb])
theorem nB {x y:cN}{r:aM}(hw:dB ops l gd=some true)(hx:bV l x=some u)(hy:bV l y=some v)(ho:IW o=true)(hb:∀w,(binOp o t u v).run P w= .ok r w)(h:wl P ops Q n rest ((d,r)::l) w)(hn:d<n:=by decide):wl P ops Q n (⟨some d,.binOp o t x y t',ty,pos,af,gd⟩::rest) l w:=
 fW hw hn (fun a' f=>by
  have e:((do eqGuard o t x y (a'.eval x) (a'.eval y);binOp o t (a'.eval x) (a'.eval y)):Sem aM).run P w= .ok r w:=by
   rw [f.ev hx,f.ev hy];exact RL ho (hb w)
  show ((((do eqGuard o t x y (a'.eval x) (a'.eval y);binOp o t (a'.eval x) (a'.eval y)):Sem aM)>>=fun r=>pure (fZ r)):Sem fI).run P w=_
  rw [cE,e];rfl) h
theorem cS {v':aM}(hw:dB ops l gd=some true)(hk:m4 l op=true)(e:v=v')(h:wl P ops Q n rest ((d,v')::l) w)(hn:d<n:=by decide)(hr:(execOp (rho l) ⟨some d,op,ty,pos,af,gd⟩).run P w= .ok (.value v) w:=by kernel_rfl):wl P ops Q n (⟨some d,op,ty,pos,af,gd⟩::rest) l w:=F5 hw hk hn hr (by rw [e];exact h)
end
theorem FG {x:Nat}(hx:x≤18446744073709551615)(P:bW)(t:aS)(w:a6):(binOp .and t (up (x:Int)) (up 1)).run P w= .ok (up ((x%2:Nat):Int)) w:=by
 have e:=and_one_u64 (x:Int) (by omega) (by omega)
 have f:(binOp .and t (up (x:Int)) (up 1)).run P w= .ok (up (bits BinOp.and IntKind.u64 (x:Int) 1)) w:=rfl
 rw [f,e,Int.natCast_emod];rfl
theorem mQ {x:Nat}(h:x≤18446744073709551615):dP .u64 (IntKind.u64.wrap (x:Int))= up (x:Int):=by rw [IntWalk.u64_in _ ⟨by omega,by omega⟩]
theorem pW {x:Nat}(h:x≤9223372036854775807):dP .i64 (IntKind.i64.wrap (x:Int))= no (x:Int):=by rw [IntWalk.i64_in _ ⟨by omega,by omega⟩]
section
variable (P:bW) (n:Nat) (ol:List bD) (vs:List aM) (ws:List a6) (w:a6) (dss:List (List Nat)) (l:Fr) (st:List Nat)
def tY (i t:Nat):Prop:=
 match ol[i]? with
 | some o=>if st.contains i then gS P n (dfr ol vs l (cF dss i)) o (wv ws w t) (match o.dst with | none=> .skip | some _=> .value ((vs[i]?).getD undef)) (wv ws w (t+1)) else gS P n (dfr ol vs l (cF dss i)) o (wv ws w t) (.value ((vs[i]?).getD undef)) (wv ws w t)
 | none=>True
def mT:List (Nat×Nat)→Prop
 | []=>True
 | (i,t)::r=>tY P n ol vs ws w dss l st i t∧mT r
end
def DJ (n : Nat)(ol : List bD)(st : List Nat)(l : Fr)(dss rl : List (List Nat))(ps : List (Nat × Nat)): Bool :=
  (ol.zipIdx.all fun (o, i) => (match o.guard with | none => true | some _ => false) && (o.after.toList.all fun e => !Region.binds .any e || decide (e.on < i)) &&
    ((cF rl i).all fun j => decide (j < i) && o.after.toList.any fun e => jN .any e && (e.on == j || (cF rl e.on).contains j)) &&
    ((cF dss i).all fun j => (cF rl i).contains j) &&
    (match o.dst with
     | some d => decide (d < n) && l.all (fun p => p.1 != d) && ol.zipIdx.all (fun (o', j) => j == i || o'.dst != some d)
     | none => st.contains i) &&
    (gE (st.length + 1)).all (fun t => decide (t < jV st (cF rl i)) || (t != 0 && (cF rl (st.getD (t - 1) 0)).contains i) || (st.contains i && t != jV st (cF rl i)) || ps.contains (i, t))) &&
  (gE st.length).all (fun t => decide (st.getD t 0 < ol.length) && (gE t).all fun u => (cF rl (st.getD t 0)).contains (st.getD u 0))
structure DetOkV (n:Nat)(ol:List bD)(st:List Nat)(l:Fr)(dss rl:List (List Nat))(ps:List (Nat×Nat)):Prop where
 guard:∀(i:Nat) (o:bD),ol[i]?=some o→o.guard=none
 back:∀(i:Nat) (o:bD),ol[i]?=some o→∀e∈o.after,jN .any e=true→e.on<i
 reach:∀(i:Nat) (o:bD),ol[i]?=some o→∀j∈cF rl i,j<i∧∃e∈o.after,jN .any e=true∧(e.on=j∨j∈cF rl e.on)
 deps:∀(i:Nat) (o:bD),ol[i]?=some o→∀j∈cF dss i,j∈cF rl i
 val:∀(i:Nat) (o:bD),ol[i]?=some o→∀d,o.dst=some d→d<n∧(∀p∈l,p.1≠d)∧∀(j:Nat) (o':bD),ol[j]?=some o'→j≠i→o'.dst≠some d
 sto:∀(i:Nat) (o:bD),ol[i]?=some o→o.dst=none→i∈st
 pair:∀(i:Nat) (o:bD),ol[i]?=some o→∀t,t≤st.length→jV st (cF rl i)≤t→(t=0∨i ∉ cF rl (st.getD (t-1) 0))→(i∈st→t=jV st (cF rl i))→(i,t)∈ps
 inN:∀t,t<st.length→st.getD t 0<ol.length
 ord:∀t,t<st.length→∀u,u<t→st.getD u 0∈cF rl (st.getD t 0)
theorem ZA {l:Fr}(h:DJ n ol st l dss rl ps=true):DetOkV n ol st l dss rl ps:=by
 simp only [DJ,eK] at h
 obtain⟨h1,h2⟩:=h
 have key:=fun (i:Nat) (o:bD) (f:ol[i]?=some o)=>rX h1 i o f
 simp only [eK] at key
 have q:∀t,t<st.length→st.getD t 0<ol.length∧∀u,u<t→st.getD u 0∈cF rl (st.getD t 0):=by
  intro t ht
  rw [fV] at h2
  have:=h2 t (iT.2 ht)
  simp only [eK,decide_eq_true_eq,fV,iT,jR] at this
  exact this
 refine⟨fun i o f=>?_,fun i o f e he hb=>?_,fun i o f j F=>?_,fun i o f j F=>?_,fun i o f d E=>?_,fun i o f E=>?_,fun i o f t ht _ H hs=>?_,fun t ht=>(q t ht).1,fun t ht=>(q t ht).2⟩
 ·have:=(key i o f).1.1.1.1.1
  cases hg:o.guard with
  | none=>rfl
  | some g=>rw [hg] at this;cases this
 ·have:=(key i o f).1.1.1.1.2
  rw [fV] at this
  have:=this e (by simpa using he)
  simpa [hb] using this
 ·have:=(key i o f).1.1.1.2
  rw [fV] at this
  have:=this j F
  simp only [eK,decide_eq_true_eq,List.any_eq_true,mY,beq_iff_eq,jR] at this
  obtain⟨I,e,he,hb,D⟩:=this
  exact⟨I,e,by simpa using he,hb,D⟩
 ·have:=(key i o f).1.1.2
  rw [fV] at this
  simpa using this j F
 ·have:=(key i o f).1.2
  rw [E] at this
  simp only [eK,decide_eq_true_eq] at this
  obtain⟨⟨D,G⟩,L⟩:=this
  refine⟨D,fun p M=>?_,fun j o' ho' r e=>?_⟩
  ·rw [fV] at G
   simpa using G p M
  ·have:=rX L j o' ho'
   simp only [mY,beq_iff_eq,bne_iff_ne] at this
   rcases this with h | h
   ·exact r h
   ·exact h e
 ·have:=(key i o f).1.2
  rw [E] at this
  exact jR.1 this
 ·have:=(key i o f).2
  rw [fV] at this
  have:=this t (iT.2 (by omega))
  simp only [mY,eK,decide_eq_true_eq,bne_iff_ne,ne_eq,jR] at this
  rcases this with ((h | h) | h) | h
  ·omega
  ·rcases H with h0 | h0
   ·exact absurd h0 h.1
   ·exact absurd h.2 h0
  ·exact absurd (hs h.1) h.2
  ·exact h
section
variable {P:bW}{Q:dI→Act→a6→Prop}{n:Nat}{ol:List bD}{vs:List aM}{ws:List a6}{w:a6}{dss rl:List (List Nat)}{l:Fr}{st:List Nat}{ps:List (Nat×Nat)}
theorem L9:∀{ps:List (Nat×Nat)},mT P n ol vs ws w dss l st ps→∀i t,(i,t)∈ps→tY P n ol vs ws w dss l st i t
 | [],_,i,t,h=>by cases h
 | (j,u)::r,h,i,t,hm=>by
  rcases List.mem_cons.1 hm with e | e
  ·cases e;exact h.1
  ·exact L9 h.2 i t e
theorem LS (hk:DetOkV n ol st l dss rl ps)(h:Closed ol listed):∀(i:Nat) (o:bD),ol[i]?=some o→(∀e∈o.after,jN .any e=true→listed.getD e.on false=true)→∀j∈cF rl i,listed.getD j false=true:=by
 intro i
 induction i using Nat.strongRecOn with
 | ind i ih=>
  intro o q f j r
  obtain⟨_,e,he,hb,h1⟩:=hk.reach i o q j r
  have p:=hk.back i o q e he hb
  rcases h1 with h1 | h1
  ·rw [←h1];exact f e he hb
  ·have hN:e.on<ol.length:=Nat.lt_trans p (gY.1 q).1
   exact ih e.on p _ (cC hN) (h e.on _ (cC hN) (f e he hb)) j h1
theorem Z8 (hk:DetOkV n ol st l dss rl ps)(ho:mT P n ol vs ws w dss l st ps)(hfin:eo Q .normal n (zK ol vs l) (wv ws w st.length)):∀(fuel:Nat) (listed:Array Bool) (a:Act) (t:Nat),qO ol.length listed≤fuel→listed.size=ol.length→Closed ol listed→t≤st.length→(∀u,u<st.length→listed.getD (st.getD u 0) false=decide (u<t))→Rp n l a→
   (∀i,i<ol.length→listed.getD i false=true→∀d,cQ ol i=some d→a.tmps.getD d undef=(vs[i]?).getD undef)→wpAny P .any ol.toArray Q fuel listed a (wv ws w t):=by
 have fin:∀(listed:Array Bool) (a:Act) (t:Nat),(∀i,i<ol.length→listed.getD i false=true)→t≤st.length→(∀u,u<st.length→listed.getD (st.getD u 0) false=decide (u<t))→Rp n l a→
   (∀i,i<ol.length→listed.getD i false=true→∀d,cQ ol i=some d→a.tmps.getD d undef=(vs[i]?).getD undef)→Q .normal a (wv ws w t):=by
  intro listed a t p ht q hr hv
  have e:t=st.length:=by
   rcases i7 t st.length with h | h
   ·have h1:=q t h
    rw [p _ (hk.inN t h)] at h1
    simp at h1
   ·omega
  subst e
  exact hfin a (hr.dfr _ fun j I d H=>hv j (iT.1 I) (p j (iT.1 I)) d H)
 intro fuel
 induction fuel with
 | zero=>
  intro listed a t hf hs E ht q hr hv
  have p:∀i,i<ol.length→listed.getD i false=true:=by
   intro i hi
   cases h:listed.getD i false with
   | true=>rfl
   | false=>have:=kJ hi hs h;omega
  refine⟨?_,fin listed a t p ht q hr hv⟩
  refine List.eq_nil_iff_forall_not_mem.2 fun j I=>?_
  obtain⟨h1,o,aa,_⟩:=j8.1 I
  have bg:j<ol.length:=(gY.1 aa).1
  rw [jC,p j bg] at h1
  cases h1
 | succ fuel ih=>
  intro listed a t hf hs E ht q hr hv
  refine⟨fun h0=>?_,fun i bd=>?_⟩
  ·refine fin listed a t (fun i hi=>?_) ht q hr hv
   have key:∀k,k≤ol.length→∀i,i<k→listed.getD i false=true:=by
    intro k
    induction k with
    | zero=>intro _ i hi;omega
    | succ k ihk=>
     intro hk' i hi
     have ih':=ihk (by omega)
     rcases i7 i k with h | h
     ·exact ih' i h
     ·have e:i=k:=by omega
      subst e
      cases hb:listed.getD i false with
      | true=>rfl
      | false=>
       have ae:i∈Region.ready .any ol.toArray listed:=j8.2 ⟨by rw [jC];exact hb,_,cC (by omega),fun e he au=>ih' _ (hk.back i _ (cC (by omega)) e he au)⟩
       rw [h0] at ae;cases ae
   exact key ol.length (aZ _) i hi
  ·obtain⟨ar,o,f,p⟩:=j8.1 bd
   have W:i<ol.length:=(gY.1 f).1
   have hun':listed.getD i false=false:=by rw [←jC];exact ar
   have U:=LS hk E i o f p
   have ao:jV st (cF rl i)≤t:=LN fun u _ aq Z=>by
    have h1:=U _ Z
    rw [q u aq] at h1
    simp at h1;omega
   have ak:t=0∨i ∉ cF rl (st.getD (t-1) 0):=by
    rcases jQ t with h | h
    ·exact cH h
    ·refine cO fun Z=>?_
     have h1:=q (t-1) (by omega)
     rw [decide_eq_true (by omega)] at h1
     have hN:=hk.inN (t-1) (by omega)
     have h2:=LS hk E _ _ (cC hN) (fun e he hb=>E _ _ (cC hN) h1 e he hb) i Z
     rw [hun'] at h2;cases h2
   have r:i∈st→t<st.length∧st.getD t 0=i∧t=jV st (cF rl i):=by
    intro Z
    obtain⟨u,D,az⟩:=List.getElem_of_mem Z
    have hg:st.getD u 0=i:=by rw [bK,cC D];exact az
    have h1:=q u D
    rw [hg,hun'] at h1
    have h2:¬u<t:=by intro h;rw [decide_eq_true h] at h1;cases h1
    have h3:u=t:=by
     rcases i7 t u with h | h
     ·have h4:=hk.ord u D t h
      rw [hg] at h4
      have h5:=U _ h4
      rw [q t (by omega)] at h5
      simp at h5
     ·omega
    subst h3
    refine⟨D,hg,?_⟩
    have h4:=JU (st:=st) (js:=cF rl i) (t:=u) (by omega) (fun v hv'=>by rw [←hg];exact hk.ord u D v hv')
    omega
   have aE:=L9 ho i t (hk.pair i o f t ht ao ak (fun Z=>(r Z).2.2))
   unfold tY at aE
   rw [f] at aE
   simp only at aE
   have X:Rp n (dfr ol vs l (cF dss i)) a:=hr.dfr _ fun j I d H=>by
    have h1:=U j (hk.deps i o f j I)
    have h2:=(hk.reach i o f j (hk.deps i o f j I)).1
    exact hv j (by omega) h1 d H
   have ai:qA o (yielded ol.toArray a.tmps)=true:=by simp [qA,hk.guard i o f]
   unfold wpOp
   rw [nP,f]
   simp only
   rw [if_pos ai]
   refine cH ?_
   unfold Oper.wp
   cases H:o.dst with
   | some d=>
    obtain⟨aw,ag,ap⟩:=hk.val i o f d H
    have Y:∀(v:aM) (am:v=(vs[i]?).getD undef),∀j,j<ol.length→(listed.setIfInBounds i true).getD j false=true→∀e,cQ ol j=some e→(a.put (some d) v).tmps.getD e undef=(vs[j]?).getD undef:=fun v am j I V e he=>by
     by_cases G:i=j
     ·subst G
      have e1:cQ ol i=some d:=by unfold cQ;rw [f];exact H
      rw [e1] at he
      cases he
      rw [←am]
      exact qU hr.size aw _
     ·rw [Go.getD_set_ne false G] at V
      have M:e≠d:=by
       intro ba
       subst ba
       obtain⟨oj,aa⟩:∃oj,ol[j]?=some oj:=⟨_,cC I⟩
       refine ap j oj aa (Ne.symm G) ?_
       unfold cQ at he
       rw [aa] at he
       exact he
      have:=uO (a:=a) (d:=d) (e:=some e) (fun h=>M (m9 h)) v
      exact this.trans (hv j I V e he)
    by_cases F:i∈st
    ·obtain⟨bf,L,_⟩:=r F
     rw [if_pos (by simpa using F),H] at aE
     simp only at aE
     rw [aE a X]
     simp only [kG,H]
     refine ih _ _ (t+1) (by have:=kJ W hs hun';omega) (by simpa using hs) (E.set f p) (by omega) (fun u D=>?_) (hr.put_far ag _) (Y _ J)
     by_cases aj:u=t
     ·subst aj
      rw [L]
      simp [hs,W]
     ·have M:i≠st.getD u 0:=by
       intro e
       rcases i7 u t with h | h
       ·have h1:=q u D
        rw [←e,hun',decide_eq_true h] at h1;cases h1
       ·have h4:=hk.ord u D t (by omega)
        rw [L,←e] at h4
        have:=(hk.reach i o f i h4).1
        omega
      rw [Go.getD_set_ne false M,q u D]
      congr 1
      simp only [eq_iff_iff]
      omega
    ·rw [if_neg (by simpa using F)] at aE
     rw [aE a X]
     simp only [kG,H]
     refine ih _ _ t (by have:=kJ W hs hun';omega) (by simpa using hs) (E.set f p) ht (fun u D=>?_) (hr.put_far ag _) (Y _ J)
     rw [Go.getD_set_ne false (fun e=>F (by rw [e,bK,cC D];exact mD D))]
     exact q u D
   | none=>
    have Z:=hk.sto i o f H
    obtain⟨bf,L,_⟩:=r Z
    rw [if_pos (by simpa using Z),H] at aE
    simp only at aE
    rw [aE a X]
    simp only [kG,H]
    refine ih _ _ (t+1) (by have:=kJ W hs hun';omega) (by simpa using hs) (E.set f p) (by omega) (fun u D=>?_) hr (fun j I V e he=>?_)
    ·by_cases aj:u=t
     ·subst aj
      rw [L]
      simp [hs,W]
     ·have M:i≠st.getD u 0:=by
       intro e
       rcases i7 u t with h | h
       ·have h1:=q u D
        rw [←e,hun',decide_eq_true h] at h1;cases h1
       ·have h4:=hk.ord u D t (by omega)
        rw [L,←e] at h4
        have:=(hk.reach i o f i h4).1
        omega
      rw [Go.getD_set_ne false M,q u D]
      congr 1
      simp only [eq_iff_iff]
      omega
    ·by_cases G:i=j
     ·subst G
      have e1:cQ ol i=none:=by unfold cQ;rw [f];exact H
      rw [e1] at he;cases he
     ·rw [Go.getD_set_ne false G] at V
      exact hv j I V e he
theorem ZE (hmix:P.follows .mixedOrders=true)(vs:List aM)(ws:List a6)(st:List Nat)(dss rl:List (List Nat))(ps:List (Nat×Nat))(hk:DJ n ol st l dss rl ps=true)(hw:wv ws w 0=w0.drew)(ho:mT P n ol vs ws w dss l st ps)(hfin:eo Q .normal n (zK ol vs l) (wv ws w st.length)):cw P Q n (.region id ol.toArray true) l w0:=fun a p=>by
 refine wp_region_any hmix ?_
 have f:(pA ol.toArray.size false).size=ol.length:=by simp
 have e:∀i,(pA ol.toArray.size false).getD i false=false:=by
  intro i
  simp only [Array.getD_eq_getD_getElem?,Array.getElem?_replicate]
  split <;> rfl
 have:=Z8 (ZA hk) ho hfin ol.toArray.size _ a 0 (by
  refine a8 List.countP_le_length ?_
  simp) f (fun i o _ h=>by rw [e] at h;cases h) (bJ _) (fun u _=>by rw [e];simp) p (fun i _ h=>by rw [e] at h;cases h)
 rw [hw] at this
 exact this
theorem nK {t:Nat}{o:bD}(acc:Fr)(ho:ol[i]?=some o)(hs:st.contains i=false)(hv:(vs[i]?).getD undef=v)(hw:wv ws w t=wt)(hacc:dfr ol vs l (cF dss i)=acc)(h:gS P n acc o wt (.value v) wt)(h':mT P n ol vs ws w dss l st ps):mT P n ol vs ws w dss l st ((i,t)::ps):=⟨by unfold tY;rw [ho];simp only;rw [hs,if_neg (by simp),hv,hw,hacc];exact h,h'⟩
theorem YM {t:Nat}{o:bD}(acc:Fr)(ho:ol[i]?=some o)(hs:st.contains i=true)(hd:o.dst=some d)(hv:(vs[i]?).getD undef=v)(hw:wv ws w t=wt)(hw':wv ws w (t+1)=wt')(hacc:dfr ol vs l (cF dss i)=acc)(h:gS P n acc o wt (.value v) wt')(h':mT P n ol vs ws w dss l st ps):mT P n ol vs ws w dss l st ((i,t)::ps):=⟨by unfold tY;rw [ho];simp only;rw [hs,if_pos rfl,hw,hw',hacc,hd];simp only;rw [hv];exact h,h'⟩
theorem YK {t:Nat}{o:bD}(acc:Fr)(ho:ol[i]?=some o)(hd:o.dst=none)(hs:st.contains i=true)(hw:wv ws w t=wt)(hw':wv ws w (t+1)=wt')(hacc:dfr ol vs l (cF dss i)=acc)(h:gS P n acc o wt .skip wt')(h':mT P n ol vs ws w dss l st ps):mT P n ol vs ws w dss l st ((i,t)::ps):=⟨by unfold tY;rw [ho];simp only;rw [hs,if_pos rfl,hw,hw',hacc,hd];exact h,h'⟩
theorem YL:mT P n ol vs ws w dss l st []:=trivial
end
def sgn (d:Nat):Nat:=if d<10 then 48+d else 87+d
def B8 (x:Nat):aM:= .int .u8 (x:Int)
theorem G3:sgn 0=48:=rfl
theorem G4 (h:d<36):sgn d≤122:=by unfold sgn;split <;> omega
def aJ (bs:List Nat):ByteArray:=⟨(bs.map UInt8.ofNat).toArray⟩
def eF (l:List Nat)(k:Nat):List Nat:=l++cJ (k-l.length) 0
theorem rI (l:List Nat)(k:Nat):(eF l k).length=max l.length k:=by simp only [eF,fU,List.length_replicate];omega
def dW (l:List Nat):List Nat:=l.reverse.map sgn
theorem x9 (l r:List Nat):dW (l++r)=dW r++dW l:=by simp [dW]
theorem x8 (l:List Nat):(dW l).length=l.length:=by simp [dW]
theorem OT (k:Nat):dW (cJ k 0)=cJ k 48:=by simp [dW,G3]
theorem B6 (l:List Nat)(k:Nat):dW (eF l k)=cJ (k-l.length) 48++dW l:=by rw [eF,x9,OT]
theorem kM (w:a6):(sizeOf 5).run aN w= .ok 1 w:=by kernel_rfl
theorem E3 (w:a6):(isAgg 5).run aN w= .ok false w:=by kernel_rfl
theorem kK:Tryz.prog.underlying 183=some (.slice 5):=by kernel_rfl
theorem tJ:(Tryz.prog.info? 5).map (fun i=>(i.zero,i.size,i.bytes))=some (some (.int .u8 0),1,1):=by kernel_rfl
theorem zL (w:a6):(isAgg 3).run aN w= .ok false w:=by kernel_rfl
theorem CM (xs:List Nat)(i x:Nat):(xs.map B8).set i (.int .u8 (x:Int))=(xs.set i x).map B8:=by rw [List.map_set];rfl
section
variable {P:bW}{Q:dI→Act→a6→Prop}{n:Nat}{l:Fr}{w:a6}{ops:Array bD}{rest:List bD}{d:Nat}{op:Op}{ty:aS}{pos:String}{af:Array fP}{gd:Option (Nat×Bool)}
theorem RO {s:Nat}{a:aB}{k:iN}{i:Int}(hT:P.underlying t=some (.array m e))(hs:∀w,(sizeOf e).run P w= .ok s w)(hi:i=(j:Int))(hj:j<m)(hp:a.add (j*s)=p):(Instr.indexAt t (.pointer (some a)) (.int k i)).run P w= .ok (.pointer (some p)) w:=by
 subst hi hp
 have h:(underlying t).run P w= .ok (.array m e) w:=m8 hT w
 have f:(Instr.sureAddr (.pointer (some a))).run P w= .ok a w:=rfl
 unfold Instr.indexAt
 simp only [asIntOf,cE,gT,eY,h,f]
 rw [if_pos ⟨by omega,by omega⟩]
 simp only [cE,hs w,eY,gT,gZ]
theorem AY (hw:dB ops l gd=some true){x y:cN}{s:Nat}{a:aB}{k:iN}{i:Int}(hx:bV l x=some (.pointer (some a)))(hy:bV l y=some (.int k i))(hT:P.underlying t=some (.array m e))(hs:∀w,(sizeOf e).run P w= .ok s w)(j:Nat)(hi:i=(j:Int))(hj:j<m)(p:aB)(hp:a.add (j*s)=p)(h:wl P ops Q n rest ((d,.pointer (some p))::l) w)(hn:d<n:=by decide):wl P ops Q n (⟨some d,.indexAddr t x y,ty,pos,af,gd⟩::rest) l w:=
 fW hw hn (fun a' f=>by
  have e:(Instr.indexAt t (a'.eval x) (a'.eval y)).run P w= .ok (.pointer (some p)) w:=by rw [f.ev hx,f.ev hy];exact RO hT hs hi hj hp
  show ((Instr.indexAt t (a'.eval x) (a'.eval y)>>=fun r=>pure (fZ r):Sem fI)).run P w=_
  rw [cE,e];rfl) h
theorem RI {s lo:Nat}{a:aB}(hT:P.underlying t=some (.array m e))(hs:∀w,(sizeOf e).run P w= .ok s w)(h3:lo≤m):(Instr.sliceAt t (.pointer (some a)) (some (no (lo:Int))) none none).run P w= .ok (we (some (if m=lo then a else a.add (lo*s))) (m-lo) (m-lo)) w:=by
 have h:(underlying t).run P w= .ok (.array m e) w:=m8 hT w
 have f:(Instr.sureAddr (.pointer (some a))).run P w= .ok a w:=rfl
 have hb:(Instr.sliceBounds false m m (some (no (lo:Int))) none none).run P w= .ok (lo,m,m) w:=by
  unfold Instr.sliceBounds
  simp only [cE,gT,eY,Option.isSome,uT h3]
 unfold Instr.sliceAt
 simp only [cE,h,eY,f,hb,hs w,gT]
theorem SK {x y:cN}{s lo:Nat}{a:aB}(hx:bV l x=some (.pointer (some a)))(hy:bV l y=some (no (lo:Int)))(hT:P.underlying t=some (.array m e))(hs:∀w,(sizeOf e).run P w= .ok s w)(h3:lo≤m):gS P n l ⟨dst,.slice t x (some y) none none,ty,pos,af,gd⟩ w (.value (we (some (if m=lo then a else a.add (lo*s))) (m-lo) (m-lo))) w:=fun a' f=>by
 have e:(Instr.sliceAt t (a'.eval x) (some (a'.eval y)) none none).run P w= .ok (we (some (if m=lo then a else a.add (lo*s))) (m-lo) (m-lo)) w:=by rw [f.ev hx,f.ev hy];exact RI hT hs h3
 show ((Instr.sliceAt t (a'.eval x) (some (a'.eval y)) none none>>=fun r=>pure (fZ r):Sem fI)).run P w=_
 rw [cE,e];rfl
theorem SL {x y:cN}{r:aM}(hx:bV l x=some u)(hy:bV l y=some v)(hr:(qK #[t,t] ty #[u,v]).run P w= .ok r w'):gS P n l ⟨dst,.call {callee:= .builtin .append,args:= #[x,y],argTypes:= #[t,t]},ty,pos,af,gd⟩ w (.value r) w':=fun a' e=>by
 unfold execOp
 simp only [resolve,invoke,builtin,cE,gT,eY,sL,jZ,kX,e.ev hx,e.ev hy]
 rw [hr]
 rfl
end
def Signs (w:a6):Prop:=∀d,d<36→w.cell? ⟨4,d,none⟩=some (.int .u8 ((sgn d:Nat):Int))
theorem Signs.ext (h:Signs w)(e:Ext w w'):Signs w':=fun d f=>e.cell (h d f)
def Wr (w:a6)(g base k unit:Nat)(PA:Option aB)(pn pc:Nat)(OA:Option aB)(on oc:Nat):Prop:=
 Bk w g 193 [no (base:Int),no (k:Int),up (unit:Int),we PA pn pc,we OA on oc]
structure UpdW (lb:Nat)(w w':a6):Prop where
 os:w'.os=w.os
 tape:w'.tape=w.tape
 output:w'.output=w.output
 size:w.heap.size≤w'.heap.size
 low:∀k,k<lb→k<w.heap.size→w'.heap[k]?=w.heap[k]?
 typ:∀(k:Nat) (cs:Array aM) (t:aS) (fr:Nat×Nat),w.heap[k]?=some (.cells cs t fr)→t≠193→t≠5→w'.heap[k]?=some (.cells cs t fr)
section
variable {lb:Nat}{a b c w w':a6}
theorem UpdW.refl (lb:Nat)(w:a6):UpdW lb w w:=⟨rfl,rfl,rfl,aZ _,fun _ _ _=>rfl,fun _ _ _ _ h _ _=>h⟩
theorem UpdW.trans (h:UpdW lb a b)(e:Ext b c):UpdW lb a c:=
 ⟨e.below.os.trans h.os,e.below.tape.trans h.tape,e.below.output.trans h.output,a8 h.size e.size,fun k o hs=>(e.below.block k (dJ hs h.size)).trans (h.low k o hs),fun k cs t fr f h1 h2=>e.heap (h.typ k cs t fr f h1 h2)⟩
theorem UpdW.then (h:UpdW lb a b)(e:UpdW lb b c):UpdW lb a c:=
 ⟨e.os.trans h.os,e.tape.trans h.tape,e.output.trans h.output,a8 h.size e.size,fun k f hs=>(e.low k f (dJ hs h.size)).trans (h.low k f hs),fun k cs t fr o h1 h2=>e.typ k cs t fr (h.typ k cs t fr o h1 h2) h1 h2⟩
theorem UpdW.upd (h:UpdW lb a b)(u:Upd g b c)(hg:lb≤g)(hn:∀(cs:Array aM) (t:aS) (fr:Nat×Nat),a.heap[g]?=some (.cells cs t fr)→t=193∨t=5):UpdW lb a c:=
 ⟨u.by_.os.trans h.os,u.by_.tape.trans h.tape,u.by_.output.trans h.output,a8 h.size u.by_.size,fun k p hs=>(u.by_.block k (dJ hs h.size) (fun e=>by injection e with e;omega)).trans (h.low k p hs),fun k cs t fr o h1 h2=>by
  have f:k<a.heap.size:=(qL.1 o).1
  refine (u.by_.block k (dJ f h.size) (fun e=>?_)).trans (h.typ k cs t fr o h1 h2)
  injection e with e
  subst e
  rcases hn cs t fr o with e | e
  ·exact h1 e
  ·exact h2 e⟩
theorem UpdW.updO (h:UpdW lb a b)(u:UpdO A b c)(hA:∀p,A=some p→lb≤p.block)(hn:∀(p:aB) (cs:Array aM) (t:aS) (fr:Nat×Nat),A=some p→a.heap[p.block]?=some (.cells cs t fr)→t=193∨t=5):UpdW lb a c:=
 ⟨u.by_.os.trans h.os,u.by_.tape.trans h.tape,u.by_.output.trans h.output,a8 h.size u.by_.size,fun k q hs=>(u.by_.block k (dJ hs h.size) (fun e=>by
   cases A with
   | none=>cases e
   | some p=>have e':k=p.block:=m9 e;have:=hA p rfl;omega)).trans (h.low k q hs),fun k cs t fr o h1 h2=>by
  have f:k<a.heap.size:=(qL.1 o).1
  refine (u.by_.block k (dJ f h.size) (fun e=>?_)).trans (h.typ k cs t fr o h1 h2)
  cases A with
  | none=>cases e
  | some p=>
   have e':k=p.block:=m9 e
   subst e'
   rcases hn p cs t fr rfl o with e | e
   ·exact h1 e
   ·exact h2 e⟩
theorem UpdW.ext (h:UpdW lb w w')(e:Ext a w)(hl:a.heap.size≤lb):Ext a w':=
 ⟨⟨h.os.trans e.below.os,h.tape.trans e.below.tape,h.output.trans e.below.output,a8 e.size h.size,fun k f=>(h.low k (dJ f hl) (dJ f e.size)).trans (e.below.block k f)⟩⟩
theorem UpdW.bk (h:UpdW lb w w')(hb:Bk w g t vs)(h1:t≠193)(h2:t≠5):Bk w' g t vs:=h.typ g _ _ _ hb h1 h2
theorem UpdW.own {s:Nat}(h:UpdW lb w w')(ho:Own w base t s A n cap vs)(h1:t≠193)(h2:t≠5):Own w' base t s A n cap vs:=by
 rcases ho with ho | ⟨g,cs,e,hb,f,r⟩
 ·exact cH ho
 ·exact cO ⟨g,cs,e,hb,h.bk f h1 h2,r⟩
theorem UpdW.cell (h:UpdW lb w w')(hp:p.block<lb)(hc:w.cell? p=some v):w'.cell? p=some v:=
 (World.cell?_of_block (h.low p.block hp (u6 w p hc))).trans hc
theorem UpdW.signs (h:UpdW lb w w')(hs:Signs w)(hl:4<lb):Signs w':=fun d e=>h.cell hl (hs d e)
end
theorem a0e {c:Bool}(e:dL)(w':a6)(h:Gv w (Is (.bool c)) e w'):sC c w e w':=by
 obtain⟨v,rfl,h1,h2⟩:=h
 exact⟨by rw [h1],h2⟩
structure PieceK (b k:Nat):Prop where
 le:b^k≤18446744073709551615
 gt:18446744073709551615<b^(k+1)
 le64:k≤64
theorem TL (hb:2≤b)(h:b^k≤18446744073709551615):k<64:=by
 refine mU (fun e=>?_)
 have h1:2^64≤b^k:=a8 (eS (by decide) e) (Nat.pow_le_pow_left hb k)
 omega
theorem TQ (hb:2≤b)(h:b^(k+1)≤18446744073709551615):k+1≤64:=by have:=TL hb h;omega
theorem DZ (h:Bk w g t vs)(h':w.heap[g]?=some (.cells cs t' fr)):t'=t:=by
 unfold Bk at h
 rw [h] at h'
 injection h' with h'
 injection h' with h1 h2
 exact h2.symm
theorem E0 (h:w.heap.size≤g):¬w.heap[g]?=some (.cells cs t fr):=fun e=>by
 have:=(qL.1 e).1
 omega
theorem C6 {t T s:Nat}(h:Own w b t s A n c us)(hb:Bk w g T vs)(hT:t≠T):∀p,A=some p→p.block≠g:=fun p f e=>by
 rcases h with⟨h,_⟩ | ⟨k,cs,q,_,o,_⟩
 ·rw [h] at f;cases f
 ·rw [q] at f
  cases f
  simp only at e
  subst e
  unfold Bk at o hb
  rw [o] at hb
  injection hb with hb
  injection hb with h1 h2
  exact hT h2
theorem zI (g i:Nat):(⟨g,0,none⟩:aB).add (i*1)=⟨g,i,none⟩:=by rw [dV,kV,eJ]
theorem IK {T s:Nat}(h:Own w b T s A n c us):∀(p:aB) (cs:Array aM) (t:aS) (fr:Nat×Nat),A=some p→w.heap[p.block]?=some (.cells cs t fr)→t=T:=fun p cs t fr e h'=>by
 rcases h with⟨h,_⟩ | ⟨k,cs',f,_,o,_⟩
 ·rw [h] at e;cases e
 ·rw [f] at e;cases e
  exact DZ o h'
theorem Kept.of {v:a6}(h:Kept v A A')(hs:w.heap.size≤v.heap.size):Kept w A A':=fun p f=>(h p f).imp id (fun e=>a8 hs e)
def zN (w:a6)(lb g base k unit:Nat)(PA:Option aB)(pn pc:Nat)(OA:Option aB)(bs:List Nat)(e:dL)(w':a6):Prop:=
 e= .returned (.tuple #[])∧∃OA' on' oc',Wr w' g base k unit PA pn pc OA' on' oc'∧Own w' lb 5 1 OA' on' oc' (bs.map B8)∧UpdW lb w w'∧Kept w OA OA'
theorem L7 {x:Nat}(h:i<l.length):(l.set i x).drop i=x::l.drop (i+1):=by
 rw [nW (by rw [List.length_set];exact h),List.getElem_set_self,List.drop_set_of_lt (by omega)]
theorem OV (l:List Nat)(d:Nat):dW (l++ [d])=sgn d::dW l:=by simp [dW]
theorem NW {v vv:Nat}(hb:2≤b)(hv:v≤18446744073709551615)(h:db b v=acc++db b vv)(hn:0<(db b vv).length):acc.length<64:=by
 have h1:(db b v).length≤64:=kD hb (dJ (show v<2^64 by omega) (Nat.pow_le_pow_left hb 64))
 rw [h,fU] at h1
 omega
theorem a0G (l:List Nat):(l.map B8).all (·.oneCell')=true:=by
 rw [fV]
 intro u e
 obtain⟨x,_,rfl⟩:=qI.1 e
 rfl
theorem a0o {lo:Nat}(h:Bk w g T (l.map B8))(hl:l.length=64)(hlo:lo≤64):∀j u,((l.drop lo).map B8)[j]?=some u→w.cell? ((if 64=lo then (⟨g,0,none⟩:aB) else (⟨g,0,none⟩:aB).add (lo*1)).add j)=some u:=by
 intro j u e
 have f:=(gY.1 e).1
 rw [List.length_map,gO,hl] at f
 rw [if_neg (by omega),zI,kV]
 rw [h.cell (by rw [List.length_map,hl];omega)]
 rw [List.map_drop,oZ] at e
 rw [bK,e];rfl
theorem GG (hbl:2≤base)(hbu:base≤36):aP aN 227 #[no base] w (fun e w'=>∃k,PieceK base k∧Gv w (T2 (Is (no k)) (Is (up ((base^k:Nat):Int)))) e w'):=by
 refine bN Tryz.func227 J (n:=19) J (bq J) (args:= [no base]) (bG [(0,no base)] ⟨rfl,AT⟩ (sr (mv 2 J (a7 (sr (mv 2 J (a7 (aD (bO ?_)))))))))
 refine d8 (T:=a6×Nat×Nat)
  (fun⟨wr,k,p⟩=> [(0,no base),(2,no 0),(3,up 0),(4,no k),(5,up p)])
  (fun⟨wr,k,p⟩=>wr)
  (fun⟨wr,k,p⟩=>(Ext w wr)∧(p=base^k)∧(p≤18446744073709551615)∧(k≤64))
  (fun⟨wr,k,p⟩=>18446744073709551616-p)
  (⟨w,0,1⟩:a6×Nat×Nat) ⟨(Ext.refl w),(Nat.pow_zero base).symm,(by decide),(by decide)⟩ J ⟨rfl,rfl,rfl,rfl,rfl,AT⟩ ?_
 rintro⟨wr,k,p⟩ ⟨r,q,D,E⟩
 refine cR [(0,no base),(2,no 0),(3,up 0),(4,no k),(5,up p)] wr J ⟨rfl,rfl,rfl,rfl,rfl,AT⟩ (aD (aD ?_))
 have F:1≤p:=by rw [q];exact gB (by omega)
 by_cases f:p≤18446744073709551615/base
 ·have o:p*base≤18446744073709551615:=(Nat.le_div_iff_mul_le (by omega)).1 f
  refine aF (mv 2 J (cS J J (v:= up (IntKind.u64.wrap ((base:Nat):Int))) (v':= up base) (mQ (by first | omega | exact hle64)) (aR J J J ((18446744073709551615/base:Nat):Int) (jK (a:=18446744073709551615) (b:=base) J J) (aI J J J true (nM (a:=p) (b:=18446744073709551615/base) J J) (a7 (aW J (aY (aO (bO (sr (mv 2 J (cS J J (v:= up (IntKind.u64.wrap ((base:Nat):Int))) (v':= up base) (mQ (by first | omega | exact hle64)) (aR J J J ((p*base:Nat):Int) (kU (a:=p) (b:=base) J J) ?_)))))))))))))
  refine mv 1 J (a7 (aF (mv 1 J (aR J J J ((k+1:Nat):Int) (cA (a:=k) (b:=1) J J) (mv 1 J (aX (bQ (cM (⟨wr,k+1,p*base⟩:a6×Nat×Nat) ⟨r,(by rw [q,cW]),o,(TQ hbl (by rw [cW,←q];exact o))⟩ (by show 18446744073709551616-p*base<18446744073709551616-p;have:p*2≤p*base:=fJ p hbl;omega) J ⟨rfl,rfl,rfl,rfl,rfl,AT⟩))))))))
 ·have o:18446744073709551615<p*base:=mU (fun h=>f ((Nat.le_div_iff_mul_le (by omega)).2 h))
  refine aF (mv 2 J (cS J J (v:= up (IntKind.u64.wrap ((base:Nat):Int))) (v':= up base) (mQ (by first | omega | exact hle64)) (aR J J J ((18446744073709551615/base:Nat):Int) (jK (a:=18446744073709551615) (b:=base) J J) (aI J J J false (nN (a:=p) (b:=18446744073709551615/base) J J) (a7 (aQ J (d4 (cU (cY (cZ (aO (sr (mv 1 J ?_)))))))))))))
  refine mv 3 J (a7 (aV (aU [no k,up p] J ⟨rfl,rfl,AT⟩ ?_)))
  exact⟨k,⟨by rw [←q];exact D,by rw [cW,←q];exact o,E⟩,_,rfl,⟨_,_,rfl,rfl,(show dP .u64 ((p:Nat):Int)=_ by rw [q])⟩,r⟩
theorem GE {unit:Nat}{pn pc:Nat}{on oc lb:Nat}(hS:Signs w)(_hgS:4<lb)(hbl:2≤base)(hbu:base≤36)(hW:Wr w g base k unit PA pn pc OA on oc)(hO:Own w lb 5 1 OA on oc (bs.map B8))(hgl:lb≤g)(hlb:lb≤w.heap.size){v width:Nat}(hv:v≤18446744073709551615)(hwd:width≤64)(hon:on≤549755813888):aP aN 276 #[i5 g 0,up v,no width] w (zN w lb g base k unit PA pn pc OA (bs++dW (eF (db base v) width))):=by
 refine bN Tryz.func276 J (n:=48) J (bq J) (args:= [i5 g 0,up v,no width]) (bG [(0,i5 g 0),(1,up v),(2,no width)] ⟨rfl,rfl,rfl,AT⟩ (sr (iH J (z:= .agg ((cJ 64 0).map B8).toArray) (vs:=(cJ 64 0).map B8) (fun _=>by kernel_rfl) J fun f v2 nb=>?_)))
 have bh:=nb.bk
 have E:w.heap.size≤f:=by rw [←nb.at_];exact (UpdW.refl lb w).size
 have bw:g<f:=by rw [←nb.at_];exact hW.lt
 have e5:=nb.ext
 have o:UpdW lb w v2:=(UpdW.refl lb w).trans e5
 have e:Ext w v2:=(Ext.refl w).trans e5
 refine a7 (sr (mv 1 J (a7 (aD (bO ?_)))))
 refine d8 (T:=a6×Nat×Nat×List Nat×List Nat)
  (fun⟨wr,vv,n,l,acc⟩=> [(0,i5 g 0),(2,no width),(6,i5 f 0),(1,up vv),(7,no n)])
  (fun⟨wr,vv,n,l,acc⟩=>wr)
  (fun⟨wr,vv,n,l,acc⟩=>(UpdW lb w wr)∧(Ext w wr)∧(db base v=acc++db base vv)∧(n+acc.length=64)∧(l.length=64)∧(l.drop n=dW acc)∧(vv≤18446744073709551615)∧(Bk wr f 231 (l.map B8)))
  (fun⟨wr,vv,n,l,acc⟩=>vv)
  (⟨v2,v,64,cJ 64 0,[]⟩:a6×Nat×Nat×List Nat×List Nat) ⟨o,e,rfl,rfl,(List.length_replicate),(by rw [List.drop_eq_nil_of_le (by rw [List.length_replicate];decide)];rfl),hv,bh⟩ J ⟨rfl,rfl,rfl,rfl,rfl,AT⟩ ?_
 rintro⟨wr,vv,n,l,acc⟩ ⟨o,e,I,hn,aa,ah,aw,b_d⟩
 refine cR [(0,i5 g 0),(2,no width),(6,i5 f 0),(1,up vv),(7,no n)] wr J ⟨rfl,rfl,rfl,rfl,rfl,AT⟩ (aD (aD ?_))
 by_cases bp:vv>0
 ·have ar:=lN hbl (show vv≠0 by omega)
  have ch:acc.length<64:=NW hbl hv I (by rw [ar];simp)
  refine aF (mv 1 J (aI J J J true (eW (a:=vv) (b:=0) J J) (a7 (aW J (aY (aO (bO (sr (mv 1 J (aR J J J ((n-1:Nat):Int) (gL (a:=n) (b:=1) J J) (mv 1 J (a7 (aD ?_)))))))))))))
  refine aF (mv 3 J (pf g 0 J (pf g 0 J (bB J J (bM (fun _=>by kernel_rfl) (hW.ext e) J) (cS J J (v:= up (IntKind.u64.wrap ((base:Nat):Int))) (v':= up base) (mQ (by first | omega | exact hle64)) (aR J J J ((vv%base:Nat):Int) (jJ (a:=vv) (b:=base) J J) (AY J J J Tryz.underlying232 kM (vv%base) J (dJ (f7 _ (by omega)) hbu) ⟨4,vv%base,none⟩ (zI _ _) (bB J J (dF E3 ((hS.ext e) _ (dJ (f7 _ (by omega)) hbu))) (AY J J J Tryz.underlying231 kM (n-1) J (by omega) ⟨f,n-1,none⟩ (zI _ _) ?_)))))))))
  have bm:=b_d
  refine dE J J J kM J bm (gV (by rw [aa];omega)) J ((l.set (n-1) (sgn (vv%base))).map B8) (CM _ _ _) fun v6 az u9 _=>?_
  have V:Ext w v6:=u9.ext e E
  have r:UpdW lb w v6:=o.upd u9 (a8 hlb E) (fun _ _ _ h=>absurd h (E0 E))
  refine a7 (aF (mv 2 J (pf g 0 J (pf g 0 J (bB J J (bM (fun _=>by kernel_rfl) ((hW.ext e).vN u9) J) (cS J J (v:= up (IntKind.u64.wrap ((base:Nat):Int))) (v':= up base) (mQ (by first | omega | exact hle64)) (aR J J J ((vv/base:Nat):Int) (jK (a:=vv) (b:=base) J J) (mv 1 J (aX (bQ (cM (⟨v6,vv/base,n-1,l.set (n-1) (sgn (vv%base)),acc++ [vv%base]⟩:a6×Nat×Nat×List Nat×List Nat) ⟨r,V,(by rw [I,ar,List.append_assoc];rfl),(by rw [fU,List.length_singleton];omega),(by rw [List.length_set];exact aa),(by rw [L7 (by omega),show n-1+1=n by omega,ah,OV]),(a8 (fH _ _) aw),az⟩ (Nat.div_lt_self (by omega) (by omega)) J ⟨rfl,rfl,rfl,rfl,rfl,AT⟩)))))))))))
 ·refine aF (mv 1 J (aI J J J false (fS (a:=vv) (b:=0) J J) (a7 (aQ J (d4 (cU (cY (cZ (aO (aD (bO ?_)))))))))))
  have L:db base v=acc:=by rw [I,show vv=0 by omega,jH,List.append_nil]
  refine d8 (T:=a6×Nat×List Nat×Nat)
   (fun⟨wq,m,F,z⟩=> [(0,i5 g 0),(2,no width),(6,i5 f 0),(7,no m)])
   (fun⟨wq,m,F,z⟩=>wq)
   (fun⟨wq,m,F,z⟩=>(UpdW lb w wq)∧(Ext w wq)∧(m+z+acc.length=64)∧(z≤width-acc.length)∧(F.length=64)∧(F.drop m=cJ z 48++dW acc)∧(Bk wq f 231 (F.map B8)))
   (fun⟨wq,m,F,z⟩=>m)
   (⟨wr,n,l,0⟩:a6×Nat×List Nat×Nat) ⟨o,e,(by omega),(bJ _),aa,ah,b_d⟩ J ⟨rfl,rfl,rfl,rfl,AT⟩ ?_
  rintro⟨wq,m,F,z⟩ ⟨o,e,_,_,D,Y,b_d⟩
  refine cR [(0,i5 g 0),(2,no width),(6,i5 f 0),(7,no m)] wq J ⟨rfl,rfl,rfl,rfl,AT⟩ (aD (aD ?_))
  by_cases bu:64-m<width
  ·refine aF (mv 1 J (aR J J J ((64-m:Nat):Int) (gL (a:=64) (b:=m) J J) (mv 1 J (aI J J J true (eD (a:=64-m) (b:=width) J J) (a7 (aW J (aY (aO (bO (sr (mv 1 J (aR J J J ((m-1:Nat):Int) (gL (a:=m) (b:=1) J J) (mv 1 J ?_)))))))))))))
   refine a7 (aF (mv 1 J (AY J J J Tryz.underlying231 kM (m-1) J (by omega) ⟨f,m-1,none⟩ (zI _ _) ?_)))
   have aj:=b_d
   refine dE J J J kM J aj (gV (by rw [D];omega)) J ((F.set (m-1) 48).map B8) (CM _ _ _) fun Z ab au _=>?_
   have V:Ext w Z:=au.ext e E
   have r:UpdW lb w Z:=o.upd au (a8 hlb E) (fun _ _ _ h=>absurd h (E0 E))
   refine aX (bQ (cM (⟨Z,m-1,F.set (m-1) 48,z+1⟩:a6×Nat×List Nat×Nat) ⟨r,V,(by omega),(by omega),(by rw [List.length_set];exact D),(by rw [L7 (by omega),show m-1+1=m by omega,Y,List.replicate_succ];rfl),ab⟩ (show m-1<m by omega) J ⟨rfl,rfl,rfl,rfl,AT⟩))
  ·refine aF (mv 1 J (aR J J J ((64-m:Nat):Int) (gL (a:=64) (b:=m) J J) (mv 1 J (aI J J J false (eE (a:=64-m) (b:=width) J J) (a7 (aQ J (d4 (cU (cY (cZ (aO (bG [(0,i5 g 0),(2,no width),(6,i5 f 0),(7,no m),(30,no m),(31,no ((64-m:Nat):Int)),(32,no width),(33,AS)] ⟨rfl,rfl,rfl,rfl,rfl,rfl,rfl,rfl,AT⟩ ?_))))))))))))
   obtain⟨U,hv,q⟩:∃v,v=wq.drew∧Ext wq v:=⟨_,rfl,aL.drew⟩
   have r:UpdW lb w U:=o.trans q
   have V:Ext w U:=e.trans q
   have G:=(hO.ext (e.trans q))
   obtain⟨H,M,av,ae,ai,X,ak⟩:=GR (P:=aN) (t:=183) (ty:=183) (m:=64-m) (c:=64-m) kK tJ J (by decide) (by decide) G (a8 hlb r.size) (news:=((F).drop m).map B8) (by rw [List.length_map,gO,D,dV]) (a0o (b_d.ext q) (D) (by omega)) (a0G _) (by omega)
   have bf:UpdW lb w av:=r.updO X (fun p hp=>(G.block p hp).1) (fun p cs t fr hp h=>cO ((IK hO) p cs t fr hp h))
   have W:=((hW.ext (e.trans q)).updO X (C6 G (hW.ext (e.trans q)) (by decide)))
   obtain⟨ag,am,ao,aq,_⟩:=BN (P:=aN) (v:= we H (on+(64-m)) M) (off:=4) (T:=183) (fun _=>by kernel_rfl) J W (bq J) J [no (base:Int),no (k:Int),up (unit:Int),we PA pn pc,we H (on+(64-m)) M] rfl
   have bg:UpdW lb w ag:=bf.upd aq hgl (fun _ _ _ h=>cH (DZ hW h))
   refine ZE bY (w:=U) [i5 g 0,i5 g 0,i5 g 0,i5 g 4,we OA on oc,no m,we (some (if 64=m then ⟨f,0,none⟩ else (⟨f,0,none⟩:aB).add (m*1))) (64-m) (64-m),we H (on+(64-m)) M,i5 g 0,i5 g 4,undef] [U,av,ag] [7,10] [[],[],[1],[2],[3],[],[5],[4,6],[0],[8],[7,9]] [[],[],[1],[1,2],[1,2,3],[],[5],[1,2,3,4,5,6],[0,1,2,3,4,5,6,7],[0,1,2,3,4,5,6,7,8],[0,1,2,3,4,5,6,7,8,9]] [(0,0),(0,1),(1,0),(2,0),(3,0),(4,0),(5,0),(6,0),(7,0),(8,1),(9,1),(10,1)] J hv ?_ ?_
   ·refine nK _ J J J J J (bZ J) (nK _ J J J J J (bZ J) (nK _ J J J J J (bZ J) (nK _ J J J J J (pJ J) (nK _ J J J J J (pJ J) (nK _ J J J J J (d7 J (bM (fun _=>by kernel_rfl) (hW.ext (e.trans q)) J)) (nK _ J J J J J (bZ J) (nK _ J J J J J (SK J J Tryz.underlying231 kM (by omega)) (YM _ J J J J J J J (SL J J ae) (nK _ J J J J J (pJ J) (nK _ J J J J J (pJ J) (YK _ J J J J J J (iA J J am) ?_)))))))))))
    exact YL
   clear hv
   refine gG [(0,i5 g 0),(2,no width),(6,i5 f 0),(7,no m),(30,no m),(31,no ((64-m:Nat):Int)),(32,no width),(33,AS),(38,i5 g 0),(39,i5 g 0),(40,i5 g 0),(41,i5 g 4),(42,we OA on oc),(43,no m),(44,we (some (if 64=m then ⟨f,0,none⟩ else (⟨f,0,none⟩:aB).add (m*1))) (64-m) (64-m)),(45,we H (on+(64-m)) M),(46,i5 g 0),(47,i5 g 4)] ⟨rfl,rfl,rfl,rfl,rfl,rfl,rfl,rfl,rfl,rfl,rfl,rfl,rfl,rfl,rfl,rfl,rfl,rfl,AT⟩ (tO [] J AT ?_)
   have ap:bs.map B8++((F).drop m).map B8=(bs++dW (eF (db base v) width)).map B8:=by rw [Y,←L,B6,show z=width-(db base v).length by rw [L];omega];simp only [List.map_append]
   exact⟨rfl,H,_,_,ao,ap▸((ai.updT W (by decide) aq)),bg,ak.of r.size⟩
theorem iW (x y:Int):ln (x.tdiv y)≤ln x:=dZ (by rw [Int.natAbs_tdiv];exact fH _ _)
theorem rG (x y:Int):ln (x.tmod y)≤ln x:=dZ (by rw [Int.natAbs_tmod];exact Nat.mod_le _ _)
theorem DC (h:0≤x.tmod y:=by omega):x.tdiv y=x/y∧x.tmod y=x%y:=by
 have h1:=Int.tdiv_mul_add_tmod x y
 rcases Int.lt_trichotomy y 0 with f | f | f
 ·have h2:x.tmod y< -y:=by have:=kL (x:=x) (y:=y) (by omega);omega
  have e:x.tmod y=x%y:=by
   have:x%y=(x.tmod y+y*x.tdiv y)%y:=by rw [Int.mul_comm y];congr 1;omega
   rw [this,Int.add_mul_emod_self_left,←Int.emod_neg,Int.emod_eq_of_lt h h2]
  refine⟨?_,e⟩
  have o:=Int.mul_ediv_add_emod x y
  rw [←e] at o
  refine Int.eq_of_mul_eq_mul_left (a:=y) (by omega) ?_
  rw [Int.mul_comm y (x.tdiv y)];omega
 ·subst f;simp
 ·have h2:=Int.tmod_lt_of_pos x f
  have e:x.tmod y=x%y:=by
   have:x%y=(x.tmod y+y*x.tdiv y)%y:=by rw [Int.mul_comm y];congr 1;omega
   rw [this,Int.add_mul_emod_self_left,Int.emod_eq_of_lt h h2]
  refine⟨?_,e⟩
  have o:=Int.mul_ediv_add_emod x y
  rw [←e] at o
  refine Int.eq_of_mul_eq_mul_left (a:=y) (by omega) ?_
  rw [Int.mul_comm y (x.tdiv y)];omega
theorem L4 (h:x.tmod y<0)(hy:y<0):x.tdiv y+1=x/y∧x.tmod y-y=x%y:=by
 have h1:=Int.tdiv_mul_add_tmod x y
 have h2: -(x.tmod y)< -y:=by have:=kL (x:=x) (y:=y) (by omega);omega
 have e:x.tmod y-y=x%y:=by
  have:x%y=((x.tmod y-y)+y*(x.tdiv y+1))%y:=by rw [Int.mul_add,Int.mul_comm y];congr 1;omega
  rw [this,Int.add_mul_emod_self_left,←Int.emod_neg,Int.emod_eq_of_lt (by omega) (by omega)]
 refine⟨?_,e⟩
 have f:=Int.mul_ediv_add_emod x y
 rw [←e] at f
 refine Int.eq_of_mul_eq_mul_left (a:=y) (by omega) ?_
 rw [Int.mul_add,Int.mul_comm y (x.tdiv y)];omega
theorem L3 (h:x.tmod y<0)(hy:0<y):x.tdiv y-1=x/y∧x.tmod y+y=x%y:=by
 have h1:=Int.tdiv_mul_add_tmod x y
 have h2: -(x.tmod y)<y:=by have:=kL (x:=x) (y:=y) (by omega);omega
 have e:x.tmod y+y=x%y:=by
  have:x%y=((x.tmod y+y)+y*(x.tdiv y-1))%y:=by rw [Int.mul_sub,Int.mul_comm y];congr 1;omega
  rw [this,Int.add_mul_emod_self_left,Int.emod_eq_of_lt (by omega) (by omega)]
 refine⟨?_,e⟩
 have f:=Int.mul_ediv_add_emod x y
 rw [←e] at f
 refine Int.eq_of_mul_eq_mul_left (a:=y) (by omega) ?_
 rw [Int.mul_sub,Int.mul_comm y (x.tdiv y)];omega
theorem WE {nb:Nat}(hx:Zi w sa Aa na ca x)(la:na≤68719476736)(hy:Zi w sb Ab nb cb y)(lb:nb≤68719476736)(h0:y≠0):aP aN 150 #[O sa Aa na ca,O sb Ab nb cb] w (Gv w (T3 (ZR w.heap.size (x/y)) (ZR w.heap.size (x%y)) (Is (no 0)))):=by
 have Lx:ln x≤68719476736:=a8 hx.ln la
 have Ly:ln y≤68719476736:=a8 hy.ln lb
 refine bN Tryz.func150 J (n:=41) J (bq J) (args:= [O sa Aa na ca,O sb Ab nb cb]) (bG [(0,O sa Aa na ca),(1,O sb Ab nb cb)] ⟨rfl,rfl,AT⟩ (sr (bx (a5 sa Aa na ca) (Ext.refl w) J J J fun g1 _ fd _ _ iz=>(fG (a5 sb Ab nb cb) iz fd.lt J J J fun g6 _ ar _ _ e8 jj=>(bL [F0,S0] jj ar.lt (fun _=>by kernel_rfl) J fun ik _ ap ch _ av ix=>(bL [F0,S0] ix ap.lt (fun _=>by kernel_rfl) J fun ia _ aq bw _ Y dt=>(mv 1 J (a7 (sr (lo aA (fd.ext (e8.t (av.t Y))) (a5 sa Aa na ca) J J J (lo aA (ar.ext (av.t Y)) (a5 sb Ab nb cb) J J J ?_)))))))))))
 have aw:ln ((x).tdiv y)≤68719476736:=a8 (iW _ _) Lx
 have au:ln ((x).tmod y)≤68719476736:=a8 (rG _ _) Lx
 refine cl (vs:= [O sa Aa na ca,O sb Ab nb cb]) dt (D0 dt.size (hx.ext dt) (aK la J) (hy.ext dt) (aK lb J) h0) J (by kernel_rfl) fun _ _ jv M jk=>?_
 obtain⟨_,_,_,rfl,⟨q,p,D,r,rfl,bu⟩,⟨dw,h,o,f,rfl,aj⟩,rfl⟩:=jv
 refine mv 1 J (pu (v:= O q p D r) J (pu (v:= O dw h o f) J (pu (v:= no 0) J (bL [F0,S0] jk (aq.ext M).lt (fun _=>by kernel_rfl) J fun ic _ eg im _ I jc=>(bL [F0,S0] jc eg.lt (fun _=>by kernel_rfl) J fun az _ fc fk _ F jg=>?_)))))
 have U:=(eg.ext F)
 refine so aA U (a5 q p D r) jg im J J J J fun _ bi H jh=>?_
 have V:=(fc.vN H)
 refine so aA V (a5 dw h o f) jh fk J J J J fun ge W E X=>(mv 1 J (a7 (aD (aD ?_))))
 by_cases hr:x.tmod y<0
 ·obtain rfl:dw=true:=by rw [aj.sgn];exact decide_eq_true hr
  refine aF (mv 1 J (pu (v:= AS) J (mv 1 J (pf az 0 J (bB J J (bM fM W J) (pu (v:= AS) J (pu (v:= AS) J (a7 (aQ J (aY (aO (aD (aD ?_)))))))))))))
  by_cases en:y<0
  ·obtain rfl:sb=true:=by rw [hy.sgn h0];exact decide_eq_true en
   have hq:=L4 hr en
   refine aF (pf g6 0 J (bB J J (bM fM (((ar.ext (av.t (Y.t (M.t (I.t F))))).vN H).vN E) J) (a7 (aW J (aD ?_)))))
   have kf:ln ((x.tdiv y)+1)≤68719476737:=a8 (dN aw (show ln (1)≤1 by decide+kernel)) (by decide)
   have ke:ln ((x.tmod y)-y)≤68719476737:=a8 (jT au Ly) (by decide)
   refine dG bY 6 [] [Is (O q p D r),ZR w.heap.size (1),ZR w.heap.size ((x.tdiv y)+1),Is (O true h o f),Is (O true Ab nb cb),ZR w.heap.size ((x.tmod y)-y)] [[],[],[0,1],[],[],[3,4]] [[],[],[0,1],[],[],[0,1,2,3,4],[0,1,2,3,4,5],[0,1,2,3,4,5,6],[0,1,2,3,4,5,6,7]] rfl
    (aH J J (aE J J ?_) (aH J J (aE J J ?_) (aH J J (aE J J ?_) (aH J J (aE J J ?_) (aH J J (aE J J ?_) (aH J J (aE J J ?_) d9)))))) ?_
   ·exact fun _ ji=>aC (lo aA ((bi.vN E).ext ji) (a5 q p D r) J J J (aG J aL J))
   ·intro _ jm
    have e:=X.trans jm
    refine aC (cl (vs:= [no 1]) e (kE e.size (by decide) (by decide)) J (by kernel_rfl) fun _ _ jb jl G=>?_)
    obtain⟨_,_,_,_,rfl,jn⟩:=jb
    exact aG J jl ⟨_,_,_,_,rfl,jn⟩
   ·intro _ ig
    have e:=X.trans ig
    refine dk J J (aT J J fun _ _ jr _ jp=>?_)
    obtain⟨jd,jq,iy,jo,rfl,du⟩:=jr
    have du:=du.ext jp
    refine aC ?_
    have kd:ln ((x.tdiv y)+1)≤68719476737:=a8 (dN aw (show ln (1)≤1 by decide+kernel)) (by decide)
    refine cl (vs:= [O q p D r,O jd jq iy jo]) e (vM e.size ((((bu.ext (I.t F)).updT U H).updT V E).ext ig).zi (bu.le (aK aw J)) du.zi (du.le (a8 (show ln (1)≤1 by decide+kernel) (by decide)))) J (by kernel_rfl) fun _ _ ju ja G=>?_
    obtain⟨_,_,_,_,rfl,jt⟩:=ju
    exact aG J ja ⟨_,_,_,_,rfl,jt⟩
   ·exact fun _ je=>aC (lo aA (W.ext je) (a5 true h o f) J J J (aG J aL J))
   ·exact fun _ jf=>aC (lo aA ((((ar.ext (av.t (Y.t (M.t (I.t F))))).vN H).vN E).ext jf) (a5 true Ab nb cb) J J J (aG J aL J))
   ·intro _ gb
    have e:=X.trans gb
    refine dk J J (dk J J (aC ?_))
    have jy:ln ((x.tmod y)-y)≤68719476737:=a8 (jT au Ly) (by decide)
    refine cl (vs:= [O true h o f,O true Ab nb cb]) e (yJ e.size ((((aj.ext (I.t F)).updT U H).updT V E).ext gb).zi (aj.le (aK au J)) (hy.ext e) (aK lb J)) J (by kernel_rfl) fun _ _ fz iu G=>?_
    obtain⟨_,_,_,_,rfl,gg⟩:=fz
    exact aG J iu ⟨_,_,_,_,rfl,gg⟩
   ·intro _ ci
    have e:=X.trans ci
    refine dk J J (aT J J fun _ _ io _ il=>?_)
    obtain⟨_,_,_,_,rfl,dx⟩:=io
    have dx:=dx.ext il
    refine aT J J fun _ _ gr _ go=>?_
    obtain⟨bj,bd,dl,dm,rfl,df⟩:=gr
    have df:=df.ext go
    refine dk J J (dk J J (aT J J fun _ _ ib _ iq=>?_))
    obtain⟨dr,dg,cu,cp,rfl,cv⟩:=ib
    have cv:=cv.ext iq
    refine aC ?_
    have ai:=((((ap.ext (Y.t (M.t (I.t F)))).vN H).vN E).ext ci)
    refine so aA ai (a5 bj bd dl dm) e ch J J J J fun _ ei ck G=>?_
    have ak:=(((((aq.ext (M.t (I.t F))).vN H).vN E).ext ci).vN ck)
    refine so aA ak (a5 dr dg cu cp) G bw J J J J fun _ ez bm Z=>(mv 1 J (aX (dC (aO (aV (bR (aU [O bj bd dl dm,O dr dg cu cp,I0] J ⟨⟨_,rfl,bH aA (ei.vN bm) (a5 bj bd dl dm) J (bq J) rfl⟩,⟨_,rfl,bH aA ez (a5 dr dg cu cp) J (bq J) rfl⟩,rfl,AT⟩ ?_)))))))
    exact⟨_,rfl,⟨_,_,_,rfl,⟨_,_,_,_,rfl,(((df.updT ai ck).updT ak bm)).cast (hq.1)⟩,⟨_,_,_,_,rfl,(((cv.updT ai ck).updT ak bm)).cast (hq.2)⟩,rfl⟩,Z⟩
  ·obtain rfl:sb=false:=by rw [hy.sgn h0];exact decide_eq_false en
   have hq:=L3 hr (by omega)
   refine aF (pf g6 0 J (bB J J (bM fM (((ar.ext (av.t (Y.t (M.t (I.t F))))).vN H).vN E) J) (a7 (aQ J (aY (aO (aD ?_)))))))
   have jw:ln ((x.tdiv y)-1)≤68719476737:=a8 (jT aw (show ln (1)≤1 by decide+kernel)) (by decide)
   have ka:ln ((x.tmod y)+y)≤68719476737:=a8 (dN au Ly) (by decide)
   refine dG bY 6 [] [Is (O q p D r),ZR w.heap.size (1),ZR w.heap.size ((x.tdiv y)-1),Is (O true h o f),Is (.agg #[F0,we Ab nb cb]),ZR w.heap.size ((x.tmod y)+y)] [[],[],[0,1],[],[],[3,4]] [[],[],[0,1],[],[],[0,1,2,3,4],[0,1,2,3,4,5],[0,1,2,3,4,5,6],[0,1,2,3,4,5,6,7]] rfl
    (aH J J (aE J J ?_) (aH J J (aE J J ?_) (aH J J (aE J J ?_) (aH J J (aE J J ?_) (aH J J (aE J J ?_) (aH J J (aE J J ?_) d9)))))) ?_
   ·exact fun _ fg=>aC (lo aA ((bi.vN E).ext fg) (a5 q p D r) J J J (aG J aL J))
   ·intro _ fy
    have e:=X.trans fy
    refine aC (cl (vs:= [no 1]) e (kE e.size (by decide) (by decide)) J (by kernel_rfl) fun _ _ gy ga G=>?_)
    obtain⟨_,_,_,_,rfl,gj⟩:=gy
    exact aG J ga ⟨_,_,_,_,rfl,gj⟩
   ·intro _ eh
    have e:=X.trans eh
    refine dk J J (aT J J fun _ _ fe _ ir=>?_)
    obtain⟨gf,gk,fq,fi,rfl,ao⟩:=fe
    have ao:=ao.ext ir
    refine aC ?_
    have jx:ln ((x.tdiv y)-1)≤68719476737:=a8 (jT aw (show ln (1)≤1 by decide+kernel)) (by decide)
    refine cl (vs:= [O q p D r,O gf gk fq fi]) e (yJ e.size ((((bu.ext (I.t F)).updT U H).updT V E).ext eh).zi (bu.le (aK aw J)) ao.zi (ao.le (a8 (show ln (1)≤1 by decide+kernel) (by decide)))) J (by kernel_rfl) fun _ _ iv gx G=>?_
    obtain⟨_,_,_,_,rfl,fw⟩:=iv
    exact aG J gx ⟨_,_,_,_,rfl,fw⟩
   ·exact fun _ fh=>aC (lo aA (W.ext fh) (a5 true h o f) J J J (aG J aL J))
   ·exact fun _ fv=>aC (lo aA ((((ar.ext (av.t (Y.t (M.t (I.t F))))).vN H).vN E).ext fv) [F0,we Ab nb cb] J J J (aG J aL J))
   ·intro _ ef
    have e:=X.trans ef
    refine dk J J (dk J J (aC ?_))
    have kb:ln ((x.tmod y)+y)≤68719476737:=a8 (dN au Ly) (by decide)
    refine cl (vs:= [O true h o f,.agg #[F0,we Ab nb cb]]) e (vM e.size ((((aj.ext (I.t F)).updT U H).updT V E).ext ef).zi (aj.le (aK au J)) (hy.ext e) (aK lb J)) J (by kernel_rfl) fun _ _ fm gn G=>?_
    obtain⟨_,_,_,_,rfl,gc⟩:=fm
    exact aG J gn ⟨_,_,_,_,rfl,gc⟩
   ·intro _ dh
    have e:=X.trans dh
    refine dk J J (aT J J fun _ _ fo _ fj=>?_)
    obtain⟨_,_,_,_,rfl,dy⟩:=fo
    have dy:=dy.ext fj
    refine aT J J fun _ _ fx _ ij=>?_
    obtain⟨da,cm,bo,cj,rfl,ct⟩:=fx
    have ct:=ct.ext ij
    refine dk J J (dk J J (aT J J fun _ _ fp _ ie=>?_))
    obtain⟨cz,bg,de,bp,rfl,bf⟩:=fp
    have bf:=bf.ext ie
    refine aC ?_
    have ag:=((((ap.ext (Y.t (M.t (I.t F)))).vN H).vN E).ext dh)
    refine so aA ag (a5 da cm bo cj) e ch J J J J fun _ ej bh G=>?_
    have ah:=(((((aq.ext (M.t (I.t F))).vN H).vN E).ext dh).vN bh)
    refine so aA ah (a5 cz bg de bp) G bw J J J J fun _ el ba Z=>(mv 1 J (aX (dC (aO (aV (aU [O da cm bo cj,O cz bg de bp,I0] J ⟨⟨_,rfl,bH aA (ej.vN ba) (a5 da cm bo cj) J (bq J) rfl⟩,⟨_,rfl,bH aA el (a5 cz bg de bp) J (bq J) rfl⟩,rfl,AT⟩ ?_))))))
    exact⟨_,rfl,⟨_,_,_,rfl,⟨_,_,_,_,rfl,(((ct.updT ag bh).updT ah ba)).cast (hq.1)⟩,⟨_,_,_,_,rfl,(((bf.updT ag bh).updT ah ba)).cast (hq.2)⟩,rfl⟩,Z⟩
 ·obtain rfl:dw=false:=by rw [aj.sgn];exact decide_eq_false hr
  refine aF (mv 1 J (pu (v:= AS) J (mv 1 J (pf az 0 J (bB J J (bM fM W J) (pu (v:= AI) J (pu (v:= AI) J (a7 (aW J (aD (bG [(0,O sa Aa na ca),(1,O sb Ab nb cb),(2,i5 g1 0),(3,i5 g6 0),(4,i5 ik 0),(5,i5 ia 0),(11,O sa Aa na ca),(12,O sb Ab nb cb),(13,.tuple #[O q p D r,.agg #[F0,we h o f],I0]),(10,.tuple #[O q p D r,.agg #[F0,we h o f],I0]),(14,O q p D r),(15,.agg #[F0,we h o f]),(16,no 0),(7,i5 ic 0),(8,i5 az 0),(9,no 0),(17,no 0),(18,AS),(19,AS),(20,i5 az 0),(21,AS),(22,AI),(23,AI)] ⟨rfl,rfl,rfl,rfl,rfl,rfl,rfl,rfl,rfl,rfl,rfl,rfl,rfl,rfl,rfl,rfl,rfl,rfl,rfl,rfl,rfl,rfl,rfl,AT⟩ ?_)))))))))))
  obtain⟨dz,hv,L⟩:∃v,v=ge.drew∧Ext ge v:=⟨_,rfl,aL.drew⟩
  have e:=X.trans L
  have ae:=((((ap.ext (Y.t (M.t (I.t F)))).vN H).vN E).ext L)
  obtain⟨gi,ew,fa,aa,_⟩:=iJ (P:=aN) (us:= (a5 q p D r)) (off:=0) aA J ae (bq J) J (a5 q p D r) rfl
  have G:=aa.ext e ch
  have ab:=(((((aq.ext (M.t (I.t F))).vN H).vN E).ext L).vN aa)
  obtain⟨fb,em,ey,am,_⟩:=iJ (P:=aN) (us:= [F0,we h o f]) (off:=0) aA J ab (bq J) J [F0,we h o f] rfl
  have Z:=am.ext G bw
  refine gX bY (w:=dz) [O q p D r,.agg #[F0,we h o f],I0,undef,undef,I0] [dz,gi,fb] [3,4] [[],[],[],[0],[1],[2]] [[],[],[],[0],[0,1,3],[0,1,2,3,4]] [(0,0),(1,0),(1,1),(2,0),(2,1),(2,2),(3,0),(4,1),(5,2)] J hv ?_ ?_
  ·refine bA _ J J J J J (d7 J (bH aA ((bi.vN E).ext L) (a5 q p D r) J (bq J) J)) (bA _ J J J J J (d7 J (bH aA (W.ext L) [F0,we h o f] J (bq J) J)) (bA _ J J J J J (d7 J (bH aA ((W.ext L).vN aa) [F0,we h o f] J (bq J) J)) (bA _ J J J J J (bZ J) (bA _ J J J J J (bZ J) (bA _ J J J J J (bZ J) (iR _ J J J J J (iA J J ew) (iR _ J J J J J (iA J J em) (bA _ J J J J J (lE J) ?_))))))))
   exact gW
  clear hv
  refine gG [(0,O sa Aa na ca),(1,O sb Ab nb cb),(2,i5 g1 0),(3,i5 g6 0),(4,i5 ik 0),(5,i5 ia 0),(11,O sa Aa na ca),(12,O sb Ab nb cb),(13,.tuple #[O q p D r,.agg #[F0,we h o f],I0]),(10,.tuple #[O q p D r,.agg #[F0,we h o f],I0]),(14,O q p D r),(15,.agg #[F0,we h o f]),(16,no 0),(7,i5 ic 0),(8,i5 az 0),(9,no 0),(17,no 0),(18,AS),(19,AS),(20,i5 az 0),(21,AS),(22,AI),(23,AI),(24,O q p D r),(25,.agg #[F0,we h o f]),(26,no 0),(6,no 0)] ⟨rfl,rfl,rfl,rfl,rfl,rfl,rfl,rfl,rfl,rfl,rfl,rfl,rfl,rfl,rfl,rfl,rfl,rfl,rfl,rfl,rfl,rfl,rfl,rfl,rfl,rfl,rfl,AT⟩ (aO (aV (bR (aU [O q p D r,.agg #[F0,we h o f],I0] J ⟨⟨_,rfl,bH aA (fa.vN am) (a5 q p D r) J (bq J) rfl⟩,⟨_,rfl,bH aA ey [F0,we h o f] J (bq J) rfl⟩,rfl,AT⟩ ?_))))
  exact⟨_,rfl,⟨_,_,_,rfl,⟨_,_,_,_,rfl,(((((((bu.ext (I.t F)).updT U H).updT V E).ext L).updT ae aa).updT ab am)).cast ((DC).1)⟩,⟨_,_,_,_,rfl,(((((((aj.ext (I.t F)).updT U H).updT V E).ext L).updT ae aa).updT ab am)).cast ((DC).2)⟩,rfl⟩,Z⟩
theorem WF {nb:Nat}(hb:b≤w.heap.size)(hx:Zi w sa Aa na ca x)(la:na≤68719476736)(hy:Zi w sb Ab nb cb y)(lb:nb≤68719476736)(h0:y≠0):aP aN 150 #[O sa Aa na ca,O sb Ab nb cb] w (Gv w (T3 (ZR b (x/y)) (ZR b (x%y)) (Is (no 0)))):=(WE hx la hy lb h0).mono (Gv.imp (T3.imp (ZR.imp hb) (ZR.imp hb) Is.imp))
theorem VA (x y:Int):ln (x/y)≤ln x+1:=by
 by_cases h:x.tmod y<0
 ·rcases Int.lt_trichotomy y 0 with f | f | f
  ·rw [←(L4 h f).1]
   exact a8 (dN (iW x y) (aZ _)) (by
    have h1:x≠0:=fun e=>by subst e;simp at h
    have h2:ln 1=1:=JI
    have o:0<ln x:=by
     refine Nat.pos_of_ne_zero fun e=>h1 ?_
     have:=m0.1 (show (wd x.natAbs).length=0 from e)
     omega
    omega)
  ·subst f;simp [V1]
  ·rw [←(L3 h f).1]
   exact a8 (jT (iW x y) (aZ _)) (by
    have h1:x≠0:=fun e=>by subst e;simp at h
    have h2:ln 1=1:=JI
    have o:0<ln x:=by
     refine Nat.pos_of_ne_zero fun e=>h1 ?_
     have:=m0.1 (show (wd x.natAbs).length=0 from e)
     omega
    omega)
 ·rw [←(DC).1]
  exact a8 (iW x y) (Nat.le_succ _)
theorem rH (h:y≠0:=by omega):ln (x%y)≤ln y:=by
 refine dZ ?_
 have h1:=j0 x h
 have h2:=Int.emod_lt x h
 omega
theorem W9 {nb:Nat}(hx:Zi w sa Aa na ca x)(la:na≤68719476736)(hy:Zi w sb Ab nb cb y)(lb:nb≤68719476736)(h0:y≠0):aP aN 152 #[O sa Aa na ca,O sb Ab nb cb] w (Gv w (T2 (ZR w.heap.size (x%y)) (Is (no 0)))):=by
 have Lx:ln x≤68719476736:=a8 hx.ln la
 have Ly:ln y≤68719476736:=a8 hy.ln lb
 refine bN Tryz.func152 J (n:=18) J (bq J) (args:= [O sa Aa na ca,O sb Ab nb cb]) (bG [(0,O sa Aa na ca),(1,O sb Ab nb cb)] ⟨rfl,rfl,AT⟩ (sr (bx (a5 sa Aa na ca) (Ext.refl w) J J J fun _ _ V _ _ bd=>(fG (a5 sb Ab nb cb) bd V.lt J J J fun _ _ ag _ _ e8 ba=>(bL [F0,S0] ba ag.lt (fun _=>by kernel_rfl) J fun _ _ G W _ Z q=>(mv 1 J (a7 (sr (lo aA (V.ext (e8.t Z)) (a5 sa Aa na ca) J J J (lo aA (ag.ext Z) (a5 sb Ab nb cb) J J J ?_))))))))))
 have bg:ln (x/y)≤68719476737:=a8 (VA _ _) (Nat.succ_le_succ Lx)
 have bf:ln (x%y)≤68719476736:=a8 (rH (h:=h0)) Ly
 refine cl (vs:= [O sa Aa na ca,O sb Ab nb cb]) q (WF q.size (hx.ext q) (aK la J) (hy.ext q) (aK lb J) h0) J (by kernel_rfl) fun _ _ au M ap=>?_
 obtain⟨_,_,_,rfl,⟨X,aa,ah,ak,rfl,_⟩,⟨e,p,o,f,rfl,av⟩,rfl⟩:=au
 refine mv 1 J (pu (v:= O X aa ah ak) J (pu (v:= O e p o f) J (pu (v:= no 0) J (bL [F0,S0] ap (G.ext M).lt (fun _=>by kernel_rfl) J fun _ _ F L _ ae am=>(bL [F0,S0] am F.lt (fun _=>by kernel_rfl) J fun _ _ U ab _ I az=>?_)))))
 have r:=(F.ext I)
 refine so aA r (a5 X aa ah ak) az L J J J J fun _ _ H ar=>?_
 have E:=(U.vN H)
 refine so aA E (a5 e p o f) ar ab J J J J fun _ aj Y aw=>(mv 1 J (a7 (sr (lo aA aj (a5 e p o f) J J J (mv 1 J ?_)))))
 have D:=(((G.ext (M.t (ae.t I))).vN H).vN Y)
 refine so aA D (a5 e p o f) aw W J J J J fun _ ai ao aq=>(mv 1 J (a7 (aV (aU [O e p o f,I0] J ⟨⟨_,rfl,bH aA ai (a5 e p o f) J (bq J) rfl⟩,rfl,AT⟩ ?_))))
 exact⟨_,rfl,⟨_,_,rfl,⟨_,_,_,_,rfl,((((av.ext (ae.t I)).updT r H).updT E Y).updT D ao)⟩,rfl⟩,aq⟩
theorem WA {nb:Nat}(hb:b≤w.heap.size)(hx:Zi w sa Aa na ca x)(la:na≤68719476736)(hy:Zi w sb Ab nb cb y)(lb:nb≤68719476736)(h0:y≠0):aP aN 152 #[O sa Aa na ca,O sb Ab nb cb] w (Gv w (T2 (ZR b (x%y)) (Is (no 0)))):=(W9 hx la hy lb h0).mono (Gv.imp (T2.imp (ZR.imp hb) Is.imp))
structure ZC where
 s:Bool
 A:Option aB
 n:Nat
 c:Nat
theorem gU (x y:Int):ln (Int.gcd x y:Int)≤max (ln x) (ln y):=by
 by_cases h:x=0
 ·subst h
  rw [Int.gcd_zero_left]
  refine a8 (dZ (x:=(y.natAbs:Int)) (y:=y) (by simp)) (Nat.le_max_right _ _)
 ·refine a8 (dZ (y:=x) ?_) (Nat.le_max_left _ _)
  rw [Int.natAbs_natCast]
  exact Nat.le_of_dvd (by omega) (Int.gcd_dvd_natAbs_left x y)
theorem UI {a b c:Int}(h:a*b≤0)(hc:0≤c):(a-c*b).natAbs=a.natAbs+c.natAbs*b.natAbs:=by
 rw [←Int.natAbs_mul]
 have h2:a*(c*b)≤0:=by
  have:a*(c*b)=c*(a*b):=by grind
  rw [this]
  exact Int.mul_nonpos_of_nonneg_of_nonpos hc h
 rcases Int.lt_trichotomy a 0 with e | e | e
 ·have:0≤c*b:=by
   refine Int.le_of_not_gt fun hl=>?_
   have:=Int.mul_pos_of_neg_of_neg e hl
   omega
  omega
 ·subst e;simp
 ·have:c*b≤0:=by
   refine Int.le_of_not_gt fun hl=>?_
   have:=Int.mul_pos e hl
   omega
  omega
theorem GA (x y:Int): -9223372036854775808≤bE x y∧bE x y≤9223372036854775807:=by have:=GC x y;omega
end
end Go.Proofs.YtkepckmdjncehaaGreatDoor
