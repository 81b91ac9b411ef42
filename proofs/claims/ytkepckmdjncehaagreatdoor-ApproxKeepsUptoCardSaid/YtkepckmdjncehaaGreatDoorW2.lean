/- Parts Long, LongB, DivC, Int, Same, Sxz, Sxl, Sxw, IntB, IntC, Pop, Small, Zg, Sxb, Ab, Upto, Stays, UptoZ, App, Sxk, Sxf, Rx, Rxa, Bz, Li, Rxb, Rxc, Rs, Str, Ops7, Ref1, Ref1b, Ref2, joined. -/
import Derived.Test.YtkepckmdjncehaaGreatDoorW1
import Derived.IntWalk
import Derived.KernelRfl
import Derived.Test.YtkepckmdjncehaaGreatDoorRows
import Derived.WalkKit
import Derived.ProofKit
import Derived.OpenShut
import Derived.JoinedCond
import Derived.ChangeSame
import Derived.ChangeSlices
import Derived.ChangeStays
import Derived.Deep.Slices
import Derived.DataShut
import Derived.ArgAppend
import Derived.WalkSmall
import Derived.Laws.BytesString
import Derived.Laws.Concat
import Derived.Laws.RangeAny
import Derived.ChangeMaps5

open Go renaming Addr → aC, BinOp → jS, Calls → aO, Edge → fD, Ending → fA, Exit → dR, IntKind → jA, Next → fH, Oper → aX, Operand → cS, Program → cD, TypeId → aT, Value → aH, World → a6, bodyPost_ret → nD, run_underlying → kZ
open Go.Addr renaming add → oL
open Array renaming getElem?_eq_some_iff → pV, replicate → uJ
open Bool renaming and_eq_true → fE, false_eq_true → B2, or_eq_true → nK
open Go.Builtin renaming append_ → rC
open Go.Instr renaming makeSlice → rB
open Int renaming natCast_mul → kN, toNat_natCast → gV
open Go.IntKind renaming bits → uI, signed → uH, wrap → wR
open List renaming all_eq_true → fU, append_nil → mJ, contains_iff_mem → nJ, drop_eq_getElem_cons → m4, drop_zero → gU, getD_eq_getElem?_getD → bC, getElem?_drop → oK, getElem?_eq_getElem → cJ, getElem?_eq_none → kM, getElem?_eq_some_iff → iO, getElem?_map → kK, getElem?_take → kJ, getElem_mem → mI, getElem_of_mem → uG, length_append → cL, length_cons → cO, length_drop → cV, length_take → bJ, map_cons → iN, map_drop → uF, map_nil → j7, map_take → k5, map_toArray → pT, mem_map → oJ, mem_range → jJ, range → j3, replicate → bP, size_toArray → AO
open Nat renaming add_assoc → j0, add_mul → dX, add_sub_cancel → kI, add_zero → dN, beq → pR, div_add_mod → iA, div_eq_of_lt → gT, div_le_self → fI, div_lt_self → jZ, eq_of_beq_eq_true → sL, eq_zero_or_pos → mH, le_of_not_lt → pQ, le_refl → b8, le_trans → aG, lt_mul_div_succ → wO, lt_of_le_of_lt → iH, lt_of_lt_of_le → dF, lt_of_not_le → oI, lt_or_ge → jR, min_eq_left → fT, mod_add_div → jY, mod_eq_of_lt → fG, mod_lt → eO, mul_add → cT, mul_add_div → nH, mul_assoc → bH, mul_comm → bY, mul_le_mul → jQ, mul_le_mul_left → eF, mul_le_mul_right → eA, mul_lt_mul_of_pos_right → pP, mul_one → cI, mul_pos → fS, mul_right_comm → kH, mul_zero → iG, pow_add → bX, pow_le_pow_right → dU, pow_pos → eP, pow_succ → cB, sub_add_cancel → jP, succ_mul → lZ, two_pow_pos → dW, zero_add → f9, zero_le → bW, zero_mul → iZ
open Go.Next renaming value → fZ
open Go.Oper renaming upon → oG
open Option.some renaming inj → l4, injEq → fL
open Or renaming inl → cE, inr → bR
open Go.Region renaming binds → jX, wanted → u6
open Go.Result renaming andThen_ok → f8
open Go.Sem renaming run_bind → cK, run_pure → gN
open Go.Proofs.Tryz renaming prog → aF
open Go.Value renaming int → bV, slice → wK
open Go.World renaming block_lt_of_cell? → tZ, setCell → tY
namespace Go.Proofs.YtkepckmdjncehaaGreatDoor
variable {A A' C OA PA:Option aC}{B er z:Int}{D K L N U0 V a ac an b b' base bytes c cap cap' d fuel g g' gp hi i id j k lb m n n' oc off on pn q unit width x3 x4 x5 x6:Nat}{H:Type}{P:cD}{T T' e t t' ty:aT}{acc bs ds l l1 l2 ql r st xs ys:List Nat}{af:Array fD}{args cs l' tmps:Array aH}{dss rl:List (List Nat)}{dst:Option Tmp}{f:FuncId}{fn:Func}{fr:Nat×Nat}{gd:Option (Nat×Bool)}{hi' lo':Option cS}{high low:Option aH}{listed:Array Bool}{news us vs:List aH}{o:jS}{ol rest:List aX}{op:Op}{ops:Array aX}{p:aC}{pa pl pv:List MemPlace}{pos:String}{ps:List (Nat×Nat)}{s s':Bool}{ts:Array aT}{u v:aH}{x y:cS}
section
open Go.RowKit
def a1L (w:a6)(q r:Nat)(e:fA)(w':a6):Prop:=
 ∃A n cap B m cap',e= .returned (.tuple #[.slice A n cap,.slice B m cap'])∧Hid (n=(wd q).length)∧Rd w' A n cap (wd q)∧Own w' w.heap.size 65 1 A n cap ((wd q).map aW)∧
  Hid (m=(wd r).length)∧Rd w' B m cap' (wd r)∧Own w' w.heap.size 65 1 B m cap' ((wd r).map aW)∧Ext w w'∧∀p p',A=some p→B=some p'→p.block≠p'.block
theorem YB {U M Uh Vh:Nat}(hM:0<M)(hUh:Uh=U/M)(hVh:Vh=V/M)(hbig:WB≤Vh)(hd:d<WB)(h1:d*Vh≤Uh)(h2:d=18446744073709551615∨Uh<(d+1)*Vh)(hU:U<V*WB):U/V≤d∧d≤U/V+1:=by
 have hV:0<V:=by
  rcases mH V with h | h
  ·rw [h,iZ] at hU;omega
  ·exact h
 constructor
 ·rcases h2 with h | h
  ·have:U/V<WB:=Nat.div_lt_of_lt_mul hU
   rw [cF] at this
   omega
  ·have h3:U/V*Vh≤Uh:=by
    rw [hUh,Nat.le_div_iff_mul_le hM]
    have h4:Vh*M≤V:=by rw [hVh];exact Nat.div_mul_le_self _ _
    have h5:=eF (U/V) h4
    have h6:=Nat.div_mul_le_self U V
    rw [←bH] at h5
    omega
   have h7:U/V*Vh<(d+1)*Vh:=by omega
   have:=Nat.lt_of_mul_lt_mul_right h7
   omega
 ·refine pQ (fun hlt=>?_)
  have h3:d*Vh*M≤U:=by
   have:=eA M h1
   have h4:Uh*M≤U:=by rw [hUh];exact Nat.div_mul_le_self _ _
   omega
  have h4:V<(Vh+1)*M:=by rw [hVh,bY];exact wO V hM
  have h5:U<(U/V+1)*V:=by rw [bY];exact wO U hV
  have h6:(U/V+1)*V≤(d-1)*V:=eA V (by omega)
  have h7:(d-1)*V≤(d-1)*((Vh+1)*M):=eF _ (Nat.le_of_lt h4)
  have h8:d*Vh*M<(d-1)*(Vh+1)*M:=by
   rw [bH (d-1)]
   exact iH h3 (dF h5 (aG h6 h7))
  have h9:=Nat.lt_of_mul_lt_mul_right h8
  have hd0:0<d:=iH (bW _) hlt
  clear hlt h3 h4 h5 h6 h7 h8
  obtain⟨d,rfl⟩:∃e,d=e+1:=⟨d-1,by omega⟩
  rw [kI,lZ,cT,cI] at h9
  omega
theorem XE {L1:Nat}(hD:0<D)(hd1:L/D≤d)(hd2:d≤L/D+1)(_hK:L<K)(hL1:L1<K)(h:L1+d*D=L+K*c)(hc:c≤1):
  (c=0→d=L/D∧L1=L%D)∧(c=1→d=L/D+1∧∀L2 c2,c2≤1→L2<K→L2+K*c2=L1+D→L2=L%D):=by
 have e1:=iA L D
 have e2:=eO L hD
 generalize L/D=q at*
 generalize L%D=r at*
 have hdd:d=q∨d=q+1:=by omega
 have e3:d*D=D*q∨d*D=D*q+D∧d=q+1:=by
  rcases hdd with rfl | rfl
  ·left;exact bY _ _
  ·right;exact⟨by rw [lZ,bY],rfl⟩
 have e4:d*D=D*q+D∨d*D=D*q∧d=q:=by
  rcases hdd with rfl | rfl
  ·right;exact⟨bY _ _,rfl⟩
  ·left;rw [lZ,bY]
 generalize d*D=a at*
 generalize D*q=b at*
 constructor
 ·rintro rfl
  rw [iG,dN] at h
  rcases e4 with e4 | ⟨e4,e5⟩
  ·omega
  ·exact⟨e5,by omega⟩
 ·rintro rfl
  rw [cI] at h
  rcases e3 with e3 | ⟨e3,e5⟩
  ·omega
  ·refine⟨e5,fun L2 c2 hc2 hL2 h2=>?_⟩
   rcases (show c2=0∨c2=1 by omega) with rfl | rfl <;> omega
structure Lg (V U0 k:Nat)(l ql:List Nat):Prop where
 eq:U0=WB^k*nv (ql.drop k)*V+nv l
 lt:nv l<V*WB^k
theorem Lg.step (h:Lg V U0 (j+1) l ql)(hj:j<ql.length)(hV:0<V)(hq:q=nv l/(WB^j*V))(hl2:nv l2=nv l%(WB^j*V)):Lg V U0 j l2 (ql.set j q):=by
 have hD:0<WB^j*V:=fS (eP gE) hV
 have e2:(ql.set j q).drop j=q::ql.drop (j+1):=by
  rw [m4 (by rw [List.length_set];exact hj)]
  congr 1
  ·simp
  ·rw [List.drop_set_of_lt (by omega)]
 refine⟨?_,?_⟩
 ·have e3:=iA (nv l) (WB^j*V)
  rw [←hq,←hl2] at e3
  rw [h.eq,e2,qK,cT,dX,cB,bH (WB^j) WB,←e3]
  have e4:WB^j*q*V=WB^j*V*q:=kH _ _ _
  omega
 ·rw [hl2,bY V];exact eO _ hD
theorem QF (hn:2≤n)(hl:j+n+1≤l.length)(hw:Wf l)(hlt:nv l<WB^(j+n+1)):
  nv l/WB^(j+n-2)=(l.getD (j+n) 0*WB+l.getD (j+n-1) 0)*WB+l.getD (j+n-2) 0:=by
 obtain⟨m,rfl⟩:∃m,n=m+2:=⟨n-2,by omega⟩
 have e0:=oZ l (j+(m+2)+1) hl
 have e00:nv l=nv (l.take (j+(m+2)+1)):=by
  rcases mH (nv (l.drop (j+(m+2)+1))) with h | h
  ·rw [h,iG,dN] at e0;exact e0
  ·have:=Nat.le_mul_of_pos_right (WB^(j+(m+2)+1)) h
   omega
 have e1:=fB l (j+(m+2)) (by omega)
 have e2:=fB l (j+m+1) (by omega)
 have e3:=fB l (j+m) (by omega)
 rw [show j+m+1+1=j+(m+2) from by omega] at e2
 rw [show j+(m+2)-2=j+m from by omega,show j+(m+2)-1=j+m+1 from by omega,e00,e1,e2,e3]
 have h4:=m9 hw (j+m)
 rw [show WB^(j+(m+2))=WB^(j+m)*(WB*WB) from by rw [show j+(m+2)=j+m+1+1 from by omega,cB,cB,bH],show WB^(j+m+1)=WB^(j+m)*WB from cB _ _]
 generalize l.getD (j+(m+2)) 0=u2
 generalize l.getD (j+m+1) 0=u1
 generalize l.getD (j+m) 0=u0
 have e5:nv (l.take (j+m))+WB^(j+m)*u0+WB^(j+m)*WB*u1+WB^(j+m)*(WB*WB)*u2=WB^(j+m)*((u2*WB+u1)*WB+u0)+nv (l.take (j+m)):=by
  have e6:WB^(j+m)*WB*u1=WB^(j+m)*(u1*WB):=by rw [bH,bY WB u1]
  have e7:WB^(j+m)*(WB*WB)*u2=WB^(j+m)*(u2*WB*WB):=by rw [bH,bY (WB*WB),←bH u2]
  rw [e6,e7,dX,cT,cT]
  omega
 rw [e5,nH (eP gE),gT h4,dN]
theorem QE (hn:2≤n)(hl:l.length=n)(hw:Wf l):nv l/WB^(n-2)=l.getD (n-1) 0*WB+l.getD (n-2) 0:=by
 obtain⟨m,rfl⟩:∃m,n=m+2:=⟨n-2,by omega⟩
 have e0:nv l=nv (l.take (m+1+1)):=by rw [List.take_of_length_le (by omega)]
 have e1:=fB l (m+1) (by omega)
 have e2:=fB l m (by omega)
 have h4:=m9 hw m
 rw [show m+2-2=m from rfl,show m+2-1=m+1 from rfl,e0,e1,e2,cB]
 generalize l.getD (m+1) 0=u1
 generalize l.getD m 0=u0
 have e5:nv (l.take m)+WB^m*u0+WB^m*WB*u1=WB^m*(u1*WB+u0)+nv (l.take m):=by
  rw [bH,bY WB u1,cT];omega
 rw [e5,nH (eP gE),gT h4,dN]
theorem XC {vs:List Nat}(h:Lg V U0 (j+1) l ql)(hn:2≤n)(hl:j+n+1≤l.length)(hw:Wf l)(hvl:vs.length=n)(hvw:Wf vs)(hV:nv vs=V)(hv1:0<vs.getD (n-1) 0):
  nv l<WB^(j+n+1)∧l.getD (j+n) 0≤vs.getD (n-1) 0∧(d≤18446744073709551615→d*(vs.getD (n-1) 0*WB+vs.getD (n-2) 0)≤(l.getD (j+n) 0*WB+l.getD (j+n-1) 0)*WB+l.getD (j+n-2) 0→
   (d=18446744073709551615∨(l.getD (j+n) 0*WB+l.getD (j+n-1) 0)*WB+l.getD (j+n-2) 0<(d+1)*(vs.getD (n-1) 0*WB+vs.getD (n-2) 0))→nv l/(WB^j*V)≤d∧d≤nv l/(WB^j*V)+1):=by
 have hVlt:V<WB^n:=by rw [←hV,←hvl];exact jM hvw
 have hlt:nv l<WB^(j+n+1):=by
  have h1:=h.lt
  have h2:V*WB^(j+1)≤WB^n*WB^(j+1):=eA _ (Nat.le_of_lt hVlt)
  rw [←bX,show n+(j+1)=j+n+1 from by omega] at h2
  omega
 have t3:=QF hn hl hw hlt
 have t2:=QE hn hvl hvw
 rw [hV] at t2
 refine⟨hlt,?_,?_⟩
 ·have h1:WB^(j+n)*l.getD (j+n) 0≤nv l:=by
   have e0:=oZ l (j+n+1) hl
   have e1:=fB l (j+n) (by omega)
   omega
  have h2:V<WB^(n-1)*(vs.getD (n-1) 0+1):=by
   have e1:=fB vs (n-1) (by omega)
   rw [jP (by omega),List.take_of_length_le (by omega),hV] at e1
   have e2:=m9 hvw (n-1)
   rw [e1,cT,cI]
   omega
  have h3:V*WB^(j+1)<WB^(n-1)*(vs.getD (n-1) 0+1)*WB^(j+1):=pP h2 (eP gE)
  rw [kH,←bX,show n-1+(j+1)=j+n from by omega] at h3
  have h4:=h.lt
  have h5:WB^(j+n)*l.getD (j+n) 0<WB^(j+n)*(vs.getD (n-1) 0+1):=by omega
  have:=Nat.lt_of_mul_lt_mul_left h5
  omega
 ·intro hd h1 h2
  rw [←t3] at h1 h2
  rw [←t2] at h1 h2
  have hVh:V/WB^(n-2)=(WB^j*V)/WB^(j+n-2):=by
   rw [show j+n-2=j+(n-2) from by omega,bX,Nat.mul_div_mul_left _ _ (eP gE)]
  refine YB (M:=WB^(j+n-2)) (eP gE) rfl hVh ?_ (by rw [cF];omega) h1 h2 ?_
  ·rw [t2]
   have:=Nat.le_mul_of_pos_left WB hv1
   omega
  ·have:=h.lt
   rw [cB,←bH,bY V] at this
   exact this
theorem XD {X Y s Q:Nat}(hY:0<Y)(h:X*2^s=Q*(Y*2^s)+L)(hL:L<Y*2^s):Q=X/Y∧L/2^s=X%Y:=by
 have hp:=dW s
 have h1:X*2^s/(Y*2^s)=Q:=by rw [h,bY Q,nH (fS hY hp),gT hL,dN]
 have h2:X*2^s%(Y*2^s)=L:=by rw [h,bY Q,Nat.mul_add_mod,fG hL]
 rw [Nat.mul_div_mul_right _ _ hp] at h1
 rw [Nat.mul_mod_mul_right] at h2
 exact⟨h1.symm,by rw [←h2,Nat.mul_div_cancel _ hp]⟩
theorem XB {s y:Nat}(hx:Wf xs)(hy:Wf ys)(hxl:xs.length=N)(hyl:ys.length=n)(hn:1≤n)(hnN:n≤N)(hyk:ys.getD (n-1) 0=y)(hy0:y≠0)(hyb:y≤18446744073709551615)(hs:s+bA y=64):
  s<64∧nv ys*2^s<WB^n∧nv xs*2^s<WB^(N+1)∧0<nv ys*2^s∧WB^(n-1)≤nv ys*2^s∧nv xs*2^s<nv ys*2^s*WB^(N+1-n):=by
 have hb:bA y≠0:=fun h=>hy0 (kD.1 h)
 have hp:=dW s
 have e1:=fB ys (n-1) (by omega)
 rw [jP hn,List.take_of_length_le (by omega),hyk] at e1
 have h1:=m9 hy (n-1)
 have h2:WB^(n-1)≤nv ys:=by
  have:=Nat.le_mul_of_pos_right (WB^(n-1)) (show 0<y by omega)
  omega
 have h3:nv ys≤nv ys*2^s:=Nat.le_mul_of_pos_right _ hp
 have h4:=jV y
 have hX:=jM hx
 rw [hxl] at hX
 have hpw:=eP (n:=n-1) gE
 refine⟨by omega,?_,?_,by omega,by omega,?_⟩
 ·have h5:nv ys<WB^(n-1)*(y+1):=by rw [cT,cI];omega
  have h6:WB^(n-1)*(y+1)≤WB^(n-1)*2^bA y:=eF _ h4
  have h7:nv ys*2^s<WB^(n-1)*2^bA y*2^s:=pP (by omega) hp
  rw [bH,←bX,Nat.add_comm (bA y),hs,←lY,←cB,Nat.succ_eq_add_one,jP hn] at h7
  exact h7
 ·rw [cB]
  have h5:2^s≤WB:=by rw [lY];exact dU (by omega) (by omega)
  have h6:=pP hX hp
  have h7:=eF (WB^N) h5
  omega
 ·have h5:WB^N≤nv ys*WB^(N+1-n):=by
   have:=eA (WB^(N+1-n)) h2
   rw [←bX,show n-1+(N+1-n)=N from by omega] at this
   exact this
  rw [kH]
  exact pP (by omega) hp
theorem Y8 {u2 u1 u0 v1 v0:Nat}(h2:u2≤v1)(h1:u1≤18446744073709551615)(h0:u0≤18446744073709551615)(hv1:v1≤18446744073709551615)(hv0:v0≤18446744073709551615)(hpos:0<v1)(k1:D≤18446744073709551615)(k2:D*(v1*WB+v0)≤(u2*WB+u1)*WB+u0)(k3:D=18446744073709551615∨(u2*WB+u1)*WB+u0<(D+1)*(v1*WB+v0))(w:a6)(n:Nat):
  aO aF 267 #[.int .u64 (u2:Int),.int .u64 (u1:Int),.int .u64 (u0:Int),.int .u64 (v1:Int),.int .u64 (v0:Int)] (w.drewN n) (fun e w''=>e= .returned (.int .u64 (D:Int))∧∃m,w''=w.drewN m):=by
 refine Calls.quiet_of ((a0t h2 h1 h0 hv1 hv0 hpos (w.drewN n)).mono ?_)
 rintro e w' ⟨d,rfl,a,b,c,m,rfl⟩
 rw [Y9 a b.out c.out k1 k2 k3]
 exact⟨rfl,m,rfl⟩
theorem KE (hl:K≤l.length)(hl1:K≤l1.length)(hw:Wf l1)(hd:l1.drop K=l.drop K)(h:nv l<WB^K):nv l1<WB^K:=by
 have e1:=oZ l K hl
 have e2:=oZ l1 K hl1
 have h3:=m9 hw K
 rw [hd] at e2
 rcases mH (nv (l.drop K)) with h0 | h0
 ·rw [h0,iG] at e2;omega
 ·have:=Nat.le_mul_of_pos_right (WB^K) h0
  omega
set_option maxRecDepth 10000 in
set_option maxHeartbeats 8000000 in
theorem a0s {w:a6}{B:Option aC}(hx:Rd w A N cap xs)(hN:N≤274877906944)(hy:Rd w B n cap' ys)(hn:2≤n)(hnN:n≤N)(htop:ys.getD (n-1) 0≠0):
  aO aF 236 #[.slice A N cap,.slice B n cap'] w (a1L w (nv xs/nv ys) (nv xs%nv ys)):=by
 obtain⟨b,y,rfl,hyk,hyb,hcy⟩:=hy.get (i:=n-1) (by omega)
 have hlx:=Lib.hid hx.len
 have hly:=Lib.hid hy.len
 have hyp:(0:Int)<(n:Int):=by omega
 go_enter Tryz.func236,Tryz.ntmps236
 go_wp2_with fail
 refine (bits_LeadingZeros64 y hyb _).mono ?_
 rintro e w' ⟨s,hs,hs64',rfl,rfl⟩
 have hstart:=XB hx.wf hy.wf hlx.out hly.out (by omega) hnN hyk.out (by rw [←hyk.out];exact htop) hyb hs.out
 obtain⟨hs64,hVfit,hUfit,hVpos,hVlow,hUV⟩:=hstart
 have HVfit:=Lib.hid hVfit
 have HUfit:=Lib.hid hUfit
 have HVpos:=Lib.hid hVpos
 have HVlow:=Lib.hid hVlow
 have HUV:=Lib.hid hUV
 clear hVfit hUfit hVpos hVlow hUV htop
 go_wp2_with fail
 refine (LS hy (by omega) hs64 (by omega) (b8 _) HVfit.out).mono ?_
 rintro e w1 ⟨gv,vs,rfl,hgv,hbv,hwv,hlv,hvv,hx1⟩
 go_wp2_with fail
 refine (LS (n:=N+1) (hx.ext hx1) (by omega) hs64 (by omega) (by omega) HUfit.out).mono ?_
 rintro e w2 ⟨gu,us,rfl,hgu,hbu,hwu,hlu,hvu,hx2⟩
 obtain⟨M,hM1,hM2⟩:∃M,M+n≤N+1∧N+1≤M+n:=⟨N+1-n,by omega,by omega⟩
 have hmk:=lM (P:=aF) Tryz.underlying22 jE rfl (by decide) ((N:Int)-(n:Int)+1) (by omega) (by omega)
 have et:((N:Int)-(n:Int)+1).toNat=M:=by omega
 rw [et] at hmk
 clear et
 go_wp2_with fail
 clear hmk
 have hbv2:=hbv.ext hx2
 have hguv:gv<gu:=dF hbv.lt hgu
 obtain⟨gq,hgq⟩:∃gq,w2.heap.size=gq:=⟨_,rfl⟩
 rw [hgq]
 have hguq:gu<gq:=by rw [←hgq];exact hbu.lt
 obtain⟨wa,hwa⟩:∃wa,w2.alloc (.cells (zc (.int .u64 0) M) 65)=wa:=⟨_,rfl⟩
 rw [hwa]
 have hbq:Bk wa gq 65 ((bP M 0).map aW):=by
  rw [←hwa,←hgq,←kR];exact Bk.new' _ _ _
 have hea:Ext w2 wa:=by rw [←hwa];exact (Ext.refl w2).alloc _
 have hgw:w.heap.size≤gv:=hgv
 have hgw2:w.heap.size≤gu:=by omega
 have hgw3:w.heap.size≤gq:=by omega
 have hbva:=hbv2.ext hea
 have hbua:=hbu.ext hea
 have hexa:Ext w wa:=(hx1.trans hx2).trans hea
 clear hgq hwa hbv hbu hbv2 hea hcy
 have hL0:Hid (Lg (nv ys*2^s) (nv xs*2^s) M us (bP M 0)):=by
  refine⟨?_,?_⟩
  ·rw [List.drop_of_length_le (by rw [List.length_replicate];exact b8 _),hvu.out];simp [nv]
  ·rw [hvu.out,show M=N+1-n from by omega];exact HUV.out
 have hv1:Hid (0<vs.getD (n-1) 0):=by
  refine Nat.pos_of_ne_zero (fun h0=>?_)
  have e1:=rN vs (n-1) (by rw [hlv.out];omega) h0
  rw [jP (by omega),List.take_of_length_le (by rw [hlv.out];exact b8 _),hvv.out] at e1
  have e2:=m9 hwv (n-1)
  have:=HVlow.out
  omega
 go_loopw [11] (fun u wr=>∃(k:Nat) (l ql:List Nat),k≤M∧u= .int .i64 ((k:Int)-1)∧Hid (l.length=N+1)∧Wf l∧Hid (ql.length=M)∧Wf ql∧Bk wr gv 65 (vs.map aW)∧Bk wr gu 65 (l.map aW)∧Bk wr gq 65 (ql.map aW)∧
  Hid (Lg (nv ys*2^s) (nv xs*2^s) k l ql)∧Ext w wr) (fun u wr=>(intOf u+1).toNat)
 case atStart=>exact⟨M,us,_,b8 _,fW,hlu,hwu,List.length_replicate,pM _,hbva,hbua,hbq,hL0,hexa⟩
 case round=>
  obtain⟨k,l,ql,hk,rfl,hll,hwl,hlq,hwq,hbv,hbu,hbq',hL,hr⟩:=hrel
  clear hbva hbua hbq hexa hL0 hlu hvu
  by_cases hk0:0<k
  ·obtain⟨j,rfl⟩:∃j,k=j+1:=⟨k-1,by omega⟩
   have ek:((j+1:Nat):Int)-1=(j:Int):=by omega
   rw [ek]
   obtain⟨u2,hu2k,hu2b,hcu2⟩:=hbu.word hwl (i:=j+n) (by rw [hll.out];omega)
   obtain⟨u1,hu1k,hu1b,hcu1⟩:=hbu.word hwl (i:=j+n-1) (by rw [hll.out];omega)
   obtain⟨u0,hu0k,hu0b,hcu0⟩:=hbu.word hwl (i:=j+n-2) (by rw [hll.out];omega)
   obtain⟨v1,hv1k,hv1b,hcv1⟩:=hbv.word hwv (i:=n-1) (by rw [hlv.out];omega)
   obtain⟨v0,hv0k,hv0b,hcv0⟩:=hbv.word hwv (i:=n-2) (by rw [hlv.out];omega)
   have hgs:=fun d=>XC (d:=d) hL.out hn (by rw [hll.out];omega) hwl hlv.out hwv hvv.out hv1.out
   rw [hu2k.out,hu1k.out,hu0k.out,hv1k.out,hv0k.out] at hgs
   have hu2v:u2≤v1:=(hgs 0).2.1
   have hv1p:0<v1:=by rw [←hv1k.out];exact hv1.out
   have HGS:=Lib.hid hgs
   clear hgs
   have hfin:∀(q:Nat) (l2:List Nat) (wr2:a6),q=nv l/(WB^j*(nv ys*2^s))→nv l2=nv l%(WB^j*(nv ys*2^s))→q≤18446744073709551615→l2.length=N+1→Wf l2→Bk wr2 gv 65 (vs.map aW)→Bk wr2 gu 65 (l2.map aW)→Bk wr2 gq 65 ((ql.set j q).map aW)→Ext w wr2→
     ∃(k:Nat) (l ql:List Nat),k≤M∧bV .i64 ((j:Int)-1)= .int .i64 ((k:Int)-1)∧Hid (l.length=N+1)∧Wf l∧Hid (ql.length=M)∧Wf ql∧Bk wr2 gv 65 (vs.map aW)∧Bk wr2 gu 65 (l.map aW)∧Bk wr2 gq 65 (ql.map aW)∧
      Hid (Lg (nv ys*2^s) (nv xs*2^s) k l ql)∧Ext w wr2:=by
    intro q l2 wr2 h1 h2 h3 h4 h5 h6 h7 h8 h9
    exact⟨j,l2,ql.set j q,by omega,rfl,h4,h5,(show _=_ by rw [List.length_set];exact hlq.out),gS hwq j (by rw [cF];omega),h6,h7,h8,hL.out.step (by rw [hlq.out];omega) HVpos.out h1 h2,h9⟩
   have FIN:=Lib.hid hfin
   clear hfin
   go_upto_region 9 with (fail)
   obtain⟨d,hdb,hd1,hd2⟩:=YC ((u2*WB+u1)*WB+u0) (v1*WB+v0) (by rw [cF];omega)
   have hdd:=Lib.hid ((HGS.out d).2.2 hdb hd1 hd2)
   have HLT:=Lib.hid (HGS.out d).1
   have HD1:=Lib.hid hd1
   have HD2:=Lib.hid hd2
   clear hd1 hd2 HGS
   have w1e:IntKind.i64.wrap ((j:Int)+(n:Int))=(j:Int)+(n:Int):=IntWalk.i64_in _ (by omega)
   have w2e:IntKind.i64.wrap ((j:Int)+(n:Int)-1)=(j:Int)+(n:Int)-1:=IntWalk.i64_in _ (by omega)
   have w3e:IntKind.i64.wrap ((j:Int)+(n:Int)-2)=(j:Int)+(n:Int)-2:=IntWalk.i64_in _ (by omega)
   have w4e:IntKind.i64.wrap ((n:Int)-1)=(n:Int)-1:=IntWalk.i64_in _ (by omega)
   have w5e:IntKind.i64.wrap ((n:Int)-2)=(n:Int)-2:=IntWalk.i64_in _ (by omega)
   have t1:((j:Int)+(n:Int)).toNat=j+n:=by omega
   have t2:((j:Int)+(n:Int)-1).toNat=j+n-1:=by omega
   have t3:((j:Int)+(n:Int)-2).toNat=j+n-2:=by omega
   have t4:((n:Int)-1).toNat=n-1:=by omega
   have t5:((n:Int)-2).toNat=n-2:=by omega
   have b1:0≤(j:Int)+(n:Int):=by omega
   have b2:0≤(j:Int)+(n:Int)-1:=by omega
   have b3:0≤(j:Int)+(n:Int)-2:=by omega
   have b4:0≤(n:Int)-1:=by omega
   have b5:0≤(n:Int)-2:=by omega
   have c1:(j:Int)+(n:Int)<(N:Int)+1:=by omega
   have c2:(j:Int)+(n:Int)-1<(N:Int)+1:=by omega
   have c3:(j:Int)+(n:Int)-2<(N:Int)+1:=by omega
   have c4:(n:Int)-1<(n:Int):=by omega
   have c5:(n:Int)-2<(n:Int):=by omega
   go_quiet (exact Y8 hu2v hu1b hu0b hv1b hv0b hv1p hdb HD1.out HD2.out _ _)
   clear w1e w2e w3e w4e w5e t1 t2 t3 t4 t5 b1 b2 b3 b4 b5 c1 c2 c3 c4 c5
   obtain⟨wd,hwd⟩:∃wd,wr.drewN nq=wd:=⟨_,rfl⟩
   rw [hwd]
   have hbu1:Bk wd gu 65 (l.map aW):=by rw [←hwd];exact hbu.drewN nq
   have hbv1:Bk wd gv 65 (vs.map aW):=by rw [←hwd];exact hbv.drewN nq
   have hbq1:Bk wd gq 65 (ql.map aW):=by rw [←hwd];exact hbq'.drewN nq
   have hr1:Ext w wd:=by rw [←hwd];exact hr.drewN nq
   clear hwd hcu2 hcu1 hcu0 hcv1 hcv0
   have hvrd:=hbv1.rd hwv (o:=0) (n:=n) (cap:=n) (b8 _) (by rw [hlv.out];omega) (by rw [eY];omega)
   rw [gU,List.take_of_length_le (by rw [hlv.out];exact b8 _)] at hvrd
   go_wp2_with fail
   rw [show j+n+1-j=n+1 from by omega]
   refine (a0r (o:=j) (m:=n) hbu1 hwl hvrd (fun a ha=>by cases ha;show gv≠gu;omega) (by rw [hll.out];omega) (by omega) (by omega) hdb).mono ?_
   rintro e w4 ⟨bb,rfl,l1,c,hb4,hw4,hll4,hdr4,hc4,hP4,hu4⟩
   have hll4':Hid (l1.length=N+1):=(show _=_ by rw [hll4.out,hll.out])
   have hL1:Hid (nv l1<WB^(j+n+1)):=KE (by rw [hll.out];omega) (by rw [hll4'.out];omega) hw4 hdr4.out HLT.out
   have hcase:=XE (D:=WB^j*(nv ys*2^s)) (fS (eP gE) HVpos.out) hdd.out.1 hdd.out.2 HLT.out hL1.out (by
    have h:=hP4.out.2
    rw [hvv.out,Nat.mul_left_comm] at h
    exact h) hc4
   have hbc:=hP4.out.1
   have hbv4:=hbv1.upd hu4 (by omega)
   have hbq4:=hbq1.upd hu4 (by omega)
   have hr4:=hu4.ext hr1 hgw2
   have hbb:bb=false∧c=0∨bb=true∧c=1:=by
    rcases bb with _ | _
    ·left;refine⟨rfl,?_⟩;simp at hbc;omega
    ·right;exact⟨rfl,hbc.1 rfl⟩
   clear hP4 hbc hc4 hbv hbu hbq' hbu1 hbv1 hbq1 hr hr1 hvrd
   rcases hbb with⟨rfl,hc⟩ | ⟨rfl,hc⟩
   ·have h0:=Lib.hid (hcase.1 hc)
    clear hcase hc
    obtain⟨z,hz,_,hcz⟩:=hbq4.word hwq (i:=j) (by rw [hlq.out];omega)
    have hfz:=hbq4.frozen j
    have hjM:(j:Int)<(M:Int):=by omega
    go_wp2_with fail
    go_roundw
    case rel=>exact FIN.out d l1 _ h0.out.1 h0.out.2 hdb hll4'.out hw4 (hbv4.far (by show gv≠gq;omega) _) (hb4.far (by show gu≠gq;omega) _) (by rw [←eG];exact hbq4.set _ _) (hr4.setCell hgw3 _)
    case measure=>simp [intOf]
   ·have h0:=Lib.hid (hcase.2 hc)
    clear hcase hc
    obtain⟨q,rfl⟩:∃q,d=q+1:=⟨_,h0.out.1⟩
    have hq:Hid (q=nv l/(WB^j*(nv ys*2^s))):=(show _=_ from Nat.succ.inj h0.out.1)
    have hvrd:=hbv4.rd hwv (o:=0) (n:=n) (cap:=n) (b8 _) (by rw [hlv.out];omega) (by rw [eY];omega)
    rw [gU,List.take_of_length_le (by rw [hlv.out];exact b8 _)] at hvrd
    go_wp2_with fail
    rw [show j+n+1-j=n+1 from by omega]
    refine (a0u (o:=j) (m:=n) hb4 hw4 hvrd (fun a ha=>by cases ha;show gv≠gu;omega) (by rw [hll4'.out];omega) (by omega) (by omega)).mono ?_
    rintro e w5 ⟨rfl,l2,c2,hb5,hw5,hll5,hdr5,hc5,hP5,hu5⟩
    have hll5':Hid (l2.length=N+1):=(show _=_ by rw [hll5.out,hll4'.out])
    have hL2:Hid (nv l2<WB^(j+n+1)):=KE (by rw [hll4'.out];omega) (by rw [hll5'.out];omega) hw5 hdr5.out hL1.out
    have hfin2:Hid (nv l2=nv l%(WB^j*(nv ys*2^s))):=h0.out.2 (nv l2) c2 hc5 hL2.out (by have h:=hP5.out;rw [hvv.out] at h;exact h)
    have hbv5:=hbv4.upd hu5 (by omega)
    have hbq5:=hbq4.upd hu5 (by omega)
    have hr5:=hu5.ext hr4 hgw2
    clear hP5 hc5 hbv4 hbq4 hr4 hb4 hvrd h0
    obtain⟨z,hz,_,hcz⟩:=hbq5.word hwq (i:=j) (by rw [hlq.out];omega)
    have hfz:=hbq5.frozen j
    have hjM:(j:Int)<(M:Int):=by omega
    go_wp2_with fail
    go_roundw
    case rel=>exact FIN.out q l2 _ hq.out hfin2.out (by omega) hll5'.out hw5 (hbv5.far (by show gv≠gq;omega) _) (hb5.far (by show gu≠gq;omega) _) (by rw [←eG];exact hbq5.set _ _) (hr5.setCell hgw3 _)
    case measure=>simp [intOf]
  ·obtain rfl:k=0:=by omega
   have ek:((0:Nat):Int)-1= -1:=rfl
   rw [ek]
   have hLv:Hid (nv l<nv ys*2^s):=by
    have:=hL.out.lt
    rw [Nat.pow_zero,cI] at this
    exact this
   have hQ:=XD (X:=nv xs) (Y:=nv ys) (s:=s) (Q:=nv ql) (L:=nv l) (Nat.pos_of_mul_pos_right HVpos.out) (by have:=hL.out.eq;simpa using this) hLv.out
   have hln:Hid (nv (l.take n)=nv l):=by
    show _=_
    have e1:=oZ l n (by rw [hll.out];omega)
    rcases mH (nv (l.drop n)) with h0 | h0
    ·rw [h0,iG,dN] at e1;exact e1.symm
    ·have:=Nat.le_mul_of_pos_right (WB^n) h0
     have h2:=hLv.out
     have h3:=HVfit.out
     omega
   have HQ:=Lib.hid hQ
   clear hQ
   have hurd:=hbu.rd hwl (o:=0) (n:=n) (cap:=N+1) (by omega) (by rw [hll.out];omega) (by rw [eY];omega)
   rw [gU] at hurd
   go_wp2_with fail
   refine (K4 hurd (by omega) (by omega)).mono ?_
   rintro e w6 ⟨A6,n6,c6,rfl,hn6,hr6,ho6,hx6⟩
   rw [hln.out,HQ.out.2] at hn6 hr6 ho6
   have hqrd:=(hbq'.ext hx6).rd hwq (o:=0) (n:=M) (cap:=M) (b8 _) (by rw [hlq.out];omega) (by rw [eY];omega)
   rw [gU,List.take_of_length_le (by rw [hlq.out];exact b8 _)] at hqrd
   go_wp2_with fail
   refine (mW hqrd).mono ?_
   rintro e w7 ⟨A7,n7,c7,rfl,hn7,hr7,ho7,hx7⟩
   rw [HQ.out.1] at hn7 hr7 ho7
   go_wp2_with fail
   go_ret2
   exact⟨A7,n7,c7,A6,n6,c6,rfl,hn7,hr7,ho7.mono (hr.trans hx6).size,hn6,hr6.ext hx7,(ho6.mono hr.size).ext hx7,(hr.trans hx6).trans hx7,fun p p' hp hp'=>by have h1:=ho7.block p hp;have h2:=ho6.block p' hp';omega⟩
def NM (w:a6)(q r:Nat)(er:Int)(e:fA)(w':a6):Prop:=
 ∃A n cap B m cap',e= .returned (.tuple #[.slice A n cap,.slice B m cap',.int .i64 er])∧Hid (n=(wd q).length)∧Rd w' A n cap (wd q)∧Own w' w.heap.size 65 1 A n cap ((wd q).map aW)∧
  Hid (m=(wd r).length)∧Rd w' B m cap' (wd r)∧Own w' w.heap.size 65 1 B m cap' ((wd r).map aW)∧Ext w w'
def RetQREA (w:a6)(q r:Nat)(er:Int)(e:fA)(w':a6):Prop:=
 ∃A n cap B m cap',e= .returned (.tuple #[.slice A n cap,.slice B m cap',.int .i64 er])∧Hid (n=(wd q).length)∧Rd w' A n cap (wd q)∧Own w' w.heap.size 65 1 A n cap ((wd q).map aW)∧
  Hid (m=(wd r).length)∧Rd w' B m cap' (wd r)∧Own w' w.heap.size 65 1 B m cap' ((wd r).map aW)∧Ext w w'∧∀p p',A=some p→B=some p'→p.block≠p'.block
theorem RetQREA.old {w:a6}{r:Nat}{e:fA}{w':a6}(h:RetQREA w q r er e w'):NM w q r er e w':=by
 obtain⟨A,n,cap,B,m,cap',h1,h2,h3,h4,h5,h6,h7,h8,_⟩:=h
 exact⟨A,n,cap,B,m,cap',h1,h2,h3,h4,h5,h6,h7,h8⟩
theorem PG (h:m≠0):(wd m).getD ((wd m).length-1) 0≠0:=by
 intro h0
 have hl:0<(wd m).length:=Nat.pos_of_ne_zero (fun e=>h (jN.1 e))
 have e1:=rN (wd m) ((wd m).length-1) (by omega) h0
 rw [jP (by omega),List.take_of_length_le (b8 _),gH] at e1
 have h2:=m9 (pN m) ((wd m).length-1)
 have h3:=J1 h
 omega
theorem PI {v:Nat}(h:1=(wd m).length)(hv:(wd m).getD 0 0=v):m=v:=by
 have e1:=fB (wd m) 0 (by omega)
 rw [List.take_of_length_le (by omega),gH,hv] at e1
 simpa [nv] using e1
theorem a0v {w:a6}{B:Option aC}(hx:Rd w A n cap xs)(hl:n≤274877906944)(hy:Rd w B n' cap' ys)(hl':n'≤274877906944)(h0:nv ys≠0):
  aO aF 199 #[.slice A n cap,.slice B n' cap'] w (RetQREA w (nv xs/nv ys) (nv xs%nv ys) 0):=by
 go_enter Tryz.func199,Tryz.ntmps199
 go_wp2_with fail
 refine (mW hy).mono ?_
 rintro e w1 ⟨A1,n1,c1,rfl,hn1,hr1,ho1,hx1⟩
 have hn1p:0<n1:=by
  rw [hn1.out];exact Nat.pos_of_ne_zero (fun e=>h0 (jN.1 e))
 have hn1b:n1≤n':=by
  have:=iM hy.wf
  rw [hn1.out,←hy.len];exact this
 have b0:((n1:Int)==0)=false:=by simp;omega
 by_cases h1:n1=1
 ·subst h1
  obtain⟨a,v,rfl,hvk,hvb,hcv⟩:=hr1.get (i:=0) (by omega)
  have hv:Hid (nv ys=v):=PI hn1.out hvk.out
  have hcv0:w1.cell? a=some (.int .u64 (v:Int)):=by simpa [oL] using hcv
  go_wp2_with fail
  refine (LT (hx.ext hx1) (by omega) (v:=v) (by rw [←hv.out];exact h0) hvb).mono ?_
  rintro e w2 ⟨A2,n2,c2,r,rfl,hr,hrb,hn2,hr2,ho2,hx2⟩
  go_wp2_with fail
  have hone:=Rd.one w2 hrb
  refine (mW hone).mono ?_
  rintro e w3 ⟨A3,n3,c3,rfl,hn3,hr3,ho3,hx3⟩
  rw [vH,hr.out,←hv.out] at hn3 hr3 ho3
  rw [←hv.out] at hn2 hr2 ho2
  have hal:Ext w2 w3:=((Ext.refl w2).alloc _).trans hx3
  go_wp2_with fail
  go_ret3
  exact⟨A2,n2,c2,A3,n3,c3,rfl,hn2,hr2.ext hal,(ho2.mono hx1.size).ext hal,hn3,hr3,ho3.mono (aG (hx1.trans hx2).size (by simp)),(hx1.trans hx2).trans hal,fun p p' hp hp'=>by have h1:=ho2.block p hp;have h2:=ho3.block p' hp';simp only [World.alloc,Array.size_push] at h2;omega⟩
 ·have b1:((n1:Int)==1)=false:=by simp;omega
  go_wp2_with fail
  refine (mW (hx.ext hx1)).mono ?_
  rintro e w2 ⟨A2,n2,c2,rfl,hn2,hr2,ho2,hx2⟩
  have hn2b:n2≤n:=by
   have:=iM hx.wf
   rw [hn2.out,←hx.len];exact this
  go_wp2_with fail
  refine (vN hr2 (hr1.ext hx2)).mono ?_
  rintro e w3 ⟨c,hc,hcl,hch,rfl,hx3⟩
  rw [gH,gH] at hc
  by_cases hlt:nv xs<nv ys
  ·have hneg:c<0:=by rw [hc.out];exact pH.2 hlt
   go_wp2_with fail
   go_ret3
   rw [gT hlt,fG hlt]
   exact⟨none,0,0,A2,n2,c2,rfl,rfl,Rd.nil _,Own.nil _ _ _ _,hn2,hr2.ext hx3,(ho2.mono hx1.size).ext hx3,(hx1.trans hx2).trans hx3,fun p p' hp=>by cases hp⟩
  ·have hneg:¬c<0:=by rw [hc.out,pH];exact hlt
   have HL:=Lib.hid hlt
   have hn12:n1≤n2:=by rw [hn1.out,hn2.out];exact gZ (by omega)
   clear hlt
   go_wp2_with fail
   refine (a0s (hr2.ext hx3) (by omega) ((hr1.ext hx2).ext hx3) (by omega) hn12 (by rw [hn1.out];exact PG h0)).mono ?_
   rintro e w4 ⟨A4,n4,c4,A5,n5,c5,rfl,hn4,hr4,ho4,hn5,hr5,ho5,hx4,hap⟩
   rw [gH,gH] at hn4 hr4 ho4 hn5 hr5 ho5
   go_wp2_with fail
   go_ret3
   have hs:=((hx1.trans hx2).trans hx3)
   exact⟨A4,n4,c4,A5,n5,c5,rfl,hn4,hr4,ho4.mono hs.size,hn5,hr5,ho5.mono hs.size,hs.trans hx4,hap⟩
theorem LU {w:a6}{B:Option aC}(hx:Rd w A n cap xs)(hl:n≤274877906944)(hy:Rd w B n' cap' ys)(hl':n'≤274877906944)(h0:nv ys≠0):
  aO aF 199 #[.slice A n cap,.slice B n' cap'] w (NM w (nv xs/nv ys) (nv xs%nv ys) 0):=(a0v hx hl hy hl' h0).mono fun e w' h=>h.old
def sg (s:Bool)(m:Nat):Int:=if s then-(m:Int) else m
theorem k7 (m:Nat):sg false m=m:=rfl
theorem l9 (m:Nat):sg true m= -(m:Int):=rfl
theorem uS (s:Bool)(m:Nat):(sg s m).natAbs=m:=by cases s <;> simp [sg]
theorem RN (z:Int):sg (decide (z<0)) z.natAbs=z:=by
 by_cases h:z<0
 ·rw [decide_eq_true h,l9];omega
 ·rw [decide_eq_false h,k7];omega
theorem RL (s:Bool):sg s 0=0:=by cases s <;> rfl
theorem GI (s:Bool)(m:Nat):decide (sg s m<0)=(s&&decide (0<m)):=by
 cases s
 ·simp [sg]
 ·by_cases h:0<m
  ·simp [sg,h]
  ·have:m=0:=by omega
   subst this
   simp [sg]
theorem RO (s:Bool)(m k:Nat):sg s (m+k)=sg s m+sg s k:=by cases s <;> simp [sg] <;> omega
theorem GH (h:k≤m):sg s (m-k)=sg s m+sg (!s) k:=by cases s <;> simp [sg] <;> omega
def ln (z:Int):Nat:=(wd z.natAbs).length
theorem XI {x y:Int}(h:x.natAbs≤y.natAbs):ln x≤ln y:=gZ h
theorem XH (x:Int):ln (-x)=ln x:=by unfold ln;rw [Int.natAbs_neg]
theorem KH {x y:Int}(hx:ln x≤a)(hy:ln y≤b):ln (x+y)≤max a b+1:=by
 have h1:=gZ (Int.natAbs_add_le x y)
 have h2:=XJ x.natAbs y.natAbs
 unfold ln at*
 omega
theorem qQ (m:Nat):ln (m:Int)=(wd m).length:=by unfold ln;rw [Int.natAbs_natCast]
def Zi (w:a6)(s:Bool)(A:Option aC)(n cap:Nat)(z:Int):Prop:=∃xs,Rd w A n cap xs∧sg s (nv xs)=z
theorem Zi.ext {w w':a6}(h:Zi w s A n cap z)(e:Ext w w'):Zi w' s A n cap z:=by
 obtain⟨xs,h1,h2⟩:=h
 exact⟨xs,h1.ext e,h2⟩
theorem Zi.ln {w:a6}(h:Zi w s A n cap z):Go.Proofs.YtkepckmdjncehaaGreatDoor.ln z≤n:=by
 obtain⟨xs,h1,rfl⟩:=h
 have:=iM h1.wf
 rw [h1.len] at this
 unfold Go.Proofs.YtkepckmdjncehaaGreatDoor.ln
 rw [uS]
 exact this
structure Zr (w:a6)(base:Nat)(s:Bool)(A:Option aC)(n cap:Nat)(z:Int):Prop where
 sgn:s=decide (z<0)
 len:n=ln z
 own:Own w base 65 1 A n cap ((wd z.natAbs).map aW)
theorem Zr.rd {w:a6}(h:Zr w base s A n cap z):Rd w A n cap (wd z.natAbs):=h.own.rd (pN _)
theorem Zr.ext {w w':a6}(h:Zr w base s A n cap z)(e:Ext w w'):Zr w' base s A n cap z:=⟨h.sgn,h.len,h.own.ext e⟩
theorem Zr.mono {w:a6}{base':Nat}(h:Zr w base s A n cap z)(e:base'≤base):Zr w base' s A n cap z:=⟨h.sgn,h.len,h.own.mono e⟩
theorem Zr.zi {w:a6}(h:Zr w base s A n cap z):Zi w s A n cap z:=⟨_,h.rd,by rw [gH,h.sgn,RN]⟩
theorem Zr.upd {w w':a6}(h:Zr w base s A n cap z)(hg:g<base)(e:Upd g w w'):Zr w' base s A n cap z:=
 ⟨h.sgn,h.len,h.own.upd e (fun a ha=>by have:=(h.own.block a ha).1;omega)⟩
theorem Zr.cast {w:a6}{z':Int}(h:Zr w base s A n cap z)(e:z=z'):Zr w base s A n cap z':=e▸h
theorem Zr.le {w:a6}(h:Zr w base s A n cap z)(hb:ln z≤b):n≤b:=by rw [h.len];exact hb
theorem Zr.zero {w:a6}:Zr w base false none 0 0 0:=⟨by decide,rfl,Own.nil _ _ _ _⟩
def sD (w:a6)(z:Int)(e:fA)(w':a6):Prop:=
 ∃s A n cap,e= .returned (.agg #[.bool s,.slice A n cap])∧Zr w' w.heap.size s A n cap z∧Ext w w'
theorem qY {w:a6}(h:s'=decide (sg s m<0))(hn:n=(wd m).length)(ho:Own w base 65 1 A n cap ((wd m).map aW))(hz:sg s m=z):Zr w base s' A n cap z:=by
 have e:z.natAbs=m:=by rw [←hz,uS]
 rw [hz] at h
 exact⟨h,by unfold ln;rw [e];exact hn,by rw [e];exact ho⟩
theorem Bk.two {w:a6}{a b:aH}(h:Bk w g t [a,b]):w.cell? ⟨g,0,none⟩=some a∧w.cell? ⟨g,1,none⟩=some b∧w.frozen? ⟨g,0,none⟩=false∧w.frozen? ⟨g,1,none⟩=false:=
 ⟨h.cell (i:=0) (by simp),h.cell (i:=1) (by simp),h.frozen 0,h.frozen 1⟩
theorem Bk.two_set {w:a6}{a b:aH}(h:Bk w g t [a,b])(u v:aH):Bk ((w.setCell ⟨g,0,none⟩ u).setCell ⟨g,1,none⟩ v) g t [u,v]:=(h.set 0 u).set 1 v
theorem Upd.two {w:a6}(u v:aH):Upd g w ((w.setCell ⟨g,0,none⟩ u).setCell ⟨g,1,none⟩ v):=((Upd.refl g w).setCell 0 u).setCell 1 v
theorem Bk.sec {w:a6}{l:Array aH}{a b:aH}:Bk ((w.alloc (.cells l t')).alloc (.cells #[a,b] t)) (w.heap.size+1) t [a,b]:=by
 have:=Bk.new (w.alloc (.cells l t')) t [a,b]
 simpa using this
theorem Bk.thi {w:a6}{t'':aT}{l:Array aH}{a b:aH}:Bk (((w.alloc (.cells l t')).alloc (.cells l' t'')).alloc (.cells #[a,b] t)) (w.heap.size+2) t [a,b]:=by
 have:=Bk.new ((w.alloc (.cells l t')).alloc (.cells l' t'')) t [a,b]
 simpa using this
theorem MW (w:a6)(t t':aT)(a b c d:aH):∃g g2 wa,w.heap.size+1=g2∧w.heap.size=g∧(w.alloc (.cells #[a,b] t)).alloc (.cells #[c,d] t')=wa∧Bk wa g t [a,b]∧Bk wa g2 t' [c,d]∧Ext w wa∧g<g2∧g2<wa.heap.size∧g≠g2∧g2≠g:=
 ⟨_,_,_,rfl,rfl,rfl,(Bk.new w t [a,b]).alloc _,Bk.sec,((Ext.refl w).alloc _).alloc _,by omega,by simp,by omega,by omega⟩
theorem a1f (w:a6)(t t' t'':aT)(a b c d e f:aH):∃g g2 g3 wa,w.heap.size+1+1=g3∧w.heap.size+1=g2∧w.heap.size=g∧((w.alloc (.cells #[a,b] t)).alloc (.cells #[c,d] t')).alloc (.cells #[e,f] t'')=wa∧Bk wa g t [a,b]∧Bk wa g2 t' [c,d]∧Bk wa g3 t'' [e,f]∧Ext w wa∧g<g2∧g2<g3∧g3<wa.heap.size∧g≠g2∧g2≠g∧g≠g3∧g3≠g∧g2≠g3∧g3≠g2:=
 ⟨_,_,_,_,rfl,rfl,rfl,rfl,((Bk.new w t [a,b]).alloc _).alloc _,Bk.sec.alloc _,Bk.thi,(((Ext.refl w).alloc _).alloc _).alloc _,by omega,by omega,by simp,by omega,by omega,by omega,by omega,by omega,by omega⟩
theorem tN {w w2:a6}{x y:aH}(_hb:Bk w2 g T [x,y])(hz:Zr w2 base s A n cap z)(hg:g<base)(he:Ext w w2)(hw:w.heap.size≤g:=by omega):
  sD w z (.returned (.agg #[.bool s,.slice A n cap])) ((w2.setCell ⟨g,0,none⟩ (.bool s)).setCell ⟨g,1,none⟩ (.slice A n cap)):=
 ⟨s,A,n,cap,rfl,(hz.upd hg (Upd.two _ _)).mono (by omega),(Upd.two _ _).ext he hw⟩
theorem t7 {w:a6}{a b:aH}{s:Tmp}(hf:fn.results= #[.cell s 24])(hs:tmps.getD s undef= .pointer (some ⟨g,0,none⟩))(h:Bk w g t [a,b]):(results fn tmps).run aF w= .ok (.agg #[a,b]) w:=by
 obtain⟨h1,h2,_,_⟩:=h.two
 have hs2:tmps[s]?.getD undef= .pointer (some ⟨g,0,none⟩):=by simpa using hs
 simp [results,hf,hs2,loadVar,loadCells,loadCellsFrom,go_sem,h1,h2]
def cW (x y:Int):Int:=if x<y then-1 else if x=y then 0 else 1
theorem GM (x y:Int): -1≤cW x y∧cW x y≤1:=by unfold cW;split <;> (try split) <;> omega
theorem sX {x y:Int}:cW x y<0↔x<y:=by unfold cW;split <;> (try split) <;> omega
theorem xO {x y:Int}:cW x y=0↔x=y:=by unfold cW;split <;> (try split) <;> omega
def E7 (v:Int)(w:a6)(e:fA)(w':a6):Prop:=∃c:Int,Hid (c=v)∧ -1≤c∧c≤1∧e= .returned (.int .i64 c)∧Ext w w'
theorem sO {w:a6}(hn:n=(wd m).length):
  aO aF 124 #[.bool s,.slice A n cap] w fun e w'=>∃s',e= .returned (.agg #[.bool s',.slice A n cap])∧Hid (s'=decide (sg s m<0))∧Ext w w':=by
 have hm:decide (0<m)=decide (0<n):=by
  by_cases h:m=0
  ·rw [h] at hn⊢;rw [hn];rfl
  ·have:n≠0:=fun e=>h (jN.1 (by rw [←hn,e]))
   rw [decide_eq_true (show 0<m by omega),decide_eq_true (show 0<n by omega)]
 have HM:Hid (decide (sg s m<0)=(s&&decide (0<n))):=(show _=_ by rw [GI,hm])
 clear hm hn
 go_enter Tryz.func124,Tryz.ntmps124
 cases s
 ·go_wp2_with fail
  refine nD (v:= .agg #[.bool false,.slice A n cap]) (by simp [results,Tryz.results124,go_sem]) rfl ?_
  exact⟨_,rfl,(show _=_ by rw [HM.out];rfl),(Ext.refl w).alloc _⟩
 ·by_cases h:n=0
  ·subst h
   go_wp2_with fail
   refine nD (v:= .agg #[.bool false,.slice A 0 cap]) (by simp [results,Tryz.results124,go_sem]) rfl ?_
   exact⟨_,rfl,(show _=_ by rw [HM.out];rfl),(Ext.refl w).alloc _⟩
  ·have h0:0<n:=by omega
   have hd:decide (0<n)=true:=decide_eq_true h0
   have hi:0<(n:Int):=by omega
   go_wp2_with fail
   refine nD (v:= .agg #[.bool true,.slice A n cap]) (by simp [results,Tryz.results124,go_sem]) rfl ?_
   exact⟨_,rfl,(show _=_ by rw [HM.out,hd];rfl),(Ext.refl w).alloc _⟩
theorem OG {w:a6}{x:Int}(hx:Zi w s A n cap x)(hl:n≤68719476736):
  aO aF 60 #[.agg #[.bool s,.slice A n cap]] w (sD w (x)):=by
 obtain⟨xs,hr,rfl⟩:=hx
 go_enter Tryz.func60,Tryz.ntmps60
 go_upto_region 1 with (fail)
 obtain⟨g,g2,wa,hg2,hg,hwa,hb1,hb2,hea,l12,l2,n12,n21⟩:=MW w 24 24 (.bool s) (.slice A n cap) (.bool false) (.slice none 0 0)
 rw [hg2,hg,hwa]
 have hgw:w.heap.size≤g:=Nat.le_of_eq hg
 clear hwa hg hg2
 obtain⟨f1,f2,f3,f4⟩:=hb1.two
 obtain⟨k1,k2,k3,k4⟩:=hb2.two
 go_region_held3 (fun w'=>w'.cell? ⟨g,0,none⟩=some (.bool s)∧w'.cell? ⟨g,1,none⟩=some (.slice A n cap)) (go_keep)
  (first
  | (go_at_call 141;refine (mW (hr.ext (by repeat (first | exact Ext.refl _ | assumption | apply Ext.drewN | apply Ext.drew | apply Ext.alloc)))).mono ?_;rintro e w1 ⟨A1,n1,c1,rfl,hn1,hr1,ho1,hx1⟩;have he1:Ext wa w1:=Ext.trans (by repeat (first | exact Ext.refl _ | assumption | apply Ext.drewN | apply Ext.drew | apply Ext.alloc)) hx1;have hc1:=hb1.ext he1;have hc2:=hb2.ext he1;obtain⟨f1',f2',f3',f4'⟩:=hc1.two;obtain⟨k1',k2',k3',k4'⟩:=hc2.two)
  | (go_at_call 124;refine (sO hn1.out).mono ?_;rintro e w2 ⟨s',rfl,hs',hx2⟩;have hd1:=hc1.ext hx2;have hd2:=hc2.ext hx2;obtain⟨f1'',f2'',f3'',f4''⟩:=hd1.two;obtain⟨k1'',k2'',k3'',k4''⟩:=hd2.two))
 go_wp2_with fail
 refine nD (t7 rfl rfl (hd2.two_set _ _)) rfl ?_
 exact tN hd2 ((qY hs'.out hn1.out ho1 rfl).ext hx2) (by first | omega | (simp;omega)) (hea.trans (he1.trans hx2))
theorem B4 {w:a6}{x:Int}(hx:Zi w s A n cap x)(hl:n≤68719476736):
  aO aF 63 #[.agg #[.bool s,.slice A n cap]] w (E7 (cW x 0) w):=by
 obtain⟨xs,hr,rfl⟩:=hx
 go_enter Tryz.func63,Tryz.ntmps63
 go_upto_region 1 with (fail)
 have hb1:=Bk.new w 24 [.bool s,.slice A n cap]
 obtain⟨wa,hwa⟩:∃wa,w.alloc (.cells #[.bool s,.slice A n cap] 24)=wa:=⟨_,rfl⟩
 rw [hwa]
 obtain⟨g,hg⟩:∃g,w.heap.size=g:=⟨_,rfl⟩
 rw [hg] at hb1⊢
 have hb1':Bk wa g 24 [.bool s,.slice A n cap]:=by rw [←hwa];exact hb1
 have hea:Ext w wa:=by rw [←hwa];exact (Ext.refl w).alloc _
 clear hwa hg hb1
 obtain⟨f1,f2,f3,f4⟩:=hb1'.two
 go_wp2_with fail
 refine (CK (hr.ext hea) (by omega)).mono ?_
 rintro e w1 ⟨b,hb,rfl,hx1'⟩
 have hx1:=hea.trans hx1'
 obtain⟨f1',f2',f3',f4'⟩:=(hb1'.ext hx1').two
 by_cases h0:b=0
 ·subst h0
  have hz:nv xs=0:=kD.1 hb.out.symm
  have HZ:=Lib.hid hz
  clear hz
  go_wp2_with fail
  go_ret
  exact⟨0,(show _=_ by rw [HZ.out,RL];rfl),by omega,by omega,rfl,hx1⟩
 ·have bb:((b:Int)==0)=false:=by simp;omega
  have hz:0<nv xs:=Nat.pos_of_ne_zero (fun e=>h0 (by rw [hb.out,e];rfl))
  have HZ:=Lib.hid hz
  clear hz h0
  cases s
  ·go_wp2_with fail
   go_ret
   refine⟨1,?_,by omega,by omega,rfl,hx1⟩
   show _=_
   rw [k7,cW,if_neg (by omega),if_neg (by have:=HZ.out;omega)]
  ·go_wp2_with fail
   go_ret
   refine⟨-1,?_,by omega,by omega,rfl,hx1⟩
   show _=_
   rw [l9,cW,if_pos (by have:=HZ.out;omega)]
def AL (b:Bool)(w:a6)(e:fA)(w':a6):Prop:=e= .returned (.bool b)∧Ext w w'
theorem TU {w:a6}{B:Option aC}(hx:Rd w A n cap xs)(hl:n≤1099511627776)(hy:Rd w B n' cap' ys)(hl':n'≤1099511627776):
  aO aF 108 #[.slice A n cap,.slice B n' cap'] w (AL (decide (xs=ys)) w):=by
 have hlx:=Lib.hid hx.len
 have hly:=Lib.hid hy.len
 by_cases hn:n=n'
 ·subst hn
  have h1:((n:Int) != (n:Int))=false:=by simp
  go_enter Tryz.func108,Tryz.ntmps108
  go_wp2_with fail
  go_loopw [5] (fun u wr=>∃i:Nat,i≤n∧u= .int .i64 (i:Int)∧Hid (xs.take i=ys.take i)∧Ext w wr) (fun u wr=>n-(intOf u).toNat)
  case atStart=>exact⟨0,bW _,rfl,rfl,Ext.refl w⟩
  case round=>
   obtain⟨i,hi,rfl,hv,hext⟩:=hrel
   by_cases h0:i<n
   ·obtain⟨a,p,rfl,hxk,hxb,hc⟩:=(hx.ext hext).get (i:=i) (by omega)
    obtain⟨b,q,rfl,hyk,hyb,hd⟩:=(hy.ext hext).get (i:=i) (by omega)
    by_cases hpq:p=q
    ·subst hpq
     have h2:((p:Int) != (p:Int))=false:=by simp
     go_wp2_with fail
     go_quiet (fail)
     go_wp2_with fail
     go_roundw
     case rel=>
      refine⟨i+1,by omega,by go_num,?_,(by repeat (first | exact Ext.refl _ | assumption | apply Ext.drewN | apply Ext.drew | apply Ext.alloc))⟩
      show _=_
      rw [uO xs i (by rw [hlx.out];omega) 0,uO ys i (by rw [hly.out];omega) 0,hv.out,hxk.out,hyk.out]
     case measure=>simp [intOf];omega
    ·have h2:((p:Int) != (q:Int))=true:=by simp;omega
     go_wp2_with fail
     go_quiet (fail)
     go_wp2_with fail
     go_ret
     have hne:decide (xs=ys)=false:=by
      refine decide_eq_false (fun e=>hpq ?_)
      rw [←hxk.out,←hyk.out,e]
     rw [hne]
     exact⟨rfl,(by repeat (first | exact Ext.refl _ | assumption | apply Ext.drewN | apply Ext.drew | apply Ext.alloc))⟩
   ·go_wp2_with fail
    go_ret
    have he:decide (xs=ys)=true:=by
     refine decide_eq_true ?_
     have h:=hv.out
     rwa [List.take_of_length_le (by rw [hlx.out];omega),List.take_of_length_le (by rw [hly.out];omega)] at h
    rw [he]
    exact⟨rfl,hext⟩
 ·have h1:((n:Int) != (n':Int))=true:=by simp;omega
  go_enter Tryz.func108,Tryz.ntmps108
  go_wp2_with fail
  go_ret
  have hne:decide (xs=ys)=false:=decide_eq_false (fun e=>hn (by rw [←hlx.out,←hly.out,e]))
  rw [hne]
  exact⟨rfl,Ext.refl w⟩
theorem Own.updT {w w':a6}{s:Nat}(h:Own w base t s A n cap vs)(hb:Bk w g T us)(hT:t≠T)(e:Upd g w w'):Own w' base t s A n cap vs:=by
 refine h.upd e (fun a ha hg=>?_)
 rcases h with⟨h,_⟩ | ⟨k,cs,hA,_,hk,_⟩
 ·rw [h] at ha;cases ha
 ·rw [hA] at ha
  cases ha
  simp only at hg
  subst hg
  unfold Bk at hk hb
  rw [hk] at hb
  injection hb with hb
  injection hb with h1 h2
  exact hT h2
theorem Zr.updT {w w':a6}(h:Zr w base s A n cap z)(hb:Bk w g T us)(e:Upd g w w')(hT:65≠T:=by decide):Zr w' base s A n cap z:=
 ⟨h.sgn,h.len,h.own.updT hb hT e⟩
theorem Bk.updN {w w':a6}(h:Bk w g T vs)(e:Upd g' w w')(hne:g≠g'):Bk w' g T vs:=h.upd e hne
theorem GK {x y:Int}(h:x<y):dY .lss (cW x y) 0=some true:=by
 have e:=sX.2 h
 simp only [dY,fL,decide_eq_true_eq];exact e
theorem GL {x y:Int}(h:y≤x):dY .lss (cW x y) 0=some false:=by
 have e:¬cW x y<0:=fun e=>by have:=sX.1 e;omega
 simp only [dY,fL,decide_eq_false_iff_not];exact e
structure AggT (P:cD)(T:aT)(k:Nat):Prop where
 agg:∀w,(isAgg T).run P w= .ok true w
 size:∀w,(sizeOf T).run P w= .ok k w
theorem BV {w:a6}(h:w.cell? p=some v):(load p).run P w= .ok v w:=by
 simp only [load,Sem.run,h]
theorem BS {w:a6}(h:w.cell? p=some u)(hf:w.frozen? p=false)(h1:v.oneCell'=true):(store p v).run P w= .ok () (w.setCell p v):=by
 rw [run_store P w p v .plain h1,h,hf];rfl
theorem xY {P:cD}{w:a6}{p:aC}:∀(vs:List aH) (i:Nat) (acc:Array aH),(∀j,j<vs.length→w.cell? (p.add (i+j))=some (vs.getD j undef))→
  (loadCellsFrom p i vs.length acc).run P w= .ok (acc++vs.toArray) w
 | [],i,acc,_=>by simp [loadCellsFrom]
 | v::vs,i,acc,h=>by
  have h0:=h 0 (by simp)
  simp only [dN,List.getD_cons_zero] at h0
  have ih:=xY (P:=P) (p:=p) vs (i+1) (acc.push v) (fun j hj=>by
   have:=h (j+1) (by simpa using hj)
   rw [show i+1+j=i+(j+1) by omega]
   simpa using this)
  show ((load (p.add i)>>=fun v=>loadCellsFrom p (i+1) vs.length (acc.push v):Sem (Array aH))).run P w=_
  have e:(load (p.add i)).run P w= .ok v w:=BV h0
  rw [cK,e]
  simp only [f8,ih]
  simp
theorem gB {w:a6}(hT:AggT P T k)(hb:Bk w g T' vs)(us:List aH)(hu:us.length=k)(hle:off+k≤vs.length)(he:(vs.drop off).take k=us):
  (loadVar T ⟨g,off,none⟩).run P w= .ok (.agg us.toArray) w:=by
 subst hu
 have h1:=xY (P:=P) (w:=w) (p:=⟨g,off,none⟩) us 0 #[] (fun j hj=>by
  rw [f9,kX,hb.cell (by omega)]
  congr 1
  rw [←he]
  simp only [bC,kJ,oK]
  rw [if_pos hj])
 unfold loadVar loadCells
 rw [cK,hT.agg w]
 simp only [f8,if_true,cK,hT.size w,h1]
 simp
theorem aY {w:a6}(hT:∀w,(isAgg T).run P w= .ok false w)(hb:Bk w g T' vs)(hv:vs[i]?=some v):(loadVar T ⟨g,i,none⟩).run P w= .ok v w:=by
 have hi:i<vs.length:=(iO.1 hv).1
 have hc:=hb.cell hi
 rw [bC,hv] at hc
 unfold loadVar
 rw [cK,hT w]
 simp only [f8,B2,if_false]
 exact BV hc
def m8 (vs:List aH)(off:Nat)(us:List aH):List aH:=vs.take off++us++vs.drop (off+us.length)
theorem xK {P:cD}{g:Nat}{T:aT}:∀(us:List aH) (i off:Nat) (w:a6) (vs:List aH),Bk w g T vs→off+i+us.length≤vs.length→(∀u∈us,u.oneCell'=true)→
  ∃w',(storeCells ⟨g,off,none⟩ us i).run P w= .ok () w'∧Bk w' g T (m8 vs (off+i) us)∧Upd g w w'∧w'.heap.size=w.heap.size
 | [],i,off,w,vs,hb,_,_=>⟨w,rfl,by simpa [m8] using hb,Upd.refl g w,rfl⟩
 | u::us,i,off,w,vs,hb,hle,h1=>by
  have hi:off+i<vs.length:=by simp at hle;omega
  have hc:=hb.cell hi
  have hf:=hb.frozen (off+i)
  have hb1:=hb.set (off+i) u
  obtain⟨w',hr,hb2,hu,hs⟩:=xK (P:=P) us (i+1) off (w.setCell ⟨g,off+i,none⟩ u) (vs.set (off+i) u) hb1 (by simp at hle⊢;omega) (fun x hx=>h1 x (by simp [hx]))
  refine⟨w',?_,?_,((Upd.refl g w).setCell (off+i) u).trans hu,by rw [hs];simp [tY]⟩
  ·show ((store ((⟨g,off,none⟩:aC).add i) u>>=fun _=>storeCells ⟨g,off,none⟩ us (i+1):Sem Unit)).run P w=_
   rw [kX,cK,BS hc hf (h1 u (by simp))]
   exact hr
  ·have e:m8 (vs.set (off+i) u) (off+(i+1)) us=m8 vs (off+i) (u::us):=by
    unfold m8
    have e1:(vs.set (off+i) u).take (off+(i+1))=vs.take (off+i)++ [u]:=by
     rw [show off+(i+1)=off+i+1 by omega,uO _ _ (by simpa using hi) undef,List.take_set_of_le (b8 _)]
     congr 2
     rw [bC,List.getElem?_set_self hi];rfl
    rw [e1,List.drop_set_of_lt (by omega)]
    simp only [cO,List.append_assoc,List.cons_append,List.nil_append]
    rw [show off+(i+1)+us.length=off+i+(us.length+1) by omega]
   rw [←e];exact hb2
theorem SP {w:a6}(hT:AggT P T k)(hk:us.length=k)(hb:Bk w g T' vs)(hle:off+k≤vs.length)(h1:us.all (·.oneCell')=true)(us':List aH)(he:m8 vs off us=us'):
  ∃w',(storeVar T ⟨g,off,none⟩ (.agg us.toArray)).run P w= .ok () w'∧Bk w' g T' us'∧Upd g w w'∧w'.heap.size=w.heap.size:=by
 subst hk
 obtain⟨w',hr,hb2,hu,hs⟩:=xK (P:=P) us 0 off w vs hb (by omega) (by simpa [fU] using h1)
 rw [dN,he] at hb2
 refine⟨w',?_,hb2,hu,hs⟩
 unfold storeVar
 rw [cK]
 show ((sizeOf T).run P w).andThen _=_
 rw [hT.size w]
 have e:(Value.agg us.toArray).cells=us.toArray:=rfl
 simp only [f8,e,AO,ne_eq,not_true,if_false]
 exact hr
theorem OW {Q:dR→Act→a6→Prop}{l:Fr}{w:a6}(hw:dI ops l gd=some true)(hx:bZ l x=some (.pointer (some ⟨g,off,none⟩)))(hy:bZ l y=some (.agg us.toArray))(hT:AggT P T k)(hk:us.length=k)(hb:Bk w g T' vs)(hle:off+k≤vs.length)(h1:us.all (·.oneCell')=true)(us':List aH)(he:m8 vs off us=us')(h:∀w',Bk w' g T' us'→Upd g w w'→w'.heap.size=w.heap.size→wl P ops Q n rest l w'):wl P ops Q n (⟨none,.store T x y,ty,pos,af,gd⟩::rest) l w:=by
 obtain⟨w',hr,hb2,hu,hs⟩:=SP (P:=P) hT hk hb hle h1 us' he
 exact wY hw (p:=⟨g,off,none⟩) hx hy (w':=w') hr (h w' hb2 hu hs)
theorem eB {Q:dR→Act→a6→Prop}{l:Fr}{w:a6}(hw:dI ops l gd=some true)(hx:bZ l x=some (.pointer (some ⟨g,off,none⟩)))(hy:bZ l y=some v)(hT:∀w,(sizeOf T).run P w= .ok 1 w)(hv:v.cells= #[v])(hb:Bk w g T' vs)(hle:off<vs.length)(h1:v.oneCell'=true)(us':List aH)(he:vs.set off v=us')(h:∀w',Bk w' g T' us'→Upd g w w'→w'.heap.size=w.heap.size→wl P ops Q n rest l w'):wl P ops Q n (⟨none,.store T x y,ty,pos,af,gd⟩::rest) l w:=by
 have hb2:=hb.set off v
 rw [he] at hb2
 refine wY hw (p:=⟨g,off,none⟩) hx hy (w':=w.setCell ⟨g,off,none⟩ v) ?_ (h _ hb2 ((Upd.refl g w).setCell off v) (by simp [tY]))
 unfold storeVar
 rw [cK]
 show ((sizeOf T).run P w).andThen _=_
 rw [hT w]
 simp only [f8,hv,AO,cO,List.length_nil,ne_eq,not_true,f9,if_false]
 show ((store ((⟨g,off,none⟩:aC).add 0) v>>=fun _=>storeCells ⟨g,off,none⟩ [] (0+1):Sem Unit)).run P w=_
 rw [kX,dN,cK,BS (hb.cell hle) (hb.frozen off) h1]
 rfl
section
variable {P:cD}{Q:dR→Act→a6→Prop}{n:Nat}{l:Fr}{w:a6}{ops:Array aX}{rest:List aX}{d:Nat}{ty:aT}{pos:String}{af:Array fD}{gd:Option (Nat×Bool)}
theorem SV {s:Nat}{a:aC}{k:jA}{i:Int}(hT:P.underlying t=some (.slice e))(hs:∀w,(sizeOf e).run P w= .ok s w)(h0:0≤i)(h1:i<m):
  (Instr.indexAt t (.slice (some a) m c) (.int k i)).run P w= .ok (.pointer (some (a.add (i.toNat*s)))) w:=by
 have hu:(underlying t).run P w= .ok (.slice e) w:=kZ hT w
 unfold Instr.indexAt
 simp only [asIntOf,cK,gN,f8,hu]
 rw [if_pos ⟨h0,h1⟩]
 simp only [cK,hs w,f8,gN]
def J9 (v:Option aH)(k:Nat)(dflt:Nat):Prop:=(v=none∧k=dflt)∨v=some (.int .i64 (k:Int))
theorem uW {k:BoundsCode}(h:i≤cap):(Instr.sliceBound (.int .i64 (i:Int)) cap k).run P w= .ok i w:=by
 unfold Instr.sliceBound
 simp only [asIntOf,cK,gN,f8]
 rw [if_pos ⟨by omega,by omega⟩]
 rfl
theorem SR {s lo:Nat}(hT:P.underlying t=some (.slice e))(hs:∀w,(sizeOf e).run P w= .ok s w)(h1:J9 low lo 0)(h2:J9 high hi m)(h3:lo≤hi)(h4:hi≤c):
  (Instr.sliceAt t (.slice A m c) low high none).run P w= .ok (.slice (if c=lo then A else A.map (·.add (lo*s))) (hi-lo) (c-lo)) w:=by
 have hu:(underlying t).run P w= .ok (.slice e) w:=kZ hT w
 have hb:(Instr.sliceBounds true m c low high none).run P w= .ok (lo,hi,c) w:=by
  unfold Instr.sliceBounds
  rcases h1 with⟨rfl,rfl⟩ | rfl <;> rcases h2 with⟨rfl,rfl⟩ | rfl
  ·simp only [cK,gN,f8]
  ·simp only [cK,gN,f8,uW h4,if_true]
  ·simp only [cK,gN,f8,Option.isSome,uW h3]
  ·simp only [cK,gN,f8,Option.isSome,uW h4,uW h3,if_true]
 unfold Instr.sliceAt
 simp only [cK,hu,f8]
 unfold Instr.slice
 simp only [cK,hu,f8,hb,hs w,gN]
theorem jT (hw:dI ops l gd=some true){s lo:Nat}(hx:bZ l x=some (.slice A m c))(hT:P.underlying t=some (.slice e))(hs:∀w,(sizeOf e).run P w= .ok s w)(h1:match lo' with | none=>lo=0 | some y=>bZ l y=some (.int .i64 (lo:Int)))(h2:match hi' with | none=>hi=m | some y=>bZ l y=some (.int .i64 (hi:Int)))(h3:lo≤hi)(h4:hi≤c)(hv:wK (if c=lo then A else A.map (·.add (lo*s))) (hi-lo) (c-lo)=v)(hn:d<n)(h:wl P ops Q n rest ((d,v)::l) w):wl P ops Q n (⟨some d,.slice t x lo' hi' none,ty,pos,af,gd⟩::rest) l w:=
 fJ hw hn (fun a' ha=>by
  have e:(Instr.sliceAt t (a'.eval x) (lo'.map a'.eval) (hi'.map a'.eval) (Option.map a'.eval none)).run P w= .ok v w:=by
   rw [ha.ev hx,←hv]
   refine SR hT hs ?_ ?_ h3 h4
   ·cases lo' with
    | none=>exact cE ⟨rfl,h1⟩
    | some y=>exact bR (by show some (a'.eval y)=_;rw [ha.ev h1])
   ·cases hi' with
    | none=>exact cE ⟨rfl,h2⟩
    | some y=>exact bR (by show some (a'.eval y)=_;rw [ha.ev h2])
  show ((Instr.sliceAt t (a'.eval x) (lo'.map a'.eval) (hi'.map a'.eval) (Option.map a'.eval none)>>=fun r=>pure (fZ r):Sem fH)).run P w=_
  rw [cK,e];rfl) h
theorem cZ (hT:∀w,(isAgg T).run P w= .ok false w)(hc:w.cell? p=some v):(loadVar T p).run P w= .ok v w:=by
 unfold loadVar
 rw [cK,hT w]
 simp only [f8,B2,if_false]
 exact BV hc
end
theorem a1z (a:aC):a.add 0=a:=by simp [oL]
theorem CX {a b:Int}(h:b≤a):dY .geq a b=some true:=by simp only [dY,fL,decide_eq_true_eq];omega
theorem jG {a b:Int}(h:a<b:=by omega):dY .geq a b=some false:=by simp only [dY,fL,decide_eq_false_iff_not];omega
theorem pB {a b:Int}(h:a<b):dY .lss a b=some true:=by simp only [dY,fL,decide_eq_true_eq];omega
theorem mB {a b:Int}(h:b≤a:=by omega):dY .lss a b=some false:=by simp only [dY,fL,decide_eq_false_iff_not];omega
theorem qS {a b:Int}(h:b<a):dY .gtr a b=some true:=by simp only [dY,fL,decide_eq_true_eq];omega
theorem pF {a b:Int}(h:a≤b:=by omega):dY .gtr a b=some false:=by simp only [dY,fL,decide_eq_false_iff_not];omega
theorem KK {a b:Int}(h:a≤b):dY .leq a b=some true:=by simp only [dY,fL,decide_eq_true_eq];omega
theorem KL {a b:Int}(h:b<a):dY .leq a b=some false:=by simp only [dY,fL,decide_eq_false_iff_not];omega
theorem gD {a b:Int}(h:a=b):dY .eql a b=some true:=by subst h;simp [dY]
theorem jH {a b:Int}(h:a≠b):dY .eql a b=some false:=by simp only [dY,fL,beq_eq_false_iff_ne,ne_eq];exact h
theorem WG {a b:Int}(h:a≠b):dY .neq a b=some true:=by simp only [dY,fL,bne_iff_ne,ne_eq];exact h
theorem JW {a b:Int}(h:a=b):dY .neq a b=some false:=by subst h;simp [dY]
theorem lJ {a b c:Int}(h:a+b=c:=by omega)(h1: -9223372036854775808≤c:=by omega)(h2:c≤9223372036854775807:=by omega):fQ .add .i64 a b=some c:=by
 simp only [fQ,fL];rw [h];exact IntWalk.i64_in _ ⟨h1,h2⟩
theorem dM {a b c:Int}(h:a-b=c)(h1: -9223372036854775808≤c:=by omega)(h2:c≤9223372036854775807:=by omega):fQ .sub .i64 a b=some c:=by
 simp only [fQ,fL];rw [h];exact IntWalk.i64_in _ ⟨h1,h2⟩
theorem E0 {a b c:Int}(h:a*b=c)(h1: -9223372036854775808≤c)(h2:c≤9223372036854775807):fQ .mul .i64 a b=some c:=by
 simp only [fQ,fL];rw [h];exact IntWalk.i64_in _ ⟨h1,h2⟩
theorem a1s {a b c:Int}(hb:b≠0)(h:a.tdiv b=c)(h1: -9223372036854775808≤c)(h2:c≤9223372036854775807):fQ .quo .i64 a b=some c:=by
 simp only [fQ];rw [if_neg hb,h,fL];exact IntWalk.i64_in _ ⟨h1,h2⟩
theorem Rd.at {w:a6}(h:Rd w A n c xs)(hi:i<n):
  ∃p,A.map (·.add (i*1))=some p∧w.cell? p=some (.int .u64 ((xs.getD i 0:Nat):Int))∧xs.getD i 0≤18446744073709551615:=by
 obtain⟨a,x,rfl,hk,hb,hc⟩:=h.get hi
 refine⟨a.add i,by rw [cI];rfl,?_,by rw [hk.out];exact hb⟩
 rw [hk.out];exact hc
theorem Rd.updL {w w':a6}(h:Rd w A n c xs)(e:Upd g w w')(hne:0<c→∀a,A=some a→a.block≠g):Rd w' A n c xs:=
 ⟨⟨h.rv.len,h.rv.le,h.rv.max,fun i hi=>by
  obtain⟨a,ha,hc⟩:=h.rv.get i hi
  exact⟨a,ha,e.cell hc (by rw [pJ];exact hne (by have:=h.rv.le;omega) a ha)⟩,fun a ha hc=>dF (h.rv.blk a ha hc) e.size⟩,h.wf⟩
theorem dP (g i:Nat):(some (⟨g,0,none⟩:aC)).map (·.add (i*1))=some ⟨g,i,none⟩:=by
 rw [cI]
 show some ((⟨g,0,none⟩:aC).add i)=_
 rw [kX,f9]
section
variable {P:cD}{Q:dR→Act→a6→Prop}{n:Nat}{l:Fr}{w:a6}{ops:Array aX}{rest:List aX}{d:Nat}{op:Op}{ty:aT}{pos:String}{af:Array fD}{gd:Option (Nat×Bool)}
theorem H7 {s:Nat}{k:jA}{i:Int}(hT:P.underlying t=some (.slice e))(hs:∀w,(sizeOf e).run P w= .ok s w)(hi:i=(j:Int))(hj:j<m)(hp:A.map (·.add (j*s))=some p):
  (Instr.indexAt t (.slice A m c) (.int k i)).run P w= .ok (.pointer (some p)) w:=by
 subst hi
 cases A with
 | none=>cases hp
 | some a=>
  have h:=SV (P:=P) (w:=w) (t:=t) (e:=e) (s:=s) (m:=m) (c:=c) (a:=a) (k:=k) (i:=(j:Int)) hT hs (by omega) (by omega)
  rw [h]
  rw [gV]
  injection hp with hp
  rw [←hp]
theorem bT (hw:dI ops l gd=some true){s:Nat}{k:jA}{i:Int}(hx:bZ l x=some (.slice A m c))(hy:bZ l y=some (.int k i))(hT:P.underlying t=some (.slice e))(hs:∀w,(sizeOf e).run P w= .ok s w)(j:Nat)(hi:i=(j:Int))(p:aC)(hp:A.map (·.add (j*s))=some p)(h:wl P ops Q n rest ((d,.pointer (some p))::l) w)(hj:j<m:=by omega)(hn:d<n:=by decide):wl P ops Q n (⟨some d,.indexAddr t x y,ty,pos,af,gd⟩::rest) l w:=
 fJ hw hn (fun a' ha=>by
  have e:(Instr.indexAt t (a'.eval x) (a'.eval y)).run P w= .ok (.pointer (some p)) w:=by rw [ha.ev hx,ha.ev hy];exact H7 hT hs hi hj hp
  show ((Instr.indexAt t (a'.eval x) (a'.eval y)>>=fun r=>pure (fZ r):Sem fH)).run P w=_
  rw [cK,e];rfl) h
theorem gX {s:Nat}{k:jA}{i:Int}(hx:bZ l x=some (.slice A m c))(hy:bZ l y=some (.int k i))(hT:P.underlying t=some (.slice e))(hs:∀w,(sizeOf e).run P w= .ok s w)(j:Nat)(hi:i=(j:Int))(p:aC)(hp:A.map (·.add (j*s))=some p)(hj:j<m:=by omega):iT P n l ⟨dst,.indexAddr t x y,ty,pos,af,gd⟩ w (.value (.pointer (some p))) w:=fun a' ha=>by
 have e:(Instr.indexAt t (a'.eval x) (a'.eval y)).run P w= .ok (.pointer (some p)) w:=by rw [ha.ev hx,ha.ev hy];exact H7 hT hs hi hj hp
 show ((Instr.indexAt t (a'.eval x) (a'.eval y)>>=fun r=>pure (fZ r):Sem fH)).run P w=_
 rw [cK,e];rfl
theorem qE {k:jA}{a b:Int}(hx:bZ l x=some (.int k a))(hy:bZ l y=some (.int k b))(c:Bool)(hc:dY o a b=some c):iT P n l ⟨dst,.binOp o t x y t',ty,pos,af,gd⟩ w (.value (.bool c)) w:=fun a' ha=>by
 have e:((do eqGuard o t x y (a'.eval x) (a'.eval y);binOp o t (a'.eval x) (a'.eval y)):Sem aH).run P w= .ok (.bool c) w:=by
  rw [ha.ev hx,ha.ev hy];exact H8 hc
 show ((((do eqGuard o t x y (a'.eval x) (a'.eval y);binOp o t (a'.eval x) (a'.eval y)):Sem aH)>>=fun r=>pure (fZ r)):Sem fH).run P w=_
 rw [cK,e];rfl
theorem lN {k:jA}{a b:Int}(hx:bZ l x=some (.int k a))(hy:bZ l y=some (.int k b))(c:Int)(hc:fQ o k a b=some c):iT P n l ⟨dst,.binOp o t x y t',ty,pos,af,gd⟩ w (.value (.int k c)) w:=fun a' ha=>by
 have e:((do eqGuard o t x y (a'.eval x) (a'.eval y);binOp o t (a'.eval x) (a'.eval y)):Sem aH).run P w= .ok (.int k c) w:=by
  rw [ha.ev hx,ha.ev hy];exact H9 hc
 show ((((do eqGuard o t x y (a'.eval x) (a'.eval y);binOp o t (a'.eval x) (a'.eval y)):Sem aH)>>=fun r=>pure (fZ r)):Sem fH).run P w=_
 rw [cK,e];rfl
theorem uV {w:a6}(hT:∀w,(sizeOf T).run P w= .ok 1 w)(hv:v.cells= #[v])(hb:Bk w g T' vs)(hle:off<vs.length)(h1:v.oneCell'=true)(us':List aH)(he:vs.set off v=us'):
  ∃w',(storeVar T ⟨g,off,none⟩ v).run P w= .ok () w'∧Bk w' g T' us'∧Upd g w w'∧w'.heap.size=w.heap.size:=by
 have hb2:=hb.set off v
 rw [he] at hb2
 refine⟨w.setCell ⟨g,off,none⟩ v,?_,hb2,(Upd.refl g w).setCell off v,by simp [tY]⟩
 unfold storeVar
 rw [cK]
 show ((sizeOf T).run P w).andThen _=_
 rw [hT w]
 simp only [f8,hv,AO,cO,List.length_nil,ne_eq,not_true,f9,if_false]
 show ((store ((⟨g,off,none⟩:aC).add 0) v>>=fun _=>storeCells ⟨g,off,none⟩ [] (0+1):Sem Unit)).run P w=_
 rw [kX,dN,cK,BS (hb.cell hle) (hb.frozen off) h1]
 rfl
theorem l7 {z:aH}(hw:dI ops l gd=some true){i:Int}(hx:bZ l x=some (.int .i64 i))(hy:bZ l y=some (.int .i64 i))(hi:i=(k:Int))(ht:P.underlying t=some (.slice e))(hinfo:(P.info? e).map (fun i=>(i.zero,i.size,i.bytes))=some (some z,1,bytes))(hz:z.cells= #[z])(h:∀g w',w.heap.size=g→Bk w' g e (bP k z)→Ext w w'→wl P ops Q n rest ((d,.slice (some ⟨g,0,none⟩) k k)::l) w')(hby:bytes≤64:=by decide)(hk:k≤1099511627776:=by omega)(hn:d<n:=by decide):wl P ops Q n (⟨some d,.makeSlice t x y,ty,pos,af,gd⟩::rest) l w:=by
 subst hi
 have hm:=lM (P:=P) ht hinfo hz hby (k:Int) (by omega) (by omega) w
 rw [gV] at hm
 refine fJ hw hn (fun a' ha=>?_) (h _ (w.alloc (.cells (zc z k) e)) rfl (Bk.new' _ _ _) ((Ext.refl w).alloc _))
 have e':(rB t (a'.eval x) (a'.eval y)).run P w= .ok (.slice (some ⟨w.heap.size,0,none⟩) k k) (w.alloc (.cells (zc z k) e)):=by rw [ha.ev hx,ha.ev hy];exact hm
 show ((rB t (a'.eval x) (a'.eval y)>>=fun r=>pure (fZ r):Sem fH)).run P w=_
 rw [cK,e'];rfl
end
theorem iW {w:a6}(hT:∀w,(isAgg T).run P w= .ok false w)(hb:Bk w g T' (l.map aW))(hi:i<l.length):(loadVar T ⟨g,i,none⟩).run P w= .ok (.int .u64 ((l.getD i 0:Nat):Int)) w:=by
 refine aY hT hb ?_
 simp [bC,cJ hi]
theorem hJ {x:Nat}(h:l.length=N):(l.set i x).length=N:=by rw [List.length_set];exact h
theorem fK {f:Nat→aH}(h:i<l.length):i<(l.map f).length:=by rw [List.length_map];exact h
theorem dB {A:Int}(ha:A=(a:Int))(hb:B=(b:Int))(h:a<b:=by omega):dY .lss A B=some true:=by subst ha hb;exact pB (by omega)
theorem cX {A:Int}(ha:A=(a:Int))(hb:B=(b:Int))(h:b≤a:=by omega):dY .lss A B=some false:=by subst ha hb;exact mB
theorem lV {A:Int}(ha:A=(a:Int))(hb:B=(b:Int))(h:a≤b:=by omega):dY .leq A B=some true:=by subst ha hb;exact KK (by omega)
theorem lW {A:Int}(ha:A=(a:Int))(hb:B=(b:Int))(h:b<a:=by omega):dY .leq A B=some false:=by subst ha hb;exact KL (by omega)
theorem dJ {A:Int}(ha:A=(a:Int))(hb:B=(b:Int))(h:b<a:=by omega):dY .gtr A B=some true:=by subst ha hb;exact qS (by omega)
theorem d6 {A:Int}(ha:A=(a:Int))(hb:B=(b:Int))(h:a≤b:=by omega):dY .gtr A B=some false:=by subst ha hb;exact pF
theorem eI {A:Int}(ha:A=(a:Int))(hb:B=(b:Int))(h:b≤a:=by omega):dY .geq A B=some true:=by subst ha hb;exact CX (by omega)
theorem iF {A:Int}(ha:A=(a:Int))(hb:B=(b:Int))(h:a<b:=by omega):dY .geq A B=some false:=by subst ha hb;exact jG
theorem dA {A:Int}(ha:A=(a:Int))(hb:B=(b:Int))(h:a=b:=by omega):dY .eql A B=some true:=by subst ha hb;exact gD (by omega)
theorem dC {A:Int}(ha:A=(a:Int))(hb:B=(b:Int))(h:a≠b:=by omega):dY .eql A B=some false:=by subst ha hb;exact jH (by omega)
theorem wC {A:Int}(ha:A=(a:Int))(hb:B=(b:Int))(h:a≠b:=by omega):dY .neq A B=some true:=by subst ha hb;exact WG (by omega)
theorem lU {A:Int}(ha:A=(a:Int))(hb:B=(b:Int))(h:a=b:=by omega):dY .neq A B=some false:=by subst ha hb;exact JW (by omega)
theorem eW {A:Int}(ha:A=(a:Int))(hb:B=(b:Int))(h:a+b≤18446744073709551615:=by omega):fQ .add .u64 A B=some ((a+b:Nat):Int):=by
 subst ha hb;simp only [fQ,fL];rw [←Int.natCast_add];exact IntWalk.u64_in _ ⟨by omega,by omega⟩
theorem qW {A:Int}(ha:A=(a:Int))(hb:B=(b:Int))(h:b≤a:=by omega)(h2:a≤18446744073709551615:=by omega):fQ .sub .u64 A B=some ((a-b:Nat):Int):=by
 subst ha hb;simp only [fQ,fL];rw [show (a:Int)-(b:Int)=((a-b:Nat):Int) by omega];exact IntWalk.u64_in _ ⟨by omega,by omega⟩
theorem lX {A:Int}(ha:A=(a:Int))(hb:B=(b:Int))(h:a*b≤18446744073709551615:=by omega):fQ .mul .u64 A B=some ((a*b:Nat):Int):=by
 subst ha hb;simp only [fQ,fL];rw [←kN];exact IntWalk.u64_in _ ⟨by omega,by omega⟩
theorem iR {A:Int}(ha:A=(a:Int))(hb:B=(b:Int))(h:b≠0:=by omega)(h2:a≤18446744073709551615:=by omega):fQ .quo .u64 A B=some ((a/b:Nat):Int):=by
 subst ha hb
 have e:((a:Int)).tdiv (b:Int)=((a/b:Nat):Int):=rfl
 have h3:a/b≤a:=fI a b
 have h4:(0:Int)≤((a/b:Nat):Int):=Int.natCast_nonneg _
 have h5:((a/b:Nat):Int)≤(a:Int):=Int.ofNat_le.2 h3
 simp only [fQ];rw [if_neg (by omega),e,fL]
 generalize ((a/b:Nat):Int)=q at h4 h5
 exact IntWalk.u64_in _ ⟨by omega,by omega⟩
theorem fC {k:jA}{A:Int}(ha:A=(a:Int))(hb:B=(b:Int))(h:b≠0:=by omega):fQ .rem k A B=some ((a%b:Nat):Int):=by
 subst ha hb
 have e:((a:Int)).tmod (b:Int)=((a%b:Nat):Int):=rfl
 simp only [fQ];rw [if_neg (by omega),e]
theorem bF {A:Int}(ha:A=(a:Int))(hb:B=(b:Int))(h:a+b≤9223372036854775807:=by omega):fQ .add .i64 A B=some ((a+b:Nat):Int):=by
 subst ha hb;exact lJ
theorem eR {A:Int}(ha:A=(a:Int))(hb:B=(b:Int))(h:b≤a:=by omega)(h2:a≤9223372036854775807:=by omega):fQ .sub .i64 A B=some ((a-b:Nat):Int):=by
 subst ha hb;exact dM (by omega)
theorem nB {A:Int}(ha:A=(a:Int))(hb:B=(b:Int))(h:a*b≤9223372036854775807:=by omega):fQ .mul .i64 A B=some ((a*b:Nat):Int):=by
 subst ha hb;exact E0 (by rw [←kN]) (by omega) (by omega)
theorem iS {A:Int}(ha:A=(a:Int))(hb:B=(b:Int))(h:b≠0:=by omega)(h2:a≤9223372036854775807:=by omega):fQ .quo .i64 A B=some ((a/b:Nat):Int):=by
 subst ha hb
 have h3:a/b≤a:=fI a b
 have h4:(0:Int)≤((a/b:Nat):Int):=Int.natCast_nonneg _
 have h5:((a/b:Nat):Int)≤(a:Int):=Int.ofNat_le.2 h3
 refine a1s (by omega) rfl ?_ ?_
 ·show _≤((a/b:Nat):Int)
  generalize ((a/b:Nat):Int)=q at h4 h5
  omega
 ·show ((a/b:Nat):Int)≤_
  generalize ((a/b:Nat):Int)=q at h4 h5
  omega
theorem bN (w:a6):(sizeOf 65).run aF w= .ok 1 w:=by kernel_rfl
theorem d7 (w:a6):(isAgg 65).run aF w= .ok false w:=by kernel_rfl
theorem bU:Tryz.prog.underlying 22=some (.slice 65):=Tryz.underlying22
theorem Bk.two_far {w:a6}{l:List aH}(h:Bk w g t l)(hne:g≠g')(u v:aH):Bk ((w.setCell ⟨g',0,none⟩ u).setCell ⟨g',1,none⟩ v) g t l:=(h.far (p:=⟨g',0,none⟩) hne u).far (p:=⟨g',1,none⟩) hne v
set_option maxHeartbeats 1000000 in
theorem OJ {w:a6}{t:Bool}{B:Option aC}{x y:Int}(hx:Zi w s A n cap x)(hl:n≤274877906944)(hy:Zi w t B m cap' y)(hl':m≤274877906944):
  aO aF 68 #[.agg #[.bool s,.slice A n cap],.agg #[.bool t,.slice B m cap']] w (sD w (x+y)):=by
 obtain⟨xs,hr,rfl⟩:=hx
 obtain⟨ys,hq,rfl⟩:=hy
 go_enter Tryz.func68,Tryz.ntmps68
 go_upto_region 1 with (fail)
 obtain⟨g,g2,g3,wa,hg3,hg2,hg,hwa,hb1,hb2,hb3,hea,l12,l23,l3,n12,n21,n13,n31,n23,n32⟩:=a1f w 24 24 24 (.bool s) (.slice A n cap) (.bool t) (.slice B m cap') (.bool false) (.slice none 0 0)
 rw [hg3,hg2,hg,hwa]
 have hgw:w.heap.size≤g:=Nat.le_of_eq hg
 clear hwa hg hg2 hg3
 obtain⟨f1,f2,f3,f4⟩:=hb1.two
 obtain⟨h1,h2,h3,h4⟩:=hb2.two
 obtain⟨k1,k2,k3,k4⟩:=hb3.two
 by_cases hst:s=t
 ·have bs:(s==t)=true:=by rw [hst];cases t <;> rfl
  go_upto_region 2 with (fail)
  go_region_held3 (fun w'=>w'.cell? ⟨g,0,none⟩=some (.bool s)∧w'.cell? ⟨g,1,none⟩=some (.slice A n cap)∧w'.cell? ⟨g2,0,none⟩=some (.bool t)∧w'.cell? ⟨g2,1,none⟩=some (.slice B m cap')) (go_keep)
   (first
   | (go_at_call 145;refine (CL (hr.ext (by repeat (first | exact Ext.refl _ | assumption | apply Ext.drewN | apply Ext.drew | apply Ext.alloc))) (by omega) (hq.ext (by repeat (first | exact Ext.refl _ | assumption | apply Ext.drewN | apply Ext.drew | apply Ext.alloc))) (by omega)).mono ?_;rintro e w1 ⟨A1,n1,c1,rfl,hn1,hr1,ho1,hx1⟩;have he1:Ext wa w1:=Ext.trans (by repeat (first | exact Ext.refl _ | assumption | apply Ext.drewN | apply Ext.drew | apply Ext.alloc)) hx1;have hb1:=hb1.ext he1;have hb2:=hb2.ext he1;have hb3:=hb3.ext he1;obtain⟨f1,f2,f3,f4⟩:=hb1.two;obtain⟨h1,h2,h3,h4⟩:=hb2.two;obtain⟨k1,k2,k3,k4⟩:=hb3.two)
   | (go_at_call 124;refine (sO hn1.out).mono ?_;rintro e w2 ⟨s',rfl,hs',hx2⟩;have hd1:=hb1.ext hx2;have hd2:=hb2.ext hx2;have hd3:=hb3.ext hx2;obtain⟨f1,f2,f3,f4⟩:=hd1.two;obtain⟨h1,h2,h3,h4⟩:=hd2.two;obtain⟨k1,k2,k3,k4⟩:=hd3.two))
  go_wp2_with fail
  refine nD (t7 rfl rfl (hd3.two_set _ _)) rfl ?_
  exact tN hd3 ((qY hs'.out hn1.out ho1 (by rw [RO,hst])).ext hx2) (by first | omega | (simp;omega)) (hea.trans (he1.trans hx2))
 ·have bs:(s==t)=false:=by cases s <;> cases t <;> simp_all
  have ht:Hid (t= !s):=by show _=_;cases s <;> cases t <;> simp_all
  clear hst
  go_wp2_with fail
  refine (vN (hr.ext hea) (hq.ext hea)).mono ?_
  rintro e w1 ⟨c,hc,hcl,hch,rfl,hx1⟩
  have hb1:=hb1.ext hx1
  have hb2:=hb2.ext hx1
  have hb3:=hb3.ext hx1
  have he1:=hea.trans hx1
  have hsz:=hx1.size
  clear f1 f2 f3 f4 h1 h2 h3 h4 k1 k2 k3 k4
  obtain⟨f1,f2,f3,f4⟩:=hb1.two
  obtain⟨h1,h2,h3,h4⟩:=hb2.two
  by_cases hlt:c<0
  ·have hle:nv xs≤nv ys:=by rw [hc.out] at hlt;exact Nat.le_of_lt (pH.1 hlt)
   have HLE:=Lib.hid hle
   clear hle
   go_upto_region 5 with (fail)
   obtain⟨wb,hwb⟩:∃wb,(((w1.setCell ⟨g,0,none⟩ (.bool t)).setCell ⟨g,1,none⟩ (.slice B m cap')).setCell ⟨g2,0,none⟩ (.bool s)).setCell ⟨g2,1,none⟩ (.slice A n cap)=wb:=⟨_,rfl⟩
   rw [hwb]
   have hd1:Bk wb g 24 [.bool t,.slice B m cap']:=by rw [←hwb];exact (hb1.two_set _ _).two_far n12 _ _
   have hd2:Bk wb g2 24 [.bool s,.slice A n cap]:=by rw [←hwb];exact (hb2.two_far n21 _ _).two_set _ _
   have hd3:Bk wb g3 24 [.bool false,.slice none 0 0]:=by rw [←hwb];exact (hb3.two_far n31 _ _).two_far n32 _ _
   have heb:Ext w wb:=by
    rw [←hwb]
    exact (Upd.two _ _).ext ((Upd.two _ _).ext he1 hgw) (by omega)
   have hszb:wb.heap.size=w1.heap.size:=by rw [←hwb];simp [tY]
   clear hwb f1 f2 f3 f4 h1 h2 h3 h4
   obtain⟨f1,f2,f3,f4⟩:=hd1.two
   obtain⟨h1,h2,h3,h4⟩:=hd2.two
   go_wp2_with fail
   refine (K3 (hq.ext heb) (by omega) (hr.ext heb) (by omega) HLE.out).mono ?_
   rintro e w2 ⟨A2,n2,c2,rfl,hn2,hr2,ho2,hx2⟩
   obtain⟨f1,f2,f3,f4⟩:=(hd1.ext hx2).two
   have hd3:=hd3.ext hx2
   go_wp2_with fail
   refine (sO hn2.out).mono ?_
   rintro e w3 ⟨s',rfl,hs',hx3⟩
   have hd3:=hd3.ext hx3
   obtain⟨k1,k2,k3,k4⟩:=hd3.two
   go_wp2_with fail
   refine nD (t7 rfl rfl (hd3.two_set _ _)) rfl ?_
   exact tN hd3 ((qY hs'.out hn2.out ho2 (by rw [GH HLE.out,ht.out,Bool.not_not,Int.add_comm])).ext hx3) (by omega) (heb.trans (hx2.trans hx3))
  ·have hle:nv ys≤nv xs:=by rw [hc.out] at hlt;exact pQ (fun h=>hlt (pH.2 h))
   have HLE:=Lib.hid hle
   clear hle
   go_wp2_with fail
   refine (K3 (hr.ext he1) (by omega) (hq.ext he1) (by omega) HLE.out).mono ?_
   rintro e w2 ⟨A2,n2,c2,rfl,hn2,hr2,ho2,hx2⟩
   obtain⟨f1,f2,f3,f4⟩:=(hb1.ext hx2).two
   have hd3:=hb3.ext hx2
   go_wp2_with fail
   refine (sO hn2.out).mono ?_
   rintro e w3 ⟨s',rfl,hs',hx3⟩
   have hd3:=hd3.ext hx3
   obtain⟨k1,k2,k3,k4⟩:=hd3.two
   go_wp2_with fail
   refine nD (t7 rfl rfl (hd3.two_set _ _)) rfl ?_
   exact tN hd3 ((qY hs'.out hn2.out ho2 (by rw [GH HLE.out,ht.out])).ext hx3) (by omega) (he1.trans (hx2.trans hx3))
set_option maxHeartbeats 1000000 in
theorem OH {w:a6}{t:Bool}{B:Option aC}{x y:Int}(hx:Zi w s A n cap x)(hl:n≤68719476736)(hy:Zi w t B m cap' y)(hl':m≤68719476736):
  aO aF 64 #[.agg #[.bool s,.slice A n cap],.agg #[.bool t,.slice B m cap']] w (E7 (cW x y) w):=by
 go_enter Tryz.func64,Tryz.ntmps64
 go_upto_region 1 with (fail)
 obtain⟨g,g2,wa,hg2,hg,hwa,hb1,hb2,hea,l12,l2,n12,n21⟩:=MW w 24 24 (.bool s) (.slice A n cap) (.bool t) (.slice B m cap')
 rw [hg2,hg,hwa]
 have hgw:w.heap.size≤g:=Nat.le_of_eq hg
 clear hwa hg hg2
 obtain⟨f1,f2,f3,f4⟩:=hb1.two
 obtain⟨h1,h2,h3,h4⟩:=hb2.two
 go_region_held3 (fun w'=>w'.cell? ⟨g,0,none⟩=some (.bool s)∧w'.cell? ⟨g,1,none⟩=some (.slice A n cap)∧w'.cell? ⟨g2,0,none⟩=some (.bool t)∧w'.cell? ⟨g2,1,none⟩=some (.slice B m cap')) (go_keep)
  (first
  | (go_at_call 63;(with_reducible refine (B4 (hx.ext (hea.trans (by repeat (first | exact Ext.refl _ | assumption | apply Ext.drewN | apply Ext.drew | apply Ext.alloc)))) hl).mono ?_);rintro e w2 ⟨c,hc,hcl,hch,rfl,hx2⟩;have he2:Ext wa w2:=Ext.trans (by repeat (first | exact Ext.refl _ | assumption | apply Ext.drewN | apply Ext.drew | apply Ext.alloc)) hx2;obtain⟨f1,f2,f3,f4⟩:=(hb1.ext he2).two;obtain⟨h1,h2,h3,h4⟩:=(hb2.ext he2).two)
  | (go_at_call 63;(with_reducible refine (B4 (hy.ext (hea.trans (by repeat (first | exact Ext.refl _ | assumption | apply Ext.drewN | apply Ext.drew | apply Ext.alloc)))) hl').mono ?_);rintro e w2 ⟨d,hd,hdl,hdh,rfl,hx2⟩;have he2:Ext wa w2:=Ext.trans (by repeat (first | exact Ext.refl _ | assumption | apply Ext.drewN | apply Ext.drew | apply Ext.alloc)) hx2;obtain⟨f1,f2,f3,f4⟩:=(hb1.ext he2).two;obtain⟨h1,h2,h3,h4⟩:=(hb2.ext he2).two))
 all_goals
  have e2:=hea.trans he2
  clear hx2
  have p1:c<0↔x<0:=by rw [hc.out];exact sX
  have p2:c=0↔x=0:=by rw [hc.out];exact xO
  have p3:d<0↔y<0:=by rw [hd.out];exact sX
  have p4:d=0↔y=0:=by rw [hd.out];exact xO
  have hlt:c<d→x<y:=by omega
  have hgt:d<c→y<x:=by omega
  have H1:=Lib.hid p1
  have H2:=Lib.hid p2
  have H3:=Lib.hid p3
  have H4:=Lib.hid p4
  clear p1 p2 p3 p4
  rcases Int.lt_trichotomy c d with h | h | h
  ·have bn:(c != d)=true:=by simp;omega
   have HL:=Lib.hid (hlt h)
   clear hlt hgt
   go_wp2_with fail
   go_ret
   exact⟨-1,(show _=_ by rw [cW,if_pos HL.out]),by omega,by omega,rfl,e2⟩
  ·subst h
   have bn:(c != c)=false:=by simp
   clear hlt hgt
   obtain⟨xs,hr,hxv⟩:=hx
   obtain⟨ys,hq,hyv⟩:=hy
   have HX:=Lib.hid hxv
   have HY:=Lib.hid hyv
   clear hxv hyv
   go_wp2_with fail
   refine (vN (hr.ext e2) (hq.ext e2)).mono ?_
   rintro e w3 ⟨k,hk,hkl,hkh,rfl,hx3⟩
   have fin:c*k=cW x y:=by
    have ax:x.natAbs=nv xs:=by rw [←HX.out,uS]
    have ay:y.natAbs=nv ys:=by rw [←HY.out,uS]
    have k1:k<0↔nv xs<nv ys:=by rw [hk.out];exact pH
    have k2:0<k↔nv ys<nv xs:=by rw [hk.out];exact DS
    have p1:=H1.out
    have p2:=H2.out
    have p3:=H3.out
    have p4:=H4.out
    have hc3:c= -1∨c=0∨c=1:=by omega
    have hk3:k= -1∨k=0∨k=1:=by omega
    rcases hc3 with rfl | rfl | rfl
    ·rcases hk3 with rfl | rfl | rfl <;> (unfold cW;split <;> (try split) <;> omega)
    ·unfold cW;split <;> (try split) <;> omega
    ·rcases hk3 with rfl | rfl | rfl <;> (unfold cW;split <;> (try split) <;> omega)
   have FIN:=Lib.hid fin
   clear fin
   have hc3:c= -1∨c=0∨c=1:=by omega
   rcases hc3 with rfl | rfl | rfl
   ·go_wp2_with fail
    go_ret
    exact⟨-k,(show _=_ by rw [←FIN.out];omega),by omega,by omega,rfl,e2.trans hx3⟩
   ·go_wp2_with fail
    go_ret
    exact⟨0,(show _=_ by rw [←FIN.out];omega),by omega,by omega,rfl,e2.trans hx3⟩
   ·go_wp2_with fail
    go_ret
    exact⟨k,(show _=_ by rw [←FIN.out];omega),by omega,by omega,rfl,e2.trans hx3⟩
  ·have bn:(c != d)=true:=by simp;omega
   have hnl:¬c<d:=by omega
   have HG:=Lib.hid (hgt h)
   clear hlt hgt
   go_wp2_with fail
   go_ret
   exact⟨1,(show _=_ by have:=HG.out;rw [cW,if_neg (by omega),if_neg (by omega)]),by omega,by omega,rfl,e2⟩
theorem OE {w:a6}{v:Nat}(hv:v≤9223372036854775807):
  aO aF 61 #[.int .i64 (v:Int)] w (sD w ((v:Int))):=by
 have hn:¬(v:Int)<0:=by omega
 go_enter Tryz.func61,Tryz.ntmps61
 go_upto_region 3 with (fail)
 obtain⟨g,hg⟩:∃g,w.heap.size=g:=⟨_,rfl⟩
 obtain⟨wa,hwa⟩:∃wa,w.alloc (.cells #[.bool false,.slice none 0 0] 24)=wa:=⟨_,rfl⟩
 rw [hg,hwa]
 have hb:Bk wa g 24 [.bool false,.slice none 0 0]:=by rw [←hwa,←hg];exact Bk.new w 24 [.bool false,.slice none 0 0]
 have hea:Ext w wa:=by rw [←hwa];exact (Ext.refl w).alloc _
 have hga:w.heap.size≤g:=Nat.le_of_eq hg
 have hgl:g<wa.heap.size:=hb.lt
 clear hwa hg
 obtain⟨k1,k2,k3,k4⟩:=hb.two
 have h1:Rd (wa.alloc (.cells #[.int .u64 (v:Int)] 65)) (some ⟨wa.heap.size,0,none⟩) 1 1 [v]:=Rd.one wa (by omega)
 go_wp2_with fail
 refine (mW (h1.ext (by repeat (first | exact Ext.refl _ | assumption | apply Ext.drewN | apply Ext.drew | apply Ext.alloc)))).mono ?_
 rintro e w1 ⟨A1,n1,c1,rfl,hn1,hr1,ho1,hx1⟩
 rw [vH] at hn1 ho1
 have hx1':Ext wa w1:=Ext.trans (by repeat (first | exact Ext.refl _ | assumption | apply Ext.drewN | apply Ext.drew | apply Ext.alloc)) hx1
 have hd:=hb.ext hx1'
 have hsz:=hx1'.size
 go_wp2_with fail
 refine (sO hn1.out).mono ?_
 rintro e w2 ⟨s',rfl,hs',hx2⟩
 have hd:=hd.ext hx2
 clear k1 k2 k3 k4
 obtain⟨k1,k2,k3,k4⟩:=hd.two
 go_wp2_with fail
 refine nD (t7 rfl rfl (hd.two_set _ _)) rfl ?_
 exact tN hd ((qY hs'.out hn1.out ho1 (k7 _)).ext hx2) (by simp;omega) (hea.trans (hx1'.trans hx2))
end
section
namespace Pop
def mk (m:Nat):Nat→Nat
 | 0=>0
 | k+1=>m+256*mk m k
theorem wD (a A m M:Nat)(ha:a<256)(hm:m<256:=by omega):(a+256*A)&&& (m+256*M)=(a&&& m)+256*(A&&& M):=by
 have h1:((a+256*A)&&& (m+256*M))%2^8=a&&& m:=by
  rw [Nat.and_mod_two_pow]
  congr 1 <;> omega
 have h2:((a+256*A)&&& (m+256*M))/2^8=A&&& M:=by
  rw [Nat.and_div_two_pow]
  congr 1 <;> omega
 have h3:=jY ((a+256*A)&&& (m+256*M)) (2^8)
 rw [h1,h2] at h3
 exact h3.symm
def f1 (k x:Nat):Nat:=(x/2&&& mk 85 k)+(x&&& mk 85 k)
def f2 (k x:Nat):Nat:=(x/4&&& mk 51 k)+(x&&& mk 51 k)
def f3 (k x:Nat):Nat:=(x/16+x)&&& mk 15 k
def d1 (b:Nat):Nat:=(b/2&&& 85)+(b&&& 85)
def d2 (b:Nat):Nat:=(b/4&&& 51)+(b&&& 51)
def d3 (b:Nat):Nat:=(b/16+b)&&& 15
def pc (b:Nat):Nat:=d3 (d2 (d1 b))
theorem t1:∀b:Fin 256,∀p:Fin 2,((b.val/2+128*p.val)&&& 85)=(b.val/2&&& 85):=by decide+kernel
theorem t2:∀b:Fin 256,∀p:Fin 4,((b.val/4+64*p.val)&&& 51)=(b.val/4&&& 51):=by decide+kernel
theorem t3:∀b:Fin 256,∀p:Fin 5,((d2 (d1 b.val)/16+d2 (d1 b.val)+16*p.val)&&& 15)=pc b.val:=by decide+kernel
theorem t4:∀b:Fin 256,d1 b.val<256∧d2 (d1 b.val)<69∧d2 (d1 b.val)%16≤4∧pc b.val≤8∧(pc b.val=0→b.val=0)∧(128≤b.val→pc b.val≤1→b.val=128):=by decide+kernel
theorem a0h {B:Nat}(hb:b<256):f1 (k+1) (b+256*B)=d1 b+256*f1 k B:=by
 unfold f1 d1
 rw [show mk 85 (k+1)=85+256*mk 85 k from rfl]
 have e:(b+256*B)/2=(b/2+128*(B%2))+256*(B/2):=by omega
 rw [e,wD _ _ _ _ (by omega),wD _ _ _ _ hb,t1 ⟨b,hb⟩ ⟨B%2,by omega⟩]
 show (b/2&&& 85)+_+_=_
 omega
theorem a0g {B:Nat}(hb:b<256):f2 (k+1) (b+256*B)=d2 b+256*f2 k B:=by
 unfold f2 d2
 rw [show mk 51 (k+1)=51+256*mk 51 k from rfl]
 have e:(b+256*B)/4=(b/4+64*(B%4))+256*(B/4):=by omega
 rw [e,wD _ _ _ _ (by omega),wD _ _ _ _ hb,t2 ⟨b,hb⟩ ⟨B%4,by omega⟩]
 show (b/4&&& 51)+_+_=_
 omega
theorem q8 {B:Nat}(hb:b<256)(hB:f2 k (f1 k B)%16≤4):
  f3 (k+1) (f2 (k+1) (f1 (k+1) (b+256*B)))=pc b+256*f3 k (f2 k (f1 k B))∧f2 (k+1) (f1 (k+1) (b+256*B))%16≤4:=by
 obtain⟨h1,h2,h3,_⟩:=t4 ⟨b,hb⟩
 rw [a0h hb,a0g h1]
 refine⟨?_,by omega⟩
 generalize f2 k (f1 k B)=C at*
 unfold f3
 rw [show mk 15 (k+1)=15+256*mk 15 k from rfl]
 have e:(d2 (d1 b)+256*C)/16+(d2 (d1 b)+256*C)=(d2 (d1 b)/16+d2 (d1 b)+16*(C%16))+256*(C/16+C):=by omega
 have h2':d2 (d1 b)<69:=h2
 rw [e,wD _ _ _ _ (by omega),t3 ⟨b,hb⟩ ⟨C%16,by omega⟩]
theorem a0i {b0 b1 b2 b3 b4 b5 b6 b7:Nat}(h0:b0<256)(h1:b1<256)(h2:b2<256)(h3:b3<256)(h4:b4<256)(h5:b5<256)(h6:b6<256)(h7:b7<256):
  f3 8 (f2 8 (f1 8 (b0+256*(b1+256*(b2+256*(b3+256*(b4+256*(b5+256*(b6+256*(b7+256*0))))))))))
   =pc b0+256*(pc b1+256*(pc b2+256*(pc b3+256*(pc b4+256*(pc b5+256*(pc b6+256*pc b7)))))):=by
 have s7:=q8 (k:=0) (B:=0) h7 (by decide)
 have s6:=q8 h6 s7.2
 have s5:=q8 h5 s6.2
 have s4:=q8 h4 s5.2
 have s3:=q8 h3 s4.2
 have s2:=q8 h2 s3.2
 have s1:=q8 h1 s2.2
 have s0:=q8 h0 s1.2
 rw [s0.1,s1.1,s2.1,s3.1,s4.1,s5.1,s6.1,s7.1]
 simp [f3,mk]
theorem ZZ {p0 p1 p2 p3 p4 p5 p6 p7:Nat}(h0:p0≤8)(h1:p1≤8)(h2:p2≤8)(h3:p3≤8)(h4:p4≤8)(h5:p5≤8)(h6:p6≤8)(h7:p7≤8)(e3:x3=p0+256*(p1+256*(p2+256*(p3+256*(p4+256*(p5+256*(p6+256*p7)))))))(e4:x4=x3+x3/256)(e5:x5=x4+x4/65536)(e6:x6=x5+x5/4294967296):
  x6%128=p0+p1+p2+p3+p4+p5+p6+p7∧x6<18446744073709551616:=by
 have g4:x4=(p0+p1)+256*((p1+p2)+256*((p2+p3)+256*((p3+p4)+256*((p4+p5)+256*((p5+p6)+256*((p6+p7)+256*p7)))))):=by omega
 clear e3 e4
 have g5:x5=(p0+p1+p2+p3)+256*((p1+p2+p3+p4)+256*((p2+p3+p4+p5)+256*((p3+p4+p5+p6)+256*((p4+p5+p6+p7)+256*((p5+p6+p7)+256*((p6+p7)+256*p7)))))):=by omega
 clear g4 e5
 have gq:x5/4294967296=(p4+p5+p6+p7)+256*((p5+p6+p7)+256*((p6+p7)+256*p7)):=by omega
 rw [gq] at e6
 have g6:x6=(p0+p1+p2+p3+p4+p5+p6+p7)+256*(((p1+p2+p3+p4)+256*((p2+p3+p4+p5)+256*((p3+p4+p5+p6)+256*((p4+p5+p6+p7)+256*((p5+p6+p7)+256*((p6+p7)+256*p7))))))+((p5+p6+p7)+256*((p6+p7)+256*p7))):=by omega
 clear gq e6 g5
 omega
theorem one {x x1 x2:Nat}(hx:x<18446744073709551616)(hh:9223372036854775808≤x)(e1:x1=f1 8 x)(e2:x2=f2 8 x1)(e3:x3=f3 8 x2)(e4:x4=x3+x3/256)(e5:x5=x4+x4/65536)(e6:x6=x5+x5/4294967296):
  x6%128=1↔x=9223372036854775808:=by
 obtain⟨b0,q0,hb0,hq0⟩:∃b q,b<256∧x=b+256*q:=⟨x%256,x/256,by omega,by omega⟩
 obtain⟨b1,q1,hb1,hq1⟩:∃b q,b<256∧q0=b+256*q:=⟨q0%256,q0/256,by omega,by omega⟩
 obtain⟨b2,q2,hb2,hq2⟩:∃b q,b<256∧q1=b+256*q:=⟨q1%256,q1/256,by omega,by omega⟩
 obtain⟨b3,q3,hb3,hq3⟩:∃b q,b<256∧q2=b+256*q:=⟨q2%256,q2/256,by omega,by omega⟩
 obtain⟨b4,q4,hb4,hq4⟩:∃b q,b<256∧q3=b+256*q:=⟨q3%256,q3/256,by omega,by omega⟩
 obtain⟨b5,q5,hb5,hq5⟩:∃b q,b<256∧q4=b+256*q:=⟨q4%256,q4/256,by omega,by omega⟩
 obtain⟨b6,b7,hb6,hq6⟩:∃b q,b<256∧q5=b+256*q:=⟨q5%256,q5/256,by omega,by omega⟩
 have hb7:b7<256:=by omega
 have hb7':128≤b7:=by omega
 have e:=a0i hb0 hb1 hb2 hb3 hb4 hb5 hb6 hb7
 have ex:x=b0+256*(b1+256*(b2+256*(b3+256*(b4+256*(b5+256*(b6+256*(b7+256*0))))))):=by omega
 rw [←ex,←e1,←e2,←e3] at e
 have p0:=(t4 ⟨b0,hb0⟩).2.2.2
 have p1:=(t4 ⟨b1,hb1⟩).2.2.2
 have p2:=(t4 ⟨b2,hb2⟩).2.2.2
 have p3:=(t4 ⟨b3,hb3⟩).2.2.2
 have p4:=(t4 ⟨b4,hb4⟩).2.2.2
 have p5:=(t4 ⟨b5,hb5⟩).2.2.2
 have p6:=(t4 ⟨b6,hb6⟩).2.2.2
 have p7:=(t4 ⟨b7,hb7⟩).2.2.2
 have hf:=(ZZ p0.1 p1.1 p2.1 p3.1 p4.1 p5.1 p6.1 p7.1 e e4 e5 e6).1
 simp only at p0 p1 p2 p3 p4 p5 p6 p7
 rw [hf]
 show (pc b0+pc b1+pc b2+pc b3+pc b4+pc b5+pc b6+pc b7=1)↔_
 constructor
 ·intro h
  have h7:pc b7≠0:=fun hz=>by have:=p7.2.1 hz;omega
  have hs:pc b0+pc b1+pc b2+pc b3+pc b4+pc b5+pc b6=0∧pc b7=1:=by clear p0 p1 p2 p3 p4 p5 p6 p7 e e1 e2 e3 e4 e5 e6 ex hq0 hq1 hq2 hq3 hq4 hq5 hq6 hf;omega
  obtain⟨hs,h8⟩:=hs
  have z0:=p0.2.1 (by omega)
  have z1:=p1.2.1 (by omega)
  have z2:=p2.2.1 (by omega)
  have z3:=p3.2.1 (by omega)
  have z4:=p4.2.1 (by omega)
  have z5:=p5.2.1 (by omega)
  have z6:=p6.2.1 (by omega)
  have z7:=p7.2.2 hb7' (by omega)
  omega
 ·intro h
  obtain rfl:b7=128:=by omega
  obtain rfl:b0=0:=by omega
  obtain rfl:b1=0:=by omega
  obtain rfl:b2=0:=by omega
  obtain rfl:b3=0:=by omega
  obtain rfl:b4=0:=by omega
  obtain rfl:b5=0:=by omega
  obtain rfl:b6=0:=by omega
  decide
end Pop
end
section
open Go.RowKit
theorem O9 {w:a6}{v:Nat}(hv1:1≤v)(hv:v≤9223372036854775808):
  aO aF 61 #[.int .i64 (-(v:Int))] w (sD w (-(v:Int))):=by
 have hn: -(v:Int)<0:=by omega
 have w1e:IntKind.u64.wrap (-(v:Int))=18446744073709551616-(v:Int):=by
  simp only [wR,uI,uH]
  simp
  omega
 have w2e:IntKind.u64.wrap (-(18446744073709551616-(v:Int)))=(v:Int):=by
  simp only [wR,uI,uH]
  simp
  omega
 have W1:=Lib.hid w1e
 have W2:=Lib.hid w2e
 clear w1e w2e
 go_enter Tryz.func61,Tryz.ntmps61
 go_upto_region 2 with (fail)
 obtain⟨g,hg⟩:∃g,w.heap.size=g:=⟨_,rfl⟩
 obtain⟨wa,hwa⟩:∃wa,w.alloc (.cells #[.bool false,.slice none 0 0] 24)=wa:=⟨_,rfl⟩
 rw [hg,hwa]
 have hb:Bk wa g 24 [.bool false,.slice none 0 0]:=by rw [←hwa,←hg];exact Bk.new w 24 [.bool false,.slice none 0 0]
 have hea:Ext w wa:=by rw [←hwa];exact (Ext.refl w).alloc _
 have hga:w.heap.size≤g:=Nat.le_of_eq hg
 have hgl:g<wa.heap.size:=hb.lt
 clear hwa hg
 obtain⟨k1,k2,k3,k4⟩:=hb.two
 have h1:Rd (wa.alloc (.cells #[.int .u64 (v:Int)] 65)) (some ⟨wa.heap.size,0,none⟩) 1 1 [v]:=Rd.one wa (by omega)
 have w1e:=W1.out
 have w2e:=W2.out
 go_wp2_with fail
 clear w1e w2e
 refine (mW (h1.ext (by repeat (first | exact Ext.refl _ | assumption | apply Ext.drewN | apply Ext.drew | apply Ext.alloc)))).mono ?_
 rintro e w1 ⟨A1,n1,c1,rfl,hn1,hr1,ho1,hx1⟩
 rw [vH] at hn1 ho1
 have hx1':Ext wa w1:=Ext.trans (by repeat (first | exact Ext.refl _ | assumption | apply Ext.drewN | apply Ext.drew | apply Ext.alloc)) hx1
 have hd:=hb.ext hx1'
 have hsz:=hx1'.size
 go_wp2_with fail
 refine (sO hn1.out).mono ?_
 rintro e w2 ⟨s',rfl,hs',hx2⟩
 have hd:=hd.ext hx2
 clear k1 k2 k3 k4
 obtain⟨k1,k2,k3,k4⟩:=hd.two
 go_wp2_with fail
 refine nD (t7 rfl rfl (hd.two_set _ _)) rfl ?_
 exact tN hd ((qY hs'.out hn1.out ho1 (l9 _)).ext hx2) (by simp;omega) (hea.trans (hx1'.trans hx2))
theorem OC {w:a6}{v:Int}(h1: -9223372036854775808≤v)(h2:v≤9223372036854775807):aO aF 61 #[.int .i64 v] w (sD w v):=by
 by_cases h:0≤v
 ·obtain⟨m,rfl⟩:=Int.eq_ofNat_of_zero_le h
  exact OE (by omega)
 ·obtain⟨m,hm⟩:∃m:Nat,v= -(m:Int):=⟨v.natAbs,by omega⟩
  subst hm
  exact O9 (by omega) (by omega)
theorem bO:AggT aF 24 2:=⟨fun _=>by kernel_rfl,fun _=>by kernel_rfl⟩
theorem eK:∀w,(isAgg 4).run aF w= .ok false w:=fun _=>by kernel_rfl
theorem eM:∀w,(isAgg 22).run aF w= .ok false w:=fun _=>by kernel_rfl
theorem eZ:Tryz.prog.follows .mixedOrders=true:=by kernel_rfl
def Is (u v:aH)(_:a6):Prop:=v=u
def ZR (b:Nat)(z:Int)(v:aH)(w:a6):Prop:=∃s A n c,v= .agg #[.bool s,.slice A n c]∧Zr w b s A n c z
def WR (b:Nat)(m:Nat)(v:aH)(w:a6):Prop:=∃A n c,v= .slice A n c∧n=(wd m).length∧Own w b 65 1 A n c ((wd m).map aW)
def Wi (w:a6)(A:Option aC)(n c:Nat)(m:Nat):Prop:=∃xs,Rd w A n c xs∧nv xs=m
theorem Wi.ext {w w':a6}(h:Wi w A n c m)(e:Ext w w'):Wi w' A n c m:=by
 obtain⟨xs,h1,h2⟩:=h
 exact⟨xs,h1.ext e,h2⟩
theorem Zi.wi {w:a6}(h:Zi w s A n c z):Wi w A n c z.natAbs:=by
 obtain⟨xs,h1,h2⟩:=h
 exact⟨xs,h1,by rw [←h2,uS]⟩
theorem Own.wi {w:a6}(h:Own w b t 1 A n c ((wd m).map aW)):Wi w A n c m:=⟨_,h.rd (pN _),gH m⟩
theorem Wi.zi {w:a6}(h:Wi w A n c m)(s:Bool):Zi w s A n c (sg s m):=by
 obtain⟨xs,h1,h2⟩:=h
 exact⟨xs,h1,by rw [h2]⟩
theorem Wi.len {w:a6}(h:Wi w A n c m):(wd m).length≤n:=by
 obtain⟨xs,h1,rfl⟩:=h
 have:=iM h1.wf
 rw [h1.len] at this;exact this
theorem a1E {w:a6}(hn:n=(wd m).length)(ho:Own w b 65 1 A n c ((wd m).map aW)):Zr w b false A n c (m:Int):=
 qY (m:=m) (s:=false) (by rw [k7];symm;exact decide_eq_false (by omega)) hn ho (k7 m)
def T2 (R S:aH→a6→Prop)(v:aH)(w:a6):Prop:=∃a b,v= .tuple #[a,b]∧R a w∧S b w
def T3 (R S T:aH→a6→Prop)(v:aH)(w:a6):Prop:=∃a b c,v= .tuple #[a,b,c]∧R a w∧S b w∧T c w
def Gv (w:a6)(R:aH→a6→Prop)(e:fA)(w':a6):Prop:=∃v,e= .returned v∧R v w'∧Ext w w'
section
variable {w w':a6}{b:Nat}{z x y:Int}{v u:aH}{R S T:aH→a6→Prop}
theorem gz (hb:b≤w.heap.size)(e:fA)(w':a6)(h:sD w z e w'):Gv w (ZR b z) e w':=by
 obtain⟨s,A,n,c,rfl,h1,h2⟩:=h
 exact⟨_,rfl,⟨s,A,n,c,rfl,h1.mono hb⟩,h2⟩
theorem gw (hb:b≤w.heap.size)(e:fA)(w':a6)(h:jW w m e w'):Gv w (WR b m) e w':=by
 obtain⟨A,n,c,rfl,h1,h2,h3,h4⟩:=h
 exact⟨_,rfl,⟨A,n,c,rfl,h1.out,h3.mono hb⟩,h4⟩
theorem Gv.imp (hi:∀v w,R v w→S v w)(e:fA)(w':a6)(h:Gv w R e w'):Gv w S e w':=by
 obtain⟨v,rfl,h1,h2⟩:=h
 exact⟨v,rfl,hi _ _ h1,h2⟩
theorem ZR.imp (hb:b≤b')(v:aH)(w:a6)(h:ZR b' z v w):ZR b z v w:=by
 obtain⟨s,A,n,c,rfl,h⟩:=h
 exact⟨s,A,n,c,rfl,h.mono hb⟩
theorem WR.imp (hb:b≤b')(v:aH)(w:a6)(h:WR b' m v w):WR b m v w:=by
 obtain⟨A,n,c,rfl,h1,h2⟩:=h
 exact⟨A,n,c,rfl,h1,h2.mono hb⟩
theorem T2.imp {R' S':aH→a6→Prop}(h1:∀v w,R v w→R' v w)(h2:∀v w,S v w→S' v w)(v:aH)(w:a6)(h:T2 R S v w):T2 R' S' v w:=by
 obtain⟨a,c,rfl,h3,h4⟩:=h
 exact⟨a,c,rfl,h1 _ _ h3,h2 _ _ h4⟩
theorem T3.imp {R' S' T':aH→a6→Prop}(h1:∀v w,R v w→R' v w)(h2:∀v w,S v w→S' v w)(h0:∀v w,T v w→T' v w)(v:aH)(w:a6)(h:T3 R S T v w):T3 R' S' T' v w:=by
 obtain⟨a,c,d,rfl,h3,h4,h5⟩:=h
 exact⟨a,c,d,rfl,h1 _ _ h3,h2 _ _ h4,h0 _ _ h5⟩
theorem Is.imp (v:aH)(w:a6)(h:Is u v w):Is u v w:=h
theorem KT (e:fA)(w':a6)(h:E7 z w e w'):Gv w (Is (.int .i64 z)) e w':=by
 obtain⟨c,h1,_,_,rfl,h2⟩:=h
 exact⟨_,rfl,(show bV .i64 c=_ by rw [h1.out]),h2⟩
theorem YH {c:Bool}(e:fA)(w':a6)(h:AL c w e w'):Gv w (Is (.bool c)) e w':=⟨_,h.1,rfl,h.2⟩
end
section
variable {w:a6}{b:Nat}(hb:b≤w.heap.size){s t u:Bool}{A B C:Option aC}{n cap m cap' k cap'':Nat}{x y z:Int}
include hb
theorem YI (hx:Zi w s A n cap x)(hl:n≤274877906944)(hy:Zi w t B m cap' y)(hl':m≤274877906944):
  aO aF 68 #[.agg #[.bool s,.slice A n cap],.agg #[.bool t,.slice B m cap']] w (Gv w (ZR b (x+y))):=(OJ hx hl hy hl').mono (gz hb)
theorem L0 (hx:Zi w s A n cap x)(hl:n≤68719476736):aO aF 60 #[.agg #[.bool s,.slice A n cap]] w (Gv w (ZR b x)):=(OG hx hl).mono (gz hb)
theorem yT {v:Int}(h1: -9223372036854775808≤v)(h2:v≤9223372036854775807):aO aF 61 #[.int .i64 v] w (Gv w (ZR b v)):=(OC h1 h2).mono (gz hb)
end
section
variable {w:a6}{s t:Bool}{A B:Option aC}{n cap m cap':Nat}{x y:Int}
theorem o8 (hx:Zi w s A n cap x)(hl:n≤68719476736):aO aF 63 #[.agg #[.bool s,.slice A n cap]] w (Gv w (Is (.int .i64 (cW x 0)))):=(B4 hx hl).mono KT
theorem L3 (hx:Zi w s A n cap x)(hl:n≤68719476736)(hy:Zi w t B m cap' y)(hl':m≤68719476736):
  aO aF 64 #[.agg #[.bool s,.slice A n cap],.agg #[.bool t,.slice B m cap']] w (Gv w (Is (.int .i64 (cW x y)))):=(OH hx hl hy hl').mono KT
end
section
variable {P:cD}{Q:dR→Act→a6→Prop}{n:Nat}{l:Fr}{w:a6}{ops:Array aX}{rest:List aX}{d:Nat}{op:Op}{ty:aT}{pos:String}{af:Array fD}{gd:Option (Nat×Bool)}
theorem dQ (hw:dI ops l gd=some true)(hk:mC l op=true)(cells:List aH)(hr:∀w,(execOp (rho l) ⟨some d,op,ty,pos,af,gd⟩).run P w= .ok (.value (.slice (some ⟨w.heap.size,0,none⟩) k k)) (w.alloc (.cells cells.toArray e)))(h:∀g w',NewBk w w' g e cells→wl P ops Q n rest ((d,.slice (some ⟨g,0,none⟩) k k)::l) w')(hn:d<n:=by decide):wl P ops Q n (⟨some d,op,ty,pos,af,gd⟩::rest) l w:=
 fJ hw hn (fun a ha=>by rw [vV hk ha];exact hr w) (h _ _ (NewBk.mk' w e cells))
end
def O1 (b x:Nat)(v:aH)(w:a6):Prop:=∃A,v= .slice A 1 1∧Own w b 65 1 A 1 1 [aW x]
theorem O1.mk_ {w w':a6}{x:Nat}(h:NewBk w w' g 65 [aW x])(hb:b≤w.heap.size):Own w' b 65 1 (some ⟨g,0,none⟩) 1 1 [aW x]:=
 Own.mk_ (by rw [←h.at_];exact hb) h.bk (b8 _) (by rw [eY];omega) rfl rfl
theorem gL {w:a6}{x:Nat}(h:Own w b 65 1 A 1 1 [aW x])(hx:x≤18446744073709551615):Wi w A 1 1 x:=
 ⟨[x],h.rd (E4 (by rw [cF];omega)),vH x⟩
theorem iK {w:a6}{x:Nat}(h:Own w b 65 1 A 1 1 [aW x])(hx:x≤18446744073709551615)(h0:x≠0):Own w b 65 1 A 1 1 ((wd x).map aW):=by
 rw [FD (by rw [cF];omega) h0];exact h
theorem hZ {x:Nat}(hx:x≤18446744073709551615)(h0:x≠0):1=(wd x).length:=by rw [FD (by rw [cF];omega) h0];rfl
theorem a1D {w:a6}(h:m≠0)(hn:n=(wd m).length)(ho:Own w b 65 1 A n c ((wd m).map aW)):Zr w b true A n c (-(m:Int)):=
 qY (m:=m) (s:=true) (by rw [GI,decide_eq_true (Nat.pos_of_ne_zero h)];rfl) hn ho (l9 m)
section
variable {P:cD}{Q:dR→Act→a6→Prop}{n:Nat}{l:Fr}{w:a6}
def qO (n:Nat)(ops:Array aX):Nat→List aX→Fr→Option (Fr×List aX)
 | 0,rest,l=>some (l,rest)
 | _+1,[],_=>none
 | k+1,⟨some d,op,_,_,_,gd⟩::rest,l=>
  match Nat.blt d n with
  | true=>
   match dI ops l gd with
   | some true=>
    match op with
    | .move x=>match bZ l x with
     | some v=>qO n ops k rest ((d,v)::l)
     | none=>none
    | .assign x=>match bZ l x with
     | some v=>qO n ops k rest ((d,v)::l)
     | none=>none
    | _=>none
   | some false=>qO n ops k rest ((d,undef)::l)
   | none=>none
  | false=>none
 | _+1,_::_,_=>none
theorem mv {ops:Array aX}:∀(k:Nat){rest rest':List aX}{l l':Fr},qO n ops k rest l=some (l',rest')→wl P ops Q n rest' l' w→wl P ops Q n rest l w
 | 0,rest,rest',l,l',h,hw=>by
  simp only [qO,fL,Prod.mk.injEq] at h
  obtain⟨rfl,rfl⟩:=h
  exact hw
 | k+1,[],rest',l,l',h,hw=>by simp [qO] at h
 | k+1,⟨none,op,ty,pos,af,gd⟩::rest,rest',l,l',h,hw=>by simp [qO] at h
 | k+1,⟨some d,op,ty,pos,af,gd⟩::rest,rest',l,l',h,hw=>by
  unfold qO at h
  split at h
  ·rename_i hd
   have hd':d<n:=Nat.le_of_ble_eq_true hd
   split at h
   ·rename_i hg
    split at h
    ·split at h
     ·rename_i hx
      exact P0 hg hx hd' (mv k h hw)
     ·cases h
    ·split at h
     ·rename_i hx
      exact P6 hg hx hd' (mv k h hw)
     ·cases h
    ·cases h
   ·rename_i hg
    exact OY hg hd' (mv k h hw)
   ·cases h
  ·cases h
theorem sr {y:Code}(h:wl P ol.toArray (Exit.then (fun a w=>y.wp P Q a w) Q) n ol l w):cw P Q n (.seq (.region id ol.toArray false) y) l w:=aA (a7 h)
theorem a0 {y:Code}(h:cw P Q n y l w):wl P ops (Exit.then (fun a w=>y.wp P Q a w) Q) n [] l w:=aU (aD h)
theorem pu (hk:(dI ops l gd==some true&&mC l op&&Nat.blt d n)=true)(h:wl P ops Q n rest ((d,v)::l) w)(hr:(execOp (rho l) ⟨some d,op,ty,pos,af,gd⟩).run P w= .ok (.value v) w:=by kernel_rfl):wl P ops Q n (⟨some d,op,ty,pos,af,gd⟩::rest) l w:=by
 rw [fE,fE,beq_iff_eq] at hk
 exact F5 hk.1.1 hk.1.2 (Nat.le_of_ble_eq_true hk.2) hr h
section
variable {ops:Array aX}{rest:List aX}{d:Nat}{ty:aT}{pos:String}{af:Array fD}{gd:Option (Nat×Bool)}{w0:a6}
theorem bx (vs:List aH)(h0:Ext w0 w)(hx:bZ l x=some v)(hk:(dI ops l gd==some true&&Nat.blt d n)=true)(hv:v.cells=vs.toArray)(h:∀g w',Bk w' g t vs→w0.heap.size≤g→Ext w w'→Ext w0 w'→wl P ops Q n rest ((d,.pointer (some ⟨g,0,none⟩))::l) w'):wl P ops Q n (⟨some d,.box t x,ty,pos,af,gd⟩::rest) l w:=by
 rw [fE,beq_iff_eq] at hk
 exact B9 hk.1 hx hv (Nat.le_of_ble_eq_true hk.2) fun g w' nb=>h g w' nb.bk (by rw [←nb.at_];exact h0.size) nb.ext (h0.trans nb.ext)
theorem pI (vs:List aH)(h0:Ext w0 w)(hq:gp<w.heap.size)(hx:bZ l x=some v)(hk:(dI ops l gd==some true&&Nat.blt d n)=true)(hv:v.cells=vs.toArray)(h:∀g w',Bk w' g t vs→w0.heap.size≤g→gp<g→Ext w w'→Ext w0 w'→wl P ops Q n rest ((d,.pointer (some ⟨g,0,none⟩))::l) w'):wl P ops Q n (⟨some d,.box t x,ty,pos,af,gd⟩::rest) l w:=by
 rw [fE,beq_iff_eq] at hk
 exact B9 hk.1 hx hv (Nat.le_of_ble_eq_true hk.2) fun g w' nb=>h g w' nb.bk (by rw [←nb.at_];exact h0.size) (by rw [←nb.at_];exact hq) nb.ext (h0.trans nb.ext)
theorem al (vs:List aH)(h0:Ext w0 w)(hz:∀w,(zeroValue t).run P w= .ok (.agg vs.toArray) w)(hk:(dI ops l gd==some true&&Nat.blt d n)=true)(h:∀g w',Bk w' g t vs→w0.heap.size≤g→Ext w w'→Ext w0 w'→wl P ops Q n rest ((d,.pointer (some ⟨g,0,none⟩))::l) w'):wl P ops Q n (⟨some d,.alloc t,ty,pos,af,gd⟩::rest) l w:=by
 rw [fE,beq_iff_eq] at hk
 exact m5 hk.1 hz rfl (hn:=(Nat.le_of_ble_eq_true hk.2)) fun g w' nb=>h g w' nb.bk (by rw [←nb.at_];exact h0.size) nb.ext (h0.trans nb.ext)
theorem kW (vs:List aH)(h0:Ext w0 w)(hq:gp<w.heap.size)(hz:∀w,(zeroValue t).run P w= .ok (.agg vs.toArray) w)(hk:(dI ops l gd==some true&&Nat.blt d n)=true)(h:∀g w',Bk w' g t vs→w0.heap.size≤g→gp<g→Ext w w'→Ext w0 w'→wl P ops Q n rest ((d,.pointer (some ⟨g,0,none⟩))::l) w'):wl P ops Q n (⟨some d,.alloc t,ty,pos,af,gd⟩::rest) l w:=by
 rw [fE,beq_iff_eq] at hk
 exact m5 hk.1 hz rfl (hn:=(Nat.le_of_ble_eq_true hk.2)) fun g w' nb=>h g w' nb.bk (by rw [←nb.at_];exact h0.size) (by rw [←nb.at_];exact hq) nb.ext (h0.trans nb.ext)
theorem cl {xs:Array cS}{R:aH→a6→Prop}(h0:Ext w0 w)(hc:aO P f vs.toArray w (Gv w R))(hk:(dI ops l gd==some true&&mC l (.call {callee:= .value (.func f),args:=xs,argTypes:=ts})&&Nat.blt d n)=true)(hr:(execOp (rho l) ⟨some d,.call {callee:= .value (.func f),args:=xs,argTypes:=ts},ty,pos,af,gd⟩).run P w= .ok (.enter f vs.toArray) w)(h:∀v w',R v w'→Ext w w'→Ext w0 w'→wl P ops Q n rest ((d,v)::l) w'):
  wl P ops Q n (⟨some d,.call {callee:= .value (.func f),args:=xs,argTypes:=ts},ty,pos,af,gd⟩::rest) l w:=by
 rw [fE,fE,beq_iff_eq] at hk
 refine dD hk.1.1 hk.1.2 hr (Nat.le_of_ble_eq_true hk.2) hc ?_
 rintro _ w' ⟨v,rfl,r,e⟩
 exact dE (h v w' r e (h0.trans e))
theorem lo (hT:AggT P T k)(hb:Bk w g T' vs)(us:List aH)(hx:bZ l x=some (.pointer (some ⟨g,off,none⟩)))(hk:(dI ops l gd==some true&&Nat.blt d n&&pR us.length k&&Nat.ble (off+k) vs.length)=true)(he:(vs.drop off).take k=us)(h:wl P ops Q n rest ((d,.agg us.toArray)::l) w):wl P ops Q n (⟨some d,.load T x,ty,pos,af,gd⟩::rest) l w:=by
 rw [fE,fE,fE,beq_iff_eq] at hk
 exact aS hk.1.1.1 hx (gB hT hb us (sL hk.1.2) (Nat.le_of_ble_eq_true hk.2) he) h (hn:=(Nat.le_of_ble_eq_true hk.1.1.2))
theorem so (hT:AggT P T k)(hb:Bk w g T' vs)(us':List aH)(h0:Ext w0 w)(hg:w0.heap.size≤g)(hx:bZ l x=some (.pointer (some ⟨g,off,none⟩)))(hy:bZ l y=some (.agg us.toArray))(hk:(dI ops l gd==some true&&pR us.length k&&Nat.ble (off+k) vs.length&&us.all (·.oneCell'))=true)(he:m8 vs off us=us')(h:∀w',Bk w' g T' us'→Upd g w w'→Ext w0 w'→wl P ops Q n rest l w'):wl P ops Q n (⟨none,.store T x y,ty,pos,af,gd⟩::rest) l w:=by
 rw [fE,fE,fE,beq_iff_eq] at hk
 exact OW hk.1.1.1 hx hy hT (sL hk.1.1.2) hb (Nat.le_of_ble_eq_true hk.1.2) hk.2 us' he fun w' b u _=>h w' b u (u.ext h0 hg)
end
theorem dk {Rs:List (aH→a6→Prop)}{w0 w1:a6}{k:Fr→Prop}{acc:Fr}(hR:Rs[j]?=some (Is v))(hd:eV ol j=some d)(h:Deps ol Rs w0 w1 k ds ((d,v)::acc)):Deps ol Rs w0 w1 k (j::ds) acc:=
 i7 hR hd fun v' _ hr _ _=>by
  obtain rfl:=hr
  exact h
theorem pf (g off:Nat)(hk:(dI ops l gd==some true&&mC l op&&Nat.blt d n)=true)(h:wl P ops Q n rest ((d,.pointer (some ⟨g,off,none⟩))::l) w)(hr:(execOp (rho l) ⟨some d,op,ty,pos,af,gd⟩).run P w= .ok (.value (.pointer (some ⟨g,off,none⟩))) w:=by kernel_rfl):wl P ops Q n (⟨some d,op,ty,pos,af,gd⟩::rest) l w:=pu hk h (hr:=hr)
theorem bq (h:Nat.ble m k=true):m≤k:=Nat.le_of_ble_eq_true h
theorem bQ (h:a≤b)(k:Nat.ble b c=true):a≤c:=aG h (Nat.le_of_ble_eq_true k)
end
abbrev S0:aH:= .slice none 0 0
abbrev F0:aH:= .bool false
abbrev I0:aH:= .int .i64 0
end
section
open Go.ChangeShapes Go.WideShapes Go.ChangeAt Go.RowKit
theorem VD:ownKnob Tryz.prog.godebug=none:=by kernel_rfl
theorem DU:Tryz.prog.cellsOf 65=1:=by kernel_rfl
theorem a1d (d:DataW H):1≤Rows.uptoBulk d:=by
 cases d with
 | lit l=>cases l <;> simp [Rows.uptoBulk]
 | nil=>simp [Rows.uptoBulk]
 | ptr d=>simp [Rows.uptoBulk]
 | slice elems spare=>simp [Rows.uptoBulk]
 | agg parts=>simp [Rows.uptoBulk]
 | iface t d=>simp [Rows.uptoBulk]
 | map entries=>simp [Rows.uptoBulk]
 | held h=>simp [Rows.uptoBulk]
theorem MV (l:List (DataW H)):l.length≤Rows.uptoBulkAll l:=by
 induction l with
 | nil=>simp [Rows.uptoBulkAll]
 | cons x r ih=>have:=a1d x;simp only [Rows.uptoBulkAll,cO];omega
theorem a1c (elems spare:List (DataW H)):elems.length+spare.length≤Rows.uptoBulk (.slice elems spare):=by
 have h1:=MV elems
 have h2:=MV spare
 simp only [Rows.uptoBulk]
 omega
theorem a1e {l:List (DataW H)}(hk:Rows.uptoSmall H l=true):Rows.uptoBulkAll l≤1048576:=of_decide_eq_true hk
theorem x7 {n:Int}(h:(Lit.int .u64 n).wf=true):0≤n∧n≤18446744073709551615:=by
 simpa [Lit.wf,IntKind.min,IntKind.max,uH,uI] using h
theorem VA {enc:aT×aH→H}{f:Func}{s:ChangeSpec}{apart fresh handsOn again:Bool}{W W':a6}{ds gs:List (DataW H)}{before:List MemPlace}(hW:DataW.Whole enc P f.params.toList s.vars apart W args.toList ds gs before)(hres:∀(b:Nat) (sp:Nat→Bool) (hd:Bool),DataW.TrodAll enc P W' b sp hd f.resultTypes.toList (v.resultList f.resultTypes.size) (s.fn H (ds++gs)).results [])(hargs:∀sp:Nat→Bool,(∀p∈before,sp p.block=true)→DataW.TrodAll enc P W' 0 sp true f.params.toList args.toList (s.fn H (ds++gs)).args pa)(hvars:∀sp:Nat→Bool,(∀p∈before,sp p.block=true)→DataW.TrodVars enc P W' sp s.vars (s.fn H (ds++gs)).vars pv)(hps:before=pa++pv)(hb:Below W.heap.size W W')(hok:∀(j:Nat) (t:aT) (r:aH),f.resultTypes[j]?=some t→(v.resultList f.resultTypes.size)[j]?=some r→Value.okWide P W' .any 0 t r):
  s.post enc P f apart fresh handsOn again W args v W':=by
 have hlt:∀p∈before,p.block<W.heap.size:=fun p hp=>hW.lt p hp
 have hold:∀p∈before,(fun b=>decide (b<W.heap.size)) p.block=true:=fun p hp=>by simpa using hlt p hp
 refine⟨ds,gs,before,[],pa,pv,hW,hres _ _ _,hargs _ hold,hvars _ hold,World.keptBut_mono (fun p hp=>⟨hp,?_⟩) (hb.frame (· ∈before)),fun _=>?_⟩
 ·rw [hps,List.mem_append] at hp
  exact bR hp
 ·obtain⟨_,_,_,_,_,hz,hn⟩:=hW
  refine⟨hok,_,_,([]++pa)++pv,⟨[]++pa,pv,trodAll_append (hargs _ (fun _ _=>rfl)) (hres _ _ _),hvars _ (fun _ _=>rfl),rfl,?_,?_⟩,?_⟩
  ·intro b off hp
   have hin:MemPlace.cell b off∈before:=by rw [hps];simpa using hp
   rw [hb.frozen (hlt _ hin)]
   exact hz b off hin
  ·intro ha
   have:=hn ha
   rw [hps] at this
   simpa using this
  ·intro p hp _
   rw [hps]
   simpa using hp
theorem XS:laidOutB aF=true:=by kernel_rfl
theorem X6:mapsRowed aF=true:=by kernel_rfl
def R1 (P:cD):Bool:=(j3 P.types.size).all fun t=>match P.underlying t with
 | some (.slice e)=>decide (0<P.cellsOf e)
 | _=>true
theorem R0:R1 aF=true:=by kernel_rfl
theorem R2 (ht:t<Tryz.prog.types.size)(hu:Tryz.prog.underlying t=some (.slice e)):0<Tryz.prog.cellsOf e:=by
 have:=fU.1 R0 t (jJ.2 ht)
 simpa [hu] using this
theorem BK {enc:aT×aH→H}{W W':a6}{d:DataW H}{p:List MemPlace}(ht:t<Tryz.prog.types.size)(h:DataW.Trod enc aF W 0 (fun _=>true) true t v d p)(he:Ext W W')(hp:∀q∈p,q.block<W.heap.size){sp:Nat→Bool}(hsp:∀q∈p,sp q.block=true):DataW.Trod enc aF W' 0 sp true t v d p:=by
 obtain⟨n,hn⟩:=h
 exact⟨n,DataW.trod_stays (kids_rows XS X6) R2 (fun h=>by cases h) ht hn (fun q hq=>he.below.same (hp q hq)) hsp⟩
theorem QV {enc:aT×aH→H}{W W':a6}(he:Ext W W'){sp:Nat→Bool}:∀{ts:List aT}{vs:List aH}{ds:List (DataW H)}{p:List MemPlace},(∀t∈ts,t<Tryz.prog.types.size)→
  DataW.TrodAll enc aF W 0 (fun _=>true) true ts vs ds p→(∀q∈p,q.block<W.heap.size)→(∀q∈p,sp q.block=true)→DataW.TrodAll enc aF W' 0 sp true ts vs ds p:=by
 intro ts
 induction ts with
 | nil=>
  intro vs ds p _ h _ _
  obtain⟨rfl,rfl,rfl⟩:=trodAll_nil h
  exact trodAll_mk0
 | cons t ts ih=>
  intro vs ds p ht h hp hsp
  obtain⟨v,vs',d,ds',p1,p2,rfl,rfl,rfl,h1,h2⟩:=trodAll_cons h
  exact trodAll_cons_mk (BK (ht t (by simp)) h1 he (fun q hq=>hp q (by simp [hq])) (fun q hq=>hsp q (by simp [hq]))) (ih (fun t h=>ht t (by simp [h])) h2 (fun q hq=>hp q (by simp [hq])) (fun q hq=>hsp q (by simp [hq])))
theorem MN:Tryz.prog.cellsOf 24=2:=by kernel_rfl
theorem DT:Tryz.prog.cellsOf 22=1:=by kernel_rfl
theorem MP:Tryz.prog.cellsOf 4=1:=by kernel_rfl
theorem a0b:∃f0 f1:Field,Tryz.prog.underlying 24=some (.struct #[f0,f1])∧f0.type=4∧f0.offset=0∧f1.type=22∧f1.offset=1:=⟨_,_,Tryz.underlying24,rfl,rfl,rfl,rfl⟩
set_option maxRecDepth 20000 in
theorem JB {enc:aT×aH→H}{W:a6}{d:DataW H}{p:List MemPlace}(hf:DataW.trod enc aF W 0 (fun _=>true) true fuel 22 [v]=some (d,p)):
  ∃A n cap xs,v= .slice A n cap∧Rd W A n cap xs∧n≤Rows.uptoBulk d∧
   ∀W',Ext W W'→∀sp:Nat→Bool,(∀q∈p,sp q.block=true)→∃fuel',DataW.trod enc aF W' 0 sp true fuel' 22 [v]=some (d,p):=by
 rcases open_ints Tryz.underlying22 Tryz.underlying65 DU hf with⟨hcs,hx⟩ | ⟨a,n',cap',zs,hcs,_,hl,hm,hz,hx,hcell,hwf⟩
 ·obtain rfl:=List.singleton_inj.1 hcs
  simp only [Prod.mk.injEq] at hx
  obtain⟨rfl,rfl⟩:=hx
  exact⟨none,0,0,[],rfl,Rd.nil W,bW _,fun W' _ sp _=>by obtain⟨fu,h⟩:=shut_slice_nil (enc:=enc) (w:=W') (base:=0) (spare:=sp) (held:=true) Tryz.underlying22;exact⟨fu,h⟩⟩
 ·obtain rfl:=List.singleton_inj.1 hcs
  simp only [Prod.mk.injEq] at hx
  obtain⟨rfl,rfl⟩:=hx
  simp only [if_true] at hz
  have hblk:0<cap'→a.block<W.heap.size:=fun hc=>tZ W (a.add 0) (hcell 0 (by omega)) |> fun h=>by rwa [pJ] at h
  have hnn:∀z∈zs,((z.toNat:Nat):Int)=z:=fun z hz'=>Int.toNat_of_nonneg (x7 (hwf z hz')).1
  have hlen:(zs.take n').length=n':=by rw [bJ];omega
  refine⟨some a,n',cap',(zs.take n').map Int.toNat,rfl,⟨⟨by simp;omega,hl,hm,fun i hi=>⟨a,rfl,?_⟩,fun b hb hc=>by cases hb;exact hblk hc⟩,?_⟩,?_,?_⟩
  ·rw [hcell i (by omega)]
   have hi2:i<zs.length:=by omega
   have hmem:zs[i]∈zs:=mI hi2
   have e:(((zs.take n').map Int.toNat).map aW).getD i undef= .int .u64 ((zs[i].toNat:Nat):Int):=by
    simp [bC,kK,show i<n' by omega,cJ hi2]
   rw [e,hnn _ hmem]
   simp [bC,cJ hi2]
  ·intro x hx
   obtain⟨z,hz1,rfl⟩:=oJ.1 hx
   have:=x7 (hwf z (List.mem_of_mem_take hz1))
   rw [cF];omega
  ·have:=a1c (H:=H) (lits .u64 (zs.take n')) (lits .u64 (zs.drop n'))
   have e:(lits (H:=H) .u64 (zs.take n')).length=n':=by simp [lits];omega
   omega
  ·intro W' he sp hsp
   have hcell':∀i,i<zs.length→W'.cell? (a.add i)=some (.int .u64 (zs.getD i 0)):=fun i hi=>he.cell (hcell i hi)
   by_cases hz0:zs.length=0
   ·have hc0:cap'=0:=by omega
    have hl0:n'=0:=by omega
    subst hc0;subst hl0
    have t0:=shut_ints (enc:=enc) (w:=W') (base:=0) (spare:=sp) (held:=true) (a:=a) (len:=0) (cap:=0) (zs:=zs) 0 Tryz.underlying22 Tryz.underlying65 DU (bW _) (b8 _) hm (by simp [hz0]) hcell' hwf
    exact⟨2,t0⟩
   ·have hspb:sp a.block=true:=hsp (.cell a.block a.off) (MemPlace.mem_row.2 ⟨0,by omega,by simp⟩)
    have t0:=shut_ints (enc:=enc) (w:=W') (base:=0) (spare:=sp) (held:=true) (a:=a) (len:=n') (cap:=cap') (zs:=zs) 0 Tryz.underlying22 Tryz.underlying65 DU (bW _) hl hm (by simp [hspb,hz]) hcell' hwf
    exact⟨2,t0⟩
set_option maxRecDepth 20000 in
theorem JA {enc:aT×aH→H}{W:a6}{c0 c1:aH}{x:DataW H×List MemPlace}(h:DataW.trod enc aF W 0 (fun _=>true) true fuel 24 [c0,c1]=some x):
  ∃s A n cap z,c0= .bool s∧c1= .slice A n cap∧Zi W s A n cap z∧n+1≤Rows.uptoBulk x.1∧
   ∀W',Ext W W'→∀sp:Nat→Bool,(∀q∈x.2,sp q.block=true)→∃fuel',DataW.trod enc aF W' 0 sp true fuel' 24 [c0,c1]=some x:=by
 obtain⟨f0,f1,hu,t0,o0,t1,o1⟩:=a0b
 obtain⟨y0,y1,n,rfl,hl,h0,h1⟩:=trod_struct2 hu h
 rw [t0,o0,MP] at h0
 rw [t1,o1,DT] at h1
 have e0:(([c0,c1]:List aH).drop 0).take 1= [c0]:=rfl
 have e1:(([c0,c1]:List aH).drop 1).take 1= [c1]:=rfl
 rw [e0] at h0
 rw [e1] at h1
 obtain⟨s,hs,rfl⟩:=DataW.trod_bool Tryz.underlying4 h0
 obtain rfl:c0= .bool s:=by simpa using hs
 obtain⟨A,k,cap,xs,rfl,hx,hb,rx⟩:=JB (d:=y1.1) (p:=y1.2) h1
 refine⟨s,A,k,cap,_,rfl,rfl,⟨xs,hx,rfl⟩,?_,?_⟩
 ·simp only [Rows.uptoBulk,Rows.uptoBulkAll];omega
 ·intro W' he sp hsp
  obtain⟨fu,hfu⟩:=rx W' he sp (fun q hq=>hsp q (by simp [hq]))
  refine⟨fu+1+1,trod_struct2_mk (y0:=(.lit (.bool s),[])) (y1:=y1) hu hl ?_ ?_⟩
  ·rw [t0,o0,MP,e0]
   simp [DataW.trod,Tryz.underlying4]
  ·rw [t1,o1,DT,e1]
   exact DataW.trod_le (Nat.le_succ _) hfu
end
section
open Go.RowKit
theorem UpdO.of {w w':a6}(h:w.grownBy w' none):UpdO A w w':=⟨⟨h.os,h.tape,h.output,h.size,fun k hk _=>h.block k hk (by simp)⟩⟩
theorem Upd.updO {w w':a6}(h:Upd g w w'){o:Nat}{x:_}:UpdO (some ⟨g,o,x⟩) w w':=⟨h.by_⟩
theorem J7 {cs:List aH}(hv:cs.take k=vs)(hk:k≤cs.length):(m8 cs k us).take (k+us.length)=vs++us:=by
 unfold m8
 have e:(cs.take k++us).length=k+us.length:=by rw [cL,bJ,fT hk]
 rw [←e,List.take_left',hv]
 rfl
def Kept (w:a6)(A A':Option aC):Prop:=∀a',A'=some a'→(∃a,A=some a∧a'.block=a.block)∨w.heap.size≤a'.block
section
variable {P:cD}
theorem HA {z:aH}{s:Nat}(ht:P.underlying t=some (.slice e))(hinfo:(P.info? e).map (fun i=>(i.zero,i.size,i.bytes))=some (some z,s,bytes))(hzs:z.cells.size=s)(hsz:0<s)(hby:bytes≤64){w:a6}{xs:List aH}(hown:Own w base e s A n cap xs)(hb:base≤w.heap.size){a:aC}(hl:news.length=m*s)(hnews:∀j u,news[j]?=some u→w.cell? (a.add j)=some u)(h1:news.all (·.oneCell')=true)(hm:n+m≤1099511627776):
  ∃A' cap' w',(rC #[t,t] ty #[.slice A n cap,.slice (some a) m c]).run P w= .ok (.slice A' (n+m) cap') w'∧Own w' base e s A' (n+m) cap' (xs++news)∧UpdO A w w'∧Kept w A A':=by
 obtain⟨i,hi,hz,hz1,hz2⟩:=info_parts hinfo
 have h1':∀u∈news,u.oneCell'=true:=by simpa [fU] using h1
 have h63:n+m≤maxLen:=by rw [eY];omega
 have hbytes:(n+m)*bytes≤140737488355328:=by
  have:(n+m)*bytes≤1099511627776*64:=jQ hm hby
  omega
 rcases hown with⟨rfl,rfl,rfl,rfl⟩ | ⟨g,cs,rfl,hg,hk,hn,hcm,hcl,hv⟩
 ·obtain⟨v',w',hr,h2,h3,_⟩:=run_append_own (P:=P) w w.heap.size t ty e i z s bytes ht hi hz hz1 hz2 hzs hsz (.slice none 0 0) 0 [] (World.ownsRow_nil w _ e s) a m c news hl hnews h1' h63 hbytes (b8 _)
  obtain⟨A',cap',rfl,ho⟩:=Own.of_row h2
  exact⟨A',cap',w',hr,ho.mono hb,UpdO.of h3,fun a' ha=>bR (ho.block a' ha).1⟩
 ·by_cases hroom:n+m≤cap
  ·have hfit:n*s+news.length≤cs.length:=by rw [hl,hcl,←dX];exact eA s hroom
   obtain⟨w',hst,hb2,hu,hs⟩:=xK (P:=P) news 0 (n*s) w cs hk (by omega) h1'
   rw [dN] at hb2
   have hfc:=run_firstCells_some (P:=P) w i.size m a m c news (by rw [hz1];exact hl) hnews
   rw [hz1] at hfc
   refine⟨some ⟨g,0,none⟩,cap,w',?_,bR ⟨g,_,rfl,hg,hb2,hroom,hcm,?_,?_⟩,hu.updO,fun a' ha=>cE ⟨_,rfl,by cases ha;rfl⟩⟩
   ·simp [rC,kZ ht,sizeOf,typeInfo,hi,Builtin.lenOf,hroom,hfc,Addr.add_lit,hz1,hst]
   ·unfold m8
    simp only [cL,bJ,cV]
    omega
   ·rw [dX,←hl]
    exact J7 hv (by omega)
  ·have hx:=hv
   obtain⟨v',w',hr,h2,h3⟩:=run_append_arg_grows (P:=P) w t ty e i z s bytes ht hi hz hz1 hz2 hzs hsz ⟨g,0,none⟩ n cap xs
    (by rw [←hv,bJ];have:=eA s hn;omega)
    (fun j u hj=>by
     have hjl:=(iO.1 hj).1
     rw [kX,f9,hk.cell (by rw [←hv,bJ] at hjl;omega)]
     rw [←hv,kJ] at hj
     split at hj
     ·rw [bC,hj];rfl
     ·cases hj) a m c news hl hnews (by omega) h63 hbytes
   obtain⟨A',cap',rfl,ho⟩:=Own.of_row h2
   exact⟨A',cap',w',hr,ho.mono hb,UpdO.of h3,fun a' ha=>bR (ho.block a' ha).1⟩
variable {Q:dR→Act→a6→Prop}{n:Nat}{l:Fr}{w:a6}{ops:Array aX}{rest:List aX}{d:Nat}{ty:aT}{pos:String}{af:Array fD}{gd:Option (Nat×Bool)}
theorem nP {z:aH}{s:Nat}{a:aC}{xs:List aH}(hw:dI ops l gd=some true)(hx:bZ l x=some (.slice A k cap))(hy:bZ l y=some (.slice (some a) m c))(ht:P.underlying t=some (.slice e))(hinfo:(P.info? e).map (fun i=>(i.zero,i.size,i.bytes))=some (some z,s,bytes))(hzs:z.cells.size=s)(hown:Own w base e s A k cap xs)(hb:base≤w.heap.size)(news:List aH)(hl:news.length=m*s)(hnews:∀j u,news[j]?=some u→w.cell? (a.add j)=some u)(h1:news.all (·.oneCell')=true)(h:∀A' cap' w',Own w' base e s A' (k+m) cap' (xs++news)→UpdO A w w'→Kept w A A'→wl P ops Q n rest ((d,.slice A' (k+m) cap')::l) w')(hsz:0<s:=by decide)(hby:bytes≤64:=by decide)(hm:k+m≤1099511627776:=by omega)(hn:d<n:=by decide):
  wl P ops Q n (⟨some d,.call {callee:= .builtin .append,args:= #[x,y],argTypes:= #[t,t]},ty,pos,af,gd⟩::rest) l w:=by
 obtain⟨A',cap',w',hr,h2,h3,h4⟩:=HA (P:=P) (ty:=ty) ht hinfo hzs hsz hby hown hb hl hnews h1 hm
 refine fJ hw hn (fun a' ha=>?_) (h A' cap' w' h2 h3 h4)
 unfold execOp
 simp only [resolve,invoke,builtin,cK,gN,f8,pT,iN,j7,ha.ev hx,ha.ev hy]
 rw [hr]
 rfl
end
theorem Own.updOT {w w':a6}{s s':Nat}{B:Option aC}(h:Own w b t s A n cap vs)(ho:Own w b' T s' B m c us)(hT:t≠T)(x:UpdO B w w'):Own w' b t s A n cap vs:=by
 refine h.updO x (fun p q hp hq hg=>?_)
 rcases ho with⟨h1,_⟩ | ⟨k,cs,hB,_,hk,_⟩
 ·rw [h1] at hp;cases hp
 ·rcases h with⟨h2,_⟩ | ⟨k',cs',hA,_,hk',_⟩
  ·rw [h2] at hq;cases hq
  ·rw [hB] at hp;rw [hA] at hq
   cases hp;cases hq
   simp only at hg
   subst hg
   unfold Bk at hk hk'
   rw [hk] at hk'
   injection hk' with hk'
   injection hk' with e1 e2
   exact hT e2.symm
theorem VT {w:a6}(v:aH)(h:Bk w g T [v]):∀j u,[v][j]?=some u→w.cell? ((⟨g,0,none⟩:aC).add j)=some u:=by
 intro j u hj
 have hjl:=(iO.1 hj).1
 rw [kX,f9,h.cell hjl,bC,hj];rfl
theorem oT (A:Option aC)(c k:Nat):wK (if c=0 then A else A.map (·.add (0*1))) (k-0) (c-0)= .slice A k c:=by
 have h0:A.map (·.add (0*1))=A:=by
  cases A with
  | none=>rfl
  | some a=>simp [oL]
 rw [h0,ite_self];rfl
theorem oO:Tryz.prog.underlying 36=some (.slice 22):=by kernel_rfl
theorem oQ (w:a6):(sizeOf 22).run aF w= .ok 1 w:=by kernel_rfl
theorem s9 (w:a6):(isAgg 22).run aF w= .ok false w:=by kernel_rfl
theorem KP:(Tryz.prog.info? 22).map (fun i=>(i.zero,i.size,i.bytes))=some (some (.slice none 0 0),1,24):=by kernel_rfl
section
variable {P:cD}{Q:dR→Act→a6→Prop}{n:Nat}{l:Fr}{w:a6}{ops:Array aX}{rest:List aX}{d:Nat}{op:Op}{ty:aT}{pos:String}{af:Array fD}{gd:Option (Nat×Bool)}
def CF:jS→Bool
 | .eql=>false
 | .neq=>false
 | _=>true
theorem H5 {r:aH}(ho:CF o=true)(hb:(binOp o t u v).run P w= .ok r w):((do eqGuard o t x y u v;binOp o t u v):Sem aH).run P w= .ok r w:=by
 cases o <;> first | (cases ho;done) | (simp only [eqGuard,cK];exact hb) | (simp [eqGuard,cK,hb])
theorem bS {r:aH}(hw:dI ops l gd=some true)(hx:bZ l x=some u)(hy:bZ l y=some v)(ho:CF o=true)(hb:∀w,(binOp o t u v).run P w= .ok r w)(h:wl P ops Q n rest ((d,r)::l) w)(hn:d<n:=by decide):wl P ops Q n (⟨some d,.binOp o t x y t',ty,pos,af,gd⟩::rest) l w:=
 fJ hw hn (fun a' ha=>by
  have e:((do eqGuard o t x y (a'.eval x) (a'.eval y);binOp o t (a'.eval x) (a'.eval y)):Sem aH).run P w= .ok r w:=by
   rw [ha.ev hx,ha.ev hy];exact H5 ho (hb w)
  show ((((do eqGuard o t x y (a'.eval x) (a'.eval y);binOp o t (a'.eval x) (a'.eval y)):Sem aH)>>=fun r=>pure (fZ r)):Sem fH).run P w=_
  rw [cK,e];rfl) h
theorem bD {v':aH}(hw:dI ops l gd=some true)(hk:mC l op=true)(e:v=v')(h:wl P ops Q n rest ((d,v')::l) w)(hn:d<n:=by decide)(hr:(execOp (rho l) ⟨some d,op,ty,pos,af,gd⟩).run P w= .ok (.value v) w:=by kernel_rfl):wl P ops Q n (⟨some d,op,ty,pos,af,gd⟩::rest) l w:=F5 hw hk hn hr (by rw [e];exact h)
end
theorem sS {x:Nat}(hx:x≤18446744073709551615)(P:cD)(t:aT)(w:a6):(binOp .and t (.int .u64 (x:Int)) (.int .u64 1)).run P w= .ok (.int .u64 ((x%2:Nat):Int)) w:=by
 have e:=and_one_u64 (x:Int) (by omega) (by omega)
 have e2:(binOp .and t (.int .u64 (x:Int)) (.int .u64 1)).run P w= .ok (.int .u64 (bits BinOp.and IntKind.u64 (x:Int) 1)) w:=rfl
 rw [e2,e,Int.natCast_emod];rfl
theorem eD {x:Nat}(h:x≤18446744073709551615):bV .u64 (IntKind.u64.wrap (x:Int))= .int .u64 (x:Int):=by rw [IntWalk.u64_in _ ⟨by omega,by omega⟩]
theorem lS {x:Nat}(h:x≤9223372036854775807):bV .i64 (IntKind.i64.wrap (x:Int))= .int .i64 (x:Int):=by rw [IntWalk.i64_in _ ⟨by omega,by omega⟩]
section
variable (P:cD) (n:Nat) (ol:List aX) (vs:List aH) (ws:List a6) (w:a6) (dss:List (List Nat)) (l:Fr) (st:List Nat)
def tW (i t:Nat):Prop:=
 match ol[i]? with
 | some o=>if st.contains i then iT P n (dfr ol vs l (d9 dss i)) o (wv ws w t) (match o.dst with | none=> .skip | some _=> .value ((vs[i]?).getD undef)) (wv ws w (t+1)) else iT P n (dfr ol vs l (d9 dss i)) o (wv ws w t) (.value ((vs[i]?).getD undef)) (wv ws w t)
 | none=>True
def nC:List (Nat×Nat)→Prop
 | []=>True
 | (i,t)::r=>tW P n ol vs ws w dss l st i t∧nC r
end
def DJ (n : Nat)(ol : List aX)(st : List Nat)(l : Fr)(dss rl : List (List Nat))(ps : List (Nat × Nat)): Bool :=
  (ol.zipIdx.all fun (o, i) => (match o.guard with | none => true | some _ => false) && (o.after.toList.all fun e => !Region.binds .any e || decide (e.on < i)) &&
    ((d9 rl i).all fun j => decide (j < i) && o.after.toList.any fun e => jX .any e && (e.on == j || (d9 rl e.on).contains j)) &&
    ((d9 dss i).all fun j => (d9 rl i).contains j) &&
    (match o.dst with
     | some d => decide (d < n) && l.all (fun p => p.1 != d) && ol.zipIdx.all (fun (o', j) => j == i || o'.dst != some d)
     | none => st.contains i) &&
    (j3 (st.length + 1)).all (fun t => decide (t < kB st (d9 rl i)) || (t != 0 && (d9 rl (st.getD (t - 1) 0)).contains i) || (st.contains i && t != kB st (d9 rl i)) || ps.contains (i, t))) &&
  (j3 st.length).all (fun t => decide (st.getD t 0 < ol.length) && (j3 t).all fun u => (d9 rl (st.getD t 0)).contains (st.getD u 0))
structure DetOkV (n:Nat)(ol:List aX)(st:List Nat)(l:Fr)(dss rl:List (List Nat))(ps:List (Nat×Nat)):Prop where
 guard:∀(i:Nat) (o:aX),ol[i]?=some o→o.guard=none
 back:∀(i:Nat) (o:aX),ol[i]?=some o→∀e∈o.after,jX .any e=true→e.on<i
 reach:∀(i:Nat) (o:aX),ol[i]?=some o→∀j∈d9 rl i,j<i∧∃e∈o.after,jX .any e=true∧(e.on=j∨j∈d9 rl e.on)
 deps:∀(i:Nat) (o:aX),ol[i]?=some o→∀j∈d9 dss i,j∈d9 rl i
 val:∀(i:Nat) (o:aX),ol[i]?=some o→∀d,o.dst=some d→d<n∧(∀p∈l,p.1≠d)∧∀(j:Nat) (o':aX),ol[j]?=some o'→j≠i→o'.dst≠some d
 sto:∀(i:Nat) (o:aX),ol[i]?=some o→o.dst=none→i∈st
 pair:∀(i:Nat) (o:aX),ol[i]?=some o→∀t,t≤st.length→kB st (d9 rl i)≤t→(t=0∨i ∉ d9 rl (st.getD (t-1) 0))→(i∈st→t=kB st (d9 rl i))→(i,t)∈ps
 inN:∀t,t<st.length→st.getD t 0<ol.length
 ord:∀t,t<st.length→∀u,u<t→st.getD u 0∈d9 rl (st.getD t 0)
theorem a0F {l:Fr}(h:DJ n ol st l dss rl ps=true):DetOkV n ol st l dss rl ps:=by
 simp only [DJ,fE] at h
 obtain⟨h1,h2⟩:=h
 have key:=fun (i:Nat) (o:aX) (ho:ol[i]?=some o)=>rZ h1 i o ho
 simp only [fE] at key
 have key2:∀t,t<st.length→st.getD t 0<ol.length∧∀u,u<t→st.getD u 0∈d9 rl (st.getD t 0):=by
  intro t ht
  rw [fU] at h2
  have:=h2 t (jJ.2 ht)
  simp only [fE,decide_eq_true_eq,fU,jJ,nJ] at this
  exact this
 refine⟨fun i o ho=>?_,fun i o ho e he hb=>?_,fun i o ho j hj=>?_,fun i o ho j hj=>?_,fun i o ho d hd=>?_,fun i o ho hd=>?_,fun i o ho t ht hc hz hs=>?_,fun t ht=>(key2 t ht).1,fun t ht=>(key2 t ht).2⟩
 ·have:=(key i o ho).1.1.1.1.1
  cases hg:o.guard with
  | none=>rfl
  | some g=>rw [hg] at this;cases this
 ·have:=(key i o ho).1.1.1.1.2
  rw [fU] at this
  have:=this e (by simpa using he)
  simpa [hb] using this
 ·have:=(key i o ho).1.1.1.2
  rw [fU] at this
  have:=this j hj
  simp only [fE,decide_eq_true_eq,List.any_eq_true,nK,beq_iff_eq,nJ] at this
  obtain⟨h3,e,he,hb,h4⟩:=this
  exact⟨h3,e,by simpa using he,hb,h4⟩
 ·have:=(key i o ho).1.1.2
  rw [fU] at this
  simpa using this j hj
 ·have:=(key i o ho).1.2
  rw [hd] at this
  simp only [fE,decide_eq_true_eq] at this
  obtain⟨⟨h4,h5⟩,h6⟩:=this
  refine⟨h4,fun p hp=>?_,fun j o' ho' hne e=>?_⟩
  ·rw [fU] at h5
   simpa using h5 p hp
  ·have:=rZ h6 j o' ho'
   simp only [nK,beq_iff_eq,bne_iff_ne] at this
   rcases this with h | h
   ·exact hne h
   ·exact h e
 ·have:=(key i o ho).1.2
  rw [hd] at this
  exact nJ.1 this
 ·have:=(key i o ho).2
  rw [fU] at this
  have:=this t (jJ.2 (by omega))
  simp only [nK,fE,decide_eq_true_eq,bne_iff_ne,ne_eq,nJ] at this
  rcases this with ((h | h) | h) | h
  ·omega
  ·rcases hz with h0 | h0
   ·exact absurd h0 h.1
   ·exact absurd h.2 h0
  ·exact absurd (hs h.1) h.2
  ·exact h
section
variable {P:cD}{Q:dR→Act→a6→Prop}{n:Nat}{ol:List aX}{vs:List aH}{ws:List a6}{w:a6}{dss rl:List (List Nat)}{l:Fr}{st:List Nat}{ps:List (Nat×Nat)}
theorem LQ:∀{ps:List (Nat×Nat)},nC P n ol vs ws w dss l st ps→∀i t,(i,t)∈ps→tW P n ol vs ws w dss l st i t
 | [],_,i,t,h=>by cases h
 | (j,u)::r,h,i,t,hm=>by
  rcases List.mem_cons.1 hm with e | e
  ·cases e;exact h.1
  ·exact LQ h.2 i t e
theorem ML (hk:DetOkV n ol st l dss rl ps)(h:Closed ol listed):∀(i:Nat) (o:aX),ol[i]?=some o→(∀e∈o.after,jX .any e=true→listed.getD e.on false=true)→∀j∈d9 rl i,listed.getD j false=true:=by
 intro i
 induction i using Nat.strongRecOn with
 | ind i ih=>
  intro o ho hall j hj
  obtain⟨_,e,he,hb,h1⟩:=hk.reach i o ho j hj
  have hlt:=hk.back i o ho e he hb
  rcases h1 with h1 | h1
  ·rw [←h1];exact hall e he hb
  ·have hN:e.on<ol.length:=Nat.lt_trans hlt (iO.1 ho).1
   exact ih e.on hlt _ (cJ hN) (h e.on _ (cJ hN) (hall e he hb)) j h1
theorem a0D (hk:DetOkV n ol st l dss rl ps)(ho:nC P n ol vs ws w dss l st ps)(hfin:eo Q .normal n (zW ol vs l) (wv ws w st.length)):
  ∀(fuel:Nat) (listed:Array Bool) (a:Act) (t:Nat),sQ ol.length listed≤fuel→listed.size=ol.length→Closed ol listed→t≤st.length→(∀u,u<st.length→listed.getD (st.getD u 0) false=decide (u<t))→Rp n l a→
   (∀i,i<ol.length→listed.getD i false=true→∀d,eV ol i=some d→a.tmps.getD d undef=(vs[i]?).getD undef)→wpAny P .any ol.toArray Q fuel listed a (wv ws w t):=by
 have fin:∀(listed:Array Bool) (a:Act) (t:Nat),(∀i,i<ol.length→listed.getD i false=true)→t≤st.length→(∀u,u<st.length→listed.getD (st.getD u 0) false=decide (u<t))→Rp n l a→
   (∀i,i<ol.length→listed.getD i false=true→∀d,eV ol i=some d→a.tmps.getD d undef=(vs[i]?).getD undef)→Q .normal a (wv ws w t):=by
  intro listed a t hall ht hst hr hv
  have e:t=st.length:=by
   rcases jR t st.length with h | h
   ·have h1:=hst t h
    rw [hall _ (hk.inN t h)] at h1
    simp at h1
   ·omega
  subst e
  exact hfin a (hr.dfr _ fun j hj d hd=>hv j (jJ.1 hj) (hall j (jJ.1 hj)) d hd)
 intro fuel
 induction fuel with
 | zero=>
  intro listed a t hf hs hcl ht hst hr hv
  have hall:∀i,i<ol.length→listed.getD i false=true:=by
   intro i hi
   cases h:listed.getD i false with
   | true=>rfl
   | false=>have:=m6 hi hs h;omega
  refine⟨?_,fin listed a t hall ht hst hr hv⟩
  refine List.eq_nil_iff_forall_not_mem.2 fun j hj=>?_
  obtain⟨h1,o,hoj,_⟩:=lC.1 hj
  have hjl:j<ol.length:=(iO.1 hoj).1
  rw [lE,hall j hjl] at h1
  cases h1
 | succ fuel ih=>
  intro listed a t hf hs hcl ht hst hr hv
  refine⟨fun h0=>?_,fun i hir=>?_⟩
  ·refine fin listed a t (fun i hi=>?_) ht hst hr hv
   have key:∀k,k≤ol.length→∀i,i<k→listed.getD i false=true:=by
    intro k
    induction k with
    | zero=>intro _ i hi;omega
    | succ k ihk=>
     intro hk' i hi
     have ih':=ihk (by omega)
     rcases jR i k with h | h
     ·exact ih' i h
     ·have e:i=k:=by omega
      subst e
      cases hb:listed.getD i false with
      | true=>rfl
      | false=>
       have hrdy:i∈Region.ready .any ol.toArray listed:=lC.2 ⟨by rw [lE];exact hb,_,cJ (by omega),fun e he hbb=>ih' _ (hk.back i _ (cJ (by omega)) e he hbb)⟩
       rw [h0] at hrdy;cases hrdy
   exact key ol.length (b8 _) i hi
  ·obtain⟨hun,o,hoi,hall⟩:=lC.1 hir
   have hil:i<ol.length:=(iO.1 hoi).1
   have hun':listed.getD i false=false:=by rw [←lE];exact hun
   have hrch:=ML hk hcl i o hoi hall
   have hcnt:kB st (d9 rl i)≤t:=MG fun u hu1 hu2 hm=>by
    have h1:=hrch _ hm
    rw [hst u hu2] at h1
    simp at h1;omega
   have hzero:t=0∨i ∉ d9 rl (st.getD (t-1) 0):=by
    rcases mH t with h | h
    ·exact cE h
    ·refine bR fun hm=>?_
     have h1:=hst (t-1) (by omega)
     rw [decide_eq_true (by omega)] at h1
     have hN:=hk.inN (t-1) (by omega)
     have h2:=ML hk hcl _ _ (cJ hN) (fun e he hb=>hcl _ _ (cJ hN) h1 e he hb) i hm
     rw [hun'] at h2;cases h2
   have hstore:i∈st→t<st.length∧st.getD t 0=i∧t=kB st (d9 rl i):=by
    intro hm
    obtain⟨u,hu,heq⟩:=uG hm
    have hg:st.getD u 0=i:=by rw [bC,cJ hu];exact heq
    have h1:=hst u hu
    rw [hg,hun'] at h1
    have h2:¬u<t:=by intro h;rw [decide_eq_true h] at h1;cases h1
    have h3:u=t:=by
     rcases jR t u with h | h
     ·have h4:=hk.ord u hu t h
      rw [hg] at h4
      have h5:=hrch _ h4
      rw [hst t (by omega)] at h5
      simp at h5
     ·omega
    subst h3
    refine⟨hu,hg,?_⟩
    have h4:=KM (st:=st) (js:=d9 rl i) (t:=u) (by omega) (fun v hv'=>by rw [←hg];exact hk.ord u hu v hv')
    omega
   have aK:=LQ ho i t (hk.pair i o hoi t ht hcnt hzero (fun hm=>(hstore hm).2.2))
   unfold tW at aK
   rw [hoi] at aK
   simp only at aK
   have hacc:Rp n (dfr ol vs l (d9 dss i)) a:=hr.dfr _ fun j hj d hd=>by
    have h1:=hrch j (hk.deps i o hoi j hj)
    have h2:=(hk.reach i o hoi j (hk.deps i o hoi j hj)).1
    exact hv j (by omega) h1 d hd
   have hwant:u6 o (yielded ol.toArray a.tmps)=true:=by simp [u6,hk.guard i o hoi]
   unfold wpOp
   rw [pK,hoi]
   simp only
   rw [if_pos hwant]
   refine cE ?_
   unfold Oper.wp
   cases hd:o.dst with
   | some d=>
    obtain⟨hdn,hfar,hoth⟩:=hk.val i o hoi d hd
    have hslot:∀(v:aH) (hvi:v=(vs[i]?).getD undef),∀j,j<ol.length→(listed.setIfInBounds i true).getD j false=true→∀e,eV ol j=some e→(a.put (some d) v).tmps.getD e undef=(vs[j]?).getD undef:=fun v hvi j hj hlj e he=>by
     by_cases hij:i=j
     ·subst hij
      have e1:eV ol i=some d:=by unfold eV;rw [hoi];exact hd
      rw [e1] at he
      cases he
      rw [←hvi]
      exact uQ hr.size hdn _
     ·rw [Go.getD_set_ne false hij] at hlj
      have hne:e≠d:=by
       intro hed
       subst hed
       obtain⟨oj,hoj⟩:∃oj,ol[j]?=some oj:=⟨_,cJ hj⟩
       refine hoth j oj hoj (Ne.symm hij) ?_
       unfold eV at he
       rw [hoj] at he
       exact he
      have:=xL (a:=a) (d:=d) (e:=some e) (fun h=>hne (l4 h)) v
      exact this.trans (hv j hj hlj e he)
    by_cases hmst:i∈st
    ·obtain⟨htl,hgt,_⟩:=hstore hmst
     rw [if_pos (by simpa using hmst),hd] at aK
     simp only at aK
     rw [aK a hacc]
     simp only [oG,hd]
     refine ih _ _ (t+1) (by have:=m6 hil hs hun';omega) (by simpa using hs) (hcl.set hoi hall) (by omega) (fun u hu=>?_) (hr.put_far hfar _) (hslot _ rfl)
     by_cases hut:u=t
     ·subst hut
      rw [hgt]
      simp [hs,hil]
     ·have hne:i≠st.getD u 0:=by
       intro e
       rcases jR u t with h | h
       ·have h1:=hst u hu
        rw [←e,hun',decide_eq_true h] at h1;cases h1
       ·have h4:=hk.ord u hu t (by omega)
        rw [hgt,←e] at h4
        have:=(hk.reach i o hoi i h4).1
        omega
      rw [Go.getD_set_ne false hne,hst u hu]
      congr 1
      simp only [eq_iff_iff]
      omega
    ·rw [if_neg (by simpa using hmst)] at aK
     rw [aK a hacc]
     simp only [oG,hd]
     refine ih _ _ t (by have:=m6 hil hs hun';omega) (by simpa using hs) (hcl.set hoi hall) ht (fun u hu=>?_) (hr.put_far hfar _) (hslot _ rfl)
     rw [Go.getD_set_ne false (fun e=>hmst (by rw [e,bC,cJ hu];exact mI hu))]
     exact hst u hu
   | none=>
    have hm:=hk.sto i o hoi hd
    obtain⟨htl,hgt,_⟩:=hstore hm
    rw [if_pos (by simpa using hm),hd] at aK
    simp only at aK
    rw [aK a hacc]
    simp only [oG,hd]
    refine ih _ _ (t+1) (by have:=m6 hil hs hun';omega) (by simpa using hs) (hcl.set hoi hall) (by omega) (fun u hu=>?_) hr (fun j hj hlj e he=>?_)
    ·by_cases hut:u=t
     ·subst hut
      rw [hgt]
      simp [hs,hil]
     ·have hne:i≠st.getD u 0:=by
       intro e
       rcases jR u t with h | h
       ·have h1:=hst u hu
        rw [←e,hun',decide_eq_true h] at h1;cases h1
       ·have h4:=hk.ord u hu t (by omega)
        rw [hgt,←e] at h4
        have:=(hk.reach i o hoi i h4).1
        omega
      rw [Go.getD_set_ne false hne,hst u hu]
      congr 1
      simp only [eq_iff_iff]
      omega
    ·by_cases hij:i=j
     ·subst hij
      have e1:eV ol i=none:=by unfold eV;rw [hoi];exact hd
      rw [e1] at he;cases he
     ·rw [Go.getD_set_ne false hij] at hlj
      exact hv j hj hlj e he
theorem a0J (hmix:P.follows .mixedOrders=true)(vs:List aH)(ws:List a6)(st:List Nat)(dss rl:List (List Nat))(ps:List (Nat×Nat)){w0:a6}(hk:DJ n ol st l dss rl ps=true)(hw:wv ws w 0=w0.drew)(ho:nC P n ol vs ws w dss l st ps)(hfin:eo Q .normal n (zW ol vs l) (wv ws w st.length)):cw P Q n (.region id ol.toArray true) l w0:=fun a ha=>by
 refine wp_region_any hmix ?_
 have hsz:(uJ ol.toArray.size false).size=ol.length:=by simp
 have hfalse:∀i,(uJ ol.toArray.size false).getD i false=false:=by
  intro i
  simp only [Array.getD_eq_getD_getElem?,Array.getElem?_replicate]
  split <;> rfl
 have:=a0D (a0F hk) ho hfin ol.toArray.size _ a 0 (by
  refine aG List.countP_le_length ?_
  simp) hsz (fun i o _ h=>by rw [hfalse] at h;cases h) (bW _) (fun u _=>by rw [hfalse];simp) ha (fun i _ h=>by rw [hfalse] at h;cases h)
 rw [hw] at this
 exact this
theorem oA {t:Nat}{o:aX}{wt:a6}(acc:Fr)(ho:ol[i]?=some o)(hs:st.contains i=false)(hv:(vs[i]?).getD undef=v)(hw:wv ws w t=wt)(hacc:dfr ol vs l (d9 dss i)=acc)(h:iT P n acc o wt (.value v) wt)(h':nC P n ol vs ws w dss l st ps):nC P n ol vs ws w dss l st ((i,t)::ps):=⟨by unfold tW;rw [ho];simp only;rw [hs,if_neg (by simp),hv,hw,hacc];exact h,h'⟩
theorem a0q {t:Nat}{o:aX}{wt wt':a6}(acc:Fr)(ho:ol[i]?=some o)(hs:st.contains i=true)(hd:o.dst=some d)(hv:(vs[i]?).getD undef=v)(hw:wv ws w t=wt)(hw':wv ws w (t+1)=wt')(hacc:dfr ol vs l (d9 dss i)=acc)(h:iT P n acc o wt (.value v) wt')(h':nC P n ol vs ws w dss l st ps):nC P n ol vs ws w dss l st ((i,t)::ps):=⟨by unfold tW;rw [ho];simp only;rw [hs,if_pos rfl,hw,hw',hacc,hd];simp only;rw [hv];exact h,h'⟩
theorem a0o {t:Nat}{o:aX}{wt wt':a6}(acc:Fr)(ho:ol[i]?=some o)(hd:o.dst=none)(hs:st.contains i=true)(hw:wv ws w t=wt)(hw':wv ws w (t+1)=wt')(hacc:dfr ol vs l (d9 dss i)=acc)(h:iT P n acc o wt .skip wt')(h':nC P n ol vs ws w dss l st ps):nC P n ol vs ws w dss l st ((i,t)::ps):=⟨by unfold tW;rw [ho];simp only;rw [hs,if_pos rfl,hw,hw',hacc,hd];exact h,h'⟩
theorem a0p:nC P n ol vs ws w dss l st []:=trivial
end
def sgn (d:Nat):Nat:=if d<10 then 48+d else 87+d
def B8 (x:Nat):aH:= .int .u8 (x:Int)
theorem GF:sgn 0=48:=rfl
theorem RJ (h:d<36):sgn d≤122:=by unfold sgn;split <;> omega
def a8 (bs:List Nat):ByteArray:=⟨(bs.map UInt8.ofNat).toArray⟩
def eT (l:List Nat)(k:Nat):List Nat:=l++bP (k-l.length) 0
theorem rR (l:List Nat)(k:Nat):(eT l k).length=max l.length k:=by simp only [eT,cL,List.length_replicate];omega
def eE (l:List Nat):List Nat:=l.reverse.map sgn
theorem xB (l r:List Nat):eE (l++r)=eE r++eE l:=by simp [eE]
theorem xA (l:List Nat):(eE l).length=l.length:=by simp [eE]
theorem Q0 (k:Nat):eE (bP k 0)=bP k 48:=by simp [eE,GF]
theorem BH (l:List Nat)(k:Nat):eE (eT l k)=bP (k-l.length) 48++eE l:=by rw [eT,xB,Q0]
theorem fF (w:a6):(sizeOf 5).run aF w= .ok 1 w:=by kernel_rfl
theorem qX (w:a6):(isAgg 5).run aF w= .ok false w:=by kernel_rfl
theorem fM:Tryz.prog.underlying 183=some (.slice 5):=by kernel_rfl
theorem qR:(Tryz.prog.info? 5).map (fun i=>(i.zero,i.size,i.bytes))=some (some (.int .u8 0),1,1):=by kernel_rfl
theorem zX (w:a6):(isAgg 3).run aF w= .ok false w:=by kernel_rfl
theorem pA (xs:List Nat)(i x:Nat):(xs.map B8).set i (.int .u8 (x:Int))=(xs.set i x).map B8:=by rw [List.map_set];rfl
section
variable {P:cD}{Q:dR→Act→a6→Prop}{n:Nat}{l:Fr}{w:a6}{ops:Array aX}{rest:List aX}{d:Nat}{op:Op}{ty:aT}{pos:String}{af:Array fD}{gd:Option (Nat×Bool)}
theorem SU {s:Nat}{a:aC}{k:jA}{i:Int}(hT:P.underlying t=some (.array m e))(hs:∀w,(sizeOf e).run P w= .ok s w)(hi:i=(j:Int))(hj:j<m)(hp:a.add (j*s)=p):
  (Instr.indexAt t (.pointer (some a)) (.int k i)).run P w= .ok (.pointer (some p)) w:=by
 subst hi hp
 have hu:(underlying t).run P w= .ok (.array m e) w:=kZ hT w
 have hsa:(Instr.sureAddr (.pointer (some a))).run P w= .ok a w:=rfl
 unfold Instr.indexAt
 simp only [asIntOf,cK,gN,f8,hu,hsa]
 rw [if_pos ⟨by omega,by omega⟩]
 simp only [cK,hs w,f8,gN,gV]
theorem B7 (hw:dI ops l gd=some true){s:Nat}{a:aC}{k:jA}{i:Int}(hx:bZ l x=some (.pointer (some a)))(hy:bZ l y=some (.int k i))(hT:P.underlying t=some (.array m e))(hs:∀w,(sizeOf e).run P w= .ok s w)(j:Nat)(hi:i=(j:Int))(hj:j<m)(p:aC)(hp:a.add (j*s)=p)(h:wl P ops Q n rest ((d,.pointer (some p))::l) w)(hn:d<n:=by decide):wl P ops Q n (⟨some d,.indexAddr t x y,ty,pos,af,gd⟩::rest) l w:=
 fJ hw hn (fun a' ha=>by
  have e:(Instr.indexAt t (a'.eval x) (a'.eval y)).run P w= .ok (.pointer (some p)) w:=by rw [ha.ev hx,ha.ev hy];exact SU hT hs hi hj hp
  show ((Instr.indexAt t (a'.eval x) (a'.eval y)>>=fun r=>pure (fZ r):Sem fH)).run P w=_
  rw [cK,e];rfl) h
theorem SQ {s lo:Nat}{a:aC}(hT:P.underlying t=some (.array m e))(hs:∀w,(sizeOf e).run P w= .ok s w)(h3:lo≤m):
  (Instr.sliceAt t (.pointer (some a)) (some (.int .i64 (lo:Int))) none none).run P w= .ok (.slice (some (if m=lo then a else a.add (lo*s))) (m-lo) (m-lo)) w:=by
 have hu:(underlying t).run P w= .ok (.array m e) w:=kZ hT w
 have hsa:(Instr.sureAddr (.pointer (some a))).run P w= .ok a w:=rfl
 have hb:(Instr.sliceBounds false m m (some (.int .i64 (lo:Int))) none none).run P w= .ok (lo,m,m) w:=by
  unfold Instr.sliceBounds
  simp only [cK,gN,f8,Option.isSome,uW h3]
 unfold Instr.sliceAt
 simp only [cK,hu,f8,hsa,hb,hs w,gN]
theorem U2 {s lo:Nat}{a:aC}(hx:bZ l x=some (.pointer (some a)))(hy:bZ l y=some (.int .i64 (lo:Int)))(hT:P.underlying t=some (.array m e))(hs:∀w,(sizeOf e).run P w= .ok s w)(h3:lo≤m):
  iT P n l ⟨dst,.slice t x (some y) none none,ty,pos,af,gd⟩ w (.value (.slice (some (if m=lo then a else a.add (lo*s))) (m-lo) (m-lo))) w:=fun a' ha=>by
 have e:(Instr.sliceAt t (a'.eval x) (some (a'.eval y)) none none).run P w= .ok (.slice (some (if m=lo then a else a.add (lo*s))) (m-lo) (m-lo)) w:=by rw [ha.ev hx,ha.ev hy];exact SQ hT hs h3
 show ((Instr.sliceAt t (a'.eval x) (some (a'.eval y)) none none>>=fun r=>pure (fZ r):Sem fH)).run P w=_
 rw [cK,e];rfl
theorem U3 {r:aH}{w':a6}(hx:bZ l x=some u)(hy:bZ l y=some v)(hr:(rC #[t,t] ty #[u,v]).run P w= .ok r w'):
  iT P n l ⟨dst,.call {callee:= .builtin .append,args:= #[x,y],argTypes:= #[t,t]},ty,pos,af,gd⟩ w (.value r) w':=fun a' ha=>by
 unfold execOp
 simp only [resolve,invoke,builtin,cK,gN,f8,pT,iN,j7,ha.ev hx,ha.ev hy]
 rw [hr]
 rfl
end
def Signs (w:a6):Prop:=∀d,d<36→w.cell? ⟨4,d,none⟩=some (.int .u8 ((sgn d:Nat):Int))
theorem Signs.ext {w w':a6}(h:Signs w)(e:Ext w w'):Signs w':=fun d hd=>e.cell (h d hd)
def Wr (w:a6)(g base k unit:Nat)(PA:Option aC)(pn pc:Nat)(OA:Option aC)(on oc:Nat):Prop:=
 Bk w g 193 [.int .i64 (base:Int),.int .i64 (k:Int),.int .u64 (unit:Int),.slice PA pn pc,.slice OA on oc]
structure UpdW (lb:Nat)(w w':a6):Prop where
 os:w'.os=w.os
 tape:w'.tape=w.tape
 output:w'.output=w.output
 size:w.heap.size≤w'.heap.size
 low:∀k,k<lb→k<w.heap.size→w'.heap[k]?=w.heap[k]?
 typ:∀(k:Nat) (cs:Array aH) (t:aT) (fr:Nat×Nat),w.heap[k]?=some (.cells cs t fr)→t≠193→t≠5→w'.heap[k]?=some (.cells cs t fr)
section
variable {lb:Nat}{a b c w w':a6}
theorem UpdW.refl (lb:Nat)(w:a6):UpdW lb w w:=⟨rfl,rfl,rfl,b8 _,fun _ _ _=>rfl,fun _ _ _ _ h _ _=>h⟩
theorem UpdW.trans (h:UpdW lb a b)(e:Ext b c):UpdW lb a c:=
 ⟨e.below.os.trans h.os,e.below.tape.trans h.tape,e.below.output.trans h.output,aG h.size e.size,fun k hk hs=>(e.below.block k (dF hs h.size)).trans (h.low k hk hs),fun k cs t fr ho h1 h2=>e.heap (h.typ k cs t fr ho h1 h2)⟩
theorem UpdW.then (h:UpdW lb a b)(e:UpdW lb b c):UpdW lb a c:=
 ⟨e.os.trans h.os,e.tape.trans h.tape,e.output.trans h.output,aG h.size e.size,fun k hk hs=>(e.low k hk (dF hs h.size)).trans (h.low k hk hs),fun k cs t fr ho h1 h2=>e.typ k cs t fr (h.typ k cs t fr ho h1 h2) h1 h2⟩
theorem UpdW.upd (h:UpdW lb a b)(u:Upd g b c)(hg:lb≤g)(hn:∀(cs:Array aH) (t:aT) (fr:Nat×Nat),a.heap[g]?=some (.cells cs t fr)→t=193∨t=5):UpdW lb a c:=
 ⟨u.by_.os.trans h.os,u.by_.tape.trans h.tape,u.by_.output.trans h.output,aG h.size u.by_.size,fun k hk hs=>(u.by_.block k (dF hs h.size) (fun e=>by injection e with e;omega)).trans (h.low k hk hs),fun k cs t fr ho h1 h2=>by
  have hlt:k<a.heap.size:=(pV.1 ho).1
  refine (u.by_.block k (dF hlt h.size) (fun e=>?_)).trans (h.typ k cs t fr ho h1 h2)
  injection e with e
  subst e
  rcases hn cs t fr ho with e | e
  ·exact h1 e
  ·exact h2 e⟩
theorem UpdW.updO (h:UpdW lb a b)(u:UpdO A b c)(hA:∀p,A=some p→lb≤p.block)(hn:∀(p:aC) (cs:Array aH) (t:aT) (fr:Nat×Nat),A=some p→a.heap[p.block]?=some (.cells cs t fr)→t=193∨t=5):UpdW lb a c:=
 ⟨u.by_.os.trans h.os,u.by_.tape.trans h.tape,u.by_.output.trans h.output,aG h.size u.by_.size,fun k hk hs=>(u.by_.block k (dF hs h.size) (fun e=>by
   cases A with
   | none=>cases e
   | some p=>have e':k=p.block:=l4 e;have:=hA p rfl;omega)).trans (h.low k hk hs),fun k cs t fr ho h1 h2=>by
  have hlt:k<a.heap.size:=(pV.1 ho).1
  refine (u.by_.block k (dF hlt h.size) (fun e=>?_)).trans (h.typ k cs t fr ho h1 h2)
  cases A with
  | none=>cases e
  | some p=>
   have e':k=p.block:=l4 e
   subst e'
   rcases hn p cs t fr rfl ho with e | e
   ·exact h1 e
   ·exact h2 e⟩
theorem UpdW.ext (h:UpdW lb w w')(e:Ext a w)(hl:a.heap.size≤lb):Ext a w':=
 ⟨⟨h.os.trans e.below.os,h.tape.trans e.below.tape,h.output.trans e.below.output,aG e.size h.size,fun k hk=>(h.low k (dF hk hl) (dF hk e.size)).trans (e.below.block k hk)⟩⟩
theorem UpdW.bk (h:UpdW lb w w')(hb:Bk w g t vs)(h1:t≠193)(h2:t≠5):Bk w' g t vs:=h.typ g _ _ _ hb h1 h2
theorem UpdW.own {s:Nat}(h:UpdW lb w w')(ho:Own w base t s A n cap vs)(h1:t≠193)(h2:t≠5):Own w' base t s A n cap vs:=by
 rcases ho with ho | ⟨g,cs,ha,hb,hk,r⟩
 ·exact cE ho
 ·exact bR ⟨g,cs,ha,hb,h.bk hk h1 h2,r⟩
theorem UpdW.cell (h:UpdW lb w w')(hp:p.block<lb)(hc:w.cell? p=some v):w'.cell? p=some v:=
 (World.cell?_of_block (h.low p.block hp (tZ w p hc))).trans hc
theorem UpdW.signs (h:UpdW lb w w')(hs:Signs w)(hl:4<lb):Signs w':=fun d hd=>h.cell hl (hs d hd)
end
structure PieceK (b k:Nat):Prop where
 le:b^k≤18446744073709551615
 gt:18446744073709551615<b^(k+1)
 le64:k≤64
theorem V9 (hb:2≤b)(h:b^k≤18446744073709551615):k<64:=by
 refine oI (fun hk=>?_)
 have h1:2^64≤b^k:=aG (dU (by decide) hk) (Nat.pow_le_pow_left hb k)
 omega
theorem VC (hb:2≤b)(h:b^(k+1)≤18446744073709551615):k+1≤64:=by have:=V9 hb h;omega
theorem DY {w:a6}(h:Bk w g t vs)(h':w.heap[g]?=some (.cells cs t' fr)):t'=t:=by
 unfold Bk at h
 rw [h] at h'
 injection h' with h'
 injection h' with h1 h2
 exact h2.symm
theorem DZ {w:a6}(h:w.heap.size≤g):¬w.heap[g]?=some (.cells cs t fr):=fun e=>by
 have:=(pV.1 e).1
 omega
theorem vF {w:a6}{t T s:Nat}(h:Own w b t s A n c us)(hb:Bk w g T vs)(hT:t≠T):∀p,A=some p→p.block≠g:=fun p hp e=>by
 rcases h with⟨h,_⟩ | ⟨k,cs,hA,_,hk,_⟩
 ·rw [h] at hp;cases hp
 ·rw [hA] at hp
  cases hp
  simp only at e
  subst e
  unfold Bk at hk hb
  rw [hk] at hb
  injection hb with hb
  injection hb with h1 h2
  exact hT h2
theorem zU (g i:Nat):(⟨g,0,none⟩:aC).add (i*1)=⟨g,i,none⟩:=by rw [cI,kX,f9]
theorem J5 {w:a6}{T s:Nat}(h:Own w b T s A n c us):∀(p:aC) (cs:Array aH) (t:aT) (fr:Nat×Nat),A=some p→w.heap[p.block]?=some (.cells cs t fr)→t=T:=fun p cs t fr hp h'=>by
 rcases h with⟨h,_⟩ | ⟨k,cs',hA,_,hk,_⟩
 ·rw [h] at hp;cases hp
 ·rw [hA] at hp;cases hp
  exact DY hk h'
theorem Kept.of {w v:a6}(h:Kept v A A')(hs:w.heap.size≤v.heap.size):Kept w A A':=fun p hp=>(h p hp).imp id (fun e=>aG hs e)
def AB (w:a6)(lb g base k unit:Nat)(PA:Option aC)(pn pc:Nat)(OA:Option aC)(bs:List Nat)(e:fA)(w':a6):Prop:=
 e= .returned (.tuple #[])∧∃OA' on' oc',Wr w' g base k unit PA pn pc OA' on' oc'∧Own w' lb 5 1 OA' on' oc' (bs.map B8)∧UpdW lb w w'∧Kept w OA OA'
theorem LP {x:Nat}(h:i<l.length):(l.set i x).drop i=x::l.drop (i+1):=by
 rw [m4 (by rw [List.length_set];exact h),List.getElem_set_self,List.drop_set_of_lt (by omega)]
theorem Q4 (l:List Nat)(d:Nat):eE (l++ [d])=sgn d::eE l:=by simp [eE]
theorem OU {v vv:Nat}(hb:2≤b)(hv:v≤18446744073709551615)(h:db b v=acc++db b vv)(hn:0<(db b vv).length):acc.length<64:=by
 have h1:(db b v).length≤64:=kT hb (dF (show v<2^64 by omega) (Nat.pow_le_pow_left hb 64))
 rw [h,cL] at h1
 omega
theorem a1N (l:List Nat):(l.map B8).all (·.oneCell')=true:=by
 rw [fU]
 intro u hu
 obtain⟨x,_,rfl⟩:=oJ.1 hu
 rfl
theorem a1r {w:a6}{lo:Nat}(h:Bk w g T (l.map B8))(hl:l.length=64)(hlo:lo≤64):∀j u,((l.drop lo).map B8)[j]?=some u→w.cell? ((if 64=lo then (⟨g,0,none⟩:aC) else (⟨g,0,none⟩:aC).add (lo*1)).add j)=some u:=by
 intro j u hj
 have hjl:=(iO.1 hj).1
 rw [List.length_map,cV,hl] at hjl
 rw [if_neg (by omega),zU,kX]
 rw [h.cell (by rw [List.length_map,hl];omega)]
 rw [uF,oK] at hj
 rw [bC,hj];rfl
set_option maxHeartbeats 4000000 in
theorem GT {w:a6}(hbl:2≤base)(hbu:base≤36):
    aO aF 227 #[.int .i64 base] w (fun e w'=>∃k,PieceK base k∧Gv w (T2 (Is (.int .i64 k)) (Is (.int .u64 ((base^k:Nat):Int)))) e w'):=by
 refine bK Tryz.func227 rfl (n:=19) rfl (bq rfl) (args:= [.int .i64 base]) (bE [(0,.int .i64 base)] ⟨rfl,trivial⟩ (sr (mv 2 rfl (a0 (sr (mv 2 rfl (a0 (aA (bG ?_)))))))))
 refine d4 (T:=a6×Nat×Nat)
  (fun⟨wr,k,p⟩=> [(0,.int .i64 base),(2,.int .i64 0),(3,.int .u64 0),(4,.int .i64 k),(5,.int .u64 p)])
  (fun⟨wr,k,p⟩=>wr)
  (fun⟨wr,k,p⟩=>(Ext w wr)∧(p=base^k)∧(p≤18446744073709551615)∧(k≤64))
  (fun⟨wr,k,p⟩=>18446744073709551616-p)
  (⟨w,0,1⟩:a6×Nat×Nat) ⟨(Ext.refl w),(Nat.pow_zero base).symm,(by decide),(by decide)⟩ rfl ⟨rfl,rfl,rfl,rfl,rfl,trivial⟩ ?_
 rintro⟨wr,k,p⟩ ⟨hw1,hp,hpm,hk⟩
 refine cC [(0,.int .i64 base),(2,.int .i64 0),(3,.int .u64 0),(4,.int .i64 k),(5,.int .u64 p)] wr rfl ⟨rfl,rfl,rfl,rfl,rfl,trivial⟩ (aA (aA ?_))
 have hp1:1≤p:=by rw [hp];exact eP (by omega)
 by_cases htest:p≤18446744073709551615/base
 · 
  have hpb:p*base≤18446744073709551615:=(Nat.le_div_iff_mul_le (by omega)).1 htest
  refine a7 (mv 2 rfl (bD rfl rfl (v:= .int .u64 (IntKind.u64.wrap ((base:Nat):Int))) (v':= .int .u64 base) (eD (by first | omega | exact hle64)) (aE rfl rfl rfl ((18446744073709551615/base:Nat):Int) (iR (a:=18446744073709551615) (b:=base) rfl rfl) (aB rfl rfl rfl true (lV (a:=p) (b:=18446744073709551615/base) rfl rfl) (a0 (aP rfl (aN (aD (bG (sr (mv 2 rfl (bD rfl rfl (v:= .int .u64 (IntKind.u64.wrap ((base:Nat):Int))) (v':= .int .u64 base) (eD (by first | omega | exact hle64)) (aE rfl rfl rfl ((p*base:Nat):Int) (lX (a:=p) (b:=base) rfl rfl) ?_)))))))))))))
  refine mv 1 rfl (a0 (a7 (mv 1 rfl (aE rfl rfl rfl ((k+1:Nat):Int) (bF (a:=k) (b:=1) rfl rfl) (mv 1 rfl (aU (cA (cH (⟨wr,k+1,p*base⟩:a6×Nat×Nat) ⟨hw1,(by rw [hp,cB]),hpb,(VC hbl (by rw [cB,←hp];exact hpb))⟩ (by show 18446744073709551616-p*base<18446744073709551616-p;have:p*2≤p*base:=eF p hbl;omega) rfl ⟨rfl,rfl,rfl,rfl,rfl,trivial⟩))))))))
 · 
  have hpb:18446744073709551615<p*base:=oI (fun h=>htest ((Nat.le_div_iff_mul_le (by omega)).2 h))
  refine a7 (mv 2 rfl (bD rfl rfl (v:= .int .u64 (IntKind.u64.wrap ((base:Nat):Int))) (v':= .int .u64 base) (eD (by first | omega | exact hle64)) (aE rfl rfl rfl ((18446744073709551615/base:Nat):Int) (iR (a:=18446744073709551615) (b:=base) rfl rfl) (aB rfl rfl rfl false (lW (a:=p) (b:=18446744073709551615/base) rfl rfl) (a0 (aI rfl (cR (cN (cP (cQ (aD (sr (mv 1 rfl ?_)))))))))))))
  refine mv 3 rfl (a0 (aM (aL [.int .i64 k,.int .u64 p] rfl ⟨rfl,rfl,trivial⟩ ?_)))
  exact⟨k,⟨by rw [←hp];exact hpm,by rw [cB,←hp];exact hpb,hk⟩,_,rfl,⟨_,_,rfl,rfl,(show bV .u64 ((p:Nat):Int)=_ by rw [hp])⟩,hw1⟩
set_option maxHeartbeats 4000000 in
theorem GR {w:a6}{pc:Nat}(hS:Signs w)(_hgS:4<lb)(hbl:2≤base)(hbu:base≤36)(hW:Wr w g base k unit PA pn pc OA on oc)(hO:Own w lb 5 1 OA on oc (bs.map B8))(hgl:lb≤g)(hlb:lb≤w.heap.size){v:Nat}(hv:v≤18446744073709551615)(hwd:width≤64)(hon:on≤549755813888):
    aO aF 276 #[.pointer (some ⟨g,0,none⟩),.int .u64 v,.int .i64 width] w (AB w lb g base k unit PA pn pc OA (bs++eE (eT (db base v) width))):=by
 refine bK Tryz.func276 rfl (n:=48) rfl (bq rfl) (args:= [.pointer (some ⟨g,0,none⟩),.int .u64 v,.int .i64 width]) (bE [(0,.pointer (some ⟨g,0,none⟩)),(1,.int .u64 v),(2,.int .i64 width)] ⟨rfl,rfl,rfl,trivial⟩ (sr (m5 rfl (z:= .agg ((bP 64 0).map B8).toArray) (vs:=(bP 64 0).map B8) (fun _=>by kernel_rfl) rfl fun g1 v2 nb=>?_)))
 have hb3:=nb.bk
 have ge4:w.heap.size≤g1:=by rw [←nb.at_];exact (UpdW.refl lb w).size
 have hgd:g<g1:=by rw [←nb.at_];exact hW.lt
 have e5:=nb.ext
 have hw1:UpdW lb w v2:=(UpdW.refl lb w).trans e5
 have hx1:Ext w v2:=(Ext.refl w).trans e5
 refine a0 (sr (mv 1 rfl (a0 (aA (bG ?_)))))
 refine d4 (T:=a6×Nat×Nat×List Nat×List Nat)
  (fun⟨wr,vv,n,l,acc⟩=> [(0,.pointer (some ⟨g,0,none⟩)),(2,.int .i64 width),(6,.pointer (some ⟨g1,0,none⟩)),(1,.int .u64 vv),(7,.int .i64 n)])
  (fun⟨wr,vv,n,l,acc⟩=>wr)
  (fun⟨wr,vv,n,l,acc⟩=>(UpdW lb w wr)∧(Ext w wr)∧(db base v=acc++db base vv)∧(n+acc.length=64)∧(l.length=64)∧(l.drop n=eE acc)∧(vv≤18446744073709551615)∧(Bk wr g1 231 (l.map B8)))
  (fun⟨wr,vv,n,l,acc⟩=>vv)
  (⟨v2,v,64,bP 64 0,[]⟩:a6×Nat×Nat×List Nat×List Nat) ⟨hw1,hx1,rfl,rfl,(List.length_replicate),(by rw [List.drop_eq_nil_of_le (by rw [List.length_replicate];decide)];rfl),hv,hb3⟩ rfl ⟨rfl,rfl,rfl,rfl,rfl,trivial⟩ ?_
 rintro⟨wr,vv,n,l,acc⟩ ⟨hw1,hx1,hacc,hn,hll,hld,hvv,b_d⟩
 refine cC [(0,.pointer (some ⟨g,0,none⟩)),(2,.int .i64 width),(6,.pointer (some ⟨g1,0,none⟩)),(1,.int .u64 vv),(7,.int .i64 n)] wr rfl ⟨rfl,rfl,rfl,rfl,rfl,trivial⟩ (aA (aA ?_))
 by_cases hv0:vv>0
 · 
  have hdb:=lR hbl (show vv≠0 by omega)
  have hal:acc.length<64:=OU hbl hv hacc (by rw [hdb];simp)
  refine a7 (mv 1 rfl (aB rfl rfl rfl true (dJ (a:=vv) (b:=0) rfl rfl) (a0 (aP rfl (aN (aD (bG (sr (mv 1 rfl (aE rfl rfl rfl ((n-1:Nat):Int) (eR (a:=n) (b:=1) rfl rfl) (mv 1 rfl (a0 (aA ?_)))))))))))))
  refine a7 (mv 3 rfl (pf g 0 rfl (pf g 0 rfl (aS rfl rfl (aY (fun _=>by kernel_rfl) (hW.ext hx1) rfl) (bD rfl rfl (v:= .int .u64 (IntKind.u64.wrap ((base:Nat):Int))) (v':= .int .u64 base) (eD (by first | omega | exact hle64)) (aE rfl rfl rfl ((vv%base:Nat):Int) (fC (a:=vv) (b:=base) rfl rfl) (B7 rfl rfl rfl Tryz.underlying232 fF (vv%base) rfl (dF (eO _ (by omega)) hbu) ⟨4,vv%base,none⟩ (zU _ _) (aS rfl rfl (cZ qX ((hS.ext hx1) _ (dF (eO _ (by omega)) hbu))) (B7 rfl rfl rfl Tryz.underlying231 fF (n-1) rfl (by omega) ⟨g1,n-1,none⟩ (zU _ _) ?_)))))))))
  have hb7:=b_d
  refine eB rfl rfl rfl fF rfl hb7 (fK (by rw [hll];omega)) rfl ((l.set (n-1) (sgn (vv%base))).map B8) (pA _ _ _) fun v6 hb8 u9 hs10=>?_
  have hx2:Ext w v6:=u9.ext hx1 ge4
  have hw2:UpdW lb w v6:=hw1.upd u9 (aG hlb ge4) (fun _ _ _ h=>absurd h (DZ ge4))
  refine a0 (a7 (mv 2 rfl (pf g 0 rfl (pf g 0 rfl (aS rfl rfl (aY (fun _=>by kernel_rfl) ((hW.ext hx1).updN u9 (by omega)) rfl) (bD rfl rfl (v:= .int .u64 (IntKind.u64.wrap ((base:Nat):Int))) (v':= .int .u64 base) (eD (by first | omega | exact hle64)) (aE rfl rfl rfl ((vv/base:Nat):Int) (iR (a:=vv) (b:=base) rfl rfl) (mv 1 rfl (aU (cA (cH (⟨v6,vv/base,n-1,l.set (n-1) (sgn (vv%base)),acc++ [vv%base]⟩:a6×Nat×Nat×List Nat×List Nat) ⟨hw2,hx2,(by rw [hacc,hdb,List.append_assoc];rfl),(by rw [cL,List.length_singleton];omega),(by rw [List.length_set];exact hll),(by rw [LP (by omega),show n-1+1=n by omega,hld,Q4]),(aG (fI _ _) hvv),hb8⟩ (jZ (by omega) (by omega)) rfl ⟨rfl,rfl,rfl,rfl,rfl,trivial⟩)))))))))))
 · 
  refine a7 (mv 1 rfl (aB rfl rfl rfl false (d6 (a:=vv) (b:=0) rfl rfl) (a0 (aI rfl (cR (cN (cP (cQ (aD (aA (bG ?_)))))))))))
  have hacc0:db base v=acc:=by rw [hacc,show vv=0 by omega,lG,mJ]
  refine d4 (T:=a6×Nat×List Nat×Nat)
   (fun⟨wq,m,l2,z⟩=> [(0,.pointer (some ⟨g,0,none⟩)),(2,.int .i64 width),(6,.pointer (some ⟨g1,0,none⟩)),(7,.int .i64 m)])
   (fun⟨wq,m,l2,z⟩=>wq)
   (fun⟨wq,m,l2,z⟩=>(UpdW lb w wq)∧(Ext w wq)∧(m+z+acc.length=64)∧(z≤width-acc.length)∧(l2.length=64)∧(l2.drop m=bP z 48++eE acc)∧(Bk wq g1 231 (l2.map B8)))
   (fun⟨wq,m,l2,z⟩=>m)
   (⟨wr,n,l,0⟩:a6×Nat×List Nat×Nat) ⟨hw1,hx1,(by omega),(bW _),hll,hld,b_d⟩ rfl ⟨rfl,rfl,rfl,rfl,trivial⟩ ?_
  rintro⟨wq,m,l2,z⟩ ⟨hw1,hx1,hz,hzl,hll2,hld2,b_d⟩
  refine cC [(0,.pointer (some ⟨g,0,none⟩)),(2,.int .i64 width),(6,.pointer (some ⟨g1,0,none⟩)),(7,.int .i64 m)] wq rfl ⟨rfl,rfl,rfl,rfl,trivial⟩ (aA (aA ?_))
  by_cases htw:64-m<width
  · 
   refine a7 (mv 1 rfl (aE rfl rfl rfl ((64-m:Nat):Int) (eR (a:=64) (b:=m) rfl rfl) (mv 1 rfl (aB rfl rfl rfl true (dB (a:=64-m) (b:=width) rfl rfl) (a0 (aP rfl (aN (aD (bG (sr (mv 1 rfl (aE rfl rfl rfl ((m-1:Nat):Int) (eR (a:=m) (b:=1) rfl rfl) (mv 1 rfl ?_)))))))))))))
   refine a0 (a7 (mv 1 rfl (B7 rfl rfl rfl Tryz.underlying231 fF (m-1) rfl (by omega) ⟨g1,m-1,none⟩ (zU _ _) ?_)))
   have hb12:=b_d
   refine eB rfl rfl rfl fF rfl hb12 (fK (by rw [hll2];omega)) rfl ((l2.set (m-1) 48).map B8) (pA _ _ _) fun v11 hb13 u14 hs15=>?_
   have hx2:Ext w v11:=u14.ext hx1 ge4
   have hw2:UpdW lb w v11:=hw1.upd u14 (aG hlb ge4) (fun _ _ _ h=>absurd h (DZ ge4))
   refine aU (cA (cH (⟨v11,m-1,l2.set (m-1) 48,z+1⟩:a6×Nat×List Nat×Nat) ⟨hw2,hx2,(by omega),(by omega),(by rw [List.length_set];exact hll2),(by rw [LP (by omega),show m-1+1=m by omega,hld2,List.replicate_succ];rfl),hb13⟩ (show m-1<m by omega) rfl ⟨rfl,rfl,rfl,rfl,trivial⟩))
  · 
   refine a7 (mv 1 rfl (aE rfl rfl rfl ((64-m:Nat):Int) (eR (a:=64) (b:=m) rfl rfl) (mv 1 rfl (aB rfl rfl rfl false (cX (a:=64-m) (b:=width) rfl rfl) (a0 (aI rfl (cR (cN (cP (cQ (aD (bE [(0,.pointer (some ⟨g,0,none⟩)),(2,.int .i64 width),(6,.pointer (some ⟨g1,0,none⟩)),(7,.int .i64 m),(30,.int .i64 m),(31,.int .i64 ((64-m:Nat):Int)),(32,.int .i64 width),(33,.bool false)] ⟨rfl,rfl,rfl,rfl,rfl,rfl,rfl,rfl,trivial⟩ ?_))))))))))))
   obtain⟨v16,hv,e17⟩:∃v,v=wq.drew∧Ext wq v:=⟨_,rfl,(Ext.refl _).drew⟩
   have hw2:UpdW lb w v16:=hw1.trans e17
   have hx2:Ext w v16:=hx1.trans e17
   have ow18:=(hO.ext (hx1.trans e17))
   obtain⟨A20,c21,v22,hr23,ho24,uo25,kp26⟩:=HA (P:=aF) (t:=183) (ty:=183) (m:=64-m) (c:=64-m) fM qR rfl (by decide) (by decide) ow18 (aG hlb hw2.size) (news:=((l2).drop m).map B8) (by rw [List.length_map,cV,hll2,cI]) (a1r (b_d.ext e17) (hll2) (by omega)) (a1N _) (by omega)
   have hw3:UpdW lb w v22:=hw2.updO uo25 (fun p hp=>(ow18.block p hp).1) (fun p cs t fr hp h=>bR ((J5 hO) p cs t fr hp h))
   have hb28:=((hW.ext (hx1.trans e17)).updO uo25 (vF ow18 (hW.ext (hx1.trans e17)) (by decide)))
   obtain⟨v27,hr32,hb29,u30,hs31⟩:=uV (P:=aF) (v:= .slice A20 (on+(64-m)) c21) (off:=4) (T:=183) (fun _=>by kernel_rfl) rfl hb28 (bq rfl) rfl [.int .i64 (base:Int),.int .i64 (k:Int),.int .u64 (unit:Int),.slice PA pn pc,.slice A20 (on+(64-m)) c21] rfl
   have hw4:UpdW lb w v27:=hw3.upd u30 hgl (fun _ _ _ h=>cE (DY hW h))
   refine a0J eZ (w:=v16) [.pointer (some ⟨g,0,none⟩),.pointer (some ⟨g,0,none⟩),.pointer (some ⟨g,0,none⟩),.pointer (some ⟨g,4,none⟩),.slice OA on oc,.int .i64 m,.slice (some (if 64=m then ⟨g1,0,none⟩ else (⟨g1,0,none⟩:aC).add (m*1))) (64-m) (64-m),.slice A20 (on+(64-m)) c21,.pointer (some ⟨g,0,none⟩),.pointer (some ⟨g,4,none⟩),undef] [v16,v22,v27] [7,10] [[],[],[1],[2],[3],[],[5],[4,6],[0],[8],[7,9]] [[],[],[1],[1,2],[1,2,3],[],[5],[1,2,3,4,5,6],[0,1,2,3,4,5,6,7],[0,1,2,3,4,5,6,7,8],[0,1,2,3,4,5,6,7,8,9]] [(0,0),(0,1),(1,0),(2,0),(3,0),(4,0),(5,0),(6,0),(7,0),(8,1),(9,1),(10,1)] rfl hv ?_ ?_
   · 
    refine oA _ rfl rfl rfl rfl rfl (dO rfl) (oA _ rfl rfl rfl rfl rfl (dO rfl) (oA _ rfl rfl rfl rfl rfl (dO rfl) (oA _ rfl rfl rfl rfl rfl (qC rfl) (oA _ rfl rfl rfl rfl rfl (qC rfl) (oA _ rfl rfl rfl rfl rfl (gW rfl (aY (fun _=>by kernel_rfl) (hW.ext (hx1.trans e17)) rfl)) (oA _ rfl rfl rfl rfl rfl (dO rfl) (oA _ rfl rfl rfl rfl rfl (U2 rfl rfl Tryz.underlying231 fF (by omega)) (a0q _ rfl rfl rfl rfl rfl rfl rfl (U3 rfl rfl hr23) (oA _ rfl rfl rfl rfl rfl (qC rfl) (oA _ rfl rfl rfl rfl rfl (qC rfl) (a0o _ rfl rfl rfl rfl rfl rfl (y9 rfl rfl hr32) ?_)))))))))))
    exact a0p
   clear hv
   refine mD [(0,.pointer (some ⟨g,0,none⟩)),(2,.int .i64 width),(6,.pointer (some ⟨g1,0,none⟩)),(7,.int .i64 m),(30,.int .i64 m),(31,.int .i64 ((64-m:Nat):Int)),(32,.int .i64 width),(33,.bool false),(38,.pointer (some ⟨g,0,none⟩)),(39,.pointer (some ⟨g,0,none⟩)),(40,.pointer (some ⟨g,0,none⟩)),(41,.pointer (some ⟨g,4,none⟩)),(42,.slice OA on oc),(43,.int .i64 m),(44,.slice (some (if 64=m then ⟨g1,0,none⟩ else (⟨g1,0,none⟩:aC).add (m*1))) (64-m) (64-m)),(45,.slice A20 (on+(64-m)) c21),(46,.pointer (some ⟨g,0,none⟩)),(47,.pointer (some ⟨g,4,none⟩))] ⟨rfl,rfl,rfl,rfl,rfl,rfl,rfl,rfl,rfl,rfl,rfl,rfl,rfl,rfl,rfl,rfl,rfl,rfl,trivial⟩ (vW [] rfl trivial ?_)
   have hfin:bs.map B8++((l2).drop m).map B8=(bs++eE (eT (db base v) width)).map B8:=by rw [hld2,←hacc0,BH,show z=width-(db base v).length by rw [hacc0];omega];simp only [List.map_append]
   exact⟨rfl,A20,_,_,hb29,hfin▸((ho24.updT hb28 (by decide) u30)),hw4,kp26.of hw2.size⟩
structure ZC where
 s:Bool
 A:Option aC
 n:Nat
 c:Nat
def ZC.zero:ZC:=⟨false,none,0,0⟩
section
variable {w w':a6}{b:Nat}{s:Bool}{A:Option aC}{n cap:Nat}{z:Int}
end
section
variable {m:Option a6}{K b lb:Nat}{w w':a6}{A:Option aC}{n cap:Nat}{zs:List Int}
theorem YG {α:Type}{l r:List α}{d:α}(h:i<l.length):(l++r).getD i d=l.getD i d:=by
 rw [bC,bC,List.getElem?_append_left h]
theorem YF {α:Type}{l r:List α}{a d:α}:(l++a::r).getD l.length d=a:=by
 rw [bC,List.getElem?_append_right (b8 _),Nat.sub_self];rfl
end
section
variable {Q:dR→Act→a6→Prop}{N:Nat}{l:Fr}{w:a6}{ops:Array aX}{rest:List aX}{d:Nat}{ty:aT}{pos:String}{af:Array fD}{gd:Option (Nat×Bool)}
end
theorem wZ {Q:dR→Act→a6→Prop}{l:Fr}{w:a6}{k:jA}{a b:Int}(hw:dI ops l gd=some true)(hx:bZ l x=some (.int k a))(hy:bZ l y=some (.int k b))(c:Int)(h:wl P ops Q n rest ((d,.int k c)::l) w)(hc:max a b=c:=by omega)(hn:d<n:=by decide):wl P ops Q n (⟨some d,.call {callee:= .builtin .max,args:= #[x,y],argTypes:=ts},ty,pos,af,gd⟩::rest) l w:=by
 refine fJ hw hn (fun a' ha=>?_) h
 have e:(if b>a then b else a)=c:=by rw [←hc];split <;> omega
 unfold execOp
 simp only [resolve,invoke,builtin,cK,gN,f8,pT,iN,j7,ha.ev hx,ha.ev hy,Builtin.max_,List.foldlM,Builtin.max2,e]
theorem F9 {Q:dR→Act→a6→Prop}{l:Fr}{w:a6}{k:jA}{a b:Int}(hw:dI ops l gd=some true)(hx:bZ l x=some (.int k a))(hy:bZ l y=some (.int k b))(c:Int)(hc:min a b=c)(hn:d<n)(h:wl P ops Q n rest ((d,.int k c)::l) w):wl P ops Q n (⟨some d,.call {callee:= .builtin .min,args:= #[x,y],argTypes:=ts},ty,pos,af,gd⟩::rest) l w:=by
 refine fJ hw hn (fun a' ha=>?_) h
 have e:(if b<a then b else a)=c:=by rw [←hc];split <;> omega
 unfold execOp
 simp only [resolve,invoke,builtin,cK,gN,f8,pT,iN,j7,ha.ev hx,ha.ev hy,Builtin.min_,List.foldlM,Builtin.min2,e]
theorem GX {w:a6}(hx:Wi w A n c m)(hl:n≤1099511627775):aO aF 142 #[.slice A n c] w (Gv w (Is (.int .i64 ((bA m:Nat):Int)))):=by
 obtain⟨xs,h1,rfl⟩:=hx
 refine (CK h1 hl).mono fun e w' h=>?_
 obtain⟨k,h2,rfl,h3⟩:=h
 exact⟨_,rfl,(show bV .i64 (k:Int)=_ by rw [h2.out]),h3⟩
theorem S1 {w:a6}{v:Nat}(hx:Wi w A n c m)(hl:n≤1099511627775)(hv0:v≠0)(hvb:v≤18446744073709551615):
  aO aF 235 #[.slice A n c,.int .u64 (v:Int)] w (Gv w (T3 (WR w.heap.size (m/v)) (Is (.int .u64 ((m%v:Nat):Int))) (Is (.int .i64 0)))):=by
 obtain⟨xs,h1,rfl⟩:=hx
 refine (LT h1 hl hv0 hvb).mono fun e w' h=>?_
 obtain⟨A,n,cap,r',rfl,h2,h3,h4,h5,h6,h7⟩:=h
 exact⟨_,rfl,⟨_,_,_,rfl,⟨A,n,cap,rfl,h4.out,h6⟩,(show bV .u64 (r':Int)=_ by rw [h2.out]),rfl⟩,h7⟩
def kC (b k at_:Nat):List Nat→List Nat
 | []=> []
 | [x]=>eT (db b x) at_
 | x::y::r=>eT (db b x) k++kC b k at_ (y::r)
theorem DV {x:Nat}:kC b k a (x::r)=eT (db b x) (if r= [] then a else k)++kC b k a r:=by
 cases r with
 | nil=>simp [kC]
 | cons y r=>simp [kC]
theorem vE (h:k≤l.length):eT l k=l:=by rw [eT,Nat.sub_eq_zero_of_le h];simp
theorem J4:l++eT r k=eT (l++r) (l.length+k):=by
 unfold eT
 rw [List.append_assoc,cL]
 congr 2
 congr 1
 omega
theorem zN (hb:2≤b)(hq:m/b^k≠0):db b m=eT (db b (m%b^k)) k++db b (m/b^k):=by
 have hu:0<b^k:=eP (by omega)
 have hl:(db b (m%b^k)).length≤k:=kT hb (eO _ hu)
 have hlen:(eT (db b (m%b^k)) k).length=k:=by rw [rR];omega
 have hn:nb b (eT (db b (m%b^k)) k)=m%b^k:=by rw [eT,WO,iB hb]
 have hv:nb b (eT (db b (m%b^k)) k++db b (m/b^k))=m:=by
  rw [rP,hn,hlen,iB hb,jY]
 have hw:Wfb b (eT (db b (m%b^k)) k++db b (m/b^k)):=sA (sA (kY hb _) (fun x hx=>by rw [List.eq_of_mem_replicate hx];omega)) (kY hb _)
 have ht:=wA hb (m/b^k)
 have hne:(db b (m/b^k)).length≠0:=fun e=>hq ((rS hb).1 e)
 have key:=DM hb hw (bR (by
  rw [cL,hlen,bC,List.getElem?_append_right (by rw [hlen];omega),hlen,show k+(db b (m/b^k)).length-1-k=(db b (m/b^k)).length-1 by omega,←bC]
  rcases ht with h | h
  ·exact absurd h hne
  ·exact h))
 rw [hv] at key
 exact key
theorem a06 (hb:2≤b)(_hk:1≤k)(hu:2≤b^k):∀(n m:Nat),m≤n→m≠0→kC b k a (db (b^k) m)=eT (db b m) (((db (b^k) m).length-1)*k+a):=by
 intro n
 induction n with
 | zero=>intro m hm h0;omega
 | succ n ih=>
  intro m hm h0
  have e:=lR hu h0
  rw [e,DV]
  by_cases hq:m/b^k=0
  ·have e2:db (b^k) (m/b^k)= []:=by rw [hq];rfl
   have e3:m%b^k=m:=fG ((Nat.div_eq_zero_iff_lt (by omega)).1 hq)
   rw [e2,if_pos rfl,e3]
   simp [kC]
  ·have hne:db (b^k) (m/b^k)≠ []:=fun e=>hq ((zO hu).1 e)
   rw [if_neg hne,ih (m/b^k) (by have:=jZ (show 0<m by omega) (show 1<b^k by omega);omega) hq]
   rw [J4,←zN hb hq]
   congr 1
   have hl:(db b (m%b^k)).length≤k:=kT hb (eO _ (by omega))
   have hp:0<(db (b^k) (m/b^k)).length:=List.length_pos_iff.2 hne
   rw [rR,cO,Nat.max_eq_right hl]
   obtain⟨p,hp'⟩:∃p,(db (b^k) (m/b^k)).length=p+1:=⟨_,(Nat.succ_pred_eq_of_pos hp).symm⟩
   rw [hp']
   simp only [kI,dX]
   omega
theorem XM (hb:2≤b)(hu:2≤b^k)(h0:m≠0):((db (b^k) m).length-1)*k<(db b m).length:=by
 have h1:=J2 hu h0
 rw [←Nat.pow_mul,bY] at h1
 refine oI fun h=>?_
 have h2:=CR hb m
 have h3:=dU (show 0<b by omega) h
 omega
theorem VB {pl:Nat}(hb:2≤b)(hk:1≤k)(hu:2≤b^k)(hpl:(db (b^k) m).length=pl):
  bP (width-pl*k) 48++eE (kC b k (min (width+k-pl*k) k) (db (b^k) m))=eE (eT (db b m) width):=by
 by_cases h0:m=0
 ·subst h0
  have e:pl=0:=by rw [←hpl];rfl
  subst e
  rw [lG,lG]
  simp [kC,eE,eT,GF]
 ·have hp:1≤pl:=by
   have:(db (b^k) m).length≠0:=fun e=>h0 ((rS hu).1 e)
   omega
  have hge:=XM hb hu h0
  rw [a06 hb hk hu m m (b8 _) h0,hpl]
  rw [hpl] at hge
  obtain⟨q,rfl⟩:∃q,pl=q+1:=⟨pl-1,by omega⟩
  have hlt:(db b m).length≤(q+1)*k:=by
   refine kT hb ?_
   have:=CR hu m
   rw [hpl,←Nat.pow_mul,bY] at this
   exact this
  rw [dX,Nat.one_mul] at hlt
  rw [kI] at hge
  rw [kI,dX,Nat.one_mul]
  rw [BH,BH,←List.append_assoc,List.replicate_append_replicate]
  congr 2
  generalize q*k=qk at*
  omega
theorem oW {w:a6}(v:aH)(h:Bk w g T [v]):∀j u,[v][j]?=some u→w.cell? ((⟨g,0,none⟩:aC).add j)=some u:=by
 intro j u hj
 have hjl:=(iO.1 hj).1
 rw [kX,f9,h.cell hjl,bC,hj];rfl
theorem tJ (hb:2≤b)(h:(wd m).length≤n):(db b m).length≤64*n:=by
 refine kT hb ?_
 have h1:=kS m
 rw [lY,←Nat.pow_mul] at h1
 exact dF h1 (aG (dU (by decide) (eF _ h)) (Nat.pow_le_pow_left hb _))
theorem Kept.refl (w:a6)(A:Option aC):Kept w A A:=fun p hp=>cE ⟨p,hp,rfl⟩
theorem Kept.next {w v:a6}{B:Option aC}(h:Kept w A B)(k:Kept v B C)(hs:w.heap.size≤v.heap.size):Kept w A C:=fun p hp=>by
 rcases k p hp with⟨q,hq,e⟩ | e
 ·rcases h q hq with⟨r,hr,e2⟩ | e2
  ·exact cE ⟨r,hr,by rw [e,e2]⟩
  ·exact bR (by omega)
 ·exact bR (aG hs e)
theorem XT {w:a6}{B:Option aC}(h:Own w lb 5 1 A n c us)(k:Kept w A B):∀(p:aC) (cs:Array aH) (t:aT) (fr:Nat×Nat),B=some p→w.heap[p.block]?=some (.cells cs t fr)→t=5:=fun p cs t fr hp h'=>by
 rcases k p hp with⟨q,hq,e⟩ | e
 ·rw [e] at h';exact J5 h q cs t fr hq h'
 ·exact absurd h' (DZ e)
theorem T9 {z:Nat}:(bs++bP (z+1) 48).map B8=(bs++bP z 48).map B8++ [.int .u8 48]:=by
 rw [List.replicate_succ',←List.append_assoc,List.map_append];rfl
theorem oV {w:a6}(h:Own w b T 1 A n c (l.map B8)):n=l.length:=by have:=h.rv.len;rw [List.length_map,cI] at this;exact this.symm
theorem zJ (h:q<l.length):l.drop q=l.getD q 0::l.drop (q+1):=by rw [m4 h,bC,cJ h];rfl
set_option maxHeartbeats 4000000 in
theorem GS {w:a6}{pc:Nat}(hS:Signs w)(hgS:4<lb)(hbl:2≤base)(hbu:base≤36)(hW:Wr w g base k unit PA pn pc OA on oc)(hO:Own w lb 5 1 OA on oc (bs.map B8))(hgl:lb≤g)(hlb:lb≤w.heap.size)(ha:Wi w A an ac m)(hal:an≤4194304)(hun:unit=base^k)(hkk:PieceK base k)(hwd:width≤137438953472)(hon:on≤137438953472):
    aO aF 258 #[.pointer (some ⟨g,0,none⟩),.slice A an ac,.int .i64 width] w (AB w lb g base k unit PA pn pc OA (bs++eE (eT (db base m) width))):=by
 have hml:(wd m).length≤4194304:=aG ha.len hal
 have hum:unit≤18446744073709551615:=by rw [hun];exact hkk.le
 have hk1:1≤k:=by refine Nat.pos_of_ne_zero (fun e=>?_);have:=hkk.gt;rw [e,f9,Nat.pow_one] at this;omega
 have hu2:2≤unit:=by rw [hun];exact aG hbl (aG (Nat.le_of_eq (Nat.pow_one base).symm) (dU (by omega) hk1))
 refine bK Tryz.func258 rfl (n:=93) rfl (bq rfl) (args:= [.pointer (some ⟨g,0,none⟩),.slice A an ac,.int .i64 width]) (bE [(0,.pointer (some ⟨g,0,none⟩)),(1,.slice A an ac),(2,.int .i64 width)] ⟨rfl,rfl,rfl,trivial⟩ (sr (mv 1 rfl (a0 (aA (bG ?_))))))
 obtain⟨lb2,hlb2,hle2⟩:∃lb2,lb2≤w.heap.size∧w.heap.size≤lb2:=⟨_,b8 _,(Ext.refl w).size⟩
 refine d4 (T:=a6×Option aC×Nat×Nat×Nat×Option aC×Nat×Nat×List Nat)
  (fun⟨wr,QA,qn,qc,mm,PA2,pn2,pc2,ps⟩=> [(0,.pointer (some ⟨g,0,none⟩)),(2,.int .i64 width),(1,.slice QA qn qc),(6,.slice PA2 pn2 pc2)])
  (fun⟨wr,QA,qn,qc,mm,PA2,pn2,pc2,ps⟩=>wr)
  (fun⟨wr,QA,qn,qc,mm,PA2,pn2,pc2,ps⟩=>(UpdW lb w wr)∧(Ext w wr)∧(lb2≤wr.heap.size)∧(db unit m=ps++db unit mm)∧(ps.length=pn2)∧(Wi wr QA qn qc mm)∧(qn≤4194304)∧(Own wr lb2 65 1 PA2 pn2 pc2 (ps.map aW))∧(mm≤m))
  (fun⟨wr,QA,qn,qc,mm,PA2,pn2,pc2,ps⟩=>mm)
  (⟨w,A,an,ac,m,none,0,0,[]⟩:a6×Option aC×Nat×Nat×Nat×Option aC×Nat×Nat×List Nat) ⟨(UpdW.refl lb w),(Ext.refl w),hlb2,rfl,rfl,ha,hal,(Own.nil _ _ _ _),(b8 _)⟩ rfl ⟨rfl,rfl,rfl,rfl,trivial⟩ ?_
 rintro⟨wr,QA,qn,qc,mm,PA2,pn2,pc2,ps⟩ ⟨hw1,hx1,hlb2,hdb,hpl,hq,hqn,hP,hms⟩
 refine cC [(0,.pointer (some ⟨g,0,none⟩)),(2,.int .i64 width),(1,.slice QA qn qc),(6,.slice PA2 pn2 pc2)] wr rfl ⟨rfl,rfl,rfl,rfl,trivial⟩ (aA (aA ?_))
 by_cases hm0:mm=0
 · 
  have hbl0:bA mm=0:=by rw [hm0];rfl
  refine a7 (mv 1 rfl (dD rfl rfl (vs:= [.slice QA qn qc]) (by kernel_rfl) (by decide) (GX hq (by omega)) ?_))
  rintro _ v1 ⟨xr3,rfl,r3,e2⟩
  refine dE ?_
  have hw2:UpdW lb w v1:=hw1.trans e2
  have hx2:Ext w v1:=hx1.trans e2
  obtain rfl:=r3
  refine aB rfl rfl rfl false (d6 (a:=bA mm) (b:=0) rfl rfl) (a0 (aI rfl (cR (cN (cP (cQ (aD (aA ?_))))))))
  have hdbm:db unit m=ps:=by rw [hdb,hm0,lG,mJ]
  have psWf:Wf ps:=fun x hx=>by have:=kY hu2 m x (hdbm.symm▸hx);rw [cF];omega
  have psW:∀q,ps.getD q 0≤18446744073709551615:=fun q=>by have:=oD psWf q;rw [cF] at this;omega
  have hpk:pn2*k≤268435456*64:=jQ (by have:=tJ hu2 hml;rw [hdbm,hpl] at this;omega) hkk.le64
  have hpn:pn2≤268435456:=by have:=tJ hu2 hml;rw [hdbm,hpl] at this;omega
  refine a7 (mv 1 rfl (pu (v:= .int .i64 pn2) rfl (aE rfl rfl rfl (((pn2:Nat):Int)-1) (dM rfl) (mv 1 rfl (pf g 0 rfl (pf g 1 rfl (aS rfl rfl (aY (fun _=>by kernel_rfl) (hW.ext (hx1.trans e2)) rfl) (aE rfl rfl rfl (((pn2*k:Nat):Int)-(k:Int)) (E0 (by rw [Int.sub_mul,Int.one_mul,kN]) (by have:=hkk.le64;omega) (by omega)) (mv 1 rfl (a0 (aA (sr (mv 1 rfl ?_)))))))))))))
  refine mv 1 rfl (a0 (bG ?_))
  refine d4 (T:=a6×Nat×Nat×Option aC×Nat×Nat)
   (fun⟨wz,nn,z,OB,ob,oc2⟩=> [(0,.pointer (some ⟨g,0,none⟩)),(2,.int .i64 width),(6,.slice PA2 pn2 pc2),(10,.int .i64 (((pn2*k:Nat):Int)-(k:Int))),(11,.int .i64 nn)])
   (fun⟨wz,nn,z,OB,ob,oc2⟩=>wz)
   (fun⟨wz,nn,z,OB,ob,oc2⟩=>(UpdW lb w wz)∧(nn+z=width)∧(z≤width-pn2*k)∧(ob=on+z)∧(Bk wz g 193 [.int .i64 (base:Int),.int .i64 (k:Int),.int .u64 (unit:Int),.slice PA pn pc,.slice OB ob oc2])∧(Own wz lb 5 1 OB ob oc2 ((bs++bP z 48).map B8))∧(Kept w OA OB)∧(Own wz lb2 65 1 PA2 pn2 pc2 (ps.map aW))∧(lb2≤wz.heap.size))
   (fun⟨wz,nn,z,OB,ob,oc2⟩=>nn)
   (⟨v1,width,0,OA,on,oc⟩:a6×Nat×Nat×Option aC×Nat×Nat) ⟨hw2,rfl,(bW _),rfl,(hW.ext (hx1.trans e2)),(by rw [List.replicate_zero,mJ];exact (hO.ext (hx1.trans e2))),(Kept.refl w OA),(hP.ext e2),(aG hlb2 (e2.size))⟩ rfl ⟨rfl,rfl,rfl,rfl,rfl,trivial⟩ ?_
  rintro⟨wz,nn,z,OB,ob,oc2⟩ ⟨hw1,hnz2,hzw,aK,b_g,hO2,hkp,hP2,hlb3⟩
  refine cC [(0,.pointer (some ⟨g,0,none⟩)),(2,.int .i64 width),(6,.slice PA2 pn2 pc2),(10,.int .i64 (((pn2*k:Nat):Int)-(k:Int))),(11,.int .i64 nn)] wz rfl ⟨rfl,rfl,rfl,rfl,rfl,trivial⟩ (aA (aA ?_))
  by_cases hnz:nn>pn2*k
  · 
   refine a7 (mv 3 rfl (pf g 0 rfl (pf g 1 rfl (aS rfl rfl (aY (fun _=>by kernel_rfl) b_g rfl) (aE rfl rfl rfl ((pn2*k:Nat):Int) (lJ) (wZ rfl rfl rfl (((pn2*k:Nat):Int)) (aB rfl rfl rfl true (dJ (a:=nn) (b:=pn2*k) rfl rfl) (a0 (aP rfl (aN (aD (aA (bG ?_)))))))))))))
   refine a7 (mv 2 rfl (pf g 0 rfl (pf g 4 rfl (aS rfl rfl (aY (fun _=>by kernel_rfl) b_g rfl) (dQ rfl rfl (k:=1) (e:=5) [.int .u8 48] (fun _=>by kernel_rfl) fun g4 v5 nb=>?_)))))
   have hb6:=nb.bk
   have e7:=nb.ext
   clear nb
   have hw2:UpdW lb w v5:=hw1.trans e7
   have ow8:=(hO2.ext e7)
   refine nP rfl rfl rfl fM qR rfl ow8 (aG hlb hw2.size) [.int .u8 48] rfl (oW _ hb6) rfl fun A9 c10 v11 ho12 uo13 kp14=>?_
   have kk15:=hkp.next kp14 hw2.size
   have hw3:UpdW lb w v11:=hw2.updO uo13 (fun p hp=>(ow8.block p hp).1) (fun p cs t fr hp h=>bR (XT hO hkp p cs t fr hp h))
   refine pf g 0 rfl (pf g 4 rfl ?_)
   have hb17:=((b_g.ext e7).updO uo13 (vF ow8 (b_g.ext e7) (by decide)))
   refine eB rfl rfl rfl (fun _=>by kernel_rfl) rfl hb17 (bq rfl) rfl [.int .i64 (base:Int),.int .i64 (k:Int),.int .u64 (unit:Int),.slice PA pn pc,.slice A9 (ob+1) c10] rfl fun v16 hb18 u19 hs20=>?_
   have hw4:UpdW lb w v16:=hw3.upd u19 hgl (fun _ _ _ h=>cE (DY hW h))
   refine aU (cA (aD (a7 (mv 1 rfl (aE rfl rfl rfl ((nn-1:Nat):Int) (eR (a:=nn) (b:=1) rfl rfl) (mv 1 rfl (aU (cH (⟨v16,nn-1,z+1,A9,ob+1,c10⟩:a6×Nat×Nat×Option aC×Nat×Nat) ⟨hw4,(by omega),(by omega),(by omega),hb18,(by rw [T9];exact (ho12.updT hb17 (by decide) u19)),kk15,(((hP2.ext e7).updOT ow8 (by decide) uo13).updT hb17 (by decide) u19),(aG hlb3 ((aG (aG e7.size uo13.size) u19.by_.size)))⟩ (show nn-1<nn by omega) rfl ⟨rfl,rfl,rfl,rfl,rfl,trivial⟩))))))))
  · 
   refine a7 (mv 3 rfl (pf g 0 rfl (pf g 1 rfl (aS rfl rfl (aY (fun _=>by kernel_rfl) b_g rfl) (aE rfl rfl rfl ((pn2*k:Nat):Int) (lJ) (wZ rfl rfl rfl (((pn2*k:Nat):Int)) (aB rfl rfl rfl false (d6 (a:=nn) (b:=pn2*k) rfl rfl) (a0 (aI rfl (cR (cN (cP (cQ ?_)))))))))))))
   refine aD (aA ?_)
   have hzf:z=width-pn2*k:=by omega
   refine a7 (mv 1 rfl (pu (v:= .int .i64 pn2) rfl (aE rfl rfl rfl (((pn2:Nat):Int)-1) (dM rfl) (mv 1 rfl (a0 (bG ?_))))))
   refine d4 (T:=a6×Nat×Int×Option aC×Nat×Nat)
    (fun⟨wt,j,ii,OD,od,oc3⟩=> [(0,.pointer (some ⟨g,0,none⟩)),(2,.int .i64 width),(6,.slice PA2 pn2 pc2),(10,.int .i64 (((pn2*k:Nat):Int)-(k:Int))),(12,.int .i64 ii)])
    (fun⟨wt,j,ii,OD,od,oc3⟩=>wt)
    (fun⟨wt,j,ii,OD,od,oc3⟩=>(UpdW lb w wt)∧(j≤pn2)∧(ii=(j:Int)-1)∧(od≤on+width+(pn2-j)*64)∧(Bk wt g 193 [.int .i64 (base:Int),.int .i64 (k:Int),.int .u64 (unit:Int),.slice PA pn pc,.slice OD od oc3])∧(Own wt lb 5 1 OD od oc3 ((bs++bP (width-pn2*k) 48++eE (kC base k (min (width+k-pn2*k) k) (ps.drop j))).map B8))∧(Kept w OA OD)∧(Own wt lb2 65 1 PA2 pn2 pc2 (ps.map aW)))
    (fun⟨wt,j,ii,OD,od,oc3⟩=>j)
    (⟨wz,pn2,_,OB,ob,oc2⟩:a6×Nat×Int×Option aC×Nat×Nat) ⟨hw1,(b8 _),rfl,(by omega),b_g,(by rw [List.drop_of_length_le (by omega),show kC base k (min (width+k-pn2*k) k) []= [] from rfl,←hzf];simpa [eE] using (hO2)),hkp,hP2⟩ rfl ⟨rfl,rfl,rfl,rfl,rfl,trivial⟩ ?_
   rintro⟨wt,j,ii,OD,od,oc3⟩ ⟨hw1,hj,hii,hob2,b_g,hO3,hkp,hP3⟩
   refine cC [(0,.pointer (some ⟨g,0,none⟩)),(2,.int .i64 width),(6,.slice PA2 pn2 pc2),(10,.int .i64 (((pn2*k:Nat):Int)-(k:Int))),(12,.int .i64 ii)] wt rfl ⟨rfl,rfl,rfl,rfl,rfl,trivial⟩ (aA (aA ?_))
   by_cases hj0:0<j
   · 
    obtain⟨q,rfl⟩:∃q,j=q+1:=⟨j-1,by omega⟩
    obtain rfl:ii=(q:Int):=by omega
    have hxq:ps.getD q 0≤18446744073709551615:=by have:=psW q;omega
    refine a7 (mv 1 rfl (aB rfl rfl rfl true (CX (by omega)) (a0 (aP rfl (aN (aD (aA (bG (sr (mv 1 rfl (pf g 0 rfl (pf g 1 rfl (aS rfl rfl (aY (fun _=>by kernel_rfl) b_g rfl) ?_)))))))))))))
    refine mv 1 rfl (a0 (aA (aA ?_)))
    by_cases htop:q+1=pn2
    · 
     refine a7 (mv 2 rfl (pu (v:= .int .i64 pn2) rfl (aE rfl rfl rfl (((pn2:Nat):Int)-1) (dM rfl) (aB rfl rfl rfl true (gD (by omega)) (a0 (aP rfl (a7 (mv 2 rfl (aE rfl rfl rfl (((width:Nat):Int)-(((pn2*k:Nat):Int)-(k:Int))) (dM rfl (h1:=(by have:=hkk.le64;omega)) (h2:=(by have:=hkk.le64;omega))) (wZ rfl rfl rfl (((width+k-pn2*k:Nat):Int)) (mv 1 rfl (pf g 0 rfl (pf g 1 rfl ?_)))))))))))))
     refine aS rfl rfl (aY (fun _=>by kernel_rfl) b_g rfl) (F9 rfl rfl rfl (((min (width+k-pn2*k) k:Nat):Int)) (by omega) (by decide) (mv 1 rfl (a0 (a7 (mv 3 rfl ?_)))))
     obtain⟨pw,hpw,hcw,hvw⟩:=((hP3).rd psWf).at (i:=q) (by omega)
     refine bT rfl rfl rfl bU bN q rfl pw hpw (aS rfl rfl (cZ d7 hcw) (mv 1 rfl (dD rfl rfl (vs:= [.pointer (some ⟨g,0,none⟩),.int .u64 ((ps.getD q 0:Nat):Int),.int .i64 ((min (width+k-pn2*k) k:Nat):Int)]) (by kernel_rfl) (by decide) (GR (hw1.signs hS hgS) hgS hbl hbu b_g hO3 hgl (aG hlb hw1.size) hxq (by have:=hkk.le64;omega) (by have:=hkk.le64;omega)) ?_)))
     rintro _ v21 ⟨rfl,A23,n24,c25,hb26,ho27,uw28,kp29⟩
     refine dE ?_
     have hw2:UpdW lb w v21:=hw1.then uw28
     have kk30:=hkp.next kp29 hw1.size
     have hobn:n24≤on+width+(pn2-q)*64:=by have h1:=(oV ho27).symm;have h2:=oV ho27;rw [h2,cL,xA,rR,←oV hO3];have h3:(db base (ps.getD q 0)).length≤64:=kT hbl (dF (show ps.getD q 0<2^64 by omega) (Nat.pow_le_pow_left hbl 64));have:=hkk.le64;omega
     have hcont:bs++bP (width-pn2*k) 48++eE (kC base k (min (width+k-pn2*k) k) (ps.drop (q+1)))++eE (eT (db base (ps.getD q 0)) (min (width+k-pn2*k) k))=bs++bP (width-pn2*k) 48++eE (kC base k (min (width+k-pn2*k) k) (ps.drop q)):=by rw [zJ (by omega:q<ps.length),DV,xB,List.append_assoc,if_pos (List.drop_of_length_le (by omega))]
     refine aU (cA (aD (a7 (mv 1 rfl (aE rfl rfl rfl (((q:Nat):Int)-1) (dM rfl) (mv 1 rfl (aU (cH (⟨v21,q,(q:Int)-1,A23,n24,c25⟩:a6×Nat×Int×Option aC×Nat×Nat) ⟨hw2,(by omega),rfl,hobn,hb26,(hcont▸(ho27)),kk30,(uw28.own hP3 (by decide) (by decide))⟩ (show q<q+1 by omega) rfl ⟨rfl,rfl,rfl,rfl,rfl,trivial⟩))))))))
    · 
     refine a7 (mv 2 rfl (pu (v:= .int .i64 pn2) rfl (aE rfl rfl rfl (((pn2:Nat):Int)-1) (dM rfl) (aB rfl rfl rfl false (jH (by omega)) (a0 (aI rfl (aN (aD (a7 (mv 3 rfl ?_))))))))))
     obtain⟨pw,hpw,hcw,hvw⟩:=((hP3).rd psWf).at (i:=q) (by omega)
     refine bT rfl rfl rfl bU bN q rfl pw hpw (aS rfl rfl (cZ d7 hcw) (mv 1 rfl (dD rfl rfl (vs:= [.pointer (some ⟨g,0,none⟩),.int .u64 ((ps.getD q 0:Nat):Int),.int .i64 k]) (by kernel_rfl) (by decide) (GR (hw1.signs hS hgS) hgS hbl hbu b_g hO3 hgl (aG hlb hw1.size) hxq (by have:=hkk.le64;omega) (by have:=hkk.le64;omega)) ?_)))
     rintro _ v31 ⟨rfl,A33,n34,c35,hb36,ho37,uw38,kp39⟩
     refine dE ?_
     have hw2:UpdW lb w v31:=hw1.then uw38
     have kk40:=hkp.next kp39 hw1.size
     have hobn:n34≤on+width+(pn2-q)*64:=by have h1:=(oV ho37).symm;have h2:=oV ho37;rw [h2,cL,xA,rR,←oV hO3];have h3:(db base (ps.getD q 0)).length≤64:=kT hbl (dF (show ps.getD q 0<2^64 by omega) (Nat.pow_le_pow_left hbl 64));have:=hkk.le64;omega
     have hcont:bs++bP (width-pn2*k) 48++eE (kC base k (min (width+k-pn2*k) k) (ps.drop (q+1)))++eE (eT (db base (ps.getD q 0)) k)=bs++bP (width-pn2*k) 48++eE (kC base k (min (width+k-pn2*k) k) (ps.drop q)):=by rw [zJ (by omega:q<ps.length),DV,xB,List.append_assoc,if_neg (fun e=>by have:=congrArg List.length e;rw [cV] at this;simp only [List.length_nil] at this;omega)]
     refine aU (cA (aD (a7 (mv 1 rfl (aE rfl rfl rfl (((q:Nat):Int)-1) (dM rfl) (mv 1 rfl (aU (cH (⟨v31,q,(q:Int)-1,A33,n34,c35⟩:a6×Nat×Int×Option aC×Nat×Nat) ⟨hw2,(by omega),rfl,hobn,hb36,(hcont▸(ho37)),kk40,(uw38.own hP3 (by decide) (by decide))⟩ (show q<q+1 by omega) rfl ⟨rfl,rfl,rfl,rfl,rfl,trivial⟩))))))))
   · 
    refine a7 (mv 1 rfl (aB rfl rfl rfl false (jG) (a0 (aI rfl (cR (cN (cP (cQ (vW [] rfl trivial ?_)))))))))
    have hj00:j=0:=by omega
    have hall:bs++bP (width-pn2*k) 48++eE (kC base k (min (width+k-pn2*k) k) (ps.drop j))=bs++eE (eT (db base m) width):=by rw [hj00,gU,List.append_assoc,←hdbm,hun,VB hbl hk1 (hun▸hu2) (by rw [←hun,hdbm,hpl])]
    exact⟨rfl,OD,_,_,b_g,hall▸(hO3),hw1,hkp⟩
 · 
  have hbl0:bA mm≠0:=fun e=>hm0 (kD.1 e)
  have hdb1:=lR hu2 hm0
  have hqb:(wd (mm/unit)).length≤4194304:=aG (gZ (aG (fI _ _) hms)) hml
  have hpq2:=tJ hu2 hml
  have hpq:ps.length<(db unit m).length:=by rw [hdb,hdb1,cL,cO];omega
  refine a7 (mv 1 rfl (dD rfl rfl (vs:= [.slice QA qn qc]) (by kernel_rfl) (by decide) (GX hq (by omega)) ?_))
  rintro _ v41 ⟨xr43,rfl,r43,e42⟩
  refine dE ?_
  have hw2:UpdW lb w v41:=hw1.trans e42
  have hx2:Ext w v41:=hx1.trans e42
  obtain rfl:=r43
  refine aB rfl rfl rfl true (dJ (a:=bA mm) (b:=0) rfl rfl) (a0 (aP rfl (aN (aD (bG (sr (mv 2 rfl (pf g 0 rfl (pf g 2 rfl (aS rfl rfl (aY (fun _=>by kernel_rfl) (hW.ext (hx1.trans e42)) rfl) ?_))))))))))
  have hbp:=((hP.ext e42)).block
  refine dD rfl rfl (vs:= [.slice QA qn qc,.int .u64 unit]) (by kernel_rfl) (by decide) (S1 (hq.ext e42) (by omega) (by omega) hum) ?_
  rintro _ v44 ⟨xr46,rfl,r46,iD⟩
  refine dE ?_
  have hw3:UpdW lb w v44:=hw2.trans iD
  have hx3:Ext w v44:=hx2.trans iD
  obtain⟨_,_,_,rfl,⟨A48,n48,c48,rfl,j48,o48⟩,r47_1,r47_2⟩:=r46
  have hdis:∀p q,PA2=some p→A48=some q→p.block≠q.block:=fun p q hp hq=>by have:=(hbp p hp).2;have:=(o48.block q hq).1;omega
  obtain rfl:=r47_1
  obtain rfl:=r47_2
  refine mv 1 rfl (pu (v:= .slice A48 n48 c48) rfl (pu (v:= .int .u64 ((mm%unit:Nat):Int)) rfl (pu (v:= .int .i64 0) rfl (mv 3 rfl (a0 (sr (mv 2 rfl (dQ rfl rfl (k:=1) (e:=65) [.int .u64 ((mm%unit:Nat):Int)] (fun _=>by kernel_rfl) fun g49 v50 nb=>?_))))))))
  have hb51:=nb.bk
  have e52:=nb.ext
  clear nb
  have hw4:UpdW lb w v50:=hw3.trans e52
  have hx4:Ext w v50:=hx3.trans e52
  have ow53:=(hP.ext (e42.trans (iD.trans e52)))
  refine nP rfl rfl rfl bU jE rfl ow53 (aG hlb2 ((aG (aG e42.size iD.size) e52.size))) [.int .u64 ((mm%unit:Nat):Int)] rfl (oW _ hb51) rfl fun A54 c55 v56 ho57 uo58 kp59=>?_
  have hx5:Ext w v56:=uo58.ext hx4 (fun p hp=>by have:=ow53.block p hp;omega)
  have hw5:UpdW lb w v56:=(UpdW.refl lb w).trans hx5
  refine mv 1 rfl (a0 (a7 (mv 2 rfl (aU (cA (cH (⟨v56,A48,n48,c48,mm/unit,A54,pn2+1,c55,ps++ [mm%unit]⟩:a6×Option aC×Nat×Nat×Nat×Option aC×Nat×Nat×List Nat) ⟨hw5,hx5,(aG hlb2 ((aG (aG (aG e42.size iD.size) e52.size) uo58.size))),(by rw [hdb,hdb1,List.append_assoc];rfl),(by rw [cL,hpl];rfl),((o48.ext e52).updO uo58 hdis).wi,(by rw [j48];exact hqb),(by rw [List.map_append];exact ho57),(aG (fI _ _) hms)⟩ (jZ (by omega) (by omega)) rfl ⟨rfl,rfl,rfl,rfl,trivial⟩))))))
def bB (b m:Nat):List Nat:=if m=0 then [48] else eE (db b m)
theorem C8:∀(ns:List Nat) (r:ByteArray),(ns.map fun x:Nat=>(x:Int)).foldl (fun r n=>r.push (UInt8.ofNat n.toNat)) r=⟨r.data++(ns.map UInt8.ofNat).toArray⟩
 | [],r=>by simp
 | n::ns,r=>by
  rw [iN,List.foldl_cons,C8 ns]
  simp [ByteArray.push,Array.push]
theorem SL {w:a6}(h:Own w lb T 1 A n c (bs.map B8)):(Conv.bytesToString (.slice A n c)).run P w= .ok (.string (a8 bs)) w:=by
 cases A with
 | none=>
  rcases h with⟨_,_,_,h⟩ | ⟨g,cs,hA,_⟩
  ·rw [List.map_eq_nil_iff] at h;subst h;rfl
  ·cases hA
 | some a=>
  have hn:=oV h
  have hl:=xY (P:=P) (w:=w) (p:=a) (bs.map B8) 0 #[] (fun j hj=>by
   rw [List.length_map] at hj
   obtain⟨a',ha,hc⟩:=h.rv.get j (by omega)
   cases ha
   rw [f9];exact hc)
  have hr:=run_bytesToString (P:=P) w a n c (bs.map fun x:Nat=>(x:Int)) (by
   rw [List.length_map,←hn] at hl
   unfold loadCells
   rw [hl]
   congr 1
   simp [B8,Function.comp_def])
  rw [hr,C8]
  rw [show ByteArray.empty.data= #[] from rfl,Array.empty_append]
  rfl
theorem uK {Q:dR→Act→a6→Prop}{l:Fr}{w:a6}(hw:dI ops l gd=some true)(hx:bZ l x=some (.slice A k c))(ho:Own w lb T 1 A k c (bs.map B8))(h:wl aF ops Q n rest ((d,.string (a8 bs))::l) w)(hn:d<n:=by decide):wl aF ops Q n (⟨some d,.convert 183 9 x,ty,pos,af,gd⟩::rest) l w:=by
 refine fJ hw hn (fun a' ha=>?_) h
 have e:(convert 183 9 (a'.eval x)).run aF w= .ok (.string (a8 bs)) w:=by
  rw [ha.ev hx]
  have h1:(underlying 183).run aF w= .ok (.slice 5) w:=kZ fM w
  have h2:(underlying 9).run aF w= .ok .string w:=kZ Tryz.underlying9 w
  have h3:(underlying 5).run aF w= .ok (.int .u8) w:=kZ Tryz.underlying5 w
  unfold convert
  simp only [cK,h1,h2,h3,f8]
  exact SL ho
 show ((convert 183 9 (a'.eval x)>>=fun r=>pure (fZ r):Sem fH)).run aF w=_
 rw [cK,e];rfl
theorem QT (a b:List Nat):a8 a++a8 b=a8 (a++b):=by
 unfold a8
 rw [ByteArray.mk_append_mk,List.map_append]
theorem cM (a:List Nat):(a8 a).size=a.length:=by simp [a8,ByteArray.size]
theorem d8 {w:a6}{a b:List Nat}(h:a.length+b.length≤1099511627776):(binOp .add t (.string (a8 a)) (.string (a8 b))).run P w= .ok (.string (a8 (a++b))) w:=by
 have h1:=run_string_add_sum (P:=P) w (a8 a) (a8 b) (by rw [cM,cM];omega)
 rw [QT] at h1
 simp [binOp,h1]
theorem LC {w:a6}(hx:Wi w A n c m)(hl:n≤1099511627776):aO aF 141 #[.slice A n c] w (Gv w (WR w.heap.size m)):=by
 obtain⟨xs,h1,rfl⟩:=hx
 exact (mW h1 (hl:=hl)).mono (gw (b8 _))
theorem pZ (h:(wd m).length≤n)(hb:2≤b:=by decide):(bB b m).length≤64*n+1:=by
 unfold bB
 split
 ·simp
 ·rw [xA];have:=tJ hb h;omega
def rI (x:Int):List Nat:=if x<0 then [45]++bB 10 x.natAbs else bB 10 x.natAbs
set_option maxHeartbeats 4000000 in
theorem RZ {w:a6}{pc:Nat}(hS:Signs w)(hgS:4<lb)(hbl:2≤base)(hbu:base≤36)(hW:Wr w g base k unit PA pn pc OA on oc)(hO:Own w lb 5 1 OA on oc (bs.map B8))(hgl:lb≤g)(hlb:lb≤w.heap.size)(ha:Wi w A an ac m)(hal:an≤4194304)(hun:unit=base^k)(hkk:PieceK base k)(hwd:width≤137438953472)(hon:on≤137438953472):
    aO aF 228 #[.pointer (some ⟨g,0,none⟩),.slice A an ac,.int .i64 (-1),.int .i64 width] w (AB w lb g base k unit PA pn pc OA (bs++eE (eT (db base m) width))):=by
 refine bK Tryz.func228 rfl (n:=74) rfl (bq rfl) (args:= [.pointer (some ⟨g,0,none⟩),.slice A an ac,.int .i64 (-1),.int .i64 width]) (bE [(0,.pointer (some ⟨g,0,none⟩)),(1,.slice A an ac),(2,.int .i64 (-1)),(3,.int .i64 width)] ⟨rfl,rfl,rfl,rfl,trivial⟩ (aA (sr (mv 1 rfl (aB rfl rfl rfl true (by decide) (mv 4 rfl (pu (v:= .bool true) rfl (a0 (aP rfl (sr (mv 3 rfl (dD rfl rfl (vs:= [.pointer (some ⟨g,0,none⟩),.slice A an ac,.int .i64 width]) (by kernel_rfl) (by decide) (GS hS hgS hbl hbu hW hO hgl (aG hlb (UpdW.refl lb w).size) ha hal hun hkk hwd hon) ?_))))))))))))
 rintro _ v1 ⟨rfl,A2,n3,c4,hb5,ho6,uw7,kp8⟩
 refine dE ?_
 have hw1:UpdW lb w v1:=(UpdW.refl lb w).then uw7
 have kk9:=(Kept.refl w OA).next kp8 (UpdW.refl lb w).size
 refine a0 (aM (bL (aL [] rfl trivial ?_)))
 exact⟨rfl,A2,_,_,hb5,ho6,hw1,kk9⟩
theorem QY {α:Type}{p:List α→Prop}(nil:p [])(snoc:∀r a,p r→p (r++ [a]))(l:List α):p l:=by
 have h:∀r:List α,p r.reverse:=by
  intro r
  induction r with
  | nil=>exact nil
  | cons a r ih=>rw [List.reverse_cons];exact snoc _ _ ih
 have:=h l.reverse
 rwa [List.reverse_reverse] at this
theorem uP (hb:∀b,b∈bs→b<256)(hi:i<bs.length)(h:i<(a8 bs).size):((a8 bs)[i]'h).toNat=bs.getD i 0:=by
 have e:(a8 bs)[i]'h=UInt8.ofNat (bs.getD i 0):=by
  show ((bs.map UInt8.ofNat).toArray)[i]'(by simpa using hi)=_
  rw [List.getElem_toArray,List.getElem_map,bC,cJ hi];rfl
 rw [e,UInt8.toNat_ofNat']
 refine fG ?_
 rw [bC,cJ hi]
 exact hb _ (mI hi)
def It (w:a6)(g:Nat)(bs:List Nat)(pos:Nat):Prop:=w.heap[g]?=some (.stringIter (a8 bs) pos)
theorem It.lt {w:a6}{pos:Nat}(h:It w g bs pos):g<w.heap.size:=(pV.1 h).1
theorem It.ext {w w':a6}{pos:Nat}(h:It w g bs pos)(e:Ext w w'):It w' g bs pos:=e.heap h
theorem It.updO {w w':a6}{pos:Nat}(h:It w g bs pos)(e:UpdO A w w')(hne:∀p,A=some p→p.block≠g):It w' g bs pos:=e.heap h hne
theorem KN {w:a6}{t s pos:Nat}(h:Own w b t s A n c us)(hi:It w g bs pos):∀p,A=some p→p.block≠g:=fun p hp e=>by
 rcases h with⟨h,_⟩ | ⟨k,cs,hA,_,hk,_⟩
 ·rw [h] at hp;cases hp
 ·rw [hA] at hp;cases hp
  simp only at e
  subst e
  unfold Bk at hk
  unfold It at hi
  rw [hk] at hi
  cases hi
theorem Own.updI {w w':a6}{t s pos:Nat}(h:Own w b t s A n c us)(hi:It w g bs pos)(u:Upd g w w'):Own w' b t s A n c us:=h.upd u (KN h hi)
section
variable {P:cD}{Q:dR→Act→a6→Prop}{n:Nat}{l:Fr}{w:a6}{ops:Array aX}{rest:List aX}{d:Nat}{ty:aT}{pos:String}{af:Array fD}{gd:Option (Nat×Bool)}
theorem F4 (hw:dI ops l gd=some true)(hx:bZ l x=some (.string (a8 bs)))(ht:P.underlying t=some .string)(hn:d<n)(h:∀g w',w.heap.size=g→It w' g bs 0→Ext w w'→wl P ops Q n rest ((d,.pointer (some ⟨g,0,none⟩))::l) w'):wl P ops Q n (⟨some d,.range t x,ty,pos,af,gd⟩::rest) l w:=by
 refine fJ hw hn (fun a' ha=>?_) (h _ (w.iter (a8 bs) 0) rfl (World.iter_heap w _ 0) ((Ext.refl w).alloc _))
 have e:(Instr.range t (a'.eval x)).run P w= .ok (.pointer (some ⟨w.heap.size,0,none⟩)) (w.iter (a8 bs) 0):=by rw [ha.ev hx];exact run_range_string w t _ ht
 show ((Instr.range t (a'.eval x)>>=fun r=>pure (fZ r):Sem fH)).run P w=_
 rw [cK,e];rfl
theorem ST {p:Nat}(h:It w g bs p)(hp:p<bs.length)(ty:aT):
  ∃w',(Instr.next (.pointer (some ⟨g,0,none⟩)) true ty).run P w= .ok (.tuple #[.bool true,.int .i64 (p:Int),.int .i32 ((Utf8.decode (a8 bs) p).1:Int)]) w'∧It w' g bs (p+(Utf8.decode (a8 bs) p).2)∧Upd g w w':=by
 have hs:p<(a8 bs).size:=by rw [cM];exact hp
 refine⟨{w with heap:=w.heap.setIfInBounds g (.stringIter (a8 bs) (p+(Utf8.decode (a8 bs) p).2))},?_,?_,?_⟩
 ·unfold It at h
  simp only [Instr.next,getObj,setObj,cK,Sem.run,h,Result.andThen,hs,if_true]
  simp [goInt]
 ·unfold It
  have:=h.lt
  simp [this]
 ·refine⟨⟨rfl,rfl,rfl,by simp,fun k hk hne=>?_⟩⟩
  have:g≠k:=fun e=>hne (by rw [e])
  simp [this]
theorem SS {p:Nat}(h:It w g bs p)(hp:¬p<bs.length)(ty:aT):(Instr.next (.pointer (some ⟨g,0,none⟩)) true ty).run P w= .ok (.tuple #[.bool false]) w:=by
 have hs:¬p<(a8 bs).size:=by rw [cM];exact hp
 unfold It at h
 simp [Instr.next,getObj,Sem.run,h,hs]
theorem OZ {p:Nat}(hw:dI ops l gd=some true)(hx:bZ l x=some (.pointer (some ⟨g,0,none⟩)))(h:It w g bs p)(hp:p<bs.length)(hn:d<n)(k:∀w',It w' g bs (p+(Utf8.decode (a8 bs) p).2)→Upd g w w'→wl P ops Q n rest ((d,.tuple #[.bool true,.int .i64 (p:Int),.int .i32 ((Utf8.decode (a8 bs) p).1:Int)])::l) w'):
  wl P ops Q n (⟨some d,.next x true,ty,pos,af,gd⟩::rest) l w:=by
 obtain⟨w',hr,h1,h2⟩:=ST (P:=P) h hp ty
 refine fJ hw hn (fun a' ha=>?_) (k w' h1 h2)
 have e:(Instr.next (a'.eval x) true ty).run P w= .ok (.tuple #[.bool true,.int .i64 (p:Int),.int .i32 ((Utf8.decode (a8 bs) p).1:Int)]) w':=by rw [ha.ev hx];exact hr
 show ((Instr.next (a'.eval x) true ty>>=fun r=>pure (fZ r):Sem fH)).run P w=_
 rw [cK,e];rfl
theorem F6 {p:Nat}(hw:dI ops l gd=some true)(hx:bZ l x=some (.pointer (some ⟨g,0,none⟩)))(h:It w g bs p)(hp:¬p<bs.length)(hn:d<n)(k:wl P ops Q n rest ((d,.tuple #[.bool false])::l) w):wl P ops Q n (⟨some d,.next x true,ty,pos,af,gd⟩::rest) l w:=by
 refine fJ hw hn (fun a' ha=>?_) k
 have e:(Instr.next (a'.eval x) true ty).run P w= .ok (.tuple #[.bool false]) w:=by rw [ha.ev hx];exact SS (P:=P) h hp ty
 show ((Instr.next (a'.eval x) true ty>>=fun r=>pure (fZ r):Sem fH)).run P w=_
 rw [cK,e];rfl
end
def dv (c:Nat):Nat:=if 48≤c∧c≤57 then c-48 else if 97≤c∧c≤122 then c-87 else if 65≤c∧c≤90 then c-55 else 36
theorem a0j (c:Nat):dv c≤36:=by unfold dv;split <;> (try split) <;> (try split) <;> omega
theorem D7 (h:128≤c):dv c=36:=by unfold dv;rw [if_neg (by omega),if_neg (by omega),if_neg (by omega)]
theorem a0H (hb:∀b,b∈bs→b<256){p:Nat}(hp:p<bs.length)(h:bs.getD p 0<128):Utf8.decode (a8 bs) p=(bs.getD p 0,1):=by
 have hs:p<(a8 bs).size:=by rw [cM];exact hp
 have e:=uP hb hp hs
 rw [decode_ascii (a8 bs) p hs (by rw [e];exact h),e]
def cG (b:Nat)(ds:List Nat):Nat:=ds.foldl (fun a d=>a*b+d) 0
theorem sP (b:Nat)(ds:List Nat)(d:Nat):cG b (ds++ [d])=cG b ds*b+d:=by unfold cG;rw [List.foldl_append];rfl
theorem BD (b a:Nat):∀ds:List Nat,ds.foldl (fun a d=>a*b+d) a=a*b^ds.length+cG b ds
 | []=>by simp [cG]
 | d::ds=>by
  have e:cG b (d::ds)=(0*b+d)*b^ds.length+cG b ds:=by
   unfold cG;rw [List.foldl_cons];exact BD b _ ds
  rw [List.foldl_cons,BD b _ ds,e,cO,cB]
  simp only [iZ,f9,dX,bH]
  rw [bY b (b^ds.length)]
  omega
theorem BE (b:Nat)(xs ys:List Nat):cG b (xs++ys)=cG b xs*b^ys.length+cG b ys:=by
 unfold cG
 rw [List.foldl_append,BD]
 rfl
theorem BC (_hb:1≤b):∀ds:List Nat,(∀d,d∈ds→d<b)→cG b ds<b^ds.length:=by
 intro ds
 induction ds using QY with
 | nil=>intro _;simp [cG]
 | snoc r a ih=>
  intro h
  have h1:=ih fun d hd=>h d (by simp [hd])
  have h2:=h a (by simp)
  rw [sP,cL,List.length_singleton,cB]
  have h3:(cG b r+1)*b≤b^r.length*b:=eA b h1
  rw [dX,Nat.one_mul] at h3
  omega
def mG (b:Nat)(bs:List Nat):Prop:=bs≠ []∧∀c,c∈bs→dv c<b
end
section
open Go.ChangeShapes Go.WideShapes Go.ChangeAt Go.RowKit
theorem QR (s:ByteArray):∃bs:List Nat,s=a8 bs∧(∀b,b∈bs→b<256)∧bs.length=s.size:=by
 refine⟨s.data.toList.map UInt8.toNat,?_,?_,?_⟩
 ·unfold a8
  rw [List.map_map]
  have:(UInt8.ofNat∘UInt8.toNat)=id:=funext fun x=>UInt8.ofNat_toNat
  rw [this,List.map_id]
 ·intro b hb
  obtain⟨x,_,rfl⟩:=oJ.1 hb
  exact x.toNat_lt
 ·rw [List.length_map,Array.length_toList];rfl
theorem G8 {a b:List Nat}(ha:∀x,x∈a→x<256)(hb:∀x,x∈b→x<256)(h:a8 a=a8 b):a=b:=by
 have hl:a.length=b.length:=by rw [←cM a,h,cM]
 refine List.ext_getElem hl fun i h1 h2=>?_
 have e1:=uP ha h1 (by rw [cM];exact h1)
 have e2:=uP hb h2 (by rw [cM];exact h2)
 have e3:((a8 a)[i]'(by rw [cM];exact h1)).toNat=((a8 b)[i]'(by rw [cM];exact h2)).toNat:=by
  congr 1;simp only [h]
 rw [e1,e2,bC,cJ h1,bC,cJ h2] at e3
 exact e3
def mO (o:jS)(a b:List Nat):Option Bool:=match o with
 | .eql=>some (decide (a=b))
 | .neq=>some (!decide (a=b))
 | _=>none
theorem FY {a b:ByteArray}(h:a.toList=b.toList):a=b:=by
 rw [ByteArray.toList_eq,ByteArray.toList_eq] at h
 exact Go.WideShapes.bytes_inj h
section
variable {P:cD}{Q:dR→Act→a6→Prop}{n:Nat}{l:Fr}{w:a6}{ops:Array aX}{rest:List aX}{d:Nat}{ty:aT}{pos:String}{af:Array fD}{gd:Option (Nat×Bool)}
theorem SO {a b:List Nat}{r:Bool}(ha:∀x,x∈a→x<256)(hb:∀x,x∈b→x<256)(hr:mO o a b=some r):
  ((do eqGuard o t x y (.string (a8 a)) (.string (a8 b));binOp o t (.string (a8 a)) (.string (a8 b))):Sem aH).run P w= .ok (.bool r) w:=by
 have key:((a8 a).toList==(a8 b).toList)=decide (a=b):=by
  by_cases h:a=b
  ·subst h;simp
  ·rw [decide_eq_false h,beq_eq_false_iff_ne]
   exact fun e=>h (G8 ha hb (FY e))
 cases o <;> simp only [mO,reduceCtorEq,fL] at hr
 ·subst hr;simp [eqGuard,binOp,Op.stringOp,key]
 ·subst hr;simp [eqGuard,binOp,Op.stringOp,key]
theorem fV {a b:List Nat}(hw:dI ops l gd=some true)(hx:bZ l x=some (.string (a8 a)))(hy:bZ l y=some (.string (a8 b)))(ha:∀x,x∈a→x<256)(r:Bool)(hr:mO o a b=some r)(h:wl P ops Q n rest ((d,.bool r)::l) w)(hb:∀x,x∈b→x<256:=by decide)(hn:d<n:=by decide):wl P ops Q n (⟨some d,.binOp o t x y t',ty,pos,af,gd⟩::rest) l w:=
 fJ hw hn (fun a' ha'=>by
  have e:((do eqGuard o t x y (a'.eval x) (a'.eval y);binOp o t (a'.eval x) (a'.eval y)):Sem aH).run P w= .ok (.bool r) w:=by
   rw [ha'.ev hx,ha'.ev hy];exact SO ha hb hr
  show ((((do eqGuard o t x y (a'.eval x) (a'.eval y);binOp o t (a'.eval x) (a'.eval y)):Sem aH)>>=fun r=>pure (fZ r)):Sem fH).run P w=_
  rw [cK,e];rfl) h
end
theorem RP {α:Type}{l:List α}(h:l.length=7):∃a b c d e f g,l= [a,b,c,d,e,f,g]:=by
 match l,h with
 | [a,b,c,d,e,f,g],_=>exact⟨a,b,c,d,e,f,g,rfl⟩
theorem W0 {α:Type}{l:List α}(h:l.length=9):∃a b c d e f g i j,l= [a,b,c,d,e,f,g,i,j]:=by
 match l,h with
 | [a,b,c,d,e,f,g,i,j],_=>exact⟨a,b,c,d,e,f,g,i,j,rfl⟩
theorem a0a:∃f0 f1 f2 f3 f4 f5 f6:Field,Tryz.prog.underlying 71=some (.struct #[f0,f1,f2,f3,f4,f5,f6])∧(f0.type=3∧f0.offset=0)∧(f1.type=24∧f1.offset=1)∧(f2.type=24∧f2.offset=3)∧(f3.type=65∧f3.offset=5)∧(f4.type=22∧f4.offset=6)∧(f5.type=9∧f5.offset=7)∧(f6.type=3∧f6.offset=8):=
 ⟨_,_,_,_,_,_,_,Tryz.underlying71,⟨rfl,rfl⟩,⟨rfl,rfl⟩,⟨rfl,rfl⟩,⟨rfl,rfl⟩,⟨rfl,rfl⟩,⟨rfl,rfl⟩,⟨rfl,rfl⟩⟩
theorem a05:Tryz.prog.cellsOf 71=9:=by kernel_rfl
theorem a04:Tryz.prog.cellsOf 9=1:=by kernel_rfl
theorem MO:Tryz.prog.cellsOf 3=1:=by kernel_rfl
theorem a03:Tryz.prog.cellsOf 65=1:=by kernel_rfl
theorem kE:AggT aF 71 9:=⟨fun _=>by kernel_rfl,fun _=>by kernel_rfl⟩
def AC (w:a6)(us:List aH):Prop:=
 ∃(k:Int) (sa:Bool) (Aa:Option aC) (na ca:Nat) (x:Int) (sb:Bool) (Ab:Option aC) (nb cb:Nat) (y:Int) (f:Nat) (C:Option aC) (m c:Nat) (fs bs:List Nat) (nn:Int),
  us= [.int .i64 k,.bool sa,.slice Aa na ca,.bool sb,.slice Ab nb cb,.int .u64 f,.slice C m c,.string (a8 bs),.int .i64 nn]∧
  Zi w sa Aa na ca x∧na≤1048576∧Zi w sb Ab nb cb y∧nb≤1048576∧f<18446744073709551616∧Rd w C m c fs∧m≤1048576∧(∀b,b∈bs→b<256)∧bs.length≤1048576
set_option maxRecDepth 20000 in
set_option maxHeartbeats 1000000 in
theorem VO {enc:aT×aH→H}{W:a6}{cs:List aH}{x:DataW H×List MemPlace}(h:DataW.trod enc aF W 0 (fun _=>true) true fuel 71 cs=some x)(hle:Rows.uptoBulk x.1≤1048576):AC W cs:=by
 obtain⟨f0,f1,f2,f3,f4,f5,f6,hu,⟨t0,o0⟩,⟨t1,o1⟩,⟨t2,o2⟩,⟨t3,o3⟩,⟨t4,o4⟩,⟨t5,o5⟩,⟨t6,o6⟩⟩:=a0a
 obtain⟨ys,n,_,rfl,hcl,hyl,hf⟩:=DataW.trod_struct hu h
 rw [a05] at hcl
 obtain⟨c0,c1,c2,c3,c4,c5,c6,c7,c8,rfl⟩:=W0 hcl
 obtain⟨y0,y1,y2,y3,y4,y5,y6,rfl⟩:=RP (show ys.length=7 from hyl)
 have g0:=hf 0 f0 rfl
 have g1:=hf 1 f1 rfl
 have g2:=hf 2 f2 rfl
 have g3:=hf 3 f3 rfl
 have g4:=hf 4 f4 rfl
 have g5:=hf 5 f5 rfl
 have g6:=hf 6 f6 rfl
 rw [t0,o0,MO] at g0
 rw [t1,o1,MN] at g1
 rw [t2,o2,MN] at g2
 rw [t3,o3,a03] at g3
 rw [t4,o4,DT] at g4
 rw [t5,o5,a04] at g5
 rw [t6,o6,MO] at g6
 obtain⟨k,hk,_,_⟩:=DataW.trod_int Tryz.underlying3 (show DataW.trod enc aF W 0 (fun _=>true) true n 3 [c0]=some y0 from g0)
 obtain⟨sa,Aa,na,ca,x,rfl,rfl,hx,hbx,_⟩:=JA (show DataW.trod enc aF W 0 (fun _=>true) true n 24 [c1,c2]=some y1 from g1)
 obtain⟨sb,Ab,nb,cb,y,rfl,rfl,hy,hby,_⟩:=JA (show DataW.trod enc aF W 0 (fun _=>true) true n 24 [c3,c4]=some y2 from g2)
 obtain⟨f,hfv,_,hwf⟩:=DataW.trod_int Tryz.underlying65 (show DataW.trod enc aF W 0 (fun _=>true) true n 65 [c5]=some y3 from g3)
 obtain⟨C,m,c,fs,rfl,hl,hbl,_⟩:=JB (d:=y4.1) (p:=y4.2) (show DataW.trod enc aF W 0 (fun _=>true) true n 22 [c6]=some y4 from g4)
 obtain⟨s,hs,hs2,_⟩:=DataW.trod_string Tryz.underlying9 (show DataW.trod enc aF W 0 (fun _=>true) true n 9 [c7]=some y5 from g5)
 obtain⟨nn,hnn,_,_⟩:=DataW.trod_int Tryz.underlying3 (show DataW.trod enc aF W 0 (fun _=>true) true n 3 [c8]=some y6 from g6)
 obtain rfl:=List.singleton_inj.1 hk
 obtain rfl:=List.singleton_inj.1 hnn
 obtain rfl:=List.singleton_inj.1 hfv
 obtain rfl:=List.singleton_inj.1 hs
 obtain⟨bs,rfl,hbs,hbl3⟩:=QR s
 obtain⟨u,rfl⟩:=Int.eq_ofNat_of_zero_le (x7 hwf).1
 have hu2:=(x7 hwf).2
 simp only [Rows.uptoBulk,iN,Rows.uptoBulkAll,hs2] at hle
 have hsz:(a8 bs).data.toList.length=(a8 bs).size:=Array.length_toList
 exact⟨k,_,_,_,_,x,_,_,_,_,y,u,_,_,_,fs,bs,nn,rfl,hx,by omega,hy,by omega,by omega,hl,by omega,hbs,by omega⟩
set_option maxRecDepth 20000 in
theorem JC {enc:aT×aH→H}{W:a6}{d:DataW H}(hval:Value.okWide aF W .any base 71 v)(h:DataW.Trod enc aF W 0 (fun _=>true) true 71 v d pl):
  ∃us,v= .agg us.toArray∧(Rows.uptoBulk d≤1048576→AC W us):=by
 simp only [Value.okWide,Tryz.underlying71] at hval
 obtain⟨cs,rfl,hsz,_⟩:=hval
 obtain⟨fuel,hf⟩:=h
 exact⟨cs.toList,by simp,fun hle=>VO (show DataW.trod enc aF W 0 (fun _=>true) true fuel 71 cs.toList=some (d,pl) from hf) hle⟩
end
section
open Go.RowKit
theorem mX:(Tryz.prog.info? 3).map (fun i=>(i.zero,i.size,i.bytes))=some (some (.int .i64 0),1,8):=by kernel_rfl
abbrev I6 (x:Nat):aH:= .int .i64 (x:Int)
theorem qP (xs:List Nat)(i x:Nat):(xs.map I6).set i (.int .i64 (x:Int))=(xs.set i x).map I6:=by rw [List.map_set]
theorem uY (n:Nat):bP n (bV .i64 0)=(bP n 0).map I6:=by rw [List.map_replicate];rfl
structure Ri (b:Nat)(w:a6)(A:Option aC)(n cap:Nat)(ds:List Nat):Prop where
 rv:Rv w 1 A n cap (ds.map I6)
 wf:Wfb b ds
theorem Ri.ext {w w':a6}(h:Ri b w A n cap xs)(e:Ext w w'):Ri b w' A n cap xs:=⟨h.rv.ext e,h.wf⟩
theorem Ri.len {w:a6}(h:Ri b w A n cap xs):xs.length=n:=by simpa using h.rv.len
theorem Ri.get (hb:0<b){w:a6}(h:Ri b w A n cap xs)(hi:i<n):
  ∃a x,A=some a∧Hid (xs.getD i 0=x)∧x<b∧w.cell? (a.add i)=some (.int .i64 (x:Int)):=by
 obtain⟨a,ha,hc⟩:=h.rv.get i (by omega)
 have hl:i<xs.length:=by rw [h.len];exact hi
 refine⟨a,_,ha,rfl,iY h.wf i (hb:=hb),?_⟩
 rw [hc]
 simp [bC,kK,cJ hl]
theorem Bk.digit (hb:0<b){w:a6}(h:Bk w g t (xs.map I6))(hw:Wfb b xs)(hi:i<xs.length):
  ∃x,Hid (xs.getD i 0=x)∧x<b∧w.cell? ⟨g,i,none⟩=some (.int .i64 (x:Int)):=by
 refine⟨_,rfl,iY hw i (hb:=hb),?_⟩
 rw [h.cell (by simpa using hi)]
 simp [bC,kK,cJ hi]
theorem Bk.ri {w:a6}(h:Bk w g t (xs.map I6))(hw:Wfb b xs){o:Nat}(hn:n≤cap)(hc:o+cap≤xs.length)(hm:cap≤maxLen):Ri b w (some ⟨g,o,none⟩) n cap ((xs.drop o).take n):=by
 refine⟨?_,kF (E3 hw _) _⟩
 rw [k5,uF]
 exact h.rv hn (by simpa using hc) hm
theorem Rv.take {w:a6}{s:Nat}(h:Rv w s A n cap vs)(hk:k≤n)(hm:k≤m)(hc:m≤cap):Rv w s A k m (vs.take (k*s)):=by
 have:=h.cut (l:=0) (bW _) hk hm hc
 simp only [Nat.sub_zero,iZ,gU] at this
 have e:(if m=0 then A else A.map (·.add 0))=A:=by
  have h0:∀a:aC,a.add 0=a:=fun a=>by simp [oL]
  split
  ·rfl
  ·cases A <;> simp [h0]
 rwa [e] at this
theorem Own.take {w:a6}{s:Nat}(h:Own w base t s A n cap vs)(hk:k≤n):Own w base t s A k cap (vs.take (k*s)):=by
 rcases h with⟨rfl,rfl,rfl,rfl⟩ | ⟨g,cs,rfl,hb,hbk,hn,hm,hl,rfl⟩
 ·exact cE ⟨rfl,by omega,rfl,by simp⟩
 ·refine bR ⟨g,cs,rfl,hb,hbk,by omega,hm,hl,?_⟩
  rw [List.take_take,fT (eA s hk)]
def EA (w:a6)(m:Nat)(e:fA)(w':a6):Prop:=
 ∃A n cap,e= .returned (.slice A n cap)∧Hid (n=(db 65536 m).length)∧Ri 65536 w' A n cap (db 65536 m)∧Own w' w.heap.size 3 1 A n cap ((db 65536 m).map I6)∧Ext w w'
theorem fP:2≤65536:=by decide
theorem sC:WB=65536^4:=by decide
def a1H (A:Option aC)(n cap:Nat)(m:Nat)(w:a6)(e:fA)(w':a6):Prop:=
 ∃k:Nat,Hid (k=(db 65536 m).length)∧k≤n∧e= .returned (.slice A k cap)∧w=w'
theorem I8 {w:a6}(hx:Ri 65536 w A n cap ds)(hl:n≤1099511627776):
  aO aF 221 #[.slice A n cap] w (a1H A n cap (nb 65536 ds) w):=by
 have hlen:=Lib.hid hx.len
 have hcap:=hx.rv.le
 go_enter Tryz.func221,Tryz.ntmps221
 go_wp2_with fail
 go_loop [3] (fun u=>∃k:Nat,k≤n∧u= .int .i64 (k:Int)∧nb 65536 (ds.take k)=nb 65536 ds) (fun u=>(intOf u).toNat)
 case atStart=>exact⟨n,b8 _,rfl,by rw [←hlen.out,List.take_length]⟩
 case round=>
  obtain⟨k,hk,rfl,hv⟩:=hrel
  have HV:=Lib.hid hv
  clear hv
  by_cases h0:0<k
  ·obtain⟨a,x,rfl,hxk,hxb,hc⟩:=hx.get (by omega) (i:=k-1) (by omega)
   by_cases hz:x=0
   ·subst hz
    go_wp2_with fail
    go_round
    case rel=>
     refine⟨k-1,by omega,by congr 1;omega,?_⟩
     rw [←HV.out,←yK 65536 ds (k-1) (by rw [hlen.out];omega) hxk.out,jP h0]
    case measure=>simp [intOf];omega
   ·have hzb:((x:Int)==0)=false:=by simp;omega
    go_wp2_with fail
    go_ret
    refine⟨k,?_,hk,?_,rfl⟩
    ·have:=zM fP (k:=k) hx.wf (by rw [hlen.out];exact hk) HV.out (bR (by rw [hxk.out];exact hz))
     show k=_
     rw [this,bJ,hlen.out];omega
    ·rfl
  ·go_wp2_with fail
   go_ret
   refine⟨k,?_,hk,?_,rfl⟩
   ·have:=zM fP (k:=k) hx.wf (by rw [hlen.out];exact hk) HV.out (cE (by omega))
    show k=_
    rw [this,bJ,hlen.out];omega
   ·rfl
theorem QW {x w:Nat}(hl:ds.length=n)(h:nb 65536 ds+65536^n*w=x):nb 65536 (ds++ [w%65536])+65536^(n+1)*(w/65536)=x:=by
 rw [vL,hl,cB,bH,j0,←cT,jY]
 exact h
theorem qB {w:a6}(hx:Rd w A n cap xs)(hl:n≤274877906943):
  aO aF 177 #[.slice A n cap] w (EA w (nv xs)):=by
 have hlx:=Lib.hid hx.len
 have hmk:=H6 (P:=aF) Tryz.underlying140 mX rfl (by decide) (4*(n:Int)) (by omega) (by omega)
 have et:(4*(n:Int)).toNat=4*n:=by omega
 rw [et] at hmk
 clear et
 go_enter Tryz.func177,Tryz.ntmps177
 go_wp2_with fail
 clear hmk
 obtain⟨g,hg⟩:∃g,w.heap.size=g:=⟨_,rfl⟩
 rw [hg]
 obtain⟨wa,hwa⟩:∃wa,w.alloc (.cells (zc (.int .i64 0) (4*n)) 3)=wa:=⟨_,rfl⟩
 rw [hwa]
 have hoa:Own wa w.heap.size 3 1 (some ⟨g,0,none⟩) 0 (4*n) (([]:List Nat).map I6):=by
  rw [←hwa,←hg]
  exact Own.mk_ (cs:=bP (4*n) (.int .i64 0)) (b8 _) (Bk.new' _ _ _) (by omega) (by rw [eY];omega) (by simp) (by simp)
 have hea:Ext w wa:=by rw [←hwa];exact (Ext.refl w).alloc _
 clear hg hwa
 go_loopw [4,3] (fun u v wr=>∃(i:Nat) (A':Option aC) (c':Nat) (ds:List Nat),i≤n∧u= .int .i64 (i:Int)∧v= .slice A' (4*i) c'∧Own wr w.heap.size 3 1 A' (4*i) c' (ds.map I6)∧Wfb 65536 ds∧
  Hid (ds.length=4*i)∧Hid (nb 65536 ds=nv (xs.take i))∧Ext w wr) (fun u v wr=>n-(intOf u).toNat)
 case atStart=>exact⟨0,_,_,[],bW _,rfl,rfl,hoa,NG _,rfl,rfl,hea⟩
 case round=>
  obtain⟨i,A',c',ds,hi,rfl,rfl,ho,hw,hdl,hv,hr⟩:=hrel
  clear hoa hea
  by_cases him:i<n
  ·obtain⟨a,x,rfl,hxk,hxb,hcx⟩:=(hx.ext hr).get (i:=i) (by omega)
   go_wp2_with fail
   obtain⟨wo,rfl⟩:∃wo:a6,wo=wr:=⟨_,rfl⟩
   go_loopw [6,3,5] (fun u v y wr=>∃(k:Nat) (A':Option aC) (c':Nat) (ds:List Nat) (q:Nat),k≤4∧u= .int .i64 (k:Int)∧v= .slice A' (4*i+k) c'∧y= .int .u64 (q:Int)∧q≤18446744073709551615∧Own wr w.heap.size 3 1 A' (4*i+k) c' (ds.map I6)∧Wfb 65536 ds∧
    Hid (ds.length=4*i+k)∧Hid (nb 65536 ds+65536^(4*i+k)*q=nv (xs.take (i+1)))∧Hid (q*65536^k<WB)∧Ext w wr) (fun u v y wr=>4-(intOf u).toNat)
   case atStart=>
    refine⟨0,_,_,ds,x,bW _,rfl,rfl,rfl,hxb,ho,hw,hdl,?_,?_,hr⟩
    ·show _=_
     rw [hv.out,fB xs i (by rw [hlx.out];omega),hxk.out,sC,←Nat.pow_mul];rfl
    ·show _<_
     rw [cF];omega
   case round=>
    obtain⟨k,A2,c2,es,q,hk,rfl,rfl,rfl,hqb,ho2,hw2,hel,hev,hq,hr2⟩:=hrel
    clear ho hw hdl hv
    by_cases hk4:k<4
    ·have r1:(4*i+k+1)*8≤140737488355328:=by omega
     go_wp2_with ((with_reducible refine dZ (some 30) ?_);refine F1 rfl (.tmp 25) (.tmp 29) 140 rfl rfl rfl Tryz.underlying140 mX rfl (by decide) (ho2.ext ((Ext.refl _).alloc _)) (Rv.one _ _ _) (by simp [Value.oneCell']) r1 (by rw [eY];omega) (by have:=hr2.size;simp;omega) ?_;intro A3 c3 w3 ho3 hu3 _)
     have he3:Ext w w3:=hu3.ext (hr2.alloc _) (fun p hp=>(ho2.block p hp).1)
     go_roundw
     case rel=>
      refine⟨k+1,A3,c3,es++ [q%65536],q/65536,by omega,by go_num,rfl,by go_num,by omega,?_,sA hw2 (a1F (by omega)),?_,QW hel.out hev.out,?_,he3⟩
      ·have:(es++ [q%65536]).map I6=es.map I6++ [.int .i64 ((q:Int)%65536)]:=by simp
       rw [this];exact ho3
      ·show _=_
       rw [cL,hel.out];rfl
      ·show _<_
       have h2:q/65536*65536≤q:=Nat.div_mul_le_self q 65536
       calc q/65536*65536^(k+1)=(q/65536*65536)*65536^k:=by rw [cB,bY (65536^k),bH]
        _≤q*65536^k:=eA _ h2
        _<WB:=hq.out
     case measure=>simp [intOf];omega
    ·obtain rfl:k=4:=by omega
     have hq0:q=0:=by
      have h:=hq.out
      rw [cF] at h
      omega
     go_wp2_with fail
     go_roundw
     case rel=>
      refine⟨i+1,A2,c2,es,by omega,by go_num,rfl,ho2,hw2,hel.out,?_,hr2⟩
      show _=_
      have h:=hev.out
      rw [hq0,iG,dN] at h
      exact h
     case measure=>simp [intOf];omega
  ·obtain rfl:i=n:=by omega
   have hri:Ri 65536 wr A' (4*i) c' ds:=⟨ho.rv,hw⟩
   go_wp2_with fail
   refine (I8 hri (by omega)).mono ?_
   rintro e w' ⟨k,hk,hkn,rfl,rfl⟩
   go_wp2_with fail
   go_ret
   have e:nb 65536 ds=nv xs:=by rw [hv.out,←hlx.out,List.take_length]
   have e2:=DL fP hw hk.out
   rw [e] at e2
   have hot:=ho.take hkn
   rw [cI,←k5,←e2] at hot
   refine⟨A',k,c',rfl,?_,⟨hot.rv,kY fP _⟩,hot,hr⟩
   show _=_
   rw [hk.out,e]
theorem uZ {w:a6}(hx:Ri 65536 w A n cap ds)(hl:n≤1099511627775):
  aO aF 179 #[.slice A n cap] w (jW w (nb 65536 ds)):=by
 go_enter Tryz.func179,Tryz.ntmps179
 go_wp2_with fail
 refine (I8 hx (by omega)).mono ?_
 rintro e w' ⟨k,hk,hkn,rfl,rfl⟩
 obtain⟨es,hes⟩:∃es,es=db 65536 (nb 65536 ds):=⟨_,rfl⟩
 have hes2:es=ds.take k:=by rw [hes];exact DL fP hx.wf hk.out
 have hlen:=Lib.hid hx.len
 have he:Ri 65536 w A k cap es:=by
  have h:=hx.rv.take (k:=k) (m:=cap) hkn (by have:=hx.rv.le;omega) (b8 _)
  rw [cI,←k5,←hes2] at h
  exact⟨h,by rw [hes2];exact kF hx.wf _⟩
 have hel:=Lib.hid he.len
 have hval:Hid (nb 65536 es=nb 65536 ds):=by show _=_;rw [hes,iB fP]
 have htop:Hid (k=0∨65536^(k-1)≤nb 65536 ds):=by
  by_cases h0:nb 65536 ds=0
  ·left
   have h:=hk.out
   rw [h0,lG] at h
   exact h
  ·right
   have:=J2 fP h0
   rwa [←hk.out] at this
 clear hes hes2 hk
 have hmk:=H6 (P:=aF) Tryz.underlying22 jE rfl (by decide) ((k:Int)/4+1) (by omega) (by omega)
 have et:((k:Int)/4+1).toNat=k/4+1:=by omega
 rw [et] at hmk
 clear et
 go_wp2_with fail
 clear hmk
 obtain⟨g,hg⟩:∃g,w.heap.size=g:=⟨_,rfl⟩
 rw [hg]
 obtain⟨wa,hwa⟩:∃wa,w.alloc (.cells (zc (.int .u64 0) (k/4+1)) 65)=wa:=⟨_,rfl⟩
 rw [hwa]
 have hoa:Own wa w.heap.size 65 1 (some ⟨g,0,none⟩) 0 (k/4+1) (([]:List Nat).map aW):=by
  rw [←hwa,←hg]
  exact Own.mk_ (cs:=bP (k/4+1) (.int .u64 0)) (b8 _) (Bk.new' _ _ _) (by omega) (by rw [eY];omega) (by simp) (by simp)
 have hea:Ext w wa:=by rw [←hwa];exact (Ext.refl w).alloc _
 clear hg hwa
 go_loopw [4,3] (fun u v wr=>∃(i:Nat) (A':Option aC) (c':Nat) (ws:List Nat),4*i≤k+3∧u= .int .i64 (4*(i:Int))∧v= .slice A' i c'∧Own wr w.heap.size 65 1 A' i c' (ws.map aW)∧Wf ws∧
  Hid (ws.length=i)∧Hid (nv ws=nb 65536 (es.take (4*i)))∧Ext w wr) (fun u v wr=>k+4-(intOf u).toNat)
 case atStart=>exact⟨0,_,_,[],by omega,rfl,rfl,hoa,NI,rfl,rfl,hea⟩
 case round=>
  obtain⟨i,A',c',ws,hi,rfl,rfl,ho,hw,hwl,hv,hr⟩:=hrel
  clear hoa hea
  by_cases him:4*i<k
  ·go_wp2_with fail
   obtain⟨wo,rfl⟩:∃wo:a6,wo=wr:=⟨_,rfl⟩
   go_loop [6,5] (fun u v=>∃(j q:Nat),j≤4∧u= .int .i64 ((j:Int)-1)∧v= .int .u64 (q:Int)∧Hid (q=nb 65536 ((es.drop (4*i+j)).take (4-j)))) (fun u v=>(intOf u+1).toNat)
   case atStart=>exact⟨4,0,b8 _,rfl,rfl,by simp [Hid,nb]⟩
   case round=>
    obtain⟨j,q,hj,rfl,rfl,hq⟩:=hrel
    have hqlt:q<65536^(4-j):=by
     rw [hq.out]
     have h1:=nX (kF (E3 he.wf (4*i+j)) (4-j))
     have h2:65536^(List.take (4-j) (List.drop (4*i+j) es)).length≤65536^(4-j):=dU (by omega) (by rw [bJ];omega)
     omega
    by_cases hj0:0<j
    ·have hqb:q≤281474976710655:=by
      have:(65536:Nat)^(4-j)≤65536^3:=dU (by omega) (by omega)
      omega
     clear hqlt
     have hstep:Hid (es.getD (4*i+(j-1)) 0+65536*q=nb 65536 ((es.drop (4*i+(j-1))).take (4-(j-1)))):=by
      show _=_
      have e2:4-(j-1)=(4-j)+1:=by omega
      have e3:4*i+(j-1)+1=4*i+j:=by omega
      rw [e2,K0,e3,hq.out]
     by_cases hin:4*i+(j-1)<k
     ·obtain⟨a,x,rfl,hxk,hxb,hcx⟩:=(he.ext hr).get (by omega) (i:=4*i+(j-1)) (by omega)
      have hin':4*(i:Int)+((j:Int)-1)<(k:Int):=by omega
      go_wp2_with fail
      go_round
      case rel=>exact⟨j-1,x+65536*q,by omega,fW,fW,by show _=_;rw [←hstep.out,hxk.out]⟩
      case measure=>simp [intOf];omega
     ·have hin':¬4*(i:Int)+((j:Int)-1)<(k:Int):=by omega
      go_wp2_with fail
      go_round
      case rel=>exact⟨j-1,65536*q,by omega,fW,fW,by show _=_;rw [←hstep.out,bC,kM (by rw [hel.out];omega)];simp⟩
      case measure=>simp [intOf];omega
    ·obtain rfl:j=0:=by omega
     have hqW:q<WB:=by rw [sC];exact hqlt
     clear hqlt
     have r1:(i+1)*8≤140737488355328:=by omega
     go_wp2_with ((with_reducible refine dZ (some 44) ?_);refine F1 rfl (.tmp 41) (.tmp 43) 22 rfl rfl rfl Tryz.underlying22 jE rfl (by decide) (ho.ext ((Ext.refl _).alloc _)) (Rv.one _ _ _) (by simp [Value.oneCell']) r1 (by rw [eY];omega) (by have:=hr.size;simp;omega) ?_;intro A3 c3 w3 ho3 hu3 _)
     have he3:Ext w w3:=hu3.ext (hr.alloc _) (fun p hp=>(ho.block p hp).1)
     go_roundw
     case rel=>
      refine⟨i+1,A3,c3,ws++ [q],by omega,fW,rfl,?_,tU hw (E4 hqW),?_,?_,he3⟩
      ·have:(ws++ [q]).map aW=ws.map aW++ [.int .u64 (q:Int)]:=by simp
       rw [this];exact ho3
      ·show _=_
       rw [cL,hwl.out];rfl
      ·show _=_
       rw [JH,hwl.out,hv.out,show 4*(i+1)=4*i+4 from by omega,JZ 65536 es (4*i) 4 (by rw [hel.out];omega),hq.out,sC,←Nat.pow_mul]
       rfl
     case measure=>simp [intOf];omega
  ·go_wp2_with fail
   go_ret
   have e1:nv ws=nb 65536 ds:=by rw [hv.out,List.take_of_length_le (by rw [hel.out];omega),hval.out]
   have e2:wd (nv ws)=ws:=by
    refine FF hw ?_
    rw [hwl.out,e1]
    by_cases h0:i=0
    ·exact cE h0
    ·refine bR ?_
     rcases htop.out with h | h
     ·omega
     ·refine aG ?_ h
      rw [sC,←Nat.pow_mul]
      exact dU (by omega) (by omega)
   rw [←e1]
   rw [←e2] at ho
   refine⟨A',i,c',rfl,?_,ho.rd (by rw [e2];exact hw),ho,hr⟩
   show _=_
   rw [e2,hwl.out]
theorem I9 {w:a6}{B:Option aC}{x y:Nat}(hx:Ri 65536 w A n cap (db 65536 x))(hl:n≤1099511627776)(hy:Ri 65536 w B n' cap' (db 65536 y))(hl':n'≤1099511627776):
  aO aF 186 #[.slice A n cap,.slice B n' cap'] w (wJ x y w):=by
 have hlx:=Lib.hid hx.len
 have hly:=Lib.hid hy.len
 rcases Nat.lt_trichotomy n n' with hlt | rfl | hgt
 ·have h1:((n:Int) != (n':Int))=true:=by simp;omega
  go_enter Tryz.func186,Tryz.ntmps186
  go_wp2_with fail
  go_ret
  exact oF (zP (KD fP (by rw [hlx.out,hly.out];exact hlt))) (Ext.refl w)
 ·have h1:((n:Int) != (n:Int))=false:=by simp
  obtain⟨ds,hds⟩:∃ds,ds=db 65536 x:=⟨_,rfl⟩
  obtain⟨es,hes⟩:∃es,es=db 65536 y:=⟨_,rfl⟩
  have hvx:=Lib.hid (show nb 65536 ds=x by rw [hds,iB fP])
  have hvy:=Lib.hid (show nb 65536 es=y by rw [hes,iB fP])
  rw [←hds] at hx hlx
  rw [←hes] at hy hly
  clear hds hes
  go_enter Tryz.func186,Tryz.ntmps186
  go_wp2_with fail
  go_loopw [5] (fun u wr=>∃i:Nat,i≤n∧u= .int .i64 ((i:Int)-1)∧Hid (dH (nb 65536 (ds.take i)) (nb 65536 (es.take i))=dH x y)∧Ext w wr) (fun u wr=>(intOf u+1).toNat)
  case atStart=>exact⟨n,b8 _,rfl,(show _=_ by rw [List.take_of_length_le (by rw [hlx.out];omega),List.take_of_length_le (by rw [hly.out];omega),hvx.out,hvy.out]),Ext.refl w⟩
  case round=>
   obtain⟨i,hi,rfl,hv,hext⟩:=hrel
   by_cases h0:0<i
   ·obtain⟨a,p,rfl,hxk,hxb,hc⟩:=(hx.ext hext).get (by omega) (i:=i-1) (by omega)
    obtain⟨b,q,rfl,hyk,hyb,hd⟩:=(hy.ext hext).get (by omega) (i:=i-1) (by omega)
    have hi':i-1+1=i:=by omega
    have hcast:((i-1:Nat):Int)=(i:Int)-1:=by omega
    have b1:(0:Int)≤(i:Int)-1:=by omega
    rcases Nat.lt_trichotomy p q with hlt | rfl | hgt
    ·go_wp2_with fail
     go_quiet (fail)
     go_wp2_with fail
     go_ret
     refine oF ?_ (by repeat (first | exact Ext.refl _ | assumption | apply Ext.drewN | apply Ext.drew | apply Ext.alloc))
     rw [←hv.out,←hi']
     exact zP (JX (by omega) hx.wf (by rw [hlx.out];omega) (by rw [hly.out];omega) (by rw [hxk.out,hyk.out];exact hlt))
    ·go_wp2_with fail
     go_quiet (fail)
     go_wp2_with fail
     go_quiet (fail)
     go_wp2_with fail
     go_roundw
     case rel=>
      refine⟨i-1,by omega,by congr 1;omega,?_,(by repeat (first | exact Ext.refl _ | assumption | apply Ext.drewN | apply Ext.drew | apply Ext.alloc))⟩
      show _=_
      rw [←hv.out,←a0U (k:=i-1) (by rw [hlx.out];omega) (by rw [hly.out];omega) (by rw [hxk.out,hyk.out]),hi']
     case measure=>simp [intOf];omega
    ·go_wp2_with fail
     go_quiet (fail)
     go_wp2_with fail
     go_quiet (fail)
     go_wp2_with fail
     go_ret
     refine oF ?_ (by repeat (first | exact Ext.refl _ | assumption | apply Ext.drewN | apply Ext.drew | apply Ext.alloc))
     rw [←hv.out,←hi']
     exact wB (JX (by omega) hy.wf (by rw [hly.out];omega) (by rw [hlx.out];omega) (by rw [hxk.out,hyk.out];exact hgt))
   ·go_wp2_with fail
    go_ret
    refine oF ?_ hext
    rw [←hv.out,show i=0 from by omega]
    simp [MJ]
 ·have h1:((n:Int) != (n':Int))=true:=by simp;omega
  go_enter Tryz.func186,Tryz.ntmps186
  go_wp2_with fail
  go_ret
  exact oF (wB (KD fP (by rw [hlx.out,hly.out];exact hgt))) (Ext.refl w)
theorem pD (hw:Wf xs):(db 65536 (nv xs)).length≤4*xs.length:=by
 refine kT fP ?_
 have:=jM hw
 rwa [sC,←Nat.pow_mul] at this
theorem TV {w:a6}(hx:Rd w A n cap xs)(hl:n≤274877906943):
  aO aF 180 #[.slice A n cap] w (jW w (nv xs)):=by
 go_enter Tryz.func180,Tryz.ntmps180
 go_wp2_with fail
 refine (qB hx hl).mono ?_
 rintro e w1 ⟨A1,n1,c1,rfl,hn1,hr1,_,hx1⟩
 have hb:n1≤1099511627775:=by have:=pD hx.wf;rw [hn1.out];rw [hx.len] at this;omega
 go_wp2_with fail
 refine (uZ hr1 hb).mono ?_
 rintro e w2 ⟨A2,n2,c2,rfl,hn2,hr2,ho2,hx2⟩
 go_wp2_with fail
 go_ret
 rw [iB fP] at hn2 hr2 ho2
 exact⟨A2,n2,c2,rfl,hn2,hr2,ho2.mono hx1.size,hx1.trans hx2⟩
theorem TW {w:a6}{B:Option aC}(hx:Rd w A n cap xs)(hl:n≤274877906943)(hy:Rd w B n' cap' ys)(hl':n'≤274877906943):
  aO aF 128 #[.slice A n cap,.slice B n' cap'] w (wJ (nv xs) (nv ys) w):=by
 go_enter Tryz.func128,Tryz.ntmps128
 go_wp2_with fail
 refine (qB hx hl).mono ?_
 rintro e w1 ⟨A1,n1,c1,rfl,hn1,hr1,_,hx1⟩
 have hb1:n1≤1099511627775:=by have:=pD hx.wf;rw [hn1.out];rw [hx.len] at this;omega
 go_wp2_with fail
 refine (qB (hy.ext hx1) hl').mono ?_
 rintro e w2 ⟨A2,n2,c2,rfl,hn2,hr2,_,hx2⟩
 have hb2:n2≤1099511627775:=by have:=pD hy.wf;rw [hn2.out];rw [hy.len] at this;omega
 go_wp2_with fail
 refine (I9 (hr1.ext hx2) (by omega) hr2 (by omega)).mono ?_
 rintro e w3 ⟨c,hc,hc1,hc2,rfl,hx3⟩
 go_wp2_with fail
 go_ret
 exact⟨c,hc,hc1,hc2,rfl,(hx1.trans hx2).trans hx3⟩
theorem C4 {w:a6}(hx:Ri 65536 w A n cap ds)(hl:n≤1099511627776){i:Int}(h0:0≤i:=by omega)(hi:i≤4398046511104:=by omega):
  aO aF 187 #[.slice A n cap,.int .i64 i] w fun e w'=>∃x:Nat,Hid (x=ds.getD i.toNat 0)∧x≤65535∧e= .returned (.int .i64 (x:Int))∧w=w':=by
 obtain⟨k,rfl⟩:=Int.eq_ofNat_of_zero_le h0
 rw [gV]
 have hlx:=Lib.hid hx.len
 by_cases hk:k<n
 ·obtain⟨a,x,rfl,hxk,hxb,hc⟩:=hx.get (by omega) (i:=k) hk
  go_enter Tryz.func187,Tryz.ntmps187
  go_wp2_with fail
  go_ret
  exact⟨x,hxk.out.symm,by omega,rfl,rfl⟩
 ·go_enter Tryz.func187,Tryz.ntmps187
  go_wp2_with fail
  go_ret
  refine⟨0,?_,by omega,rfl,rfl⟩
  show _=_
  rw [bC,kM (by rw [hlx.out];omega)];rfl
theorem a1k (h:q≠0):bA q=bA (q/2)+1:=by
 refine rY ?_ (bR ?_)
 ·have:=jV (q/2)
  rw [cB];omega
 ·rw [kI]
  by_cases h0:q/2=0
  ·rw [h0,kV];omega
  ·have h1:=lH h0
   have h2:bA (q/2)≠0:=fun e=>h0 (kD.1 e)
   have h3:2^bA (q/2)=2*2^(bA (q/2)-1):=by
    conv=>lhs;rw [show bA (q/2)=(bA (q/2)-1)+1 from by omega]
    rw [cB,bY]
   omega
theorem a1l (hb : 2 ≤ b)(hbk : b = 2 ^ k){v x:Nat}(hm : m = (db b v).length)(h0 : 0 < m)(hx : (db b v).getD (m - 1) 0 = x): x ≠ 0 ∧ k * (m - 1) + bA x = bA v := by
  have hw := kY hb v
  have ht := wA hb v
  rw [← hm, hx] at ht
  have hx0 : x ≠ 0 := by rcases ht with h | h
                         · omega
                         · exact h
  have e2 : v = nb b ((db b v).take (m - 1)) + b ^ (m - 1) * x := by
    have := iL b (db b v) (m - 1) (by omega)
    rw [jP h0, List.take_of_length_le (by omega), iB hb, hx] at this
    exact this
  have hlt := rO (by omega) hw (m - 1)
  generalize nb b ((db b v).take (m - 1)) = lo at *
  refine ⟨hx0, (rY ?_ (bR ?_)).symm⟩
  · have h1 := jV x
    rw [bX, Nat.pow_mul, ← hbk]
    have h2 : b ^ (m - 1) * x + b ^ (m - 1) ≤ b ^ (m - 1) * 2 ^ bA x := by
      have := eF (b ^ (m - 1)) (Nat.succ_le_of_lt h1)
      rwa [Nat.mul_succ] at this
    omega
  · have h1 := lH hx0
    have hb' : bA x ≠ 0 := fun h => hx0 (kD.1 h)
    rw [Nat.add_sub_assoc (by omega), bX, Nat.pow_mul, ← hbk]
    have := eF (b ^ (m - 1)) h1
    omega
theorem TX {w:a6}(hx:Rd w A n cap xs)(hl:n≤274877906943):
  aO aF 208 #[.slice A n cap] w (NS (bA (nv xs)) w):=by
 go_enter Tryz.func208,Tryz.ntmps208
 go_wp2_with fail
 refine (qB hx hl).mono ?_
 rintro e w1 ⟨A1,m,c1,rfl,hm,hr1,_,hx1⟩
 have hb1:m≤1099511627775:=by have:=pD hx.wf;rw [hm.out];rw [hx.len] at this;omega
 by_cases h0:0<m
 ·obtain⟨a,x,rfl,hxk,hxb,hcx⟩:=hr1.get (by omega) (i:=m-1) (by omega)
  have hb:=Lib.hid (a1l (k:=16) fP (by decide) hm.out h0 hxk.out)
  have b0:((m:Int)==0)=false:=by simp;omega
  go_wp2_with fail
  go_loop [4,5] (fun u v=>∃k q t:Nat,u= .int .i64 (k:Int)∧v= .int .i64 (q:Int)∧q<65536∧k+t≤17592186044416∧Hid (t=bA q)∧Hid (k+t=bA (nv xs))) (fun u v=>(intOf v).toNat)
  case atStart=>exact⟨16*(m-1),x,bA x,fW,rfl,hxb,by have:=tS (k:=16) hxb;omega,rfl,hb.out.2⟩
  case round=>
   obtain⟨k,q,t,rfl,rfl,hq,hkb,ht,hv⟩:=hrel
   by_cases hq0:0<q
   ·have hh:=Lib.hid (a1k (q:=q) (by omega))
    have ht1:1≤t:=by rw [ht.out,hh.out];omega
    go_wp2_with fail
    go_round
    case rel=>exact⟨k+1,q/2,t-1,by go_num,fW,by omega,by omega,by show _=_;rw [ht.out,hh.out];omega,by show _=_;rw [←hv.out];omega⟩
    case measure=>simp [intOf];omega
   ·obtain rfl:q=0:=by omega
    have ht0:t=0:=by rw [ht.out,kV]
    subst ht0
    go_wp2_with fail
    go_ret
    exact⟨k,hv.out,rfl,hx1⟩
 ·obtain rfl:m=0:=by omega
  go_wp2_with fail
  go_ret
  refine⟨0,?_,rfl,hx1⟩
  show _=_
  rw [(rS fP).1 hm.out.symm,kV]
theorem JY (b:Nat)(xs:List Nat)(k:Nat):nb b (xs.take (k+1))=nb b (xs.take k)+b^k*xs.getD k 0:=by
 by_cases h:k<xs.length
 ·exact iL b xs k h
 ·rw [List.take_of_length_le (by omega),List.take_of_length_le (by omega),bC,kM (by omega)];simp
theorem a1y {x y:Nat}(hli:i<l.length)(h:nb b (l.take i)+b^i*c=nb b (xs.take i)+nb b (ys.take i))(hx:x=xs.getD i 0)(hy:y=ys.getD i 0){s:Nat}(hs:s+b*d=x+y+c):
  nb b ((l.set i s).take (i+1))+b^(i+1)*d=nb b (xs.take (i+1))+nb b (ys.take (i+1)):=by
 have e1:(l.set i s).getD i 0=s:=by simp [bC,hli]
 have e2:(l.set i s).take i=l.take i:=by rw [List.take_set_of_le (b8 i)]
 rw [iL b _ i (by rw [List.length_set];exact hli),e1,e2,JY b xs i,JY b ys i,←hx,←hy,cB,bH]
 have e4:b^i*(s+b*d)=b^i*(x+y+c):=by rw [hs]
 simp only [cT] at e4
 omega
theorem TY {w:a6}{B:Option aC}(hx:Rd w A n cap xs)(hl:n≤137438953471)(hy:Rd w B n' cap' ys)(hl':n'≤137438953471):
  aO aF 129 #[.slice A n cap,.slice B n' cap'] w (jW w (nv xs+nv ys)):=by
 go_enter Tryz.func129,Tryz.ntmps129
 go_wp2_with fail
 refine (qB hx (by omega)).mono ?_
 rintro e w1 ⟨A1,p,c1,rfl,hp,hr1,_,hx1⟩
 have hb1:p≤549755813888:=by have:=pD hx.wf;rw [hp.out];rw [hx.len] at this;omega
 go_wp2_with fail
 refine (qB (hy.ext hx1) (by omega)).mono ?_
 rintro e w2 ⟨A2,q,c2,rfl,hq,hr2,_,hx2⟩
 have hb2:q≤549755813888:=by have:=pD hy.wf;rw [hq.out];rw [hy.len] at this;omega
 have hr1':=hr1.ext hx2
 have hx12:=hx1.trans hx2
 clear hr1 hx1 hx2
 obtain⟨ds,hds⟩:∃ds,ds=db 65536 (nv xs):=⟨_,rfl⟩
 obtain⟨es,hes⟩:∃es,es=db 65536 (nv ys):=⟨_,rfl⟩
 have hvx:=Lib.hid (show nb 65536 ds=nv xs by rw [hds,iB fP])
 have hvy:=Lib.hid (show nb 65536 es=nv ys by rw [hes,iB fP])
 have hdl:=Lib.hid hr1'.len
 have hel:=Lib.hid hr2.len
 rw [←hds] at hr1' hdl
 rw [←hes] at hr2 hel
 clear hds hes hp hq hx hy
 go_upto_if 21 with (fail)
 go_cut [7] (fun u wc=>∃m:Nat,u= .int .i64 (m:Int)∧p≤m∧q≤m∧m≤549755813888∧w2=wc)
 case first=>
  by_cases hlt:p<q
  ·go_wp2_with fail
   go_meet
   case rel=>exact⟨q,rfl,by omega,by omega,hb2,rfl⟩
  ·go_wp2_with fail
   go_meet
   case rel=>exact⟨p,rfl,by omega,by omega,hb1,rfl⟩
 case rest=>
  obtain⟨m,rfl,hpm,hqm,hmb,rfl⟩:=hcut
  have hmk:=lM (P:=aF) Tryz.underlying140 mX rfl (by decide) ((m:Int)+1) (by omega) (by omega)
  have et:((m:Int)+1).toNat=m+1:=by omega
  rw [et] at hmk
  clear et
  go_wp2_with fail
  clear hmk
  obtain⟨g,hg⟩:∃g,w2.heap.size=g:=⟨_,rfl⟩
  rw [hg]
  obtain⟨wa,hwa⟩:∃wa,w2.alloc (.cells (zc (.int .i64 0) (m+1)) 3)=wa:=⟨_,rfl⟩
  rw [hwa]
  have hbk:Bk wa g 3 ((bP (m+1) 0).map I6):=by
   rw [←hwa,←hg,←uY];exact Bk.new' _ _ _
  have hea:Ext w2 wa:=by rw [←hwa];exact (Ext.refl w2).alloc _
  have hgs:w.heap.size≤g:=by rw [←hg];exact hx12.size
  have hgc:w2.heap.size≤g:=by rw [hg];exact b8 _
  clear hg hwa
  go_loopw [10,9] (fun u v wr=>∃(i c:Nat) (l:List Nat),i≤m∧c≤1∧u= .int .i64 (i:Int)∧v= .int .i64 (c:Int)∧Hid (l.length=m+1)∧Wfb 65536 l∧Bk wr g 3 (l.map I6)∧
   Hid (nb 65536 (l.take i)+65536^i*c=nb 65536 (ds.take i)+nb 65536 (es.take i))∧Ext w2 wr) (fun u v wr=>m-(intOf u).toNat)
  case atStart=>exact⟨0,0,_,bW _,bW _,rfl,rfl,List.length_replicate,pL _ (hb:=(by omega)),hbk,by simp [Hid,nb],hea⟩
  case round=>
   obtain⟨i,c,l,hi,hc,rfl,rfl,hll,hwl,hb,hv,hr⟩:=hrel
   clear hbk hea
   by_cases him:i<m
   ·obtain⟨o,ho,_,hco⟩:=hb.digit (by omega) hwl (i:=i) (by rw [hll.out];omega)
    have hfr:=hb.frozen i
    go_wp2_with fail
    refine (C4 (hr1'.ext hr) (by omega) (i:=(i:Int))).mono ?_
    rintro e w' ⟨x,hx,hxb,rfl,rfl⟩
    go_wp2_with fail
    refine (C4 (hr2.ext hr) (by omega) (i:=(i:Int))).mono ?_
    rintro e w' ⟨y,hy,hyb,rfl,rfl⟩
    rw [gV] at hx hy
    go_wp2_with fail
    go_roundw
    case rel=>
     have ec:((x:Int)+(y:Int)+(c:Int))%65536=(((x+y+c)%65536:Nat):Int):=by omega
     refine⟨i+1,(x+y+c)/65536,l.set i ((x+y+c)%65536),by omega,by omega,by go_num,fW,by show _=_;rw [List.length_set];exact hll.out,iX hwl i,?_,
      a1y (by rw [hll.out];omega) hv.out hx.out hy.out (jY _ _),hr.setCell hgc _⟩
     rw [←qP,ec];exact hb.set i _
    case measure=>simp [intOf];omega
   ·obtain rfl:i=m:=by omega
    obtain⟨o,ho,_,hco⟩:=hb.digit (by omega) hwl (i:=i) (by rw [hll.out];omega)
    have hfr:=hb.frozen i
    have hb2:=hb.set i (.int .i64 (c:Int))
    rw [qP] at hb2
    have hll2:Hid ((l.set i c).length=i+1):=by show _=_;rw [List.length_set];exact hll.out
    have hwl2:Wfb 65536 (l.set i c):=iX hwl i
    have hr3:Ri 65536 (wr.setCell ⟨g,i,none⟩ (.int .i64 (c:Int))) (some ⟨g,0,none⟩) (i+1) (i+1) (l.set i c):=by
     have:=hb2.ri hwl2 (o:=0) (n:=i+1) (cap:=i+1) (b8 _) (by rw [hll2.out];omega) (by rw [eY];omega)
     rwa [gU,List.take_of_length_le (by rw [hll2.out];omega)] at this
    have hval:Hid (nb 65536 (l.set i c)=nv xs+nv ys):=by
     show _=_
     have e1:(l.set i c).getD i 0=c:=by
      have:=hll.out
      simp [bC,this]
     have e2:(l.set i c).take i=l.take i:=by rw [List.take_set_of_le (b8 i)]
     have e3:=iL 65536 (l.set i c) i (by rw [hll2.out];omega)
     rw [e1,e2,List.take_of_length_le (by rw [hll2.out];omega),hv.out,List.take_of_length_le (by rw [hdl.out];omega),List.take_of_length_le (by rw [hel.out];omega)] at e3
     rw [e3,hvx.out,hvy.out]
    go_wp2_with fail
    refine (uZ hr3 (by omega)).mono ?_
    rintro e w3 ⟨A3,n3,c3,rfl,hn3,hr4,ho4,hx3⟩
    go_wp2_with fail
    go_ret
    rw [hval.out] at hn3 hr4 ho4
    exact⟨A3,n3,c3,rfl,hn3,hr4,ho4.mono (by have:=hx12.size;have:=hr.size;simp;omega),((hx12.trans hr).setCell hgs _).trans hx3⟩
theorem a0C {x:Nat}(hl:n<l.length)(h:nb 65536 (l.take n)+65536^n*q=x):nb 65536 ((l.set n (q%65536)).take (n+1))+65536^(n+1)*(q/65536)=x:=by
 rw [qM 65536 hl,cB,bH,j0,←cT,jY]
 exact h
theorem I7 {w:a6}(hx:Rd w A n cap xs)(hl:n≤274877906943):
  aO aF 188 #[.slice A n cap] w (EA w (nv xs)):=by
 have hlx:=Lib.hid hx.len
 have hmk:=lM (P:=aF) Tryz.underlying140 mX rfl (by decide) (4*(n:Int)) (by omega) (by omega)
 have et:(4*(n:Int)).toNat=4*n:=by omega
 rw [et] at hmk
 clear et
 go_enter Tryz.func188,Tryz.ntmps188
 go_wp2_with fail
 clear hmk
 obtain⟨g,hg⟩:∃g,w.heap.size=g:=⟨_,rfl⟩
 rw [hg]
 obtain⟨wa,hwa⟩:∃wa,w.alloc (.cells (zc (.int .i64 0) (4*n)) 3)=wa:=⟨_,rfl⟩
 rw [hwa]
 have hbk:Bk wa g 3 ((bP (4*n) 0).map I6):=by
  rw [←hwa,←hg,←uY];exact Bk.new' _ _ _
 have hea:Ext w wa:=by rw [←hwa];exact (Ext.refl w).alloc _
 have hgs:w.heap.size≤g:=by rw [hg];exact b8 _
 clear hg hwa
 go_loopw [4] (fun u wr=>∃(i:Nat) (l:List Nat),i≤n∧u= .int .i64 (i:Int)∧Bk wr g 3 (l.map I6)∧Wfb 65536 l∧Hid (l.length=4*n)∧Hid (nb 65536 (l.take (4*i))=nv (xs.take i))∧Ext w wr) (fun u wr=>n-(intOf u).toNat)
 case atStart=>exact⟨0,_,bW _,rfl,hbk,pL _ (hb:=(by omega)),List.length_replicate,rfl,hea⟩
 case round=>
  obtain⟨i,l,hi,rfl,hb,hw,hll,hv,hr⟩:=hrel
  clear hbk hea
  by_cases him:i<n
  ·obtain⟨a,x,rfl,hxk,hxb,hcx⟩:=(hx.ext hr).get (i:=i) (by omega)
   go_wp2_with fail
   obtain⟨wo,rfl⟩:∃wo:a6,wo=wr:=⟨_,rfl⟩
   go_loopw [6,5] (fun u y wr=>∃(k:Nat) (l:List Nat) (q:Nat),k≤4∧u= .int .i64 (k:Int)∧y= .int .u64 (q:Int)∧q≤18446744073709551615∧Bk wr g 3 (l.map I6)∧Wfb 65536 l∧
    Hid (l.length=4*n)∧Hid (nb 65536 (l.take (4*i+k))+65536^(4*i+k)*q=nv (xs.take (i+1)))∧Hid (q*65536^k<WB)∧Ext w wr) (fun u y wr=>4-(intOf u).toNat)
   case atStart=>
    refine⟨0,l,x,bW _,rfl,rfl,hxb,hb,hw,hll,?_,?_,hr⟩
    ·show _=_
     rw [show 4*i+0=4*i from rfl,hv.out,fB xs i (by rw [hlx.out];omega),hxk.out,sC,←Nat.pow_mul]
    ·show _<_
     rw [cF];omega
   case round=>
    obtain⟨k,l2,q,hk,rfl,rfl,hqb,hb2,hw2,hl2,hev,hq,hr2⟩:=hrel
    clear hb hw hll hv
    by_cases hk4:k<4
    ·obtain⟨o,ho,_,hco⟩:=hb2.digit (by omega) hw2 (i:=4*i+k) (by rw [hl2.out];omega)
     have hfr:=hb2.frozen (4*i+k)
     go_wp2_with fail
     go_roundw
     case rel=>
      refine⟨k+1,l2.set (4*i+k) (q%65536),q/65536,by omega,by go_num,by go_num,by omega,?_,iX hw2 _ (hx:=(eO q (by omega))),by show _=_;rw [List.length_set];exact hl2.out,a0C (n:=4*i+k) (by rw [hl2.out];omega) hev.out,?_,hr2.setCell hgs _⟩
      ·have e:((q:Int)%65536)=((q%65536:Nat):Int):=by omega
       rw [←qP,e];exact hb2.set _ _
      ·show _<_
       have h2:q/65536*65536≤q:=Nat.div_mul_le_self q 65536
       calc q/65536*65536^(k+1)=(q/65536*65536)*65536^k:=by rw [cB,bY (65536^k),bH]
        _≤q*65536^k:=eA _ h2
        _<WB:=hq.out
     case measure=>simp [intOf];omega
    ·obtain rfl:k=4:=by omega
     have hq0:q=0:=by
      have h:=hq.out
      rw [cF] at h
      omega
     go_wp2_with fail
     go_roundw
     case rel=>
      refine⟨i+1,l2,by omega,by go_num,hb2,hw2,hl2.out,?_,hr2⟩
      show _=_
      have h:=hev.out
      rw [hq0,iG,dN] at h
      exact h
     case measure=>simp [intOf];omega
  ·obtain rfl:i=n:=by omega
   have hval:Hid (nb 65536 l=nv xs):=by
    show _=_
    have h:=hv.out
    rwa [List.take_of_length_le (by rw [hll.out];omega),List.take_of_length_le (by rw [hlx.out];omega)] at h
   clear hv
   go_wp2_with fail
   go_loop [7] (fun u=>∃k:Nat,k≤4*i∧u= .int .i64 (k:Int)∧Hid (nb 65536 (l.take k)=nb 65536 l)) (fun u=>(intOf u).toNat)
   case atStart=>exact⟨4*i,b8 _,by go_num,(show _=_ by rw [List.take_of_length_le (by rw [hll.out];omega)])⟩
   case round=>
    obtain⟨k,hk,rfl,hv⟩:=hrel
    have fin:k=0∨l.getD (k-1) 0≠0→EA w (nv xs) (.returned (.slice (some ⟨g,0,none⟩) k (4*i))) wr:=by
     intro h
     have e:=zM fP (k:=k) hw (by rw [hll.out];exact hk) hv.out h
     rw [hval.out] at e
     have ho:Own wr w.heap.size 3 1 (some ⟨g,0,none⟩) k (4*i) ((db 65536 (nv xs)).map I6):=
      Own.mk_ hgs hb hk (by rw [eY];omega) (by rw [List.length_map,hll.out,cI]) (by rw [cI,←k5,e])
     refine⟨_,_,_,rfl,?_,⟨ho.rv,kY fP _⟩,ho,hr⟩
     show _=_
     rw [e,bJ,hll.out];omega
    have FIN:=Lib.hid fin
    clear fin
    by_cases h0:0<k
    ·obtain⟨x,hxk,hxb,hc⟩:=hb.digit (by omega) hw (i:=k-1) (by rw [hll.out];omega)
     by_cases hz:x=0
     ·subst hz
      go_wp2_with fail
      go_round
      case rel=>
       refine⟨k-1,by omega,fW,?_⟩
       show _=_
       rw [←hv.out,←yK 65536 l (k-1) (by rw [hll.out];omega) hxk.out,jP h0]
      case measure=>simp [intOf];omega
     ·have hzb:((x:Int)==0)=false:=by simp;omega
      go_wp2_with fail
      go_ret
      exact FIN.out (bR (by rw [hxk.out];exact hz))
    ·go_wp2_with fail
     go_ret
     exact FIN.out (cE (by omega))
theorem TQ {w:a6}(hx:Ri 65536 w A n cap ds)(hl:n≤1099511627775):
  aO aF 189 #[.slice A n cap] w (jW w (nb 65536 ds)):=by
 have hlx:=Lib.hid hx.len
 obtain⟨m,hm⟩:∃m,m=(n+3)/4:=⟨_,rfl⟩
 have hm1:n≤4*m:=by omega
 have hm2:4*m<n+4:=by omega
 have hmk:=lM (P:=aF) Tryz.underlying22 jE rfl (by decide) (((n:Int)+3)/4) (by omega) (by omega)
 have et:(((n:Int)+3)/4).toNat=m:=by omega
 rw [et] at hmk
 clear et hm
 go_enter Tryz.func189,Tryz.ntmps189
 go_wp2_with fail
 clear hmk
 obtain⟨g,hg⟩:∃g,w.heap.size=g:=⟨_,rfl⟩
 rw [hg]
 obtain⟨wa,hwa⟩:∃wa,w.alloc (.cells (zc (.int .u64 0) m) 65)=wa:=⟨_,rfl⟩
 rw [hwa]
 have hbk:Bk wa g 65 ((bP m 0).map aW):=by
  rw [←hwa,←hg,←kR];exact Bk.new' _ _ _
 have hea:Ext w wa:=by rw [←hwa];exact (Ext.refl w).alloc _
 have hgs:w.heap.size≤g:=by rw [hg];exact b8 _
 clear hg hwa
 go_loopw [4] (fun u wr=>∃(i:Nat) (l:List Nat),i≤n∧u= .int .i64 ((i:Int)-1)∧Bk wr g 65 (l.map aW)∧Hid (l.length=m)∧Hid (∀t,t<m→l.getD t 0=lK ds i t)∧Ext w wr) (fun u wr=>(intOf u+1).toNat)
 case atStart=>
  refine⟨n,_,b8 _,rfl,hbk,List.length_replicate,?_,hea⟩
  intro t ht
  have e1:(bP m 0).getD t 0=0:=by simp [bC,ht]
  unfold lK
  rw [e1,List.drop_eq_nil_of_le (by rw [hlx.out];omega)];simp [nb]
 case round=>
  obtain⟨i,l,hi,rfl,hb,hll,hv,hr⟩:=hrel
  clear hbk hea
  have hwl:Wf l:=by
   intro x hx'
   obtain⟨t,ht,rfl⟩:=uG hx'
   have:=hv.out t (by rw [←hll.out];exact ht)
   rw [bC,cJ ht,Option.getD_some] at this
   rw [this];exact ES hx.wf _ _
  by_cases h0:0<i
  ·obtain⟨j,rfl⟩:∃j,i=j+1:=⟨i-1,by omega⟩
   obtain⟨a,d,rfl,hdk,hdb,hcd⟩:=(hx.ext hr).get (by omega) (i:=j) (by omega)
   obtain⟨x,hxk,hxb,hcx⟩:=hb.word hwl (i:=j/4) (by rw [hll.out];omega)
   have hfr:=hb.frozen (j/4)
   have hval:Hid (d+65536*x=lK ds j (j/4)):=by
    show _=_
    rw [OP,hdk.out,←hv.out (j/4) (by omega),hxk.out]
   have hbd:d+65536*x≤18446744073709551615:=by
    rw [hval.out]
    have:=ES hx.wf j (j/4)
    rw [cF] at this;omega
   have hj:((j+1:Nat):Int)-1=(j:Int):=by omega
   rw [hj]
   clear hj h0
   have c1:(j:Int)/4<(m:Int):=by omega
   have c2:(0:Int)≤(j:Int)/4:=by omega
   go_wp2_with fail
   go_region
   go_wp2_with fail
   go_roundw
   case rel=>
    have ev:(x:Int)*65536+(d:Int)=((d+65536*x:Nat):Int):=by omega
    refine⟨j,l.set (j/4) (d+65536*x),by omega,fW,?_,by show _=_;rw [List.length_set];exact hll.out,?_,(hr.setCell hgs _).drew⟩
    ·rw [←eG,ev];exact (hb.set _ _).drew
    ·intro t ht
     by_cases htj:t=j/4
     ·subst htj
      rw [tK (by rw [hll.out];omega),hval.out]
     ·rw [getD_set_ne (fun e=>htj e.symm),hv.out t ht,OQ htj]
   case measure=>simp [intOf]
  ·obtain rfl:i=0:=by omega
   have hval:Hid (nv l=nb 65536 ds):=OR (fun t ht=>hv.out t (by rw [←hll.out];exact ht)) (by rw [hll.out,hlx.out];exact hm1) (by rw [hll.out,hlx.out];exact hm2)
   clear hv
   go_wp2_with fail
   go_loop [5] (fun u=>∃k:Nat,k≤m∧u= .int .i64 (k:Int)∧Hid (nv (l.take k)=nv l)) (fun u=>(intOf u).toNat)
   case atStart=>exact⟨m,b8 _,rfl,(show _=_ by rw [List.take_of_length_le (by rw [hll.out];omega)])⟩
   case round=>
    obtain⟨k,hk,rfl,hv⟩:=hrel
    have fin:k=0∨l.getD (k-1) 0≠0→jW w (nb 65536 ds) (.returned (.slice (some ⟨g,0,none⟩) k m)) wr:=by
     intro h
     have e:=uL (k:=k) hwl (by rw [hll.out];exact hk) hv.out h
     rw [←hval.out]
     exact tV (ys:=l) hgs hb hll.out hk (by rw [eY];omega) e.symm hr
    have FIN:=Lib.hid fin
    clear fin
    by_cases h0:0<k
    ·obtain⟨x,hxk,hxb,hc⟩:=hb.word hwl (i:=k-1) (by rw [hll.out];omega)
     by_cases hz:x=0
     ·subst hz
      go_wp2_with fail
      go_round
      case rel=>
       refine⟨k-1,by omega,fW,?_⟩
       show _=_
       rw [←hv.out,←rN l (k-1) (by rw [hll.out];omega) hxk.out,jP h0]
      case measure=>simp [intOf];omega
     ·have hzb:((x:Int)==0)=false:=by simp;omega
      go_wp2_with fail
      go_ret
      exact FIN.out (bR (by rw [hxk.out];exact hz))
    ·go_wp2_with fail
     go_ret
     exact FIN.out (cE (by omega))
theorem WV {o x y P s:Nat}(hk:k=i+j)(hkm:k<m)(hml:m≤l.length)(h:nb b (l.take m)+b^k*c=P+x*(b^i*nb b (ys.take j)))(ho:l.getD k 0=o)(hj:j<ys.length)(hy:ys.getD j 0=y)(hs:s+b*d=o+x*y+c):
  nb b ((l.set k s).take m)+b^(k+1)*d=P+x*(b^i*nb b (ys.take (j+1))):=by
 have e1:=vM b (l:=l.take m) (k:=k) (by rw [bJ];omega) s
 rw [yR hkm,ho] at e1
 rw [List.take_set,iL b ys j hj,hy,cT (b^i),cT x,←j0,←h,←bH (b^i),←bX,←hk,cB,bH (b^k)]
 have e2:b^k*(s+b*d)=b^k*(o+x*y+c):=by rw [hs]
 simp only [cT] at e2
 have e3:b^k*(x*y)=x*(b^k*y):=by rw [←bH,bY (b^k) x,bH]
 rw [e3] at e2
 omega
theorem WY {x y B:Nat}(hx:x≤B)(hy:y≤B):((x:Int)*(y:Int))≤((B*B:Nat):Int)∧0≤((x:Int)*(y:Int))∧((x:Int)*(y:Int))=((x*y:Nat):Int):=by
 have h:x*y≤B*B:=jQ hx hy
 rw [←kN]
 omega
theorem TS {w:a6}{B:Option aC}(hx:Rd w A n cap xs)(hl:n≤68719476735)(hy:Rd w B n' cap' ys)(hl':n'≤68719476735):
  aO aF 131 #[.slice A n cap,.slice B n' cap'] w (jW w (nv xs*nv ys)):=by
 go_enter Tryz.func131,Tryz.ntmps131
 go_wp2_with fail
 refine (I7 hx (by omega)).mono ?_
 rintro e w1 ⟨A1,p,c1,rfl,hp,hr1,_,hx1⟩
 have hbp:p≤274877906944:=by have:=pD hx.wf;rw [hp.out];rw [hx.len] at this;omega
 go_wp2_with fail
 refine (I7 (hy.ext hx1) (by omega)).mono ?_
 rintro e w2 ⟨A2,q,c2,rfl,hq,hr2,_,hx2⟩
 have hbq:q≤274877906944:=by have:=pD hy.wf;rw [hq.out];rw [hy.len] at this;omega
 have hr1':=hr1.ext hx2
 have hx12:=hx1.trans hx2
 clear hr1 hx1 hx2
 obtain⟨ds,hds⟩:∃ds,ds=db 65536 (nv xs):=⟨_,rfl⟩
 obtain⟨es,hes⟩:∃es,es=db 65536 (nv ys):=⟨_,rfl⟩
 have hvx:=Lib.hid (show nb 65536 ds=nv xs by rw [hds,iB fP])
 have hvy:=Lib.hid (show nb 65536 es=nv ys by rw [hes,iB fP])
 have hdl:=Lib.hid hr1'.len
 have hel:=Lib.hid hr2.len
 rw [←hds] at hr1' hdl
 rw [←hes] at hr2 hel
 clear hds hes hp hq hx hy
 have hmk:=lM (P:=aF) Tryz.underlying140 mX rfl (by decide) ((p:Int)+(q:Int)) (by omega) (by omega)
 have et:((p:Int)+(q:Int)).toNat=p+q:=by omega
 rw [et] at hmk
 clear et
 go_wp2_with fail
 clear hmk
 obtain⟨g,hg⟩:∃g,w2.heap.size=g:=⟨_,rfl⟩
 rw [hg]
 obtain⟨wa,hwa⟩:∃wa,w2.alloc (.cells (zc (.int .i64 0) (p+q)) 3)=wa:=⟨_,rfl⟩
 rw [hwa]
 have hbk:Bk wa g 3 ((bP (p+q) 0).map I6):=by
  rw [←hwa,←hg,←uY];exact Bk.new' _ _ _
 have hea:Ext w2 wa:=by rw [←hwa];exact (Ext.refl w2).alloc _
 have hgs:w.heap.size≤g:=by rw [←hg];exact hx12.size
 have hgc:w2.heap.size≤g:=by rw [hg];exact b8 _
 clear hg hwa
 go_loopw [8] (fun u wr=>∃(i:Nat) (l:List Nat),i≤p∧u= .int .i64 (i:Int)∧Hid (l.length=p+q)∧Wfb 65536 l∧Bk wr g 3 (l.map I6)∧
  Hid (nb 65536 (l.take (i+q))=nb 65536 (ds.take i)*nb 65536 es)∧Ext w2 wr) (fun u wr=>p-(intOf u).toNat)
 case atStart=>
  refine⟨0,_,bW _,rfl,List.length_replicate,pL _ (hb:=(by omega)),hbk,?_,hea⟩
  show _=_
  rw [List.take_replicate,vK];simp [nb]
 case round=>
  obtain⟨i,l,hi,rfl,hll,hwl,hb,hv,hr⟩:=hrel
  clear hbk hea
  by_cases hip:i<p
  ·obtain⟨a,x,rfl,hxk,hxb,hcx⟩:=(hr1'.ext hr).get (by omega) (i:=i) (by omega)
   go_wp2_with fail
   obtain⟨wo,rfl⟩:∃wo:a6,wo=wr:=⟨_,rfl⟩
   go_loopw [10,9] (fun u v wr=>∃(j c:Nat) (l:List Nat),j≤q∧c≤65535∧u= .int .i64 (j:Int)∧v= .int .i64 (c:Int)∧Hid (l.length=p+q)∧Wfb 65536 l∧Bk wr g 3 (l.map I6)∧
    Hid (nb 65536 (l.take (i+q))+65536^(i+j)*c=nb 65536 (ds.take i)*nb 65536 es+x*(65536^i*nb 65536 (es.take j)))∧Ext w2 wr) (fun u v wr=>q-(intOf u).toNat)
   case atStart=>exact⟨0,0,l,bW _,bW _,rfl,rfl,hll.out,hwl,hb,(show _=_ by rw [hv.out];simp [nb]),hr⟩
   case round=>
    obtain⟨j,c,l2,hj,hc,rfl,rfl,hl2,hw2,hb2,hv2,hr2'⟩:=hrel
    clear hll hwl hb hv
    by_cases hjq:j<q
    ·have hcx2:=(hr1'.ext hr2').get (by omega) (i:=i) (by omega)
     obtain⟨a',x',ha',hxk',_,hcx'⟩:=hcx2
     cases ha'
     obtain rfl:x'=x:=by rw [←hxk'.out,hxk.out]
     obtain⟨b,y,rfl,hyk,hyb,hcy⟩:=(hr2.ext hr2').get (by omega) (i:=j) (by omega)
     obtain⟨o,hok,aK,hco⟩:=hb2.digit (by omega) hw2 (i:=i+j) (by rw [hl2.out];omega)
     have hfr:=hb2.frozen (i+j)
     obtain⟨m1,m2,m3⟩:=WY (B:=65535) (x:=x') (y:=y) (by omega) (by omega)
     have M3:=Lib.hid m3
     clear m3 hcx hxk'
     have m1':(x':Int)*(y:Int)≤4294836225:=by simpa using m1
     clear m1
     go_wp2_with fail
     go_quiet (fail)
     go_wp2_with fail
     go_roundw
     case rel=>
      have hs:o+x'*y+c≤4294967295:=by
       have h:=M3.out
       have:x'*y≤4294836225:=by omega
       omega
      have ev:((o:Int)+(x':Int)*(y:Int)+(c:Int))=((o+x'*y+c:Nat):Int):=by rw [M3.out];omega
      refine⟨j+1,(o+x'*y+c)/65536,l2.set (i+j) ((o+x'*y+c)%65536),by omega,by omega,by go_num,by rw [ev];exact fW,by show _=_;rw [List.length_set];exact hl2.out,iX hw2 _ (hx:=(eO _ (by omega))),?_,
       WV (k:=i+j) (m:=i+q) rfl (by omega) (by rw [hl2.out];omega) hv2.out hok.out (by rw [hel.out];omega) hyk.out (jY _ _),(by first | exact (hr2'.drewN _).setCell hgc _ | exact (hr2'.setCell hgc _).drewN _)⟩
      have ev2:((o:Int)+(x':Int)*(y:Int)+(c:Int))%65536=(((o+x'*y+c)%65536:Nat):Int):=by rw [ev];omega
      rw [←qP,←ev2];exact (hb2.drewN _).set _ _
     case measure=>simp [intOf];omega
    ·obtain rfl:j=q:=by omega
     obtain⟨o,hok,aK,hco⟩:=hb2.digit (by omega) hw2 (i:=i+j) (by rw [hl2.out];omega)
     have hfr:=hb2.frozen (i+j)
     go_wp2_with fail
     go_roundw
     case rel=>
      refine⟨i+1,l2.set (i+j) c,by omega,by go_num,by show _=_;rw [List.length_set];exact hl2.out,iX hw2 _,by rw [←qP];exact hb2.set _ _,?_,hr2'.setCell hgc _⟩
      show _=_
      rw [show i+1+j=i+j+1 from by omega,qM 65536 (by rw [hl2.out];omega),hv2.out,List.take_of_length_le (l:=es) (i:=j) (by rw [hel.out];omega),iL 65536 ds i (by rw [hdl.out];omega),hxk.out,dX,←bH,bY x]
     case measure=>simp [intOf];omega
  ·obtain rfl:i=p:=by omega
   have hr3:Ri 65536 wr (some ⟨g,0,none⟩) (i+q) (i+q) l:=by
    have:=hb.ri hwl (o:=0) (n:=i+q) (cap:=i+q) (b8 _) (by rw [hll.out];omega) (by rw [eY];omega)
    rwa [gU,List.take_of_length_le (by rw [hll.out];omega)] at this
   have hval:Hid (nb 65536 l=nv xs*nv ys):=by
    show _=_
    have h:=hv.out
    rwa [List.take_of_length_le (by rw [hll.out];omega),List.take_of_length_le (by rw [hdl.out];omega),hvx.out,hvy.out] at h
   go_wp2_with fail
   refine (TQ hr3 (by omega)).mono ?_
   rintro e w3 ⟨A3,n3,c3,rfl,hn3,hr4,ho4,hx3⟩
   go_wp2_with fail
   go_ret
   rw [hval.out] at hn3 hr4 ho4
   exact⟨A3,n3,c3,rfl,hn3,hr4,ho4.mono (hx12.trans hr).size,(hx12.trans hr).trans hx3⟩
end
end Go.Proofs.YtkepckmdjncehaaGreatDoor
