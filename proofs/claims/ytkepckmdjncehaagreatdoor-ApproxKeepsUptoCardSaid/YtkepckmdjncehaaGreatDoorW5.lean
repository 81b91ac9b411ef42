/- Parts R7p, Atm, Atx, Law5s, Atr, Apt, Atq, R7t, R7u, R7v, Ref4r, joined. -/
import Derived.Test.YtkepckmdjncehaaGreatDoorW4

open Go renaming Addr → aC, Calls → aO, Operand → cS, Program → cD, TypeId → aT, Value → aH, World → a6, run_underlying → kZ
open Int renaming toNat_natCast → gV
open List renaming getD_eq_getElem?_getD → bC, getElem?_eq_getElem → cJ, length_append → cL, length_drop → cV, length_take → bJ, map_cons → iN, map_nil → j7, mem_append → nI, mem_of_mem_drop → gK, mem_of_mem_take → l5, mem_singleton → jI
open Nat renaming add_mul → dX, add_sub_cancel → kI, add_zero → dN, div_add_mod → iA, div_le_self → fI, div_lt_self → jZ, le_refl → b8, le_trans → aG, mod_lt → eO, mul_add_div → nH, mul_assoc → bH, mul_comm → bY, mul_one → cI, mul_pos → fS, mul_right_comm → kH, pow_add → bX, pow_pos → eP, pow_succ → cB, succ_mul → lZ, two_pow_pos → dW, zero_add → f9, zero_le → bW
open Go.Next renaming value → fZ
open Option.some renaming injEq → fL
open Or renaming inl → cE, inr → bR
open Go.Sem renaming run_bind → cK
open Go.Proofs.Tryz renaming prog → aF
open Go.Value renaming int → bV
namespace Go.Proofs.YtkepckmdjncehaaGreatDoor
variable {A Aa B:Option aC}{D M P X Y a b base bh c c' cap cap' d f g i i0 i1 i2 j k lb m n n' u v:Nat}{af:Array Edge}{bs ds fs l pw r xs:List Nat}{dn ng s sa t:Bool}{dst:Option Tmp}{gd:Option (Nat×Bool)}{ops:Array Oper}{pos:String}{rest:List Oper}{ty:aT}{x y z:Int}
open Go.RowKit
theorem xM (s:Bool):dV s 0=0:=by unfold dV;rw [if_neg (by simp)]
theorem VV {w:a6}(hx:Zi w s A n cap x):dV s (cU (x.natAbs*2^bM) 1)=mU x:=by
 unfold mU
 by_cases h:x=0
 ·subst h;rw [show (0:Int).natAbs=0 from rfl,yJ (by decide),xM,xM]
 ·have hs:s=decide (x<0):=by
   obtain⟨xs,_,h2⟩:=hx
   unfold sg at h2
   cases s with
   | true=>rw [if_pos rfl] at h2;exact (decide_eq_true (by omega)).symm
   | false=>rw [if_neg Bool.false_ne_true] at h2;exact (decide_eq_false (by omega)).symm
  rw [hs]
theorem nM {w:a6}(hx:Zi w s A n cap x)(h:x≠0):s=decide (x<0):=by
 obtain⟨xs,_,h2⟩:=hx
 unfold sg at h2
 cases s with
 | true=>rw [if_pos rfl] at h2;exact (decide_eq_true (by omega)).symm
 | false=>rw [if_neg Bool.false_ne_true] at h2;exact (decide_eq_false (by omega)).symm
theorem yB {w w2:a6}(hx:Zi w s A n cap x)(hy:Zi w2 t B m cap' y)(h0:y≠0):dV (s != t) (cU (x.natAbs*2^bM) y.natAbs)=vA x y:=by
 unfold vA
 by_cases h:x=0
 ·subst h;rw [show (0:Int).natAbs=0 from rfl,yJ (by omega),xM,xM]
 ·have e:(s != t)=decide (x*y<0):=by
   rw [nM hx h,nM hy h0]
   by_cases h1:x<0 <;> by_cases h2:y<0
   ·have:=Int.mul_pos_of_neg_of_neg h1 h2
    rw [decide_eq_true h1,decide_eq_true h2,decide_eq_false (by omega)];rfl
   ·have:=Int.mul_neg_of_neg_of_pos h1 (show 0<y by omega)
    rw [decide_eq_true h1,decide_eq_false h2,decide_eq_true this];rfl
   ·have:=Int.mul_neg_of_pos_of_neg (show 0<x by omega) h2
    rw [decide_eq_false h1,decide_eq_true h2,decide_eq_true this];rfl
   ·have:=Int.mul_pos (show 0<x by omega) (show 0<y by omega)
    rw [decide_eq_false h1,decide_eq_false h2,decide_eq_false (by omega)];rfl
  rw [e]
theorem rF (h:a=b):bV .u64 ((a:Nat):Int)= .int .u64 b:=by rw [h]
set_option maxHeartbeats 4000000 in
theorem US {w:a6}(hx:Zi w s A n cap x)(la:n≤2000000):
    aO aF 167 #[.agg #[.bool s,.slice A n cap]] w (Gv w (Is (.int .u64 ((mU x:Nat):Int)))):=by
 have Lx:ln x≤2000000:=aG hx.ln la
 refine bK Tryz.func167 rfl (n:=9) rfl (bq rfl) (args:= [.agg #[.bool s,.slice A n cap]]) (bE [(0,.agg #[.bool s,.slice A n cap])] ⟨rfl,trivial⟩ (sr (bx [.bool s,.slice A n cap] (Ext.refl w) rfl rfl rfl fun g1 v2 hb4 ge5 e3 hw1=>(mv 1 rfl (a0 (sr (pf g1 1 rfl (aS rfl rfl (aY eM hb4 rfl) (dQ rfl rfl (k:=1) (e:=65) [.int .u64 1] (fun _=>by kernel_rfl) fun g6 v7 nb8=>?_)))))))))
 have o9:=O1.mk_ (x:=1) (b:=w.heap.size) nb8 hw1.size
 have e10:=nb8.ext
 have hw2:=hw1.trans e10
 have o12:=iK o9 (show 1≤18446744073709551615 by decide) (show 1≠0 by decide)
 have j11:=hZ (show 1≤18446744073709551615 by decide) (show 1≠0 by decide)
 refine pf g1 0 rfl (aS rfl rfl (aY eK (hb4.ext e10) rfl) (cl (vs:= [.slice A n cap,.slice (some ⟨g6,0,none⟩) 1 1,.bool s]) hw2 (tE (ng:=s) (hx.ext hw2).wi (bQ la rfl) o12.wi (by rw [j11];exact aG (Nat.le_of_eq j11.symm) (by decide)) (hD0:=(by decide))) rfl (by kernel_rfl) fun xr15 v13 r15 e14 hw3=>?_))
 obtain rfl:=r15
 refine mv 1 rfl (a0 (aM (aL [.int .u64 ((dV s (cU (Int.natAbs x*2^bM) 1):Nat):Int)] rfl ⟨rfl,trivial⟩ ?_)))
 exact⟨_,rfl,rF (VV hx),hw3⟩
set_option maxHeartbeats 4000000 in
theorem UR {w:a6}(hx:Zi w s A n cap x)(la:n≤2000000)(hy:Zi w t B m cap' y)(lb:m≤2000000)(h0:y≠0):
    aO aF 168 #[.agg #[.bool s,.slice A n cap],.agg #[.bool t,.slice B m cap']] w (Gv w (T2 (Is (.int .u64 ((vA x y:Nat):Int))) (Is (.int .i64 0)))):=by
 have Lx:ln x≤2000000:=aG hx.ln la
 have Ly:ln y≤2000000:=aG hy.ln lb
 have hyb:bA y.natAbs≠0:=fun e=>by have:=kD.1 e;omega
 refine bK Tryz.func168 rfl (n:=20) rfl (bq rfl) (args:= [.agg #[.bool s,.slice A n cap],.agg #[.bool t,.slice B m cap']]) (bE [(0,.agg #[.bool s,.slice A n cap]),(1,.agg #[.bool t,.slice B m cap'])] ⟨rfl,rfl,trivial⟩ (sr (bx [.bool s,.slice A n cap] (Ext.refl w) rfl rfl rfl fun g1 v2 hb4 ge5 e3 hw1=>(pI [.bool t,.slice B m cap'] hw1 hb4.lt rfl rfl rfl fun g6 v7 hb9 ge10 q11 e8 hw2=>(mv 2 rfl (a0 (aA (sr (pf g6 1 rfl (aS rfl rfl (aY eM hb9 rfl) (cl (vs:= [.slice B m cap']) hw2 (tM (hy.ext hw2).wi (bQ lb rfl)) rfl (by kernel_rfl) fun xr14 v12 r14 e13 hw3=>?_)))))))))))
 obtain rfl:=r14
 refine aB rfl rfl rfl false (dC (a:=bA y.natAbs) (b:=0) rfl rfl) (a0 (aI rfl (aN (aD (aA ?_)))))
 cases s
 · 
  cases t
  · 
   refine a7 (pf g1 1 rfl (aS rfl rfl (aY eM (hb4.ext (e8.trans e13)) rfl) (pf g6 1 rfl (aS rfl rfl (aY eM (hb9.ext e13) rfl) (pf g1 0 rfl (aS rfl rfl (aY eK (hb4.ext (e8.trans e13)) rfl) (pf g6 0 rfl (aS rfl rfl (aY eK (hb9.ext e13) rfl) (pu (v:= .bool false) rfl (cl (vs:= [.slice A n cap,.slice B m cap',F0]) hw3 (tE (ng:=false) (hx.ext hw3).wi (bQ la rfl) (hy.ext hw3).wi (bQ lb rfl)) rfl (by kernel_rfl) fun xr17 v15 r17 e16 hw4=>?_))))))))))
   obtain rfl:=r17
   refine mv 2 rfl (a0 (aM (aL [.int .u64 ((dV false (cU (Int.natAbs x*2^bM) (Int.natAbs y)):Nat):Int),I0] rfl ⟨rfl,rfl,trivial⟩ ?_)))
   exact⟨_,rfl,⟨_,_,rfl,rF (yB hx hy h0),rfl⟩,hw4⟩
  · 
   refine a7 (pf g1 1 rfl (aS rfl rfl (aY eM (hb4.ext (e8.trans e13)) rfl) (pf g6 1 rfl (aS rfl rfl (aY eM (hb9.ext e13) rfl) (pf g1 0 rfl (aS rfl rfl (aY eK (hb4.ext (e8.trans e13)) rfl) (pf g6 0 rfl (aS rfl rfl (aY eK (hb9.ext e13) rfl) (pu (v:= .bool true) rfl (cl (vs:= [.slice A n cap,.slice B m cap',.bool true]) hw3 (tE (ng:=true) (hx.ext hw3).wi (bQ la rfl) (hy.ext hw3).wi (bQ lb rfl)) rfl (by kernel_rfl) fun xr20 v18 r20 e19 hw4=>?_))))))))))
   obtain rfl:=r20
   refine mv 2 rfl (a0 (aM (aL [.int .u64 ((dV true (cU (Int.natAbs x*2^bM) (Int.natAbs y)):Nat):Int),I0] rfl ⟨rfl,rfl,trivial⟩ ?_)))
   exact⟨_,rfl,⟨_,_,rfl,rF (yB hx hy h0),rfl⟩,hw4⟩
 · 
  cases t
  · 
   refine a7 (pf g1 1 rfl (aS rfl rfl (aY eM (hb4.ext (e8.trans e13)) rfl) (pf g6 1 rfl (aS rfl rfl (aY eM (hb9.ext e13) rfl) (pf g1 0 rfl (aS rfl rfl (aY eK (hb4.ext (e8.trans e13)) rfl) (pf g6 0 rfl (aS rfl rfl (aY eK (hb9.ext e13) rfl) (pu (v:= .bool true) rfl (cl (vs:= [.slice A n cap,.slice B m cap',.bool true]) hw3 (tE (ng:=true) (hx.ext hw3).wi (bQ la rfl) (hy.ext hw3).wi (bQ lb rfl)) rfl (by kernel_rfl) fun xr23 v21 r23 e22 hw4=>?_))))))))))
   obtain rfl:=r23
   refine mv 2 rfl (a0 (aM (aL [.int .u64 ((dV true (cU (Int.natAbs x*2^bM) (Int.natAbs y)):Nat):Int),I0] rfl ⟨rfl,rfl,trivial⟩ ?_)))
   exact⟨_,rfl,⟨_,_,rfl,rF (yB hx hy h0),rfl⟩,hw4⟩
  · 
   refine a7 (pf g1 1 rfl (aS rfl rfl (aY eM (hb4.ext (e8.trans e13)) rfl) (pf g6 1 rfl (aS rfl rfl (aY eM (hb9.ext e13) rfl) (pf g1 0 rfl (aS rfl rfl (aY eK (hb4.ext (e8.trans e13)) rfl) (pf g6 0 rfl (aS rfl rfl (aY eK (hb9.ext e13) rfl) (pu (v:= .bool false) rfl (cl (vs:= [.slice A n cap,.slice B m cap',F0]) hw3 (tE (ng:=false) (hx.ext hw3).wi (bQ la rfl) (hy.ext hw3).wi (bQ lb rfl)) rfl (by kernel_rfl) fun xr26 v24 r26 e25 hw4=>?_))))))))))
   obtain rfl:=r26
   refine mv 2 rfl (a0 (aM (aL [.int .u64 ((dV false (cU (Int.natAbs x*2^bM) (Int.natAbs y)):Nat):Int),I0] rfl ⟨rfl,rfl,trivial⟩ ?_)))
   exact⟨_,rfl,⟨_,_,rfl,rF (yB hx hy h0),rfl⟩,hw4⟩
set_option maxHeartbeats 4000000 in
theorem UQ {w:a6}(hx:Zi w s A n cap x)(la:n≤2000000)(hy:Zi w t B m cap' y)(lb:m≤2000000)(h0:y=0):
    aO aF 168 #[.agg #[.bool s,.slice A n cap],.agg #[.bool t,.slice B m cap']] w (Gv w (T2 (Is (.int .u64 0)) (Is (.int .i64 4)))):=by
 have Lx:ln x≤2000000:=aG hx.ln la
 have Ly:ln y≤2000000:=aG hy.ln lb
 have hyb:bA y.natAbs=0:=by rw [h0];exact kV
 refine bK Tryz.func168 rfl (n:=20) rfl (bq rfl) (args:= [.agg #[.bool s,.slice A n cap],.agg #[.bool t,.slice B m cap']]) (bE [(0,.agg #[.bool s,.slice A n cap]),(1,.agg #[.bool t,.slice B m cap'])] ⟨rfl,rfl,trivial⟩ (sr (bx [.bool s,.slice A n cap] (Ext.refl w) rfl rfl rfl fun g1 v2 hb4 ge5 e3 hw1=>(pI [.bool t,.slice B m cap'] hw1 hb4.lt rfl rfl rfl fun g6 v7 hb9 ge10 q11 e8 hw2=>(mv 2 rfl (a0 (aA (sr (pf g6 1 rfl (aS rfl rfl (aY eM hb9 rfl) (cl (vs:= [.slice B m cap']) hw2 (tM (hy.ext hw2).wi (bQ lb rfl)) rfl (by kernel_rfl) fun xr14 v12 r14 e13 hw3=>?_)))))))))))
 obtain rfl:=r14
 refine aB rfl rfl rfl true (dA (a:=bA y.natAbs) (b:=0) rfl rfl) (a0 (aP rfl (sr (mv 2 rfl (a0 (aM (bL (aL [.int .u64 0,.int .i64 4] rfl ⟨rfl,rfl,trivial⟩ ?_))))))))
 exact⟨_,rfl,⟨_,_,rfl,rfl,rfl⟩,hw3⟩
theorem EO {w:a6}(h0:X=0)(hn:n=(wd X).length)(ho:Own w b 65 1 A n c ((wd X).map aW)):Zr w b false A n c (sg s X):=by
 subst h0
 rw [mP]
 exact⟨rfl,hn,ho⟩
theorem B3 {w:a6}:Zr w b false none 0 0 0:=⟨rfl,rfl,Own.nil _ _ _ _⟩
theorem m7 (hb:f<18446744073709551616){l:Bool}(h:l=decide (9223372036854775808≤f)):cY f=l:=by
 unfold cY
 rw [h]
 by_cases h1:9223372036854775808≤f
 ·rw [decide_eq_true h1,decide_eq_true (by omega)]
 ·rw [decide_eq_false h1,decide_eq_false (by omega)]
set_option maxHeartbeats 4000000 in
theorem UF {w:a6}(hX:Wi w A n c X)(hXn:n≤2000000):
    aO aF 116 #[.bool ng,.slice A n c] w (Gv w (ZR w.heap.size (sg ng X))):=by
 have hXl:(wd X).length≤2000000:=aG hX.len hXn
 refine bK Tryz.func116 rfl (n:=15) rfl (bq rfl) (args:= [.bool ng,.slice A n c]) (bE [(0,.bool ng),(1,.slice A n c)] ⟨rfl,rfl,trivial⟩ (sr (al [F0,S0] (Ext.refl w) (fun _=>by kernel_rfl) rfl fun g1 v2 hb4 ge5 e3 hw1=>(a0 (sr (mv 1 rfl (cl (vs:= [.slice A n c]) hw1 (YS hw1.size (hX.ext hw1) (bQ hXn rfl)) rfl (by kernel_rfl) fun xr8 v6 r8 e7 hw2=>?_)))))))
 obtain⟨A9,n9,c9,rfl,j9,o9⟩:=r8
 refine mv 1 rfl (a0 (aA ?_))
 by_cases hX0:X=0
 · 
  have hln:n9=0:=by rw [j9];exact jN.2 hX0
  cases ng
  · 
   refine a7 (mv 5 rfl (pu (v:= .bool false) rfl (mv 1 rfl (pu (v:= .agg #[F0,.slice A9 n9 c9]) rfl ?_))))
   have hb11:=(hb4.ext e7)
   refine so bO hb11 [F0,.slice A9 n9 c9] hw2 ge5 rfl rfl rfl rfl fun v10 hb12 u13 hw3=>(a0 (aM (aL [.agg #[F0,.slice A9 n9 c9]] rfl ⟨⟨_,rfl,gB bO hb12 [F0,.slice A9 n9 c9] rfl (bq rfl) rfl⟩,trivial⟩ ?_)))
   exact⟨_,rfl,⟨_,_,_,_,rfl,EO hX0 j9 (o9.updT hb11 (by decide) u13)⟩,hw3⟩
  · 
   refine a7 (mv 3 rfl (pu (v:= .int .i64 n9) rfl (aB rfl rfl rfl false (d6 (a:=n9) (b:=0) rfl rfl) (pu (v:= .bool false) rfl (mv 1 rfl (pu (v:= .agg #[F0,.slice A9 n9 c9]) rfl ?_))))))
   have hb16:=(hb4.ext e7)
   refine so bO hb16 [F0,.slice A9 n9 c9] hw2 ge5 rfl rfl rfl rfl fun v15 hb17 u18 hw3=>(a0 (aM (aL [.agg #[F0,.slice A9 n9 c9]] rfl ⟨⟨_,rfl,gB bO hb17 [F0,.slice A9 n9 c9] rfl (bq rfl) rfl⟩,trivial⟩ ?_)))
   exact⟨_,rfl,⟨_,_,_,_,rfl,EO hX0 j9 (o9.updT hb16 (by decide) u18)⟩,hw3⟩
 · 
  have hln:n9≠0:=by rw [j9];exact fun e=>hX0 (jN.1 e)
  cases ng
  · 
   refine a7 (mv 5 rfl (pu (v:= .bool false) rfl (mv 1 rfl ?_)))
   have z20:=AA false hX0 j9 o9
   refine pu (v:= .agg #[F0,.slice A9 n9 c9]) rfl ?_
   have hb22:=(hb4.ext e7)
   refine so bO hb22 [F0,.slice A9 n9 c9] hw2 ge5 rfl rfl rfl rfl fun v21 hb23 u24 hw3=>(a0 (aM (aL [.agg #[F0,.slice A9 n9 c9]] rfl ⟨⟨_,rfl,gB bO hb23 [F0,.slice A9 n9 c9] rfl (bq rfl) rfl⟩,trivial⟩ ?_)))
   exact⟨_,rfl,⟨_,_,_,_,rfl,(z20.updT hb22 u24)⟩,hw3⟩
  · 
   refine a7 (mv 3 rfl (pu (v:= .int .i64 n9) rfl (aB rfl rfl rfl true (dJ (a:=n9) (b:=0) rfl rfl) (pu (v:= .bool true) rfl (mv 1 rfl ?_)))))
   have z26:=AA true hX0 j9 o9
   refine pu (v:= .agg #[.bool true,.slice A9 n9 c9]) rfl ?_
   have hb28:=(hb4.ext e7)
   refine so bO hb28 [.bool true,.slice A9 n9 c9] hw2 ge5 rfl rfl rfl rfl fun v27 hb29 u30 hw3=>(a0 (aM (aL [.agg #[.bool true,.slice A9 n9 c9]] rfl ⟨⟨_,rfl,gB bO hb29 [.bool true,.slice A9 n9 c9] rfl (bq rfl) rfl⟩,trivial⟩ ?_)))
   exact⟨_,rfl,⟨_,_,_,_,rfl,(z26.updT hb28 u30)⟩,hw3⟩
theorem qH {w:a6}(hb:b≤w.heap.size)(hz:sg ng X=z)(hX:Wi w A n c X)(hXn:n≤2000000):aO aF 116 #[.bool ng,.slice A n c] w (Gv w (ZR b z)):=by subst hz;exact (UF hX hXn).mono (Gv.imp (ZR.imp hb))
theorem FA (hk:((pe f:Nat):Int)+ -1074=(k:Int)):sg (cY f) (pm f*2^k)=iV f:=by
 unfold iV
 rw [lA,show pe f=k+bM by have:=i6;omega,bX,←bH,Nat.mul_div_cancel _ (dW _)]
theorem FB (hk:((pe f:Nat):Int)+ -1074= -(k:Int)):sg (cY f) (pm f/2^k)=iV f:=by
 unfold iV
 rw [lA,show bM=k+pe f by have:=i6;omega,bX,Nat.mul_div_mul_right _ _ (dW _)]
theorem XF (hf:fin f):ln (iV f)≤34:=by
 have h1:(iV f).natAbs≤(fv f).natAbs:=by
  unfold iV fv
  rw [p8,p8]
  exact fI _ _
 exact aG (XI h1) (tI (n:=1) (k:=0) (by rw [Nat.one_mul];exact zD hf) (hn:=(by decide)))
theorem tF (f:Nat):(wd (pm f)).length≤1:=fY (by have:=jD f;rw [cF,Nat.pow_one];omega)
set_option maxHeartbeats 4000000 in
theorem UH {w:a6}(hb:f<18446744073709551616)(hf:fin f):
    aO aF 32 #[.int .u64 f] w (Gv w (T2 (ZR w.heap.size (iV f)) (Is (.int .i64 0)))):=by
 refine bK Tryz.func32 rfl (n:=34) rfl (bq rfl) (args:= [.int .u64 f]) (bE [(0,.int .u64 f)] ⟨rfl,trivial⟩ (sr (al [F0,S0] (Ext.refl w) (fun _=>by kernel_rfl) rfl fun g1 v2 hb4 ge5 e3 hw1=>(mv 1 rfl (a0 (aA (sr (mv 1 rfl (cl (vs:= [.int .u64 f]) hw1 (vC hb hf) rfl (by kernel_rfl) fun xr8 v6 r8 e7 hw2=>?_)))))))))
 obtain rfl:=r8
 refine pu (v:= .bool false) rfl (a0 (aI rfl (aN (aD (sr (mv 1 rfl (cl (vs:= [.int .u64 f]) hw2 (vB hb) rfl (by kernel_rfl) fun xr11 v9 r11 e10 hw3=>?_)))))))
 obtain⟨_,_,rfl,rfl,rfl⟩:=r11
 refine mv 1 rfl (pu (v:= .int .u64 ((pm f:Nat):Int)) rfl (pu (v:= .int .i64 (((pe f:Nat):Int)+ -1074)) rfl (mv 2 rfl (a0 (sr (mv 1 rfl (dQ rfl rfl (k:=1) (e:=65) [.int .u64 ((pm f:Nat):Int)] (fun _=>by kernel_rfl) fun g13 v14 nb15=>?_)))))))
 have o16:=O1.mk_ (x:=pm f) (b:=w.heap.size) nb15 hw3.size
 have e17:=nb15.ext
 have hw4:=hw3.trans e17
 refine mv 1 rfl (a0 (aA (aA ?_)))
 have hpeb:=qI hf
 by_cases hsp:0≤((pe f:Nat):Int)+ -1074
 · 
  obtain⟨k,hk⟩:∃k:Nat,((pe f:Nat):Int)+ -1074=(k:Int):=⟨(((pe f:Nat):Int)+ -1074).toNat,by omega⟩
  rw [hk]
  refine a7 (mv 1 rfl (aB rfl rfl rfl true (eI (a:=k) (b:=0) rfl rfl) (a0 (aP rfl (a7 (mv 2 rfl ?_))))))
  have hLk:(wd (pm f*2^k)).length≤66:=pE (tF f)
  refine cl (vs:= [.slice (some ⟨g13,0,none⟩) 1 1,.int .i64 k]) hw4 (oU (k:=k) hw4.size (gL o16 (show pm f≤18446744073709551615 by have:=jD f;omega)) (by decide)) rfl (by kernel_rfl) fun xr22 v20 r22 e21 hw5=>?_
  obtain⟨A23,n23,c23,rfl,j23,o23⟩:=r22
  refine mv 1 rfl (a0 (aA ?_))
  by_cases h63:9223372036854775808≤f
  · 
   have hsg:cY f=true:=m7 hb (decide_eq_true h63).symm
   refine a7 (mv 1 rfl (aB rfl rfl rfl true (eI (a:=f) (b:=9223372036854775808) rfl rfl) (mv 1 rfl ?_)))
   have hz:sg true (pm f*2^k)=iV f:=by rw [←hsg];exact FA hk
   refine cl (vs:= [.bool true,.slice A23 n23 c23]) hw5 (qH hw5.size hz o23.wi (by rw [j23];exact aG hLk (by decide))) rfl (by kernel_rfl) fun xr26 v24 r26 e25 hw6=>?_
   obtain⟨s27,A27,n27,c27,rfl,z27⟩:=r26
   have hb29:=(hb4.ext (e7.trans (e10.trans (e17.trans (e21.trans e25)))))
   refine so bO hb29 [.bool s27,.slice A27 n27 c27] hw6 ge5 rfl rfl rfl rfl fun v28 hb30 u31 hw7=>(mv 1 rfl (a0 (aM (aL [.agg #[.bool s27,.slice A27 n27 c27],I0] rfl ⟨⟨_,rfl,gB bO hb30 [.bool s27,.slice A27 n27 c27] rfl (bq rfl) rfl⟩,rfl,trivial⟩ ?_))))
   exact⟨_,rfl,⟨_,_,rfl,⟨_,_,_,_,rfl,(z27.updT hb29 u31)⟩,rfl⟩,hw7⟩
  · 
   have hsg:cY f=false:=m7 hb (decide_eq_false h63).symm
   refine a7 (mv 1 rfl (aB rfl rfl rfl false (iF (a:=f) (b:=9223372036854775808) rfl rfl) (mv 1 rfl ?_)))
   have hz:sg false (pm f*2^k)=iV f:=by rw [←hsg];exact FA hk
   refine cl (vs:= [F0,.slice A23 n23 c23]) hw5 (qH hw5.size hz o23.wi (by rw [j23];exact aG hLk (by decide))) rfl (by kernel_rfl) fun xr35 v33 r35 e34 hw6=>?_
   obtain⟨s36,A36,n36,c36,rfl,z36⟩:=r35
   have hb38:=(hb4.ext (e7.trans (e10.trans (e17.trans (e21.trans e34)))))
   refine so bO hb38 [.bool s36,.slice A36 n36 c36] hw6 ge5 rfl rfl rfl rfl fun v37 hb39 u40 hw7=>(mv 1 rfl (a0 (aM (aL [.agg #[.bool s36,.slice A36 n36 c36],I0] rfl ⟨⟨_,rfl,gB bO hb39 [.bool s36,.slice A36 n36 c36] rfl (bq rfl) rfl⟩,rfl,trivial⟩ ?_))))
   exact⟨_,rfl,⟨_,_,rfl,⟨_,_,_,_,rfl,(z36.updT hb38 u40)⟩,rfl⟩,hw7⟩
 · 
  obtain⟨k,hk⟩:∃k:Nat,((pe f:Nat):Int)+ -1074= -(k:Int):=⟨(-(((pe f:Nat):Int)+ -1074)).toNat,by omega⟩
  rw [hk]
  refine a7 (mv 1 rfl (aB rfl rfl rfl false (jG) (a0 (aI rfl (a7 (mv 2 rfl (bD rfl rfl (v:= .int .i64 (IntKind.i64.wrap (0- -((k:Nat):Int)))) (v':= .int .i64 k) (oB) (cl (vs:= [.slice (some ⟨g13,0,none⟩) 1 1,.int .i64 k]) hw4 (V0 (n:=k) hw4.size (gL o16 (show pm f≤18446744073709551615 by have:=jD f;omega)) (by decide) (by omega)) rfl (by kernel_rfl) fun xr44 v42 r44 e43 hw5=>?_))))))))
  obtain⟨_,_,rfl,⟨A46,n46,c46,rfl,j46,o46⟩,rfl⟩:=r44
  refine mv 1 rfl (pu (v:= .slice A46 n46 c46) rfl (pu (v:= .int .i64 0) rfl (mv 1 rfl (a0 (aA ?_)))))
  by_cases h63:9223372036854775808≤f
  · 
   have hsg:cY f=true:=m7 hb (decide_eq_true h63).symm
   refine a7 (mv 1 rfl (aB rfl rfl rfl true (eI (a:=f) (b:=9223372036854775808) rfl rfl) (mv 1 rfl ?_)))
   have hz:sg true (pm f/2^k)=iV f:=by rw [←hsg];exact FB hk
   refine cl (vs:= [.bool true,.slice A46 n46 c46]) hw5 (qH hw5.size hz o46.wi (by rw [j46];exact aG (aG (gZ (fI _ _)) (tF f)) (by decide))) rfl (by kernel_rfl) fun xr49 v47 r49 e48 hw6=>?_
   obtain⟨s50,A50,n50,c50,rfl,z50⟩:=r49
   have hb52:=(hb4.ext (e7.trans (e10.trans (e17.trans (e43.trans e48)))))
   refine so bO hb52 [.bool s50,.slice A50 n50 c50] hw6 ge5 rfl rfl rfl rfl fun v51 hb53 u54 hw7=>(mv 1 rfl (a0 (aM (aL [.agg #[.bool s50,.slice A50 n50 c50],I0] rfl ⟨⟨_,rfl,gB bO hb53 [.bool s50,.slice A50 n50 c50] rfl (bq rfl) rfl⟩,rfl,trivial⟩ ?_))))
   exact⟨_,rfl,⟨_,_,rfl,⟨_,_,_,_,rfl,(z50.updT hb52 u54)⟩,rfl⟩,hw7⟩
  · 
   have hsg:cY f=false:=m7 hb (decide_eq_false h63).symm
   refine a7 (mv 1 rfl (aB rfl rfl rfl false (iF (a:=f) (b:=9223372036854775808) rfl rfl) (mv 1 rfl ?_)))
   have hz:sg false (pm f/2^k)=iV f:=by rw [←hsg];exact FB hk
   refine cl (vs:= [F0,.slice A46 n46 c46]) hw5 (qH hw5.size hz o46.wi (by rw [j46];exact aG (aG (gZ (fI _ _)) (tF f)) (by decide))) rfl (by kernel_rfl) fun xr58 v56 r58 e57 hw6=>?_
   obtain⟨s59,A59,n59,c59,rfl,z59⟩:=r58
   have hb61:=(hb4.ext (e7.trans (e10.trans (e17.trans (e43.trans e57)))))
   refine so bO hb61 [.bool s59,.slice A59 n59 c59] hw6 ge5 rfl rfl rfl rfl fun v60 hb62 u63 hw7=>(mv 1 rfl (a0 (aM (aL [.agg #[.bool s59,.slice A59 n59 c59],I0] rfl ⟨⟨_,rfl,gB bO hb62 [.bool s59,.slice A59 n59 c59] rfl (bq rfl) rfl⟩,rfl,trivial⟩ ?_))))
   exact⟨_,rfl,⟨_,_,rfl,⟨_,_,_,_,rfl,(z59.updT hb61 u63)⟩,rfl⟩,hw7⟩
set_option maxHeartbeats 4000000 in
theorem UG {w:a6}(hb:f<18446744073709551616)(hf:¬fin f):
    aO aF 32 #[.int .u64 f] w (Gv w (T2 (ZR w.heap.size 0) (Is (.int .i64 3)))):=by
 refine bK Tryz.func32 rfl (n:=34) rfl (bq rfl) (args:= [.int .u64 f]) (bE [(0,.int .u64 f)] ⟨rfl,trivial⟩ (sr (al [F0,S0] (Ext.refl w) (fun _=>by kernel_rfl) rfl fun g1 v2 hb4 ge5 e3 hw1=>(mv 1 rfl (a0 (aA (sr (mv 1 rfl (cl (vs:= [.int .u64 f]) hw1 (vD hb hf) rfl (by kernel_rfl) fun xr8 v6 r8 e7 hw2=>?_)))))))))
 obtain rfl:=r8
 refine pu (v:= .bool true) rfl (a0 (aP rfl (sr (pu (v:= .agg #[F0,S0]) rfl ?_))))
 have hb10:=(hb4.ext e7)
 refine so bO hb10 [F0,S0] hw2 ge5 rfl rfl rfl rfl fun v9 hb11 u12 hw3=>(mv 1 rfl (a0 (aM (bL (aL [.agg #[F0,S0],.int .i64 3] rfl ⟨⟨_,rfl,gB bO hb11 [F0,S0] rfl (bq rfl) rfl⟩,rfl,trivial⟩ ?_)))))
 exact⟨_,rfl,⟨_,_,rfl,⟨_,_,_,_,rfl,B3⟩,rfl⟩,hw3⟩
set_option maxHeartbeats 4000000 in
theorem UK {w:a6}(hb:f<18446744073709551616)(hf:¬fin f):
    aO aF 33 #[.int .u64 f] w (Gv w (T3 (ZR w.heap.size 0) (Is (.int .i64 0)) (Is (.int .i64 3)))):=by
 refine bK Tryz.func33 rfl (n:=32) rfl (bq rfl) (args:= [.int .u64 f]) (bE [(0,.int .u64 f)] ⟨rfl,trivial⟩ (sr (al [F0,S0] (Ext.refl w) (fun _=>by kernel_rfl) rfl fun g1 v2 hb4 ge5 e3 hw1=>(mv 2 rfl (a0 (aA (sr (mv 1 rfl (cl (vs:= [.int .u64 f]) hw1 (vD hb hf) rfl (by kernel_rfl) fun xr8 v6 r8 e7 hw2=>?_)))))))))
 obtain rfl:=r8
 refine pu (v:= .bool true) rfl (a0 (aP rfl (sr (pu (v:= .agg #[F0,S0]) rfl ?_))))
 have hb10:=(hb4.ext e7)
 refine so bO hb10 [F0,S0] hw2 ge5 rfl rfl rfl rfl fun v9 hb11 u12 hw3=>(mv 2 rfl (a0 (aM (bL (aL [.agg #[F0,S0],I0,.int .i64 3] rfl ⟨⟨_,rfl,gB bO hb11 [F0,S0] rfl (bq rfl) rfl⟩,rfl,rfl,trivial⟩ ?_)))))
 exact⟨_,rfl,⟨_,_,_,rfl,⟨_,_,_,_,rfl,B3⟩,rfl,rfl⟩,hw3⟩
set_option maxHeartbeats 4000000 in
theorem UI {w:a6}(hb:f<18446744073709551616)(hf:fin f)(hp0:pm f=0):
    aO aF 33 #[.int .u64 f] w (Gv w (T3 (ZR w.heap.size (eL f)) (Is (.int .i64 (eX f))) (Is (.int .i64 0)))):=by
 have hpeb:=qI hf
 refine bK Tryz.func33 rfl (n:=32) rfl (bq rfl) (args:= [.int .u64 f]) (bE [(0,.int .u64 f)] ⟨rfl,trivial⟩ (sr (al [F0,S0] (Ext.refl w) (fun _=>by kernel_rfl) rfl fun g1 v2 hb4 ge5 e3 hw1=>(mv 2 rfl (a0 (aA (sr (mv 1 rfl (cl (vs:= [.int .u64 f]) hw1 (vC hb hf) rfl (by kernel_rfl) fun xr8 v6 r8 e7 hw2=>?_)))))))))
 obtain rfl:=r8
 refine pu (v:= .bool false) rfl (a0 (aI rfl (aN (aD (sr (mv 1 rfl (cl (vs:= [.int .u64 f]) hw2 (vB hb) rfl (by kernel_rfl) fun xr11 v9 r11 e10 hw3=>?_)))))))
 obtain⟨_,_,rfl,rfl,rfl⟩:=r11
 refine mv 1 rfl (pu (v:= .int .u64 ((pm f:Nat):Int)) rfl (pu (v:= .int .i64 (((pe f:Nat):Int)+ -1074)) rfl (mv 2 rfl (a0 (aA (sr (mv 1 rfl (aB rfl rfl rfl true (dA (a:=pm f) (b:=0) rfl rfl) (a0 (aP rfl (sr (pu (v:= .agg #[F0,S0]) rfl ?_))))))))))))
 have hb14:=(hb4.ext (e7.trans e10))
 refine so bO hb14 [F0,S0] hw3 ge5 rfl rfl rfl rfl fun v13 hb15 u16 hw4=>(mv 2 rfl (a0 (aM (bL (aL [.agg #[F0,S0],I0,I0] rfl ⟨⟨_,rfl,gB bO hb15 [F0,S0] rfl (bq rfl) rfl⟩,rfl,rfl,trivial⟩ ?_)))))
 exact⟨_,rfl,⟨_,_,_,rfl,(by rw [show eL f=0 by unfold eL;rw [hp0,oX,mP]];exact⟨_,_,_,_,rfl,B3⟩),(show bV .i64 0=_ by unfold eX;rw [if_pos hp0]),rfl⟩,hw4⟩
set_option maxHeartbeats 4000000 in
theorem UJ {w:a6}(hb:f<18446744073709551616)(hf:fin f)(hp0:pm f≠0):
    aO aF 33 #[.int .u64 f] w (Gv w (T3 (ZR w.heap.size (eL f)) (Is (.int .i64 (eX f))) (Is (.int .i64 0)))):=by
 have hpeb:=qI hf
 refine bK Tryz.func33 rfl (n:=32) rfl (bq rfl) (args:= [.int .u64 f]) (bE [(0,.int .u64 f)] ⟨rfl,trivial⟩ (sr (al [F0,S0] (Ext.refl w) (fun _=>by kernel_rfl) rfl fun g1 v2 hb4 ge5 e3 hw1=>(mv 2 rfl (a0 (aA (sr (mv 1 rfl (cl (vs:= [.int .u64 f]) hw1 (vC hb hf) rfl (by kernel_rfl) fun xr8 v6 r8 e7 hw2=>?_)))))))))
 obtain rfl:=r8
 refine pu (v:= .bool false) rfl (a0 (aI rfl (aN (aD (sr (mv 1 rfl (cl (vs:= [.int .u64 f]) hw2 (vB hb) rfl (by kernel_rfl) fun xr11 v9 r11 e10 hw3=>?_)))))))
 obtain⟨_,_,rfl,rfl,rfl⟩:=r11
 refine mv 1 rfl (pu (v:= .int .u64 ((pm f:Nat):Int)) rfl (pu (v:= .int .i64 (((pe f:Nat):Int)+ -1074)) rfl (mv 2 rfl (a0 (aA (sr (mv 1 rfl (aB rfl rfl rfl false (dC (a:=pm f) (b:=0) rfl rfl) (a0 (aI rfl (aN (aD (aA ?_)))))))))))))
 refine bG ?_
 refine d4 (T:=a6×Nat×Nat×Int)
  (fun⟨wr,mm,j,nn⟩=> [(0,.int .u64 f),(2,.pointer (some ⟨g1,0,none⟩)),(5,.int .u64 mm),(6,.int .i64 nn)])
  (fun⟨wr,mm,j,nn⟩=>wr)
  (fun⟨wr,mm,j,nn⟩=>(Ext w wr)∧(pm f=mm*2^j)∧(mm≠0)∧(nn=((pe f:Nat):Int)+ -1074+(j:Int))∧(Bk wr g1 24 [F0,S0]))
  (fun⟨wr,mm,j,nn⟩=>mm)
  (⟨v9,pm f,0,_⟩:a6×Nat×Nat×Int) ⟨hw3,(by rw [Nat.pow_zero,cI]),hp0,(by omega),(hb4.ext (e7.trans e10))⟩ rfl ⟨rfl,rfl,rfl,rfl,trivial⟩ ?_
 rintro⟨wr,mm,j,nn⟩ ⟨hw1,hmj,hm0,hnn,b_2⟩
 refine cC [(0,.int .u64 f),(2,.pointer (some ⟨g1,0,none⟩)),(5,.int .u64 mm),(6,.int .i64 nn)] wr rfl ⟨rfl,rfl,rfl,rfl,trivial⟩ ?_
 have hj53:=KS hmj hm0 (jD f)
 have hmm:mm≤pm f:=by rw [hmj];exact Nat.le_mul_of_pos_right _ (dW j)
 have hpl:=jD f
 refine aA (aA ?_)
 by_cases hev:mm%2=0
 · 
  refine a7 (mv 1 rfl (aE rfl rfl rfl ((mm%2:Nat):Int) (fC (a:=mm) (b:=2) rfl rfl) (aB rfl rfl rfl true (dA (a:=mm%2) (b:=0) rfl rfl) (a0 (aP rfl (aN (aD (bG (sr (mv 1 rfl (aE rfl rfl rfl ((mm/2:Nat):Int) (iR (a:=mm) (b:=2) rfl rfl) (mv 1 rfl (aU ?_)))))))))))))
  refine aD (a7 (mv 1 rfl (aE rfl rfl rfl (nn+1) (lJ (h:=rfl)) (mv 1 rfl (aU (cA (cH (⟨wr,mm/2,j+1,nn+1⟩:a6×Nat×Nat×Int) ⟨hw1,(KR hmj hev),(by omega),(by omega),b_2⟩ (show mm/2<mm by omega) rfl ⟨rfl,rfl,rfl,rfl,trivial⟩)))))))
 · 
  have htz:=BG hmj (by omega) (jD f)
  refine a7 (mv 1 rfl (aE rfl rfl rfl ((mm%2:Nat):Int) (fC (a:=mm) (b:=2) rfl rfl) (aB rfl rfl rfl false (dC (a:=mm%2) (b:=0) rfl rfl) (a0 (aI rfl (cR (cN (cP (cQ (aD (aA ?_)))))))))))
  by_cases h63:9223372036854775808≤f
  · 
   have hsg:cY f=true:=m7 hb (decide_eq_true h63).symm
   refine a7 (mv 1 rfl (aB rfl rfl rfl true (eI (a:=f) (b:=9223372036854775808) rfl rfl) (mv 1 rfl (dQ rfl rfl (k:=1) (e:=65) [.int .u64 mm] (fun _=>by kernel_rfl) fun g13 v14 nb15=>?_))))
   have o16:=O1.mk_ (x:=mm) (b:=w.heap.size) nb15 hw1.size
   have e17:=nb15.ext
   have hw2:=hw1.trans e17
   have hz:sg true mm=eL f:=by rw [←hsg];unfold eL;rw [htz.2]
   refine cl (vs:= [.bool true,.slice (some ⟨g13,0,none⟩) 1 1]) hw2 (qH hw2.size hz (gL o16 (show mm≤18446744073709551615 by omega)) (by decide)) rfl (by kernel_rfl) fun xr22 v20 r22 e21 hw3=>?_
   obtain⟨s23,A23,n23,c23,rfl,z23⟩:=r22
   refine mv 1 rfl ?_
   have hb25:=(b_2.ext (e17.trans e21))
   refine so bO hb25 [.bool s23,.slice A23 n23 c23] hw3 ge5 rfl rfl rfl rfl fun v24 hb26 u27 hw4=>(mv 2 rfl (a0 (aM (aL [.agg #[.bool s23,.slice A23 n23 c23],.int .i64 nn,I0] rfl ⟨⟨_,rfl,gB bO hb26 [.bool s23,.slice A23 n23 c23] rfl (bq rfl) rfl⟩,rfl,rfl,trivial⟩ ?_))))
   exact⟨_,rfl,⟨_,_,_,rfl,⟨_,_,_,_,rfl,(z23.updT hb25 u27)⟩,(show bV .i64 nn=_ by unfold eX;rw [if_neg hp0,htz.1,hnn]),rfl⟩,hw4⟩
  · 
   have hsg:cY f=false:=m7 hb (decide_eq_false h63).symm
   refine a7 (mv 1 rfl (aB rfl rfl rfl false (iF (a:=f) (b:=9223372036854775808) rfl rfl) (mv 1 rfl (dQ rfl rfl (k:=1) (e:=65) [.int .u64 mm] (fun _=>by kernel_rfl) fun g29 v30 nb31=>?_))))
   have o32:=O1.mk_ (x:=mm) (b:=w.heap.size) nb31 hw1.size
   have e33:=nb31.ext
   have hw2:=hw1.trans e33
   have hz:sg false mm=eL f:=by rw [←hsg];unfold eL;rw [htz.2]
   refine cl (vs:= [F0,.slice (some ⟨g29,0,none⟩) 1 1]) hw2 (qH hw2.size hz (gL o32 (show mm≤18446744073709551615 by omega)) (by decide)) rfl (by kernel_rfl) fun xr38 v36 r38 e37 hw3=>?_
   obtain⟨s39,A39,n39,c39,rfl,z39⟩:=r38
   refine mv 1 rfl ?_
   have hb41:=(b_2.ext (e33.trans e37))
   refine so bO hb41 [.bool s39,.slice A39 n39 c39] hw3 ge5 rfl rfl rfl rfl fun v40 hb42 u43 hw4=>(mv 2 rfl (a0 (aM (aL [.agg #[.bool s39,.slice A39 n39 c39],.int .i64 nn,I0] rfl ⟨⟨_,rfl,gB bO hb42 [.bool s39,.slice A39 n39 c39] rfl (bq rfl) rfl⟩,rfl,rfl,trivial⟩ ?_))))
   exact⟨_,rfl,⟨_,_,_,rfl,⟨_,_,_,_,rfl,(z39.updT hb41 u43)⟩,(show bV .i64 nn=_ by unfold eX;rw [if_neg hp0,htz.1,hnn]),rfl⟩,hw4⟩
theorem UL {w:a6}(hb:f<18446744073709551616)(hf:fin f):aO aF 33 #[.int .u64 f] w (Gv w (T3 (ZR w.heap.size (eL f)) (Is (.int .i64 (eX f))) (Is (.int .i64 0)))):=by
 by_cases h:pm f=0
 ·exact UI hb hf h
 ·exact UJ hb hf h
theorem a02 (a b:Nat): -1≤dH a b∧dH a b≤1:=by unfold dH;split <;> (try split) <;> omega
theorem a0L {c:Int}(h: -1≤c∧c≤1):bV .i64 (IntKind.i64.wrap (0-c))= .int .i64 (-c):=by rw [IntWalk.i64_in _ ⟨by omega,by omega⟩,Int.zero_sub]
theorem EP {w:a6}(hx:Zi w s A n cap x):sg s (Int.natAbs x)=x:=by
 obtain⟨xs,_,h2⟩:=hx
 rw [←h2,p8]
theorem VJ (hx:x<0)(hy:¬y<0):cW x y= -1:=by unfold cW;rw [if_pos (by omega)]
theorem VL (hx:¬x<0)(hy:y<0):cW x y=1:=by unfold cW;rw [if_neg (by omega),if_neg (by omega)]
theorem VM (hx:¬x<0)(hy:¬y<0):cW x y=dH (Int.natAbs x) (Int.natAbs y):=by
 unfold cW dH
 rcases Int.lt_trichotomy x y with h | h | h
 ·rw [if_pos h,if_pos (by omega)]
 ·rw [if_neg (by omega),if_pos h,if_neg (by omega),if_pos (by omega)]
 ·rw [if_neg (by omega),if_neg (by omega),if_neg (by omega),if_neg (by omega)]
theorem VI (hx:x<0)(hy:y<0):cW x y= -dH (Int.natAbs x) (Int.natAbs y):=by
 unfold cW dH
 rcases Int.lt_trichotomy x y with h | h | h
 ·rw [if_pos h,if_neg (by omega),if_neg (by omega)]
 ·rw [if_neg (by omega),if_pos h,if_neg (by omega),if_pos (by omega)];rfl
 ·rw [if_neg (by omega),if_neg (by omega),if_pos (by omega)];rfl
set_option maxHeartbeats 4000000 in
theorem yD {w:a6}(hx:Zi w s A n cap x)(la:n≤2000000)(hy:Zi w t B m cap' y)(lb:m≤2000000):
    aO aF 215 #[.agg #[.bool s,.slice A n cap],.agg #[.bool t,.slice B m cap']] w (Gv w (Is (.int .i64 (cW x y)))):=by
 have Lx:ln x≤2000000:=aG hx.ln la
 have Ly:ln y≤2000000:=aG hy.ln lb
 refine bK Tryz.func215 rfl (n:=35) rfl (bq rfl) (args:= [.agg #[.bool s,.slice A n cap],.agg #[.bool t,.slice B m cap']]) (bE [(0,.agg #[.bool s,.slice A n cap]),(1,.agg #[.bool t,.slice B m cap'])] ⟨rfl,rfl,trivial⟩ (sr (bx [.bool s,.slice A n cap] (Ext.refl w) rfl rfl rfl fun g1 v2 hb4 ge5 e3 hw1=>(pI [.bool t,.slice B m cap'] hw1 hb4.lt rfl rfl rfl fun g6 v7 hb9 ge10 q11 e8 hw2=>(mv 1 rfl (a0 (sr (pf g1 0 rfl (aS rfl rfl (aY eK (hb4.ext e8) rfl) (pf g1 1 rfl (aS rfl rfl (aY eM (hb4.ext e8) rfl) ?_)))))))))))
 have hzx:sg s (Int.natAbs x)=x:=EP hx
 refine cl (vs:= [.bool s,.slice A n cap]) hw2 (qH hw2.size hzx (hx.ext hw2).wi (bQ la rfl)) rfl (by kernel_rfl) fun xr14 v12 r14 e13 hw3=>?_
 obtain⟨s15,A15,n15,c15,rfl,z15⟩:=r14
 refine kW [F0,S0] hw3 (hb9.ext e13).lt (fun _=>by kernel_rfl) rfl fun g16 v17 hb19 ge20 q21 e18 hw4=>(so bO hb19 [.bool s15,.slice A15 n15 c15] hw4 ge20 rfl rfl rfl rfl fun v22 hb24 u25 hw5=>(a0 (sr (pf g6 0 rfl (aS rfl rfl (aY eK ((hb9.ext (e13.trans e18)).updN u25 (by omega)) rfl) (pf g6 1 rfl (aS rfl rfl (aY eM ((hb9.ext (e13.trans e18)).updN u25 (by omega)) rfl) ?_)))))))
 have hzy:sg t (Int.natAbs y)=y:=EP hy
 refine cl (vs:= [.bool t,.slice B m cap']) hw5 (qH hw5.size hzy (hy.ext hw5).wi (bQ lb rfl)) rfl (by kernel_rfl) fun xr29 v27 r29 e28 hw6=>?_
 obtain⟨s30,A30,n30,c30,rfl,z30⟩:=r29
 refine kW [F0,S0] hw6 (hb24.ext e28).lt (fun _=>by kernel_rfl) rfl fun g31 v32 hb34 ge35 q36 e33 hw7=>(so bO hb34 [.bool s30,.slice A30 n30 c30] hw7 ge35 rfl rfl rfl rfl fun v37 hb39 u40 hw8=>(a0 (aA (aA ?_))))
 have hsx:s15=decide (x<0):=(((((z15.ext e18).updT hb19 u25).ext (e28.trans e33)).updT hb34 u40)).sgn
 have hsy:s30=decide (y<0):=(((z30.ext e33).updT hb34 u40)).sgn
 by_cases hxn:x<0
 · 
  rw [decide_eq_true hxn] at hsx
  subst hsx
  by_cases hyn:y<0
  · 
   rw [decide_eq_true hyn] at hsy
   subst hsy
   refine a7 (pf g16 0 rfl (aS rfl rfl (aY eK ((hb24.ext (e28.trans e33)).updN u40 (by omega)) rfl) (pf g31 0 rfl (aS rfl rfl (aY eK hb39 rfl) (pu (v:= .bool false) rfl (a0 (aI rfl (aN (aD (sr (pf g16 1 rfl (aS rfl rfl (aY eM ((hb24.ext (e28.trans e33)).updN u40 (by omega)) rfl) (pf g31 1 rfl ?_)))))))))))))
   refine aS rfl rfl (aY eM hb39 rfl) (cl (vs:= [.slice A15 n15 c15,.slice A30 n30 c30]) hw8 (qT ((((z15.ext e18).updT hb19 u25).ext (e28.trans e33)).updT hb34 u40).zi.wi (z15.le (bQ Lx rfl)) ((z30.ext e33).updT hb34 u40).zi.wi (z30.le (bQ Ly rfl))) rfl (by kernel_rfl) fun xr44 v42 r44 e43 hw9=>?_)
   obtain rfl:=r44
   refine mv 1 rfl (a0 (aA (sr (pf g16 0 rfl (aS rfl rfl (aY eK (((hb24.ext (e28.trans e33)).updN u40 (by omega)).ext e43) rfl) (a0 (aP rfl (sr (mv 1 rfl (bD rfl rfl (v:= .int .i64 (IntKind.i64.wrap (0-dH (Int.natAbs x) (Int.natAbs y)))) (v':= .int .i64 (-dH (Int.natAbs x) (Int.natAbs y))) (a0L (a02 _ _)) (mv 1 rfl (a0 (aM ?_)))))))))))))
   refine bL (aL [.int .i64 (-dH (Int.natAbs x) (Int.natAbs y))] rfl ⟨rfl,trivial⟩ ?_)
   exact⟨_,rfl,(show bV .i64 (-dH (Int.natAbs x) (Int.natAbs y))=_ by rw [VI hxn hyn]),hw9⟩
  · 
   rw [decide_eq_false hyn] at hsy
   subst hsy
   refine a7 (pf g16 0 rfl (aS rfl rfl (aY eK ((hb24.ext (e28.trans e33)).updN u40 (by omega)) rfl) (pf g31 0 rfl (aS rfl rfl (aY eK hb39 rfl) (pu (v:= .bool true) rfl (a0 (aP rfl (aA (sr (pf g16 0 rfl (aS rfl rfl (aY eK ((hb24.ext (e28.trans e33)).updN u40 (by omega)) rfl) (a0 (aP rfl ?_)))))))))))))
   refine sr (mv 1 rfl (a0 (aM (bL (bL (aL [.int .i64 (-1)] rfl ⟨rfl,trivial⟩ ?_))))))
   exact⟨_,rfl,(show bV .i64 (-1)=_ by rw [VJ hxn hyn]),hw8⟩
 · 
  rw [decide_eq_false hxn] at hsx
  subst hsx
  by_cases hyn:y<0
  · 
   rw [decide_eq_true hyn] at hsy
   subst hsy
   refine a7 (pf g16 0 rfl (aS rfl rfl (aY eK ((hb24.ext (e28.trans e33)).updN u40 (by omega)) rfl) (pf g31 0 rfl (aS rfl rfl (aY eK hb39 rfl) (pu (v:= .bool true) rfl (a0 (aP rfl (aA (sr (pf g16 0 rfl (aS rfl rfl (aY eK ((hb24.ext (e28.trans e33)).updN u40 (by omega)) rfl) (a0 (aI rfl ?_)))))))))))))
   refine aN (aD (sr (mv 1 rfl (a0 (aM (bL (aL [.int .i64 1] rfl ⟨rfl,trivial⟩ ?_)))))))
   exact⟨_,rfl,(show bV .i64 (1)=_ by rw [VL hxn hyn]),hw8⟩
  · 
   rw [decide_eq_false hyn] at hsy
   subst hsy
   refine a7 (pf g16 0 rfl (aS rfl rfl (aY eK ((hb24.ext (e28.trans e33)).updN u40 (by omega)) rfl) (pf g31 0 rfl (aS rfl rfl (aY eK hb39 rfl) (pu (v:= .bool false) rfl (a0 (aI rfl (aN (aD (sr (pf g16 1 rfl (aS rfl rfl (aY eM ((hb24.ext (e28.trans e33)).updN u40 (by omega)) rfl) (pf g31 1 rfl ?_)))))))))))))
   refine aS rfl rfl (aY eM hb39 rfl) (cl (vs:= [.slice A15 n15 c15,.slice A30 n30 c30]) hw8 (qT ((((z15.ext e18).updT hb19 u25).ext (e28.trans e33)).updT hb34 u40).zi.wi (z15.le (bQ Lx rfl)) ((z30.ext e33).updT hb34 u40).zi.wi (z30.le (bQ Ly rfl))) rfl (by kernel_rfl) fun xr47 v45 r47 lF hw9=>?_)
   obtain rfl:=r47
   refine mv 1 rfl (a0 (aA (sr (pf g16 0 rfl (aS rfl rfl (aY eK (((hb24.ext (e28.trans e33)).updN u40 (by omega)).ext lF) rfl) (a0 (aI rfl (aN (aD (sr (mv 2 rfl (a0 (aM ?_)))))))))))))
   refine aL [.int .i64 (dH (Int.natAbs x) (Int.natAbs y))] rfl ⟨rfl,trivial⟩ ?_
   exact⟨_,rfl,(show bV .i64 (dH (Int.natAbs x) (Int.natAbs y))=_ by rw [VM hxn hyn]),hw9⟩
theorem wS {w:a6}(h:Wi w A n c X):Zi w s A n c (sg s X):=by
 obtain⟨xs,h1,rfl⟩:=h
 exact⟨xs,h1,rfl⟩
theorem MH (hk:((pe f:Nat):Int)+ -1074=(k:Int)):cW x (sg (cY f) (pm f*2^k))=cW (x*((2^bM:Nat):Int)) (fv f):=by
 unfold fv
 rw [lA,show pe f=k+bM by have:=i6;omega,bX,←bH,rJ (cY f) (pm f*2^k) (2^bM),uT (dW _)]
theorem MI {w:a6}(hx:Zi w s A n cap x)(hk:((pe f:Nat):Int)+ -1074= -(k:Int)):cW (sg s (x.natAbs*2^k)) (sg (cY f) (pm f))=cW (x*((2^bM:Nat):Int)) (fv f):=by
 unfold fv
 rw [GJ hx,lA,rJ,show bM=k+pe f by have:=i6;omega,bX,Int.natCast_mul,←Int.mul_assoc,uT (dW _)]
set_option maxHeartbeats 4000000 in
theorem UV {w:a6}(hx:Zi w s A n cap x)(la:n≤1900000)(hb:f<18446744073709551616)(hf:¬fin f)(hm:f%4503599627370496≠0):
    aO aF 172 #[.agg #[.bool s,.slice A n cap],.int .u64 f] w (Gv w (T2 (Is (.int .i64 0)) (Is (.int .i64 3)))):=by
 have Lx:ln x≤1900000:=aG hx.ln la
 refine bK Tryz.func172 rfl (n:=42) rfl (bq rfl) (args:= [.agg #[.bool s,.slice A n cap],.int .u64 f]) (bE [(0,.agg #[.bool s,.slice A n cap]),(1,.int .u64 f)] ⟨rfl,rfl,trivial⟩ (sr (bx [.bool s,.slice A n cap] (Ext.refl w) rfl rfl rfl fun g1 v2 hb4 ge5 e3 hw1=>(mv 2 rfl (a0 (aA (sr (mv 1 rfl (cl (vs:= [.int .u64 f]) hw1 (UB hb hf hm) rfl (by kernel_rfl) fun xr8 v6 r8 e7 hw2=>?_)))))))))
 obtain rfl:=r8
 refine a0 (aP rfl (sr (mv 2 rfl (a0 (aM (bL (aL [I0,.int .i64 3] rfl ⟨rfl,rfl,trivial⟩ ?_)))))))
 exact⟨_,rfl,⟨_,_,rfl,rfl,rfl⟩,hw2⟩
set_option maxHeartbeats 4000000 in
theorem UW {w:a6}(hx:Zi w s A n cap x)(la:n≤1900000)(hb:f<18446744073709551616)(hf:¬fin f)(hm:f%4503599627370496=0)(hs:f<9223372036854775808):
    aO aF 172 #[.agg #[.bool s,.slice A n cap],.int .u64 f] w (Gv w (T2 (Is (.int .i64 (-1))) (Is (.int .i64 0)))):=by
 have Lx:ln x≤1900000:=aG hx.ln la
 refine bK Tryz.func172 rfl (n:=42) rfl (bq rfl) (args:= [.agg #[.bool s,.slice A n cap],.int .u64 f]) (bE [(0,.agg #[.bool s,.slice A n cap]),(1,.int .u64 f)] ⟨rfl,rfl,trivial⟩ (sr (bx [.bool s,.slice A n cap] (Ext.refl w) rfl rfl rfl fun g1 v2 hb4 ge5 e3 hw1=>(mv 2 rfl (a0 (aA (sr (mv 1 rfl (cl (vs:= [.int .u64 f]) hw1 (II hb hf hm) rfl (by kernel_rfl) fun xr8 v6 r8 e7 hw2=>?_)))))))))
 obtain rfl:=r8
 refine a0 (aI rfl (aN (aD (aA (sr (mv 1 rfl (cl (vs:= [.int .u64 f]) hw2 (vD hb hf) rfl (by kernel_rfl) fun xr11 v9 r11 e10 hw3=>?_)))))))
 obtain rfl:=r11
 refine pu (v:= .bool true) rfl (a0 (aP rfl (aA (sr (mv 1 rfl (aB rfl rfl rfl false (iF (a:=f) (b:=9223372036854775808) rfl rfl) (a0 (aI rfl (aN (aD (sr (mv 2 rfl (aU ?_)))))))))))))
 refine aD (aM (bL (aL [.int .i64 (-1),I0] rfl ⟨rfl,rfl,trivial⟩ ?_)))
 exact⟨_,rfl,⟨_,_,rfl,rfl,rfl⟩,hw3⟩
set_option maxHeartbeats 4000000 in
theorem UX {w:a6}(hx:Zi w s A n cap x)(la:n≤1900000)(hb:f<18446744073709551616)(hf:¬fin f)(hm:f%4503599627370496=0)(hs:9223372036854775808≤f):
    aO aF 172 #[.agg #[.bool s,.slice A n cap],.int .u64 f] w (Gv w (T2 (Is (.int .i64 1)) (Is (.int .i64 0)))):=by
 have Lx:ln x≤1900000:=aG hx.ln la
 refine bK Tryz.func172 rfl (n:=42) rfl (bq rfl) (args:= [.agg #[.bool s,.slice A n cap],.int .u64 f]) (bE [(0,.agg #[.bool s,.slice A n cap]),(1,.int .u64 f)] ⟨rfl,rfl,trivial⟩ (sr (bx [.bool s,.slice A n cap] (Ext.refl w) rfl rfl rfl fun g1 v2 hb4 ge5 e3 hw1=>(mv 2 rfl (a0 (aA (sr (mv 1 rfl (cl (vs:= [.int .u64 f]) hw1 (II hb hf hm) rfl (by kernel_rfl) fun xr8 v6 r8 e7 hw2=>?_)))))))))
 obtain rfl:=r8
 refine a0 (aI rfl (aN (aD (aA (sr (mv 1 rfl (cl (vs:= [.int .u64 f]) hw2 (vD hb hf) rfl (by kernel_rfl) fun xr11 v9 r11 e10 hw3=>?_)))))))
 obtain rfl:=r11
 refine pu (v:= .bool true) rfl (a0 (aP rfl (aA (sr (mv 1 rfl (aB rfl rfl rfl true (eI (a:=f) (b:=9223372036854775808) rfl rfl) (a0 (aP rfl (sr (mv 2 rfl (a0 (aM (bL ?_)))))))))))))
 refine bL (aL [.int .i64 1,I0] rfl ⟨rfl,rfl,trivial⟩ ?_)
 exact⟨_,rfl,⟨_,_,rfl,rfl,rfl⟩,hw3⟩
set_option maxHeartbeats 4000000 in
theorem UY {w:a6}(hx:Zi w s A n cap x)(la:n≤1900000)(hb:f<18446744073709551616)(hf:fin f):
    aO aF 172 #[.agg #[.bool s,.slice A n cap],.int .u64 f] w (Gv w (T2 (Is (.int .i64 (cW (x*((2^bM:Nat):Int)) (fv f)))) (Is (.int .i64 0)))):=by
 have Lx:ln x≤1900000:=aG hx.ln la
 refine bK Tryz.func172 rfl (n:=42) rfl (bq rfl) (args:= [.agg #[.bool s,.slice A n cap],.int .u64 f]) (bE [(0,.agg #[.bool s,.slice A n cap]),(1,.int .u64 f)] ⟨rfl,rfl,trivial⟩ (sr (bx [.bool s,.slice A n cap] (Ext.refl w) rfl rfl rfl fun g1 v2 hb4 ge5 e3 hw1=>(mv 2 rfl (a0 (aA (sr (mv 1 rfl (cl (vs:= [.int .u64 f]) hw1 (UC hb hf) rfl (by kernel_rfl) fun xr8 v6 r8 e7 hw2=>?_)))))))))
 obtain rfl:=r8
 refine a0 (aI rfl (aN (aD (aA (sr (mv 1 rfl (cl (vs:= [.int .u64 f]) hw2 (vC hb hf) rfl (by kernel_rfl) fun xr11 v9 r11 e10 hw3=>?_)))))))
 obtain rfl:=r11
 refine pu (v:= .bool false) rfl (a0 (aI rfl (aN (aD (sr (mv 1 rfl (cl (vs:= [.int .u64 f]) hw3 (vB hb) rfl (by kernel_rfl) fun xr14 v12 r14 e13 hw4=>?_)))))))
 obtain⟨_,_,rfl,rfl,rfl⟩:=r14
 refine mv 1 rfl (pu (v:= .int .u64 ((pm f:Nat):Int)) rfl (pu (v:= .int .i64 (((pe f:Nat):Int)+ -1074)) rfl (mv 2 rfl (a0 (sr (lo bO (hb4.ext (e7.trans (e10.trans e13))) [.bool s,.slice A n cap] rfl rfl rfl (kW [F0,S0] hw4 (hb4.ext (e7.trans (e10.trans e13))).lt (fun _=>by kernel_rfl) rfl fun g16 v17 hb19 ge20 q21 e18 hw5=>(so bO hb19 [.bool s,.slice A n cap] hw5 ge20 rfl rfl rfl rfl fun v22 hb24 u25 hw6=>(a0 (sr (mv 1 rfl (dQ rfl rfl (k:=1) (e:=65) [.int .u64 ((pm f:Nat):Int)] (fun _=>by kernel_rfl) fun g27 v28 nb29=>?_))))))))))))
 have o30:=O1.mk_ (x:=pm f) (b:=w.heap.size) nb29 hw6.size
 have e31:=nb29.ext
 have hw7:=hw6.trans e31
 refine mv 1 rfl (a0 (aA (aA ?_)))
 have hpeb:=qI hf
 by_cases hsp:0≤((pe f:Nat):Int)+ -1074
 · 
  obtain⟨k,hk⟩:∃k:Nat,((pe f:Nat):Int)+ -1074=(k:Int):=⟨(((pe f:Nat):Int)+ -1074).toNat,by omega⟩
  rw [hk]
  refine a7 (mv 1 rfl (aB rfl rfl rfl true (eI (a:=k) (b:=0) rfl rfl) (a0 (aP rfl (a7 (mv 2 rfl ?_))))))
  have hLk:(wd (pm f*2^k)).length≤66:=pE (tF f)
  refine cl (vs:= [.slice (some ⟨g27,0,none⟩) 1 1,.int .i64 k]) hw7 (oU (k:=k) hw7.size (gL o30 (show pm f≤18446744073709551615 by have:=jD f;omega)) (by decide)) rfl (by kernel_rfl) fun xr36 v34 r36 e35 hw8=>?_
  obtain⟨A37,n37,c37,rfl,j37,o37⟩:=r36
  refine mv 1 rfl (a0 (aA ?_))
  by_cases h63:9223372036854775808≤f
  · 
   have hsg:cY f=true:=m7 hb (decide_eq_true h63).symm
   refine a7 (lo bO (hb24.ext (e31.trans e35)) [.bool s,.slice A n cap] rfl rfl rfl (mv 1 rfl (aB rfl rfl rfl true (eI (a:=f) (b:=9223372036854775808) rfl rfl) (mv 1 rfl ?_))))
   have zb38:=wS (s:=true) o37.wi
   refine pu (v:= .agg #[.bool true,.slice A37 n37 c37]) rfl (cl (vs:= [.agg #[.bool s,.slice A n cap],.agg #[.bool true,.slice A37 n37 c37]]) hw8 (yD (hx.ext hw8) (bQ la rfl) zb38 (aG (aG (Nat.le_of_eq j37) hLk) (by decide))) rfl (by kernel_rfl) fun xr41 v39 r41 e40 hw9=>?_)
   obtain rfl:=r41
   refine mv 2 rfl (a0 (aM (aL [.int .i64 (cW x (sg true (pm f*2^k))),I0] rfl ⟨rfl,rfl,trivial⟩ ?_)))
   exact⟨_,rfl,⟨_,_,rfl,(show bV .i64 (cW x (sg true (pm f*2^k)))=_ by rw [←hsg,MH hk]),rfl⟩,hw9⟩
  · 
   have hsg:cY f=false:=m7 hb (decide_eq_false h63).symm
   refine a7 (lo bO (hb24.ext (e31.trans e35)) [.bool s,.slice A n cap] rfl rfl rfl (mv 1 rfl (aB rfl rfl rfl false (iF (a:=f) (b:=9223372036854775808) rfl rfl) (mv 1 rfl ?_))))
   have zb42:=wS (s:=false) o37.wi
   refine pu (v:= .agg #[F0,.slice A37 n37 c37]) rfl (cl (vs:= [.agg #[.bool s,.slice A n cap],.agg #[F0,.slice A37 n37 c37]]) hw8 (yD (hx.ext hw8) (bQ la rfl) zb42 (aG (aG (Nat.le_of_eq j37) hLk) (by decide))) rfl (by kernel_rfl) fun xr45 v43 r45 e44 hw9=>?_)
   obtain rfl:=r45
   refine mv 2 rfl (a0 (aM (aL [.int .i64 (cW x (sg false (pm f*2^k))),I0] rfl ⟨rfl,rfl,trivial⟩ ?_)))
   exact⟨_,rfl,⟨_,_,rfl,(show bV .i64 (cW x (sg false (pm f*2^k)))=_ by rw [←hsg,MH hk]),rfl⟩,hw9⟩
 · 
  obtain⟨k,hk⟩:∃k:Nat,((pe f:Nat):Int)+ -1074= -(k:Int):=⟨(-(((pe f:Nat):Int)+ -1074)).toNat,by omega⟩
  rw [hk]
  refine a7 (mv 1 rfl (aB rfl rfl rfl false (jG) (a0 (aI rfl (a7 (pf g16 1 rfl (aS rfl rfl (aY eM (hb24.ext e31) rfl) (mv 1 rfl (bD rfl rfl (v:= .int .i64 (IntKind.i64.wrap (0- -((k:Nat):Int)))) (v':= .int .i64 k) (oB) ?_)))))))))
  have hLx:(wd (Int.natAbs x*2^k)).length≤1900065:=pE Lx
  refine cl (vs:= [.slice A n cap,.int .i64 k]) hw7 (oU (k:=k) hw7.size (hx.ext hw7).wi (bQ la rfl)) rfl (by kernel_rfl) fun xr48 v46 r48 e47 hw8=>?_
  obtain⟨A49,n49,c49,rfl,j49,o49⟩:=r48
  refine pf g16 1 rfl ?_
  have hb52:=(hb24.ext (e31.trans e47))
  refine eB rfl rfl rfl (fun _=>by kernel_rfl) rfl hb52 (bq rfl) rfl [.bool s,.slice A49 n49 c49] rfl fun v50 hb51 u53 hs54=>?_
  have hw9:=u53.ext hw8 ge20
  refine a0 (aA ?_)
  by_cases h63:9223372036854775808≤f
  · 
   have hsg:cY f=true:=m7 hb (decide_eq_true h63).symm
   refine a7 (lo bO hb51 [.bool s,.slice A49 n49 c49] rfl rfl rfl (mv 1 rfl (aB rfl rfl rfl true (eI (a:=f) (b:=9223372036854775808) rfl rfl) (mv 1 rfl ?_))))
   have zb55:=wS (s:=true) (gL ((o30.ext e47).updT hb52 (by decide) u53) (show pm f≤18446744073709551615 by have:=jD f;omega))
   refine pu (v:= .agg #[.bool true,.slice (some ⟨g27,0,none⟩) 1 1]) rfl (cl (vs:= [.agg #[.bool s,.slice A49 n49 c49],.agg #[.bool true,.slice (some ⟨g27,0,none⟩) 1 1]]) hw9 (yD (((o49.updT hb52 (by decide) u53)).wi.zi s) (aG (aG (Nat.le_of_eq j49) hLx) (by decide)) zb55 (aG (show 1≤1 by decide) (by decide))) rfl (by kernel_rfl) fun xr58 v56 r58 e57 hw10=>?_)
   obtain rfl:=r58
   refine mv 2 rfl (a0 (aM (aL [.int .i64 (cW (sg s (Int.natAbs x*2^k)) (sg true (pm f))),I0] rfl ⟨rfl,rfl,trivial⟩ ?_)))
   exact⟨_,rfl,⟨_,_,rfl,(show bV .i64 (cW (sg s (Int.natAbs x*2^k)) (sg true (pm f)))=_ by rw [←hsg,MI hx hk]),rfl⟩,hw10⟩
  · 
   have hsg:cY f=false:=m7 hb (decide_eq_false h63).symm
   refine a7 (lo bO hb51 [.bool s,.slice A49 n49 c49] rfl rfl rfl (mv 1 rfl (aB rfl rfl rfl false (iF (a:=f) (b:=9223372036854775808) rfl rfl) (mv 1 rfl ?_))))
   have zb59:=wS (s:=false) (gL ((o30.ext e47).updT hb52 (by decide) u53) (show pm f≤18446744073709551615 by have:=jD f;omega))
   refine pu (v:= .agg #[F0,.slice (some ⟨g27,0,none⟩) 1 1]) rfl (cl (vs:= [.agg #[.bool s,.slice A49 n49 c49],.agg #[F0,.slice (some ⟨g27,0,none⟩) 1 1]]) hw9 (yD (((o49.updT hb52 (by decide) u53)).wi.zi s) (aG (aG (Nat.le_of_eq j49) hLx) (by decide)) zb59 (aG (show 1≤1 by decide) (by decide))) rfl (by kernel_rfl) fun xr62 v60 r62 e61 hw10=>?_)
   obtain rfl:=r62
   refine mv 2 rfl (a0 (aM (aL [.int .i64 (cW (sg s (Int.natAbs x*2^k)) (sg false (pm f))),I0] rfl ⟨rfl,rfl,trivial⟩ ?_)))
   exact⟨_,rfl,⟨_,_,rfl,(show bV .i64 (cW (sg s (Int.natAbs x*2^k)) (sg false (pm f)))=_ by rw [←hsg,MI hx hk]),rfl⟩,hw10⟩
def aV:Nat→Nat→List Nat
 | 0,_=> []
 | n+1,v=>aV n (v/10)++ [48+v%10]
theorem d5:∀n v,(aV n v).length=n
 | 0,_=>rfl
 | n+1,v=>by simp [aV,d5 n]
theorem mE:∀{n v i:Nat},i<n→(aV n v).getD i 0=48+v/10^(n-1-i)%10
 | 0,_,_,h=>absurd h (Nat.not_lt_zero _)
 | n+1,v,i,h=>by
  have hl:=d5 n (v/10)
  rw [aV,bC]
  by_cases hi:i<n
  ·rw [List.getElem?_append_left (by omega),←bC,mE hi,Nat.div_div_eq_div_mul,←Nat.pow_succ',show (n-1-i).succ=n+1-1-i by omega]
  ·have e:i=n:=by omega
   subst e
   rw [List.getElem?_append_right (by omega),hl,Nat.sub_self,kI,Nat.sub_self,Nat.pow_zero,Nat.div_one]
   rfl
theorem kU (h:c∈aV n v):48≤c∧c≤57:=by
 induction n generalizing v with
 | zero=>cases h
 | succ n ih=>
  rw [aV] at h
  rcases nI.1 h with h | h
  ·exact ih h
  ·rw [jI] at h;omega
theorem D8 (h:48≤c∧c≤57):dv c=c-48:=by unfold dv;rw [if_pos h]
theorem LZ : ∀ {n v : Nat}, v < 10 ^ n → cG 10 ((aV n v).map dv) = v
  | 0, v, h => by rw [Nat.pow_zero] at h; have : v = 0 := by omega
                  subst this; rfl
  | n + 1, v, h => by
    rw [aV, List.map_append, iN, j7, sP, LZ (by rw [cB] at h; omega), D8 ⟨by omega, by omega⟩]
    omega
theorem CS (h:l.length=r.length)(hg:∀i,i<l.length→l.getD i 0=r.getD i 0):l=r:=by
 refine List.ext_getElem h fun i h1 h2=>?_
 have:=hg i h1
 rw [bC,bC,cJ h1,cJ h2] at this
 exact this
theorem rX (v k:Nat):v=v/10^(k+1)*10^(k+1)+v/10^k%10*10^k+v%10^k:=by
 have h1:=iA v (10^k)
 have h2:=iA (v/10^k) 10
 rw [Nat.div_div_eq_div_mul,←cB] at h2
 have h3:v/10^(k+1)*10^(k+1)=10^k*(10*(v/10^(k+1))):=by rw [cB];grind
 have h4:10^k*(v/10^k)=10^k*(10*(v/10^(k+1)))+10^k*(v/10^k%10):=by
  rw [←Nat.mul_add,h2]
 have h5:=bY (10^k) (v/10^k%10)
 omega
theorem tP {h l:Nat}(hl:l<10^k)(hc:c<10:=by omega):(h*10^(k+1)+c*10^k+l)/10^j%10=if j=k then c else if k<j then h/10^(j-k-1)%10 else l/10^j%10:=by
 have hp:0<10^k:=eP (by decide)
 have e0:h*10^(k+1)+c*10^k+l=(h*10+c)*10^k+l:=by rw [cB];grind
 have hd:((h*10+c)*10^k+l)/10^k=h*10+c:=by
  rw [bY,nH hp,Nat.div_eq_of_lt hl,dN]
 rw [e0]
 split
 ·rename_i e;subst e
  rw [hd];omega
 ·split
  ·rename_i h1 h2
   obtain⟨d,rfl⟩:∃d,j=k+1+d:=⟨j-k-1,by omega⟩
   rw [show k+1+d-k-1=d by omega,bX,cB,bH,←Nat.div_div_eq_div_mul,hd,←Nat.div_div_eq_div_mul,show (h*10+c)/10=h by omega]
  ·rename_i h1 h2
   obtain⟨d,rfl⟩:∃d,k=j+1+d:=⟨k-j-1,by omega⟩
   have hj:0<10^j:=eP (by decide)
   have e:(h*10+c)*10^(j+1+d)+l=10^j*(10*((h*10+c)*10^d))+l:=by rw [bX,cB];grind
   rw [e,nH hj]
   omega
theorem DD (hk:k<n)(hc:c<10):(aV n v).set (n-1-k) (48+c)=aV n (v/10^(k+1)*10^(k+1)+c*10^k+v%10^k):=by
 refine CS (by rw [List.length_set,d5,d5]) fun i hi=>?_
 rw [List.length_set,d5] at hi
 have hl:v%10^k<10^k:=eO _ (eP (by decide))
 rw [mE hi,tP hl (hc:=hc)]
 by_cases e:n-1-k=i
 ·subst e
  rw [bC,List.getElem?_set_self (by rw [d5];omega),if_pos (by omega)];rfl
 ·rw [bC,List.getElem?_set_ne e,←bC,mE hi,if_neg (by omega)]
  have hv:=rX v k
  have:=tP (h:=v/10^(k+1)) (c:=v/10^k%10) (l:=v%10^k) (k:=k) (j:=n-1-i) hl
  rw [←hv,if_neg (by omega)] at this
  rw [this]
theorem PT (h9:v%10^k=10^k-1)(hc:v/10^k%10=9):v%10^(k+1)=10^(k+1)-1:=by
 have hp:0<10^k:=eP (by decide)
 have h1:=rX v k
 have h2:=iA v (10^(k+1))
 have h3:=bY (10^(k+1)) (v/10^(k+1))
 rw [hc,h9] at h1
 have h4:10^(k+1)=10*10^k:=by rw [cB];omega
 omega
theorem PV (h9:v%10^k=10^k-1)(hc:v/10^k%10<9)(hu:u=v-(10^k-1)):u/10^(k+1)*10^(k+1)+(v/10^k%10+1)*10^k+u%10^k=v+1∧u/10^k%10=v/10^k%10:=by
 have hp:0<10^k:=eP (by decide)
 have h1:=rX v k
 have eu:u=v/10^(k+1)*10^(k+1)+v/10^k%10*10^k+0:=by omega
 have hd:=fun j=>tP (h:=v/10^(k+1)) (c:=v/10^k%10) (l:=0) (k:=k) (j:=j) hp
 have h5:u/10^k%10=v/10^k%10:=by
  have:=hd k
  rw [←eu,if_pos rfl] at this;exact this
 have h6:u%10^k=0:=by
  rw [eu,dN,cB,←bH,kH,←dX]
  exact Nat.mul_mod_left _ _
 have h7:=rX u k
 rw [h5,h6] at h7
 have h8:(v/10^k%10+1)*10^k=v/10^k%10*10^k+10^k:=lZ _ _
 refine⟨by omega,h5⟩
theorem PS (h9:v%10^k=10^k-1)(hc:v/10^k%10=9)(hu:u=v-(10^k-1)):u/10^(k+1)*10^(k+1)+0*10^k+u%10^k=v-(10^(k+1)-1)∧u/10^k%10=9:=by
 have hp:0<10^k:=eP (by decide)
 have h1:=rX v k
 have eu:u=v/10^(k+1)*10^(k+1)+v/10^k%10*10^k+0:=by omega
 have hd:=fun j=>tP (h:=v/10^(k+1)) (c:=v/10^k%10) (l:=0) (k:=k) (j:=j) hp
 have h5:u/10^k%10=v/10^k%10:=by
  have:=hd k
  rw [←eu,if_pos rfl] at this;exact this
 have h6:u%10^k=0:=by
  rw [eu,dN,cB,←bH,kH,←dX]
  exact Nat.mul_mod_left _ _
 have h7:=rX u k
 rw [h5,h6,hc] at h7
 rw [hc] at h1
 have h4:10^(k+1)=10*10^k:=by rw [cB];omega
 refine⟨by omega,by omega⟩
theorem DE:aV n (v%10^n)=aV n v:=by
 refine CS (by rw [d5,d5]) fun i hi=>?_
 rw [d5] at hi
 rw [mE hi,mE hi]
 have hl:v%10^(n-1-i)<10^(n-1-i):=eO _ (eP (by decide))
 obtain⟨k,e⟩:∃k,k=n-1-i:=⟨_,rfl⟩
 rw [←e]
 obtain⟨d,rfl⟩:∃d,n=k+1+d:=⟨n-k-1,by omega⟩
 have h1:10^(k+1+d)=10^k*(10*10^d):=by rw [bX,cB];grind
 rw [h1,Nat.mod_mul_right_div_self,Nat.mod_mul_right_mod]
theorem uN:∀{n m:Nat},0<m→10^n≤m→m<10^(n+1)→bB 10 m=aV (n+1) m
 | 0,m,h0,h1,h2=>by
  have hm:m<10:=by simpa using h2
  have e:=M5 (b:=10) (v:=0) (d:=m) (by decide) hm (by omega)
  rw [Nat.zero_mul,f9] at e
  have e0:db 10 0= []:=rfl
  rw [bB,if_neg (by omega),e,e0]
  show [sgn m]= [48+m%10]
  rw [Nat.mod_eq_of_lt hm,sgn,if_pos hm]
 | n+1,m,h0,h1,h2=>by
  have hp:0<10^n:=eP (by decide)
  have hq1:10^n≤m/10:=by rw [cB] at h1;omega
  have hq2:m/10<10^(n+1):=by rw [cB] at h2;omega
  have ih:=uN (m:=m/10) (by omega) hq1 hq2
  have e:=M5 (b:=10) (v:=m/10) (d:=m%10) (by decide) (eO _ (by decide)) (by omega)
  rw [show m/10*10+m%10=m by omega] at e
  rw [bB,if_neg (by omega)] at ih
  rw [bB,if_neg (by omega),e,aV,←ih]
  show ((m%10)::db 10 (m/10)).reverse.map sgn=_
  rw [List.reverse_cons,List.map_append]
  show eE (db 10 (m/10))++ [sgn (m%10)]=_
  rw [sgn,if_pos (eO _ (by decide))]
theorem LW:∀m:Nat,0<m→∃n,10^n≤m∧m<10^(n+1):=by
 intro m
 induction m using Nat.strongRecOn with
 | _ m ih=>
  intro h
  by_cases h1:m<10
  ·exact⟨0,by rw [Nat.pow_zero];exact h,by simpa using h1⟩
  ·obtain⟨n,h2,h3⟩:=ih (m/10) (by omega) (by omega)
   refine⟨n+1,?_,?_⟩
   ·rw [cB];omega
   ·rw [cB];omega
def rn:List Nat→Nat
 | []=>0
 | c::r=>if 48≤c∧c≤57 then rn r+1 else 0
theorem kQ:∀l,rn l≤l.length
 | []=>b8 _
 | c::r=>by
  have:=kQ r
  unfold rn
  split <;> simp <;> omega
theorem C0:∀{l:List Nat}{i:Nat},i<rn l→48≤l.getD i 0∧l.getD i 0≤57
 | [],i,h=>absurd h (Nat.not_lt_zero _)
 | c::r,i,h=>by
  unfold rn at h
  split at h
  ·rename_i hc
   cases i with
   | zero=>exact hc
   | succ i=>simpa using C0 (l:=r) (i:=i) (by omega)
  ·exact absurd h (Nat.not_lt_zero _)
theorem HO:∀l:List Nat,¬(48≤l.getD (rn l) 0∧l.getD (rn l) 0≤57)
 | []=>by decide
 | c::r=>by
  have:=HO r
  unfold rn
  split
  ·simpa using this
  ·rename_i h;exact h
theorem sZ (hd:∀i,i<n→48≤l.getD i 0∧l.getD i 0≤57)(hs:¬(48≤l.getD n 0∧l.getD n 0≤57)):rn l=n:=by
 rcases Nat.lt_trichotomy (rn l) n with h | h | h
 ·exact absurd (hd _ h) (HO l)
 ·exact h
 ·exact absurd (C0 h) hs
theorem tL (h:l.length≤i:=by omega):l.getD i 0=0:=by
 rw [bC,List.getElem?_eq_none h];rfl
theorem iC:(l.drop k).getD i 0=l.getD (k+i) 0:=by
 simp only [bC,List.getElem?_drop]
theorem jF (h:i<l.length):l.getD i 0∈l:=by
 rw [bC,cJ h];exact List.getElem_mem h
theorem BZ (h:c∈l.take (rn l)):48≤c∧c≤57:=by
 obtain⟨i,hi,rfl⟩:=List.mem_iff_getElem.1 h
 rw [bJ] at hi
 have:=C0 (l:=l) (i:=i) (by omega)
 rw [List.getElem_take]
 rw [bC,cJ (by omega)] at this
 exact this
def aZ (l:List Nat):Bool:=decide (l.getD 0 0=45)
def eQ (l:List Nat):List Nat:=if l.getD 0 0=45∨l.getD 0 0=43 then l.drop 1 else l
theorem uX (l:List Nat):(eQ l).length≤l.length:=by
 unfold eQ;split
 ·rw [cV];omega
 ·exact b8 _
theorem BW (h:c∈eQ l):c∈l:=by
 unfold eQ at h;split at h
 ·exact gK h
 ·exact h
def jO (l:List Nat):Option (Bool×List Nat):=
 if l.getD 0 0=101∨l.getD 0 0=69 then
  (if rn (eQ (l.drop 1))=0 then none else if (eQ (l.drop 1)).drop (rn (eQ (l.drop 1)))= [] then some (aZ (l.drop 1),(eQ (l.drop 1)).take (rn (eQ (l.drop 1)))) else none)
 else if l= [] then some (false,[]) else none
def lT (l:List Nat):Option (List Nat×Nat×Bool×List Nat):=
 if l.getD 0 0=46 then
  (if rn (l.drop 1)=0 then none else (jO (l.drop (rn (l.drop 1)+1))).map fun x=>((l.take (rn (l.drop 1)+1)).drop 1,rn (l.drop 1),x.1,x.2))
 else (jO l).map fun x=>([],0,x.1,x.2)
def fO (l:List Nat):Option (List Nat×Nat×Bool×List Nat):=
 if rn (eQ l)=0 then none else (lT ((eQ l).drop (rn (eQ l)))).map fun x=>((eQ l).take (rn (eQ l))++x.1,x.2.1,x.2.2.1,x.2.2.2)
def Digs (l:List Nat):Prop:=∀c,c∈l→48≤c∧c≤57
theorem Digs.app {a b:List Nat}(ha:Digs a)(hb:Digs b):Digs (a++b):=fun c hc=>(nI.1 hc).elim (ha c) (hb c)
theorem Digs.good (h:Digs l)(h0:l≠ []):mG 10 l:=⟨h0,fun c hc=>by rw [D8 (h c hc)];have:=h c hc;omega⟩
theorem ME {x:Bool×List Nat}(h:jO l=some x):Digs x.2∧x.2.length≤l.length:=by
 unfold jO at h
 split at h
 ·split at h
  ·cases h
  ·split at h
   ·rw [fL] at h;subst h
    refine⟨fun c hc=>BZ hc,?_⟩
    have:=uX (l.drop 1)
    rw [cV] at this
    simp only [bJ]
    omega
   ·cases h
 ·split at h
  ·rw [fL] at h;subst h;exact⟨fun c hc=>(by cases hc),by simp⟩
  ·cases h
theorem a0O {x:List Nat×Nat×Bool×List Nat}(h:lT l=some x):Digs x.1∧x.1.length=x.2.1∧Digs x.2.2.2∧x.1.length+x.2.2.2.length≤l.length:=by
 unfold lT at h
 split at h
 ·split at h
  ·cases h
  ·obtain⟨y,hy,rfl⟩:=Option.map_eq_some_iff.1 h
   obtain⟨h1,h2⟩:=ME hy
   have h3:=kQ (l.drop 1)
   rw [cV] at h3
   rw [cV] at h2
   have e:(l.take (rn (l.drop 1)+1)).drop 1=(l.drop 1).take (rn (l.drop 1)):=by rw [List.drop_take];rfl
   refine⟨fun c hc=>BZ (e▸hc),?_,h1,?_⟩
   ·simp only [cV,bJ];omega
   ·simp only [cV,bJ];omega
 ·obtain⟨y,hy,rfl⟩:=Option.map_eq_some_iff.1 h
  obtain⟨h1,h2⟩:=ME hy
  exact⟨fun c hc=>(by cases hc),rfl,h1,by simpa using h2⟩
theorem MD {dg:List Nat}(h:fO l=some (dg,bh,dn,pw)):Digs dg∧dg≠ []∧Digs pw∧bh≤l.length∧dg.length≤l.length∧pw.length≤l.length:=by
 unfold fO at h
 split at h
 ·cases h
 ·rename_i h0
  obtain⟨y,hy,e⟩:=Option.map_eq_some_iff.1 h
  obtain⟨h1,h2,h3,h4⟩:=a0O hy
  have hr:=uX l
  have hn:=kQ (eQ l)
  rw [cV] at h4
  simp only [Prod.mk.injEq] at e
  obtain⟨rfl,rfl,rfl,rfl⟩:=e
  refine⟨Digs.app (fun c hc=>BZ hc) h1,fun e=>?_,h3,by omega,?_,by omega⟩
  ·have:=congrArg List.length e
   simp only [cL,bJ,List.length_nil] at this
   omega
  ·simp only [cL,bJ];omega
theorem a0N (h:l.getD 0 0≠46):lT l=(jO l).map fun x=>([],0,x.1,x.2):=by unfold lT;rw [if_neg h]
theorem Q6:Digs (bB 10 m)∧bB 10 m≠ []:=by
 by_cases h:m=0
 ·subst h;exact⟨by unfold Digs;decide,by decide⟩
 ·obtain⟨n,h1,h2⟩:=LW m (by omega)
  rw [uN (by omega) h1 h2]
  exact⟨fun c hc=>kU hc,fun e=>by have:=congrArg List.length e;rw [d5] at this;simp at this⟩
theorem PQ:cG 10 ((bB 10 m).map dv)=m:=PK (by decide) (by decide)
set_option maxHeartbeats 4000000 in
theorem RU {w:a6}{na ca:Nat}(hx:Zi w sa Aa na ca x)(la:na≤4194304)(hS:Signs w):
    aO aF 40 #[.agg #[.bool sa,.slice Aa na ca]] w (Gv w (Is (.string (a8 (rI x))))):=by
 have Lx:ln x≤4194304:=aG hx.ln la
 refine bK Tryz.func40 rfl (n:=13) rfl (bq rfl) (args:= [.agg #[.bool sa,.slice Aa na ca]]) (bE [(0,.agg #[.bool sa,.slice Aa na ca])] ⟨rfl,trivial⟩ (sr (bx [.bool sa,.slice Aa na ca] (Ext.refl w) rfl rfl rfl fun g1 v2 hb4 ge5 e3 hw1=>(mv 1 rfl (a0 (sr (pf g1 1 rfl (aS rfl rfl (aY eM hb4 rfl) (cl (vs:= [.slice Aa na ca]) hw1 (BQ (hS.ext hw1) (hx.ext hw1).wi (by omega)) rfl (by kernel_rfl) fun xr8 v6 r8 e7 hw2=>?_)))))))))
 obtain rfl:=r8
 refine mv 1 rfl (a0 (aA (aA ?_)))
 by_cases hx0:x<0
 · 
  refine a7 (lo bO (hb4.ext e7) [.bool sa,.slice Aa na ca] rfl rfl rfl (cl (vs:= [.agg #[.bool sa,.slice Aa na ca]]) hw2 (o8 (hx.ext hw2) (bQ la rfl)) rfl (by kernel_rfl) fun xr11 v9 r11 e10 hw3=>?_))
  obtain rfl:=r11
  refine aB rfl rfl rfl true (GK hx0) (a0 (aP rfl (sr (mv 1 rfl (bS rfl rfl rfl (r:= .string (a8 (([45])++(bB 10 (Int.natAbs x))))) rfl (fun w=>d8 (a:= [45]) (b:=bB 10 (Int.natAbs x)) (by have:=pZ (b:=10) (show (wd (Int.natAbs x)).length≤4194304 from Lx);show 1+_≤_;omega)) (mv 1 rfl (a0 (aM (bL (aL [.string (a8 (([45])++(bB 10 (Int.natAbs x))))] rfl ⟨rfl,trivial⟩ ?_))))))))))
  exact⟨_,rfl,(show Value.string _= .string (a8 (rI x)) by rw [rI,if_pos hx0]),hw3⟩
 · 
  refine a7 (lo bO (hb4.ext e7) [.bool sa,.slice Aa na ca] rfl rfl rfl (cl (vs:= [.agg #[.bool sa,.slice Aa na ca]]) hw2 (o8 (hx.ext hw2) (bQ la rfl)) rfl (by kernel_rfl) fun xr14 v12 r14 e13 hw3=>?_))
  obtain rfl:=r14
  refine aB rfl rfl rfl false (GL (by omega)) (a0 (aI rfl (aN (aD (sr (mv 2 rfl (a0 (aM (aL [.string (a8 (bB 10 (Int.natAbs x)))] rfl ⟨rfl,trivial⟩ ?_)))))))))
  exact⟨_,rfl,(show Value.string _= .string (a8 (rI x)) by rw [rI,if_neg hx0]),hw3⟩
section
variable {P:cD}{Q:Exit→Act→a6→Prop}{n:Nat}{l:Fr}{w:a6}{ops:Array Oper}{rest:List Oper}{d:Nat}{ty:aT}{pos:String}{af:Array Edge}{gd:Option (Nat×Bool)}
theorem vU {a:cS→aH}{x y:cS}{t:aT}(hx:a x= .string (a8 bs))(hy:a y= .int .i64 (i:Int))(ht:P.underlying t=some .string)(hi:i≤bs.length:=by omega):
  (execOp a ⟨dst,.slice t x (some y) none none,ty,pos,af,gd⟩).run P w= .ok (.value (.string (a8 (bs.drop i)))) w:=by
 have e:(Instr.sliceAt t (a x) ((some y).map a) (Option.map a none) (Option.map a none)).run P w= .ok (.string (a8 (bs.drop i))) w:=by
  show (Instr.sliceAt t (a x) (some (a y)) none none).run P w=_
  rw [hx,hy,xX ht,run_slice_string_l (ht:=ht) (kl:= .i64) (l:=(i:Int)) (h0:=by omega) (h1:=by rw [cM];omega),gV,G9]
 show ((Instr.sliceAt t (a x) ((some y).map a) (Option.map a none) (Option.map a none)>>=fun r=>pure (fZ r):Sem Next)).run P w=_
 rw [cK,e];rfl
theorem oN {x y z:cS}{t:aT}(hw:dI ops l gd=some true)(hx:bZ l x=some (.string (a8 bs)))(hy:bZ l y=some (.int .i64 (i:Int)))(hz:bZ l z=some (.int .i64 (j:Int)))(ht:P.underlying t=some .string)(h:wl P ops Q n rest ((d,.string (a8 ((bs.take j).drop i)))::l) w)(hij:i≤j:=by omega)(hj:j≤bs.length:=by omega)(hn:d<n:=by decide):wl P ops Q n (⟨some d,.slice t x (some y) (some z) none,ty,pos,af,gd⟩::rest) l w:=
 fJ hw hn (fun a' ha=>by
  have e:(Instr.sliceAt t (a'.eval x) ((some y).map a'.eval) ((some z).map a'.eval) (Option.map a'.eval none)).run P w= .ok (.string (a8 ((bs.take j).drop i))) w:=by
   show (Instr.sliceAt t (a'.eval x) (some (a'.eval y)) (some (a'.eval z)) none).run P w=_
   rw [ha.ev hx,ha.ev hy,ha.ev hz,xX ht,run_slice_string w t (a8 bs) .i64 .i64 (i:Int) (j:Int) ht (by omega) (by omega) (by rw [cM];omega),gV,gV,BJ]
  show ((Instr.sliceAt t (a'.eval x) ((some y).map a'.eval) ((some z).map a'.eval) (Option.map a'.eval none)>>=fun r=>pure (fZ r):Sem Next)).run P w=_
  rw [cK,e];rfl) h
end
theorem a1C {A B:Int}(ha:A=(a:Int))(hb:B=(b:Int))(h:a+b≤255):fQ .add .u8 A B=some ((a+b:Nat):Int):=by
 subst ha hb;simp only [fQ,fL];rw [show (a:Int)+(b:Int)=((a+b:Nat):Int) by omega,IntWalk.u8_in _ ⟨by omega,by omega⟩]
theorem FI {x:Nat}(hx:x≤255)(P:cD)(t:aT)(w:a6):(binOp .and t (.int .u8 (x:Int)) (.int .u8 1)).run P w= .ok (.int .u8 ((x%2:Nat):Int)) w:=by
 have h:∀x:Nat,x<256→bits BinOp.and IntKind.u8 ((x:Nat):Int) 1=((x%2:Nat):Int):=by decide+kernel
 have e2:(binOp .and t (.int .u8 (x:Int)) (.int .u8 1)).run P w= .ok (.int .u8 (bits BinOp.and IntKind.u8 (x:Int) 1)) w:=rfl
 rw [e2,h x (by omega)]
theorem zT {w:a6}(h:Bk w g 5 (l.map B8))(hl:l.length=n)(hd:∀x,x∈l→x<b)(hn:n≤1099511627776:=by omega):Rb b w (some ⟨g,0,none⟩) n n l:=
 Own.rb (lb:=0) (Own.mk_ (bW _) h (b8 _) (by rw [eY];omega) (by rw [List.length_map,hl,cI]) (by rw [cI,List.take_of_length_le (by rw [List.length_map,hl];exact b8 _)])) hd
theorem SK {P:cD}{w:a6}(h:Rv w 1 A n c (bs.map B8)):(Conv.bytesToString (.slice A n c)).run P w= .ok (.string (a8 bs)) w:=by
 have hn:n=bs.length:=by have:=h.len;rw [List.length_map] at this;omega
 cases A with
 | none=>
  cases bs with
  | nil=>rw [hn];rfl
  | cons x r=>
   obtain⟨a,ha,_⟩:=h.get 0 (by rw [hn];simp)
   cases ha
 | some a=>
  have hl:=xY (P:=P) (w:=w) (p:=a) (bs.map B8) 0 #[] (fun j hj=>by
   rw [List.length_map] at hj
   obtain⟨a',ha,hc⟩:=h.get j (by omega)
   cases ha
   rw [f9];exact hc)
  have hr:=run_bytesToString (P:=P) w a n c (bs.map fun x:Nat=>(x:Int)) (by
   rw [List.length_map,←hn] at hl
   unfold loadCells
   rw [hl]
   congr 1
   simp [B8,Function.comp_def])
  rw [hr,C8]
  rw [show ByteArray.empty.data= #[] from rfl,Array.empty_append]
  rfl
theorem wX {Q:Exit→Act→a6→Prop}{l:Fr}{w:a6}{x:cS}(hw:dI ops l gd=some true)(hx:bZ l x=some (.slice A k c))(ho:Rv w 1 A k c (bs.map B8))(h:wl aF ops Q n rest ((d,.string (a8 bs))::l) w)(hn:d<n:=by decide):wl aF ops Q n (⟨some d,.convert 183 9 x,ty,pos,af,gd⟩::rest) l w:=by
 refine fJ hw hn (fun a' ha=>?_) h
 have e:(convert 183 9 (a'.eval x)).run aF w= .ok (.string (a8 bs)) w:=by
  rw [ha.ev hx]
  have h1:(underlying 183).run aF w= .ok (.slice 5) w:=kZ fM w
  have h2:(underlying 9).run aF w= .ok .string w:=kZ Tryz.underlying9 w
  have h3:(underlying 5).run aF w= .ok (.int .u8) w:=kZ Tryz.underlying5 w
  unfold convert
  simp only [cK,h1,h2,h3,Result.andThen_ok]
  exact SK ho
 show ((convert 183 9 (a'.eval x)>>=fun r=>pure (fZ r):Sem Next)).run aF w=_
 rw [cK,e];rfl
theorem fR:AggT aF 174 5:=⟨fun _=>by kernel_rfl,fun _=>by kernel_rfl⟩
set_option maxHeartbeats 4000000 in
theorem Z7 {w:a6}(hbs:∀b,b∈bs→b<256)(hlen:bs.length≤1073741824):
    aO aF 252 #[.string (a8 bs)] w (Gv w (Is (.int .i64 ((rn bs:Nat):Int)))):=by
 refine bK Tryz.func252 rfl (n:=23) rfl (bq rfl) (args:= [.string (a8 bs)]) (bE [(0,.string (a8 bs))] ⟨rfl,trivial⟩ (sr (mv 1 rfl (a0 (sr (mv 1 rfl (a0 (aA (bG ?_)))))))))
 refine d4 (T:=a6×Nat)
  (fun⟨wr,i⟩=> [(0,.string (a8 bs)),(3,.int .i64 i)])
  (fun⟨wr,i⟩=>wr)
  (fun⟨wr,i⟩=>(Ext w wr)∧(i≤bs.length)∧(∀j,j<i→48≤bs.getD j 0∧bs.getD j 0≤57))
  (fun⟨wr,i⟩=>bs.length-i)
  (⟨w,0⟩:a6×Nat) ⟨(Ext.refl w),(bW _),(fun j hj=>absurd hj (Nat.not_lt_zero _))⟩ rfl ⟨rfl,rfl,trivial⟩ ?_
 rintro⟨wr,i⟩ ⟨hw1,hi,hd⟩
 refine cC [(0,.string (a8 bs)),(3,.int .i64 i)] wr rfl ⟨rfl,rfl,trivial⟩ (aA (aA ?_))
 by_cases hlt:i<bs.length
 · 
  have hc255:bs.getD i 0<256:=hbs _ (jF hlt)
  by_cases hc1:bs.getD i 0≥48
  · 
   by_cases hc2:bs.getD i 0≤57
   · 
    refine a7 (mv 2 rfl (bD rfl rfl (v:= .int .i64 (((a8 bs).size:Nat):Int)) (v':= .int .i64 ((bs.length:Nat):Int)) (by rw [cM]) (aB rfl rfl rfl true (dB (a:=i) (b:=bs.length) rfl rfl) (mv 3 rfl (dK (bs:=bs) (i:=i) rfl rfl rfl Tryz.underlying9 hbs (aB rfl rfl rfl true (eI (a:=bs.getD i 0) (b:=48) rfl rfl) (pu (v:= .bool true) rfl (mv 3 rfl (dK (bs:=bs) (i:=i) rfl rfl rfl Tryz.underlying9 hbs (aB rfl rfl rfl true (lV (a:=bs.getD i 0) (b:=57) rfl rfl) (pu (v:= .bool true) rfl (a0 (aP rfl ?_)))))))))))))
    refine aN (aD (bG (a7 (mv 1 rfl (aE rfl rfl rfl ((i+1:Nat):Int) (bF (a:=i) (b:=1) rfl rfl) (mv 1 rfl (aU (cA (cH (⟨wr,i+1⟩:a6×Nat) ⟨hw1,(by omega),(fun j hj=>by by_cases e:j=i;(· subst e;exact⟨hc1,hc2⟩);(· exact hd j (by omega)))⟩ (show bs.length-(i+1)<bs.length-i by omega) rfl ⟨rfl,rfl,trivial⟩)))))))))
   · 
    refine a7 (mv 2 rfl (bD rfl rfl (v:= .int .i64 (((a8 bs).size:Nat):Int)) (v':= .int .i64 ((bs.length:Nat):Int)) (by rw [cM]) (aB rfl rfl rfl true (dB (a:=i) (b:=bs.length) rfl rfl) (mv 3 rfl (dK (bs:=bs) (i:=i) rfl rfl rfl Tryz.underlying9 hbs (aB rfl rfl rfl true (eI (a:=bs.getD i 0) (b:=48) rfl rfl) (pu (v:= .bool true) rfl (mv 3 rfl (dK (bs:=bs) (i:=i) rfl rfl rfl Tryz.underlying9 hbs (aB rfl rfl rfl false (lW (a:=bs.getD i 0) (b:=57) rfl rfl) (pu (v:= .bool false) rfl (a0 (aI rfl ?_)))))))))))))
    refine cR (cN (cP (cQ (aD (sr (mv 2 rfl (a0 (aM (aL [.int .i64 i] rfl ⟨rfl,trivial⟩ ?_)))))))))
    exact⟨_,rfl,(show bV .i64 _=_ by rw [sZ hd (fun h=>hc2 h.2)]),hw1⟩
  · 
   refine a7 (mv 2 rfl (bD rfl rfl (v:= .int .i64 (((a8 bs).size:Nat):Int)) (v':= .int .i64 ((bs.length:Nat):Int)) (by rw [cM]) (aB rfl rfl rfl true (dB (a:=i) (b:=bs.length) rfl rfl) (mv 3 rfl (dK (bs:=bs) (i:=i) rfl rfl rfl Tryz.underlying9 hbs (aB rfl rfl rfl false (iF (a:=bs.getD i 0) (b:=48) rfl rfl) (pu (v:= .bool false) rfl (mv 5 rfl (pu (v:= .bool false) rfl (a0 (aI rfl (cR (cN ?_)))))))))))))
   refine cP (cQ (aD (sr (mv 2 rfl (a0 (aM (aL [.int .i64 i] rfl ⟨rfl,trivial⟩ ?_)))))))
   exact⟨_,rfl,(show bV .i64 _=_ by rw [sZ hd (fun h=>hc1 h.1)]),hw1⟩
 · 
  refine a7 (mv 2 rfl (bD rfl rfl (v:= .int .i64 (((a8 bs).size:Nat):Int)) (v':= .int .i64 ((bs.length:Nat):Int)) (by rw [cM]) (aB rfl rfl rfl false (cX (a:=i) (b:=bs.length) rfl rfl) (mv 5 rfl (pu (v:= .bool false) rfl (mv 5 rfl (pu (v:= .bool false) rfl (a0 (aI rfl (cR (cN (cP (cQ ?_)))))))))))))
  refine aD (sr (mv 2 rfl (a0 (aM (aL [.int .i64 i] rfl ⟨rfl,trivial⟩ ?_)))))
  exact⟨_,rfl,(show bV .i64 _=_ by rw [sZ hd (by rw [tL];decide)]),hw1⟩
theorem zC {w:a6}(hbs:∀b,b∈bs→b<256)(hlen:bs.length≤1073741824)(h:n=rn bs):aO aF 252 #[.string (a8 bs)] w (Gv w (Is (.int .i64 n))):=by subst h;exact Z7 hbs hlen
set_option maxHeartbeats 4000000 in
theorem Z6 {w:a6}(hbs:∀b,b∈bs→b<256):
    aO aF 251 #[.string (a8 bs)] w (Gv w (T2 (Is (.bool (aZ bs))) (Is (.string (a8 (eQ bs)))))):=by
 refine bK Tryz.func251 rfl (n:=22) rfl (bq rfl) (args:= [.string (a8 bs)]) (bE [(0,.string (a8 bs))] ⟨rfl,trivial⟩ (sr (mv 2 rfl (a0 (aA (aA ?_))))))
 by_cases h0:bs= []
 · 
  have hl0:bs.length=0:=by rw [h0];rfl
  refine a7 (mv 1 rfl (fV (a:=bs) (b:= []) rfl rfl rfl hbs false (xJ (h0)) (mv 9 rfl (pu (v:= .bool false) rfl (a0 (aI rfl (aN (aD (sr (mv 3 rfl (a0 (aM (aL [F0,.string (a8 bs)] rfl ⟨rfl,rfl,trivial⟩ ?_)))))))))))))
  exact⟨_,rfl,⟨_,_,rfl,(show Value.bool _=_ by rw [h0];rfl),(show Value.string _=_ by rw [h0];rfl)⟩,(Ext.refl w)⟩
 · 
  have hl0:0<bs.length:=List.length_pos_iff.2 h0
  have hc255:bs.getD 0 0<256:=hbs _ (jF hl0)
  by_cases h45:bs.getD 0 0=45
  · 
   refine a7 (mv 1 rfl (fV (a:=bs) (b:= []) rfl rfl rfl hbs true (oS (h0)) (mv 2 rfl (dK (bs:=bs) (i:=0) rfl rfl rfl Tryz.underlying9 hbs (aB rfl rfl rfl true (dA (a:=bs.getD 0 0) (b:=45) rfl rfl) (mv 4 rfl (pu (v:= .bool true) rfl (pu (v:= .bool true) rfl (a0 (aP rfl (aA ?_)))))))))))
   refine gR eZ 5 [3,4] [Is (.string (a8 bs)),Is (.int .u8 ((bs.getD 0 0:Nat):Int)),Is (.bool true),Is (.string (a8 bs)),Is (.string (a8 (bs.drop 1)))] [[],[0],[1],[],[3]] [[],[0],[0,1],[],[3],[0,1,2],[0,1,2,3,4,5]] rfl
    (aR rfl rfl (aK rfl rfl ?_) (aR rfl rfl (aK rfl rfl ?_) (aR rfl rfl (aK rfl rfl ?_) (lO rfl rfl (lP rfl ?_) (lO rfl rfl (lP rfl ?_) gP))))) ?_
   · 
    exact fun _ _=>aJ (mv 1 rfl (aQ rfl (Ext.refl _) rfl))
   · 
    exact fun _ _=>dk rfl rfl (aJ (dK (bs:=bs) (i:=0) rfl rfl rfl Tryz.underlying9 hbs (aQ rfl (Ext.refl _) rfl)))
   · 
    exact fun _ _=>dk rfl rfl (aJ (aB rfl rfl rfl true (dA (a:=bs.getD 0 0) (b:=45) rfl rfl) (aQ rfl (Ext.refl _) rfl)))
   · 
    exact fun _ _=>aJ (⟨.string (a8 bs),rfl,rfl,fun _=>by kernel_rfl,rfl⟩)
   · 
    exact fun _ _=>dk rfl rfl (aJ (⟨.string (a8 (bs.drop 1)),rfl,rfl,fun _=>vU (bs:=bs) (i:=1) rfl rfl Tryz.underlying9,rfl⟩))
   · 
    intro v26 e27
    have hw1:=(Ext.refl w).trans e27
    refine dk rfl rfl (dk rfl rfl (dk rfl rfl (dk rfl rfl (dk rfl rfl (aJ (mv 2 rfl (aU (gQ (aD (aM (bL (aL [.bool true,.string (a8 (bs.drop 1))] rfl ⟨rfl,rfl,trivial⟩ ?_))))))))))))
    exact⟨_,rfl,⟨_,_,rfl,(show Value.bool true=_ by unfold aZ;rw [decide_eq_true h45]),(show Value.string _=_ by unfold eQ;rw [if_pos (cE h45)])⟩,hw1⟩
  · 
   by_cases h43:bs.getD 0 0=43
   · 
    refine a7 (mv 1 rfl (fV (a:=bs) (b:= []) rfl rfl rfl hbs true (oS (h0)) (mv 2 rfl (dK (bs:=bs) (i:=0) rfl rfl rfl Tryz.underlying9 hbs (aB rfl rfl rfl false (dC (a:=bs.getD 0 0) (b:=45) rfl rfl) (mv 2 rfl (dK (bs:=bs) (i:=0) rfl rfl rfl Tryz.underlying9 hbs (aB rfl rfl rfl true (dA (a:=bs.getD 0 0) (b:=43) rfl rfl) (pu (v:= .bool true) rfl (pu (v:= .bool true) rfl (a0 (aP rfl (aA ?_)))))))))))))
    refine gR eZ 5 [3,4] [Is (.string (a8 bs)),Is (.int .u8 ((bs.getD 0 0:Nat):Int)),Is (.bool false),Is (.string (a8 bs)),Is (.string (a8 (bs.drop 1)))] [[],[0],[1],[],[3]] [[],[0],[0,1],[],[3],[0,1,2],[0,1,2,3,4,5]] rfl
     (aR rfl rfl (aK rfl rfl ?_) (aR rfl rfl (aK rfl rfl ?_) (aR rfl rfl (aK rfl rfl ?_) (lO rfl rfl (lP rfl ?_) (lO rfl rfl (lP rfl ?_) gP))))) ?_
    · 
     exact fun _ _=>aJ (mv 1 rfl (aQ rfl (Ext.refl _) rfl))
    · 
     exact fun _ _=>dk rfl rfl (aJ (dK (bs:=bs) (i:=0) rfl rfl rfl Tryz.underlying9 hbs (aQ rfl (Ext.refl _) rfl)))
    · 
     exact fun _ _=>dk rfl rfl (aJ (aB rfl rfl rfl false (dC (a:=bs.getD 0 0) (b:=45) rfl rfl) (aQ rfl (Ext.refl _) rfl)))
    · 
     exact fun _ _=>aJ (⟨.string (a8 bs),rfl,rfl,fun _=>by kernel_rfl,rfl⟩)
    · 
     exact fun _ _=>dk rfl rfl (aJ (⟨.string (a8 (bs.drop 1)),rfl,rfl,fun _=>vU (bs:=bs) (i:=1) rfl rfl Tryz.underlying9,rfl⟩))
    · 
     intro v78 e79
     have hw1:=(Ext.refl w).trans e79
     refine dk rfl rfl (dk rfl rfl (dk rfl rfl (dk rfl rfl (dk rfl rfl (aJ (mv 2 rfl (aU (gQ (aD (aM (bL (aL [F0,.string (a8 (bs.drop 1))] rfl ⟨rfl,rfl,trivial⟩ ?_))))))))))))
     exact⟨_,rfl,⟨_,_,rfl,(show Value.bool false=_ by unfold aZ;rw [decide_eq_false (by omega)]),(show Value.string _=_ by unfold eQ;rw [if_pos (bR h43)])⟩,hw1⟩
   · 
    refine a7 (mv 1 rfl (fV (a:=bs) (b:= []) rfl rfl rfl hbs true (oS (h0)) (mv 2 rfl (dK (bs:=bs) (i:=0) rfl rfl rfl Tryz.underlying9 hbs (aB rfl rfl rfl false (dC (a:=bs.getD 0 0) (b:=45) rfl rfl) (mv 2 rfl (dK (bs:=bs) (i:=0) rfl rfl rfl Tryz.underlying9 hbs (aB rfl rfl rfl false (dC (a:=bs.getD 0 0) (b:=43) rfl rfl) (pu (v:= .bool false) rfl (pu (v:= .bool false) rfl (a0 (aI rfl (aN ?_)))))))))))))
    refine aD (sr (mv 3 rfl (a0 (aM (aL [F0,.string (a8 bs)] rfl ⟨rfl,rfl,trivial⟩ ?_)))))
    exact⟨_,rfl,⟨_,_,rfl,(show Value.bool false=_ by unfold aZ;rw [decide_eq_false h45]),(show Value.string _=_ by unfold eQ;rw [if_neg (by omega)])⟩,(Ext.refl w)⟩
theorem D0 {w:a6}{t:List Nat}(hbs:∀b,b∈bs→b<256)(h:t=eQ bs):aO aF 251 #[.string (a8 bs)] w (Gv w (T2 (Is (.bool (aZ bs))) (Is (.string (a8 t))))):=by subst h;exact Z6 hbs
theorem DR (o:Option (Bool×List Nat))(a:List Nat):(o.map fun x=>(([]:List Nat),(0:Nat),x.1,x.2)).map (fun x=>(a++x.1,x.2.1,x.2.2.1,x.2.2.2))=o.map fun x=>(a,0,x.1,x.2):=by cases o <;> simp
theorem MC (o:Option (Bool×List Nat))(a b:List Nat)(m:Nat):(o.map fun x=>(b,m,x.1,x.2)).map (fun x=>(a++x.1,x.2.1,x.2.2.1,x.2.2.2))=o.map fun x=>(a++b,m,x.1,x.2):=by cases o <;> simp
def CutR (bs:List Nat)(v:aH)(_:a6):Prop:=match fO bs with
 | none=>∃(ng:Bool) (dg:List Nat) (bh:Nat) (dn:Bool) (pw:List Nat),v= .tuple #[.agg #[.bool ng,.string (a8 dg),.int .i64 bh,.bool dn,.string (a8 pw)],.bool false]
 | some x=>v= .tuple #[.agg #[.bool (aZ bs),.string (a8 x.1),.int .i64 ((x.2.1:Nat):Int),.bool x.2.2.1,.string (a8 x.2.2.2)],.bool true]
theorem CutR.none_ (ng:Bool)(dg:List Nat)(bh:Nat)(dn:Bool)(pw:List Nat){w:a6}(h:fO bs=none):CutR bs (.tuple #[.agg #[.bool ng,.string (a8 dg),.int .i64 bh,.bool dn,.string (a8 pw)],.bool false]) w:=by unfold CutR;rw [h];exact⟨_,_,_,_,_,rfl⟩
theorem CutR.some_ {x:List Nat×Nat×Bool×List Nat}{v:aH}{w:a6}(h:fO bs=some x)(hv:v= .tuple #[.agg #[.bool (aZ bs),.string (a8 x.1),.int .i64 ((x.2.1:Nat):Int),.bool x.2.2.1,.string (a8 x.2.2.2)],.bool true]):CutR bs v w:=by unfold CutR;rw [h];exact hv
set_option maxHeartbeats 4000000 in
theorem LF {w:a6}(hbs:∀b,b∈bs→b<256)(hlen:bs.length≤1073741824):
    aO aF 211 #[.string (a8 bs)] w (Gv w (CutR bs)):=by
 refine bK Tryz.func211 rfl (n:=85) rfl (bq rfl) (args:= [.string (a8 bs)]) (bE [(0,.string (a8 bs))] ⟨rfl,trivial⟩ (sr (al [F0,.string (a8 []),I0,F0,.string (a8 [])] (Ext.refl w) (fun _=>by kernel_rfl) rfl fun g1 v2 hb4 ge5 e3 hw1=>(mv 1 rfl (a0 (sr (kW [F0,.string (a8 []),I0,F0,.string (a8 [])] hw1 hb4.lt (fun _=>by kernel_rfl) rfl fun g6 v7 hb9 ge10 q11 e8 hw2=>(a0 (aA ?_)))))))))
 obtain⟨s1,hs1⟩:∃s,s=eQ bs:=⟨_,rfl⟩
 obtain⟨n1,hn1⟩:∃n,n=rn s1:=⟨_,rfl⟩
 have h1b:∀b,b∈s1→b<256:=fun b hb=>hbs b (BW (hs1▸hb))
 have h1l:s1.length≤1073741824:=aG (hs1▸uX bs) hlen
 have hn1l:n1≤s1.length:=hn1▸kQ s1
 obtain⟨s2,hs2⟩:∃s,s=s1.drop n1:=⟨_,rfl⟩
 have h2b:∀b,b∈s2→b<256:=fun b hb=>h1b b (gK (hs2▸hb))
 have h2l:s2.length≤1073741824:=by rw [hs2,cV];omega
 have hF:fO bs=if n1=0 then none else (lT s2).map fun x=>(s1.take n1++x.1,x.2.1,x.2.2.1,x.2.2.2):=by unfold fO;rw [←hs1,←hn1,←hs2]
 refine a7 (mv 1 rfl (cl (vs:= [.string (a8 bs)]) hw2 (D0 hbs hs1) rfl (by kernel_rfl) fun xr14 v12 r14 e13 hw3=>?_))
 obtain⟨_,_,rfl,rfl,rfl⟩:=r14
 refine mv 1 rfl (pu (v:= .bool (aZ bs)) rfl (pu (v:= .string (a8 s1)) rfl (pf g6 0 rfl ?_)))
 have hb17:=(hb9.ext e13)
 refine eB rfl rfl rfl (fun _=>by kernel_rfl) rfl hb17 (bq rfl) rfl [.bool (aZ bs),.string (a8 ([])),I0,F0,.string (a8 ([]))] rfl fun v16 hb18 u19 hs20=>?_
 have hw4:=u19.ext hw3 ge10
 refine mv 1 rfl (a0 (sr (mv 1 rfl (cl (vs:= [.string (a8 s1)]) hw4 (zC h1b (by first | assumption | (rw [cV];omega)) hn1) rfl (by kernel_rfl) fun xr23 v21 r23 e22 hw5=>?_))))
 obtain rfl:=r23
 refine mv 1 rfl (a0 (aA (aA ?_)))
 by_cases hn0:n1=0
 · 
  refine a7 (mv 1 rfl (aB rfl rfl rfl true (dA (a:=n1) (b:=0) rfl rfl) (a0 (aP rfl (sr (lo fR (hb18.ext e22) [.bool (aZ bs),.string (a8 ([])),I0,F0,.string (a8 ([]))] rfl rfl rfl ?_))))))
  have hb25:=(((hb4.ext (e8.trans e13)).updN u19 (by omega)).ext e22)
  refine so fR hb25 [.bool (aZ bs),.string (a8 ([])),I0,F0,.string (a8 ([]))] hw5 ge5 rfl rfl rfl rfl fun v24 hb26 u27 hw6=>(mv 1 rfl (a0 (aM (bL (aL [.agg #[.bool (aZ bs),.string (a8 ([])),I0,F0,.string (a8 ([]))],F0] rfl ⟨⟨_,rfl,gB fR hb26 [.bool (aZ bs),.string (a8 ([])),I0,F0,.string (a8 ([]))] rfl (bq rfl) rfl⟩,rfl,trivial⟩ ?_)))))
  exact⟨_,rfl,CutR.none_ (aZ bs) ([]) 0 false ([]) (by rw [hF,if_pos hn0]),hw6⟩
 · 
  refine a7 (mv 1 rfl (aB rfl rfl rfl false (dC (a:=n1) (b:=0) rfl rfl) (a0 (aI rfl (aN (aD (aA ?_)))))))
  refine gR eZ 7 [3,4,5] [Is (.string (a8 s1)),Is (.int .i64 n1),Is (.string (a8 (s1.take n1))),Is (.string (a8 s1)),Is (.int .i64 n1),Is (.string (a8 (s1.drop n1))),Is (.pointer (some ⟨g6,1,none⟩))] [[],[],[0,1],[],[],[3,4],[]] [[],[],[0,1],[],[],[3,4],[0,1,2],[0,1,2,6],[0,1,2,3,4,5,6,7]] rfl
   (aR rfl rfl (aK rfl rfl ?_) (aR rfl rfl (aK rfl rfl ?_) (aR rfl rfl (aK rfl rfl ?_) (lO rfl rfl (lP rfl ?_) (lO rfl rfl (lP rfl ?_) (lO rfl rfl (lP rfl ?_) (aR rfl rfl (aK rfl rfl ?_) gP))))))) ?_
  · 
   exact fun _ _=>aJ (mv 1 rfl (aQ rfl (Ext.refl _) rfl))
  · 
   exact fun _ _=>aJ (mv 1 rfl (aQ rfl (Ext.refl _) rfl))
  · 
   exact fun _ _=>dk rfl rfl (dk rfl rfl (aJ (lL (bs:=s1) (i:=n1) rfl rfl rfl Tryz.underlying9 (aQ rfl (Ext.refl _) rfl))))
  · 
   exact fun _ _=>aJ (⟨.string (a8 s1),rfl,rfl,fun _=>by kernel_rfl,rfl⟩)
  · 
   exact fun _ _=>aJ (⟨.int .i64 n1,rfl,rfl,fun _=>by kernel_rfl,rfl⟩)
  · 
   exact fun _ _=>dk rfl rfl (dk rfl rfl (aJ (⟨.string (a8 (s1.drop n1)),rfl,rfl,fun _=>vU (bs:=s1) (i:=n1) rfl rfl Tryz.underlying9,rfl⟩)))
  · 
   exact fun _ _=>aJ (pf g6 1 rfl (aQ rfl (Ext.refl _) rfl))
  · 
   intro v63 e64
   have hw6:=hw5.trans e64
   refine dk rfl rfl (dk rfl rfl (dk rfl rfl (dk rfl rfl (dk rfl rfl (dk rfl rfl (dk rfl rfl (aJ ?_)))))))
   have hb101:=(hb18.ext (e22.trans e64))
   refine eB rfl rfl rfl (fun _=>by kernel_rfl) rfl hb101 (bq rfl) rfl [.bool (aZ bs),.string (a8 (s1.take n1)),I0,F0,.string (a8 ([]))] rfl fun v100 hb102 u103 hs104=>?_
   have hw7:=u103.ext hw6 ge10
   refine mv 1 rfl (aU (gQ (aD (i8 (T:=a6×List Nat×List Nat×Nat) (fun⟨wr,s3,dg,bh⟩=> [(0,.string (a8 s3)),(2,.pointer (some ⟨g1,0,none⟩)),(4,.pointer (some ⟨g6,0,none⟩))]) (fun⟨wr,s3,dg,bh⟩=>wr) (fun⟨wr,s3,dg,bh⟩=>(Ext w wr)∧(Bk wr g1 174 [F0,.string (a8 ([])),I0,F0,.string (a8 ([]))])∧(Bk wr g6 174 [.bool (aZ bs),.string (a8 dg),.int .i64 bh,F0,.string (a8 ([]))])∧(∀b,b∈s3→b<256)∧(s3.length≤1073741824)∧(fO bs=(jO s3).map fun x=>(dg,bh,x.1,x.2))) ?_ ?_))))
   · 
    refine aA (bE [(0,.string (a8 (s1.drop n1))),(2,.pointer (some ⟨g1,0,none⟩)),(3,.bool false),(4,.pointer (some ⟨g6,0,none⟩)),(7,.string (a8 bs)),(8,.tuple #[.bool (aZ bs),.string (a8 s1)]),(6,.tuple #[.bool (aZ bs),.string (a8 s1)]),(9,.bool (aZ bs)),(10,.string (a8 s1)),(11,.pointer (some ⟨g6,0,none⟩)),(12,.string (a8 s1)),(13,.int .i64 n1),(5,.int .i64 n1),(14,.int .i64 n1),(15,.bool false),(17,.string (a8 s1)),(18,.int .i64 n1),(19,.string (a8 (s1.take n1))),(20,.string (a8 s1)),(21,.int .i64 n1),(22,.string (a8 (s1.drop n1))),(23,.pointer (some ⟨g6,1,none⟩))] ⟨rfl,rfl,rfl,rfl,rfl,rfl,rfl,rfl,rfl,rfl,rfl,rfl,rfl,rfl,rfl,rfl,rfl,rfl,rfl,rfl,rfl,rfl,trivial⟩ ?_)
    rw [←hs2]
    have hD:lT s2=if s2.getD 0 0=46 then (if rn (s2.drop 1)=0 then none else (jO (s2.drop (rn (s2.drop 1)+1))).map fun x=>((s2.take (rn (s2.drop 1)+1)).drop 1,rn (s2.drop 1),x.1,x.2)) else (jO s2).map fun x=>([],0,x.1,x.2):=rfl
    by_cases h20:s2= []
    · 
     have hl2:s2.length=0:=by rw [h20];rfl
     have hnd:¬s2.getD 0 0=46:=by rw [h20];decide
     refine a7 (mv 1 rfl (fV (a:=s2) (b:= []) rfl rfl rfl h2b false (xJ (h20)) (mv 4 rfl (pu (v:= .bool false) rfl (a0 (aI rfl (aN (dG (⟨v100,s2,s1.take n1,0⟩:a6×List Nat×List Nat×Nat) ⟨hw7,((((hb4.ext (e8.trans e13)).updN u19 (by omega)).ext (e22.trans e64)).updN u103 (by omega)),hb102,h2b,h2l,(by rw [hF,if_neg hn0,hD,if_neg hnd];exact DR _ _)⟩ rfl ⟨rfl,rfl,rfl,trivial⟩))))))))
    · 
     have hl2:0<s2.length:=List.length_pos_iff.2 h20
     have hc2:s2.getD 0 0<256:=h2b _ (jF hl2)
     by_cases hnd:s2.getD 0 0=46
     · 
      obtain⟨m,hm⟩:∃m,m=rn (s2.drop 1):=⟨_,rfl⟩
      rw [←hm] at hD
      have hml:m+1≤s2.length:=by have h:=kQ (s2.drop 1);rw [←hm,cV] at h;omega
      refine a7 (mv 1 rfl (fV (a:=s2) (b:= []) rfl rfl rfl h2b true (oS (h20)) (mv 2 rfl (dK (bs:=s2) (i:=0) rfl rfl rfl Tryz.underlying9 h2b (aB rfl rfl rfl true (dA (a:=s2.getD 0 0) (b:=46) rfl rfl) (pu (v:= .bool true) rfl (a0 (aP rfl (sr (mv 1 rfl (mK (bs:=s2) (i:=1) rfl rfl rfl Tryz.underlying9 (cl (vs:= [.string (a8 (s2.drop 1))]) hw7 (zC (fun b hb=>h2b b (gK hb)) (by first | assumption | (rw [cV];omega)) hm) rfl (by kernel_rfl) fun xr107 v105 r107 e106 hw8=>?_))))))))))))
      obtain rfl:=r107
      refine mv 1 rfl (a0 (aA (aA ?_)))
      by_cases hm0:m=0
      · 
       refine a7 (mv 1 rfl (aB rfl rfl rfl true (dA (a:=m) (b:=0) rfl rfl) (a0 (aP rfl (sr (lo fR (hb102.ext e106) [.bool (aZ bs),.string (a8 (s1.take n1)),I0,F0,.string (a8 ([]))] rfl rfl rfl ?_))))))
       have hb109:=(((((hb4.ext (e8.trans e13)).updN u19 (by omega)).ext (e22.trans e64)).updN u103 (by omega)).ext e106)
       refine so fR hb109 [.bool (aZ bs),.string (a8 (s1.take n1)),I0,F0,.string (a8 ([]))] hw8 ge5 rfl rfl rfl rfl fun v108 hb110 u111 hw9=>(mv 1 rfl (a0 (aM (bL (LM (aL [.agg #[.bool (aZ bs),.string (a8 (s1.take n1)),I0,F0,.string (a8 ([]))],F0] rfl ⟨⟨_,rfl,gB fR hb110 [.bool (aZ bs),.string (a8 (s1.take n1)),I0,F0,.string (a8 ([]))] rfl (bq rfl) rfl⟩,rfl,trivial⟩ ?_))))))
       exact⟨_,rfl,CutR.none_ (aZ bs) (s1.take n1) 0 false ([]) (by rw [hF,if_neg hn0,hD,if_pos hnd,if_pos hm0];rfl),hw9⟩
      · 
       refine a7 (mv 1 rfl (aB rfl rfl rfl false (dC (a:=m) (b:=0) rfl rfl) (a0 (aI rfl (aN (aD (aA ?_)))))))
       refine gR eZ 8 [] [Is (.pointer (some ⟨g6,1,none⟩)),Is (.string (a8 (s1.take n1))),Is (.string (a8 s2)),Is (.int .i64 m),Is (.int .i64 ((m+1:Nat):Int)),Is (.string (a8 ((s2.take (m+1)).drop 1))),Is (.string (a8 ((s1.take n1)++((s2.take (m+1)).drop 1)))),Is (.pointer (some ⟨g6,1,none⟩))] [[],[0],[],[],[3],[2,4],[1,5],[]] [[],[0],[],[],[3],[2,3,4],[0,1,2,3,4,5],[0,1,2,3,4,5,6],[0,1,2,3,4,5,6,7]] rfl
        (aR rfl rfl (aK rfl rfl ?_) (aR rfl rfl (aK rfl rfl ?_) (aR rfl rfl (aK rfl rfl ?_) (aR rfl rfl (aK rfl rfl ?_) (aR rfl rfl (aK rfl rfl ?_) (aR rfl rfl (aK rfl rfl ?_) (aR rfl rfl (aK rfl rfl ?_) (aR rfl rfl (aK rfl rfl ?_) gP)))))))) ?_
       · 
        exact fun _ _=>aJ (pf g6 1 rfl (aQ rfl (Ext.refl _) rfl))
       · 
        exact fun _ e116=>dk rfl rfl (aJ (aS rfl rfl (aY (fun _=>by kernel_rfl) (hb102.ext (e106.trans e116)) rfl) (aQ rfl (Ext.refl _) rfl)))
       · 
        exact fun _ _=>aJ (mv 1 rfl (aQ rfl (Ext.refl _) rfl))
       · 
        exact fun _ _=>aJ (mv 1 rfl (aQ rfl (Ext.refl _) rfl))
       · 
        exact fun _ _=>dk rfl rfl (aJ (aE rfl rfl rfl ((m+1:Nat):Int) (bF (a:=m) (b:=1) rfl rfl) (aQ rfl (Ext.refl _) rfl)))
       · 
        exact fun _ _=>dk rfl rfl (dk rfl rfl (aJ (oN (bs:=s2) (i:=1) (j:=m+1) rfl rfl rfl rfl Tryz.underlying9 (aQ rfl (Ext.refl _) rfl))))
       · 
        exact fun _ _=>dk rfl rfl (dk rfl rfl (aJ (bS rfl rfl rfl (r:= .string (a8 ((s1.take n1)++((s2.take (m+1)).drop 1)))) rfl (fun w=>d8 (a:=s1.take n1) (b:=(s2.take (m+1)).drop 1) (by simp only [bJ,cV];omega)) (aQ rfl (Ext.refl _) rfl))))
       · 
        exact fun _ _=>aJ (pf g6 1 rfl (aQ rfl (Ext.refl _) rfl))
       · 
        intro v159 e160
        have hw9:=hw8.trans e160
        refine dk rfl rfl (dk rfl rfl (dk rfl rfl (dk rfl rfl (dk rfl rfl (dk rfl rfl (dk rfl rfl (dk rfl rfl (aJ ?_))))))))
        have hb202:=(hb102.ext (e106.trans e160))
        refine eB rfl rfl rfl (fun _=>by kernel_rfl) rfl hb202 (bq rfl) rfl [.bool (aZ bs),.string (a8 ((s1.take n1)++((s2.take (m+1)).drop 1))),I0,F0,.string (a8 ([]))] rfl fun v201 hb203 u204 hs205=>?_
        have hw10:=u204.ext hw9 ge10
        refine aU (gQ (aD (sr (mv 1 rfl (pf g6 2 rfl (eB rfl rfl rfl (fun _=>by kernel_rfl) rfl hb203 (bq rfl) rfl [.bool (aZ bs),.string (a8 ((s1.take n1)++((s2.take (m+1)).drop 1))),.int .i64 m,F0,.string (a8 ([]))] rfl fun v206 hb208 u209 hs210=>?_))))))
        have hw11:=u209.ext hw10 ge10
        refine a0 (a7 (mv 2 rfl (aE rfl rfl rfl ((m+1:Nat):Int) (bF (a:=m) (b:=1) rfl rfl) (mK (bs:=s2) (i:=m+1) rfl rfl rfl Tryz.underlying9 (mv 1 rfl (aU (dG (⟨v206,s2.drop (m+1),s1.take n1++(s2.take (m+1)).drop 1,m⟩:a6×List Nat×List Nat×Nat) ⟨hw11,(((((((hb4.ext (e8.trans e13)).updN u19 (by omega)).ext (e22.trans e64)).updN u103 (by omega)).ext (e106.trans e160)).updN u204 (by omega)).updN u209 (by omega)),hb208,(fun b hb=>h2b b (gK hb)),(by rw [cV];omega),(by rw [hF,if_neg hn0,hD,if_pos hnd,if_neg hm0];exact MC _ _ _ _)⟩ rfl ⟨rfl,rfl,rfl,trivial⟩)))))))
     · 
      refine a7 (mv 1 rfl (fV (a:=s2) (b:= []) rfl rfl rfl h2b true (oS (h20)) (mv 2 rfl (dK (bs:=s2) (i:=0) rfl rfl rfl Tryz.underlying9 h2b (aB rfl rfl rfl false (dC (a:=s2.getD 0 0) (b:=46) rfl rfl) (pu (v:= .bool false) rfl (a0 (aI rfl (aN (dG (⟨v100,s2,s1.take n1,0⟩:a6×List Nat×List Nat×Nat) ⟨hw7,((((hb4.ext (e8.trans e13)).updN u19 (by omega)).ext (e22.trans e64)).updN u103 (by omega)),hb102,h2b,h2l,(by rw [hF,if_neg hn0,hD,if_neg hnd];exact DR _ _)⟩ rfl ⟨rfl,rfl,rfl,trivial⟩))))))))))
   · 
    rintro⟨wr,s3,dg,bh⟩ ⟨hw1,hb2,hb4,h3b,h3l,hC⟩
    refine cC [(0,.string (a8 s3)),(2,.pointer (some ⟨g1,0,none⟩)),(4,.pointer (some ⟨g6,0,none⟩))] wr rfl ⟨rfl,rfl,rfl,trivial⟩ (aA (aA ?_))
    have hE:jO s3=if s3.getD 0 0=101∨s3.getD 0 0=69 then (if rn (eQ (s3.drop 1))=0 then none else if (eQ (s3.drop 1)).drop (rn (eQ (s3.drop 1)))= [] then some (aZ (s3.drop 1),(eQ (s3.drop 1)).take (rn (eQ (s3.drop 1)))) else none) else if s3= [] then some (false,[]) else none:=rfl
    by_cases h30:s3= []
    · 
     have hl3:s3.length=0:=by rw [h30];rfl
     have hne:¬(s3.getD 0 0=101∨s3.getD 0 0=69):=by rw [h30];decide
     refine a7 (mv 1 rfl (fV (a:=s3) (b:= []) rfl rfl rfl h3b false (xJ (h30)) (mv 9 rfl (pu (v:= .bool false) rfl (a0 (aI rfl (aN (aD (sr (lo fR hb4 [.bool (aZ bs),.string (a8 dg),.int .i64 bh,F0,.string (a8 ([]))] rfl rfl rfl (mv 1 rfl (fV (a:=s3) (b:= []) rfl rfl rfl h3b true (nU (h30)) (so fR hb2 [.bool (aZ bs),.string (a8 dg),.int .i64 bh,F0,.string (a8 ([]))] hw1 ge5 rfl rfl rfl rfl fun v211 hb213 u214 hw2=>?_)))))))))))))
     refine mv 1 rfl (a0 (aM (aL [.agg #[.bool (aZ bs),.string (a8 dg),.int .i64 bh,F0,.string (a8 ([]))],.bool true] rfl ⟨⟨_,rfl,gB fR hb213 [.bool (aZ bs),.string (a8 dg),.int .i64 bh,F0,.string (a8 ([]))] rfl (bq rfl) rfl⟩,rfl,trivial⟩ ?_)))
     exact⟨_,rfl,CutR.some_ (by rw [hC,hE,if_neg hne,if_pos h30];rfl) rfl,hw2⟩
    · 
     have hl3:0<s3.length:=List.length_pos_iff.2 h30
     have hc3:s3.getD 0 0<256:=h3b _ (jF hl3)
     by_cases h101:s3.getD 0 0=101
     · 
      obtain⟨tt,htt⟩:∃t,t=eQ (s3.drop 1):=⟨_,rfl⟩
      obtain⟨k,hk⟩:∃k,k=rn tt:=⟨_,rfl⟩
      have htb:∀b,b∈tt→b<256:=fun b hb=>h3b b (gK (BW (htt▸hb)))
      have htl:tt.length≤1073741824:=by have h:=uX (s3.drop 1);rw [←htt,cV] at h;omega
      have hkl:k≤tt.length:=hk▸kQ tt
      rw [←htt,←hk] at hE
      refine a7 (mv 1 rfl (fV (a:=s3) (b:= []) rfl rfl rfl h3b true (oS (h30)) (mv 2 rfl (dK (bs:=s3) (i:=0) rfl rfl rfl Tryz.underlying9 h3b (aB rfl rfl rfl true (dA (a:=s3.getD 0 0) (b:=101) rfl rfl) (mv 4 rfl (pu (v:= .bool true) rfl (pu (v:= .bool true) rfl (a0 (aP rfl (sr (mv 1 rfl (mK (bs:=s3) (i:=1) rfl rfl rfl Tryz.underlying9 ?_)))))))))))))
      refine cl (vs:= [.string (a8 (s3.drop 1))]) hw1 (D0 (fun b hb=>h3b b (gK hb)) htt) rfl (by kernel_rfl) fun xr218 v216 r218 e217 hw2=>?_
      obtain⟨_,_,rfl,rfl,rfl⟩:=r218
      refine mv 1 rfl (pu (v:= .bool (aZ (s3.drop 1))) rfl (pu (v:= .string (a8 tt)) rfl (pf g6 3 rfl ?_)))
      have hb221:=(hb4.ext e217)
      refine eB rfl rfl rfl (fun _=>by kernel_rfl) rfl hb221 (bq rfl) rfl [.bool (aZ bs),.string (a8 dg),.int .i64 bh,.bool (aZ (s3.drop 1)),.string (a8 ([]))] rfl fun v220 hb222 u223 hs224=>?_
      have hw3:=u223.ext hw2 ge10
      refine mv 1 rfl (a0 (sr (mv 1 rfl (cl (vs:= [.string (a8 tt)]) hw3 (zC htb (by first | assumption | (rw [cV];omega)) hk) rfl (by kernel_rfl) fun xr227 v225 r227 e226 hw4=>?_))))
      obtain rfl:=r227
      refine mv 1 rfl (a0 (aA (aA ?_)))
      by_cases hk0:k=0
      · 
       refine a7 (mv 1 rfl (aB rfl rfl rfl true (dA (a:=k) (b:=0) rfl rfl) (a0 (aP rfl (sr (lo fR (hb222.ext e226) [.bool (aZ bs),.string (a8 dg),.int .i64 bh,.bool (aZ (s3.drop 1)),.string (a8 ([]))] rfl rfl rfl ?_))))))
       have hb229:=(((hb2.ext e217).updN u223 (by omega)).ext e226)
       refine so fR hb229 [.bool (aZ bs),.string (a8 dg),.int .i64 bh,.bool (aZ (s3.drop 1)),.string (a8 ([]))] hw4 ge5 rfl rfl rfl rfl fun v228 hb230 u231 hw5=>(mv 1 rfl (a0 (aM (bL (bL (aL [.agg #[.bool (aZ bs),.string (a8 dg),.int .i64 bh,.bool (aZ (s3.drop 1)),.string (a8 ([]))],F0] rfl ⟨⟨_,rfl,gB fR hb230 [.bool (aZ bs),.string (a8 dg),.int .i64 bh,.bool (aZ (s3.drop 1)),.string (a8 ([]))] rfl (bq rfl) rfl⟩,rfl,trivial⟩ ?_))))))
       exact⟨_,rfl,CutR.none_ (aZ bs) dg bh (aZ (s3.drop 1)) ([]) (by rw [hC,hE,if_pos (cE h101),if_pos hk0];rfl),hw5⟩
      · 
       refine a7 (mv 1 rfl (aB rfl rfl rfl false (dC (a:=k) (b:=0) rfl rfl) (a0 (aI rfl (aN (aD ?_))))))
       refine gR eZ 7 [3,4,5] [Is (.string (a8 tt)),Is (.int .i64 k),Is (.string (a8 (tt.take k))),Is (.string (a8 tt)),Is (.int .i64 k),Is (.string (a8 (tt.drop k))),Is (.pointer (some ⟨g6,4,none⟩))] [[],[],[0,1],[],[],[3,4],[]] [[],[],[0,1],[],[],[3,4],[0,1,2],[0,1,2,6],[0,1,2,3,4,5,6,7]] rfl
        (aR rfl rfl (aK rfl rfl ?_) (aR rfl rfl (aK rfl rfl ?_) (aR rfl rfl (aK rfl rfl ?_) (lO rfl rfl (lP rfl ?_) (lO rfl rfl (lP rfl ?_) (lO rfl rfl (lP rfl ?_) (aR rfl rfl (aK rfl rfl ?_) gP))))))) ?_
       · 
        exact fun _ _=>aJ (mv 1 rfl (aQ rfl (Ext.refl _) rfl))
       · 
        exact fun _ _=>aJ (mv 1 rfl (aQ rfl (Ext.refl _) rfl))
       · 
        exact fun _ _=>dk rfl rfl (dk rfl rfl (aJ (lL (bs:=tt) (i:=k) rfl rfl rfl Tryz.underlying9 (aQ rfl (Ext.refl _) rfl))))
       · 
        exact fun _ _=>aJ (⟨.string (a8 tt),rfl,rfl,fun _=>by kernel_rfl,rfl⟩)
       · 
        exact fun _ _=>aJ (⟨.int .i64 k,rfl,rfl,fun _=>by kernel_rfl,rfl⟩)
       · 
        exact fun _ _=>dk rfl rfl (dk rfl rfl (aJ (⟨.string (a8 (tt.drop k)),rfl,rfl,fun _=>vU (bs:=tt) (i:=k) rfl rfl Tryz.underlying9,rfl⟩)))
       · 
        exact fun _ _=>aJ (pf g6 4 rfl (aQ rfl (Ext.refl _) rfl))
       · 
        intro v267 e268
        have hw5:=hw4.trans e268
        refine dk rfl rfl (dk rfl rfl (dk rfl rfl (dk rfl rfl (dk rfl rfl (dk rfl rfl (dk rfl rfl (aJ ?_)))))))
        have hb305:=(hb222.ext (e226.trans e268))
        refine eB rfl rfl rfl (fun _=>by kernel_rfl) rfl hb305 (bq rfl) rfl [.bool (aZ bs),.string (a8 dg),.int .i64 bh,.bool (aZ (s3.drop 1)),.string (a8 (tt.take k))] rfl fun v304 hb306 u307 hs308=>?_
        have hw6:=u307.ext hw5 ge10
        refine mv 1 rfl (aU (gQ (aD (aA ?_))))
        by_cases hend:tt.drop k= []
        · 
         refine a7 (lo fR hb306 [.bool (aZ bs),.string (a8 dg),.int .i64 bh,.bool (aZ (s3.drop 1)),.string (a8 (tt.take k))] rfl rfl rfl (mv 1 rfl (fV (a:=tt.drop k) (b:= []) rfl rfl rfl (fun b hb=>htb b (gK hb)) true (nU (hend)) ?_)))
         have hb310:=((((hb2.ext e217).updN u223 (by omega)).ext (e226.trans e268)).updN u307 (by omega))
         refine so fR hb310 [.bool (aZ bs),.string (a8 dg),.int .i64 bh,.bool (aZ (s3.drop 1)),.string (a8 (tt.take k))] hw6 ge5 rfl rfl rfl rfl fun v309 hb311 u312 hw7=>(mv 1 rfl (a0 (aM (aL [.agg #[.bool (aZ bs),.string (a8 dg),.int .i64 bh,.bool (aZ (s3.drop 1)),.string (a8 (tt.take k))],.bool true] rfl ⟨⟨_,rfl,gB fR hb311 [.bool (aZ bs),.string (a8 dg),.int .i64 bh,.bool (aZ (s3.drop 1)),.string (a8 (tt.take k))] rfl (bq rfl) rfl⟩,rfl,trivial⟩ ?_))))
         exact⟨_,rfl,CutR.some_ (by rw [hC,hE,if_pos (cE h101),if_neg hk0,if_pos hend];rfl) rfl,hw7⟩
        · 
         refine a7 (lo fR hb306 [.bool (aZ bs),.string (a8 dg),.int .i64 bh,.bool (aZ (s3.drop 1)),.string (a8 (tt.take k))] rfl rfl rfl (mv 1 rfl (fV (a:=tt.drop k) (b:= []) rfl rfl rfl (fun b hb=>htb b (gK hb)) false (q7 (hend)) ?_)))
         have hb315:=((((hb2.ext e217).updN u223 (by omega)).ext (e226.trans e268)).updN u307 (by omega))
         refine so fR hb315 [.bool (aZ bs),.string (a8 dg),.int .i64 bh,.bool (aZ (s3.drop 1)),.string (a8 (tt.take k))] hw6 ge5 rfl rfl rfl rfl fun v314 hb316 u317 hw7=>(mv 1 rfl (a0 (aM (aL [.agg #[.bool (aZ bs),.string (a8 dg),.int .i64 bh,.bool (aZ (s3.drop 1)),.string (a8 (tt.take k))],F0] rfl ⟨⟨_,rfl,gB fR hb316 [.bool (aZ bs),.string (a8 dg),.int .i64 bh,.bool (aZ (s3.drop 1)),.string (a8 (tt.take k))] rfl (bq rfl) rfl⟩,rfl,trivial⟩ ?_))))
         exact⟨_,rfl,CutR.none_ (aZ bs) dg bh (aZ (s3.drop 1)) (tt.take k) (by rw [hC,hE,if_pos (cE h101),if_neg hk0,if_neg hend];rfl),hw7⟩
     · 
      by_cases h69:s3.getD 0 0=69
      · 
       obtain⟨tt,htt⟩:∃t,t=eQ (s3.drop 1):=⟨_,rfl⟩
       obtain⟨k,hk⟩:∃k,k=rn tt:=⟨_,rfl⟩
       have htb:∀b,b∈tt→b<256:=fun b hb=>h3b b (gK (BW (htt▸hb)))
       have htl:tt.length≤1073741824:=by have h:=uX (s3.drop 1);rw [←htt,cV] at h;omega
       have hkl:k≤tt.length:=hk▸kQ tt
       rw [←htt,←hk] at hE
       refine a7 (mv 1 rfl (fV (a:=s3) (b:= []) rfl rfl rfl h3b true (oS (h30)) (mv 2 rfl (dK (bs:=s3) (i:=0) rfl rfl rfl Tryz.underlying9 h3b (aB rfl rfl rfl false (dC (a:=s3.getD 0 0) (b:=101) rfl rfl) (mv 2 rfl (dK (bs:=s3) (i:=0) rfl rfl rfl Tryz.underlying9 h3b (aB rfl rfl rfl true (dA (a:=s3.getD 0 0) (b:=69) rfl rfl) (pu (v:= .bool true) rfl (pu (v:= .bool true) rfl (a0 (aP rfl (aA ?_)))))))))))))
       refine a7 (mv 1 rfl (mK (bs:=s3) (i:=1) rfl rfl rfl Tryz.underlying9 (cl (vs:= [.string (a8 (s3.drop 1))]) hw1 (D0 (fun b hb=>h3b b (gK hb)) htt) rfl (by kernel_rfl) fun xr321 v319 r321 e320 hw2=>?_)))
       obtain⟨_,_,rfl,rfl,rfl⟩:=r321
       refine mv 1 rfl (pu (v:= .bool (aZ (s3.drop 1))) rfl (pu (v:= .string (a8 tt)) rfl (pf g6 3 rfl ?_)))
       have hb324:=(hb4.ext e320)
       refine eB rfl rfl rfl (fun _=>by kernel_rfl) rfl hb324 (bq rfl) rfl [.bool (aZ bs),.string (a8 dg),.int .i64 bh,.bool (aZ (s3.drop 1)),.string (a8 ([]))] rfl fun v323 hb325 u326 hs327=>?_
       have hw3:=u326.ext hw2 ge10
       refine mv 1 rfl (a0 (sr (mv 1 rfl (cl (vs:= [.string (a8 tt)]) hw3 (zC htb (by first | assumption | (rw [cV];omega)) hk) rfl (by kernel_rfl) fun xr330 v328 r330 e329 hw4=>?_))))
       obtain rfl:=r330
       refine mv 1 rfl (a0 (aA (aA ?_)))
       by_cases hk0:k=0
       · 
        refine a7 (mv 1 rfl (aB rfl rfl rfl true (dA (a:=k) (b:=0) rfl rfl) (a0 (aP rfl (sr (lo fR (hb325.ext e329) [.bool (aZ bs),.string (a8 dg),.int .i64 bh,.bool (aZ (s3.drop 1)),.string (a8 ([]))] rfl rfl rfl ?_))))))
        have hb332:=(((hb2.ext e320).updN u326 (by omega)).ext e329)
        refine so fR hb332 [.bool (aZ bs),.string (a8 dg),.int .i64 bh,.bool (aZ (s3.drop 1)),.string (a8 ([]))] hw4 ge5 rfl rfl rfl rfl fun v331 hb333 u334 hw5=>(mv 1 rfl (a0 (aM (bL (bL (aL [.agg #[.bool (aZ bs),.string (a8 dg),.int .i64 bh,.bool (aZ (s3.drop 1)),.string (a8 ([]))],F0] rfl ⟨⟨_,rfl,gB fR hb333 [.bool (aZ bs),.string (a8 dg),.int .i64 bh,.bool (aZ (s3.drop 1)),.string (a8 ([]))] rfl (bq rfl) rfl⟩,rfl,trivial⟩ ?_))))))
        exact⟨_,rfl,CutR.none_ (aZ bs) dg bh (aZ (s3.drop 1)) ([]) (by rw [hC,hE,if_pos (bR h69),if_pos hk0];rfl),hw5⟩
       · 
        refine a7 (mv 1 rfl (aB rfl rfl rfl false (dC (a:=k) (b:=0) rfl rfl) (a0 (aI rfl (aN (aD ?_))))))
        refine gR eZ 7 [3,4,5] [Is (.string (a8 tt)),Is (.int .i64 k),Is (.string (a8 (tt.take k))),Is (.string (a8 tt)),Is (.int .i64 k),Is (.string (a8 (tt.drop k))),Is (.pointer (some ⟨g6,4,none⟩))] [[],[],[0,1],[],[],[3,4],[]] [[],[],[0,1],[],[],[3,4],[0,1,2],[0,1,2,6],[0,1,2,3,4,5,6,7]] rfl
         (aR rfl rfl (aK rfl rfl ?_) (aR rfl rfl (aK rfl rfl ?_) (aR rfl rfl (aK rfl rfl ?_) (lO rfl rfl (lP rfl ?_) (lO rfl rfl (lP rfl ?_) (lO rfl rfl (lP rfl ?_) (aR rfl rfl (aK rfl rfl ?_) gP))))))) ?_
        · 
         exact fun _ _=>aJ (mv 1 rfl (aQ rfl (Ext.refl _) rfl))
        · 
         exact fun _ _=>aJ (mv 1 rfl (aQ rfl (Ext.refl _) rfl))
        · 
         exact fun _ _=>dk rfl rfl (dk rfl rfl (aJ (lL (bs:=tt) (i:=k) rfl rfl rfl Tryz.underlying9 (aQ rfl (Ext.refl _) rfl))))
        · 
         exact fun _ _=>aJ (⟨.string (a8 tt),rfl,rfl,fun _=>by kernel_rfl,rfl⟩)
        · 
         exact fun _ _=>aJ (⟨.int .i64 k,rfl,rfl,fun _=>by kernel_rfl,rfl⟩)
        · 
         exact fun _ _=>dk rfl rfl (dk rfl rfl (aJ (⟨.string (a8 (tt.drop k)),rfl,rfl,fun _=>vU (bs:=tt) (i:=k) rfl rfl Tryz.underlying9,rfl⟩)))
        · 
         exact fun _ _=>aJ (pf g6 4 rfl (aQ rfl (Ext.refl _) rfl))
        · 
         intro v370 e371
         have hw5:=hw4.trans e371
         refine dk rfl rfl (dk rfl rfl (dk rfl rfl (dk rfl rfl (dk rfl rfl (dk rfl rfl (dk rfl rfl (aJ ?_)))))))
         have hb408:=(hb325.ext (e329.trans e371))
         refine eB rfl rfl rfl (fun _=>by kernel_rfl) rfl hb408 (bq rfl) rfl [.bool (aZ bs),.string (a8 dg),.int .i64 bh,.bool (aZ (s3.drop 1)),.string (a8 (tt.take k))] rfl fun v407 hb409 u410 hs411=>?_
         have hw6:=u410.ext hw5 ge10
         refine mv 1 rfl (aU (gQ (aD (aA ?_))))
         by_cases hend:tt.drop k= []
         · 
          refine a7 (lo fR hb409 [.bool (aZ bs),.string (a8 dg),.int .i64 bh,.bool (aZ (s3.drop 1)),.string (a8 (tt.take k))] rfl rfl rfl (mv 1 rfl (fV (a:=tt.drop k) (b:= []) rfl rfl rfl (fun b hb=>htb b (gK hb)) true (nU (hend)) ?_)))
          have hb413:=((((hb2.ext e320).updN u326 (by omega)).ext (e329.trans e371)).updN u410 (by omega))
          refine so fR hb413 [.bool (aZ bs),.string (a8 dg),.int .i64 bh,.bool (aZ (s3.drop 1)),.string (a8 (tt.take k))] hw6 ge5 rfl rfl rfl rfl fun v412 hb414 u415 hw7=>(mv 1 rfl (a0 (aM (aL [.agg #[.bool (aZ bs),.string (a8 dg),.int .i64 bh,.bool (aZ (s3.drop 1)),.string (a8 (tt.take k))],.bool true] rfl ⟨⟨_,rfl,gB fR hb414 [.bool (aZ bs),.string (a8 dg),.int .i64 bh,.bool (aZ (s3.drop 1)),.string (a8 (tt.take k))] rfl (bq rfl) rfl⟩,rfl,trivial⟩ ?_))))
          exact⟨_,rfl,CutR.some_ (by rw [hC,hE,if_pos (bR h69),if_neg hk0,if_pos hend];rfl) rfl,hw7⟩
         · 
          refine a7 (lo fR hb409 [.bool (aZ bs),.string (a8 dg),.int .i64 bh,.bool (aZ (s3.drop 1)),.string (a8 (tt.take k))] rfl rfl rfl (mv 1 rfl (fV (a:=tt.drop k) (b:= []) rfl rfl rfl (fun b hb=>htb b (gK hb)) false (q7 (hend)) ?_)))
          have hb418:=((((hb2.ext e320).updN u326 (by omega)).ext (e329.trans e371)).updN u410 (by omega))
          refine so fR hb418 [.bool (aZ bs),.string (a8 dg),.int .i64 bh,.bool (aZ (s3.drop 1)),.string (a8 (tt.take k))] hw6 ge5 rfl rfl rfl rfl fun v417 hb419 u420 hw7=>(mv 1 rfl (a0 (aM (aL [.agg #[.bool (aZ bs),.string (a8 dg),.int .i64 bh,.bool (aZ (s3.drop 1)),.string (a8 (tt.take k))],F0] rfl ⟨⟨_,rfl,gB fR hb419 [.bool (aZ bs),.string (a8 dg),.int .i64 bh,.bool (aZ (s3.drop 1)),.string (a8 (tt.take k))] rfl (bq rfl) rfl⟩,rfl,trivial⟩ ?_))))
          exact⟨_,rfl,CutR.none_ (aZ bs) dg bh (aZ (s3.drop 1)) (tt.take k) (by rw [hC,hE,if_pos (bR h69),if_neg hk0,if_neg hend];rfl),hw7⟩
      · 
       refine a7 (mv 1 rfl (fV (a:=s3) (b:= []) rfl rfl rfl h3b true (oS (h30)) (mv 2 rfl (dK (bs:=s3) (i:=0) rfl rfl rfl Tryz.underlying9 h3b (aB rfl rfl rfl false (dC (a:=s3.getD 0 0) (b:=101) rfl rfl) (mv 2 rfl (dK (bs:=s3) (i:=0) rfl rfl rfl Tryz.underlying9 h3b (aB rfl rfl rfl false (dC (a:=s3.getD 0 0) (b:=69) rfl rfl) (pu (v:= .bool false) rfl (pu (v:= .bool false) rfl (a0 (aI rfl (aN ?_)))))))))))))
       refine aD (sr (lo fR hb4 [.bool (aZ bs),.string (a8 dg),.int .i64 bh,F0,.string (a8 ([]))] rfl rfl rfl (mv 1 rfl (fV (a:=s3) (b:= []) rfl rfl rfl h3b false (q7 (h30)) (so fR hb2 [.bool (aZ bs),.string (a8 dg),.int .i64 bh,F0,.string (a8 ([]))] hw1 ge5 rfl rfl rfl rfl fun v422 hb424 u425 hw2=>(mv 1 rfl (a0 (aM (aL [.agg #[.bool (aZ bs),.string (a8 dg),.int .i64 bh,F0,.string (a8 ([]))],F0] rfl ⟨⟨_,rfl,gB fR hb424 [.bool (aZ bs),.string (a8 dg),.int .i64 bh,F0,.string (a8 ([]))] rfl (bq rfl) rfl⟩,rfl,trivial⟩ ?_)))))))))
       exact⟨_,rfl,CutR.none_ (aZ bs) dg bh false ([]) (by rw [hC,hE,if_neg (by omega),if_neg h30];rfl),hw2⟩
theorem ZA {w:a6}{dg:List Nat}(hbs:∀b,b∈bs→b<256)(hlen:bs.length≤1073741824)(h:fO bs=some (dg,bh,dn,pw)):
  aO aF 211 #[.string (a8 bs)] w (Gv w (Is (.tuple #[.agg #[.bool (aZ bs),.string (a8 dg),.int .i64 bh,.bool dn,.string (a8 pw)],.bool true]))):=
 (LF hbs hlen).mono fun e w' ⟨v,he,hv,hx⟩=>⟨v,he,by unfold CutR at hv;rw [h] at hv;exact hv,hx⟩
theorem Z9 {w:a6}(hbs:∀b,b∈bs→b<256)(hlen:bs.length≤1073741824)(h:fO bs=none):
  aO aF 211 #[.string (a8 bs)] w (fun e w'=>∃(ng:Bool) (dg:List Nat) (bh:Nat) (dn:Bool) (pw:List Nat),True∧Gv w (Is (.tuple #[.agg #[.bool ng,.string (a8 dg),.int .i64 bh,.bool dn,.string (a8 pw)],.bool false])) e w'):=
 (LF hbs hlen).mono fun e w' ⟨v,he,hv,hx⟩=>by
  unfold CutR at hv;rw [h] at hv
  obtain⟨a,b,c,d,e',rfl⟩:=hv
  exact⟨a,b,c,d,e',trivial,_,he,rfl,hx⟩
theorem YM {w:a6}(hj:j=1074)(hu:1*2^j=u)(hb:b≤w.heap.size)(hX:Wi w A n c 1)(hXn:n≤67108864):aO aF 117 #[.slice A n c,.int .i64 1074] w (Gv w (WR b u)):=by
 subst hu
 have h:=rW (k:=j) hb (by omega) hX hXn
 have e:((j:Nat):Int)=1074:=by omega
 rw [e] at h
 exact h
theorem YL {w:a6}(hu:1*2^bM=u)(hb:b≤w.heap.size)(hX:Wi w A n c 1)(hXn:n≤67108864):aO aF 117 #[.slice A n c,.int .i64 1074] w (Gv w (WR b u)):=by
 exact YM i6 hu hb hX hXn
theorem YU {w:a6}(hX:Wi w A n c X)(hXn:n≤67108864){nb:Nat}(hD:Wi w B n' c' D)(hDn:n'≤67108864)(hD0:0<D)(h:cU (X*2^bM) D=nb):
  aO aF 166 #[.slice A n c,.slice B n' c'] w (Gv w (Is (.float .f64 nb))):=by
 subst h
 exact yZ hX hXn hD hDn hD0
set_option maxHeartbeats 4000000 in
theorem D1 {w:a6}(hx:Rf w A n cap fs)(hn:n≤2097152):
    aO aF 122 #[.slice A n cap] w (Gv w (T2 (Is (.float .f64 (iI fs))) (Is (.int .i64 (kO fs))))):=by
 have hlen:=hx.len
 refine bK Tryz.func122 rfl (n:=44) rfl (bq rfl) (args:= [.slice A n cap]) (bE [(0,.slice A n cap)] ⟨rfl,trivial⟩ (sr (mv 2 rfl (a0 (sr (m5 rfl (z:= .agg #[F0,S0]) (vs:= [F0,S0]) (fun _=>by kernel_rfl) rfl fun g1 v2 nb=>?_))))))
 have ne3:0<cap→∀a,A=some a→a.block≠g1:=fun hc a ha=>by have:=(hx).rv.blk a ha hc;have:=nb.at_;omega
 have hb5:=nb.bk
 have ge6:w.heap.size≤g1:=by rw [←nb.at_];exact (Ext.refl w).size
 have e4:=nb.ext
 clear nb
 have hw1:=(Ext.refl w).trans e4
 refine a0 (aA (sr (mv 1 rfl (pu (v:= .int .i64 n) rfl (mv 1 rfl (a0 (bG ?_)))))))
 refine d4 (T:=a6×Nat×ZC)
  (fun⟨wr,i,kp⟩=> [(4,.pointer (some ⟨g1,0,none⟩)),(11,.slice A n cap),(12,.int .i64 n),(13,.int .i64 i)])
  (fun⟨wr,i,kp⟩=>wr)
  (fun⟨wr,i,kp⟩=>(Ext w wr)∧(i≤n)∧(∀j,j<i→fin (fs.getD j 0))∧(Bk wr g1 24 [.bool kp.s,.slice kp.A kp.n kp.c])∧(Zr wr w.heap.size kp.s kp.A kp.n kp.c (iJ (fs.take i)))∧(Rf wr A n cap fs))
  (fun⟨wr,i,kp⟩=>n-i)
  (⟨v2,0,⟨false,none,0,0⟩⟩:a6×Nat×ZC) ⟨hw1,(bW _),(fun j hj=>absurd hj (Nat.not_lt_zero _)),hb5,(Zr.zero.cast (by simp [iJ])),(hx.ext e4)⟩ rfl ⟨rfl,rfl,rfl,rfl,trivial⟩ ?_
 rintro⟨wr,i,kp⟩ ⟨hw1,hi,hfin,hB,zp,rl11⟩
 refine cC [(4,.pointer (some ⟨g1,0,none⟩)),(11,.slice A n cap),(12,.int .i64 n),(13,.int .i64 i)] wr rfl ⟨rfl,rfl,rfl,rfl,trivial⟩ (aA ?_)
 by_cases hin:i<n
 · 
  refine a7 (aB rfl rfl rfl true (dB (a:=i) (b:=n) rfl rfl) (a0 (aA (aP rfl (aN (aD (aA (bG (sr ?_)))))))))
  obtain⟨p7,hp7,hc7,hv7⟩:=(rl11).at (i:=i) (by omega)
  refine bT rfl rfl rfl oP q6 i rfl p7 hp7 (aS rfl rfl (cZ E2 hc7) (mv 1 rfl (a0 (aA ?_))))
  have hb:=hv7
  by_cases hfi:fin (fs.getD i 0)
  · 
   have hf:=hfi
   have hpe:=qI hf
   have hpl:=jD (fs.getD i 0)
   refine a7 (mv 1 rfl (cl (vs:= [.float .f64 (fs.getD i 0)]) hw1 (LB hb hf) rfl (by kernel_rfl) fun xr10 v8 r10 e9 hw2=>?_))
   obtain rfl:=r10
   refine mv 1 rfl (pu (v:= .bool (cY (fs.getD i 0))) rfl (pu (v:= .int .u64 ((pm (fs.getD i 0):Nat):Int)) rfl (pu (v:= .int .i64 ((pe (fs.getD i 0):Int)+ -1074)) rfl (pu (v:= .bool true) rfl (mv 4 rfl (a0 (aA (sr (mv 1 rfl (pu (v:= .bool false) rfl (a0 (aI rfl (aN ?_)))))))))))))
   refine aD ?_
   have L14:ln ((iJ (fs.take i))+(sg (cY (fs.getD i 0)) ((pm (fs.getD i 0))*2^(pe (fs.getD i 0)))))≤67:=aG (KH (tI (k:=0) (xH hfin)) (rQ (s:=(cY (fs.getD i 0))) (nZ (n:=1) (fY (by rw [cF,Nat.pow_one];omega))))) (by decide)
   refine gR eZ 9 [] [Is (.agg #[.bool kp.s,.slice kp.A kp.n kp.c]),Is (.bool (cY (fs.getD i 0))),Is (.int .u64 ((pm (fs.getD i 0):Nat):Int)),fun v' w'=>∃A,v'= .slice A 1 1∧Own w' w.heap.size 65 1 A 1 1 [aW (pm (fs.getD i 0))],Is (.int .i64 ((pe (fs.getD i 0):Int)+ -1074)),Is (.int .i64 ((pe (fs.getD i 0):Nat):Int)),WR w.heap.size ((pm (fs.getD i 0))*2^(pe (fs.getD i 0))),ZW w.heap.size (cY (fs.getD i 0)) ((pm (fs.getD i 0))*2^(pe (fs.getD i 0))),ZR w.heap.size ((iJ (fs.take i))+(sg (cY (fs.getD i 0)) ((pm (fs.getD i 0))*2^(pe (fs.getD i 0)))))] [[],[],[],[2],[],[4],[3,5],[1,6],[0,7]] [[],[],[],[2],[],[4],[2,3,4,5],[1,2,3,4,5,6],[0,1,2,3,4,5,6,7],[0,1,2,3,4,5,6,7,8]] rfl
    (aR rfl rfl (aK rfl rfl ?_) (aR rfl rfl (aK rfl rfl ?_) (aR rfl rfl (aK rfl rfl ?_) (aR rfl rfl (aK rfl rfl ?_) (aR rfl rfl (aK rfl rfl ?_) (aR rfl rfl (aK rfl rfl ?_) (aR rfl rfl (aK rfl rfl ?_) (aR rfl rfl (aK rfl rfl ?_) (aR rfl rfl (aK rfl rfl ?_) gP))))))))) ?_
   · 
    exact fun _ e17=>aJ (lo bO (hB.ext (e9.trans e17)) [.bool kp.s,.slice kp.A kp.n kp.c] rfl rfl rfl (aQ rfl (Ext.refl _) rfl))
   · 
    exact fun _ _=>aJ (mv 1 rfl (aQ rfl (Ext.refl _) rfl))
   · 
    exact fun _ _=>aJ (mv 1 rfl (aQ rfl (Ext.refl _) rfl))
   · 
    intro v22 e23
    have hw3:=hw2.trans e23
    refine dk rfl rfl (aJ (dQ rfl rfl (k:=1) (e:=65) [.int .u64 ((pm (fs.getD i 0):Nat):Int)] (fun _=>by kernel_rfl) fun g29 v30 nb31=>?_))
    have o32:=O1.mk_ (x:=pm (fs.getD i 0)) (b:=w.heap.size) nb31 hw3.size
    have e33:=nb31.ext
    have hw4:=hw3.trans e33
    exact aQ rfl e33 ⟨_,rfl,o32⟩
   · 
    exact fun _ _=>aJ (mv 1 rfl (aQ rfl (Ext.refl _) rfl))
   · 
    exact fun _ _=>dk rfl rfl (aJ (aE rfl rfl rfl ((pe (fs.getD i 0):Nat):Int) (dM (by omega)) (aQ rfl (Ext.refl _) rfl)))
   · 
    intro v45 lF
    have hw3:=hw2.trans lF
    refine i7 rfl rfl fun x47 y48 h49 e50 f51=>?_
    obtain⟨A52,rfl,o52⟩:=h49
    have o52:=o52.ext f51
    refine dk rfl rfl (aJ (cl (vs:= [.slice A52 1 1,.int .i64 ((pe (fs.getD i 0):Nat):Int)]) hw3 (rW (b:=w.heap.size) hw3.size (by omega) (gL o52 (show pm (fs.getD i 0)≤18446744073709551615 by omega)) (by decide)) rfl (by kernel_rfl) fun xr60 v58 r60 e59 hw4=>?_))
    obtain⟨A61,n61,c61,rfl,j61,o61⟩:=r60
    exact aQ rfl e59 ⟨_,_,_,rfl,j61,o61⟩
   · 
    intro v62 e63
    refine dk rfl rfl (i7 rfl rfl fun x69 y70 h71 e72 f73=>?_)
    obtain⟨A74,n74,c74,rfl,j74,o74⟩:=h71
    have o74:=o74.ext f73
    refine aJ (pu (v:= .agg #[.bool (cY (fs.getD i 0)),.slice A74 n74 c74]) rfl ?_)
    exact aQ rfl (Ext.refl _) ⟨_,_,_,rfl,j74,o74⟩
   · 
    intro v75 e76
    have hw3:=hw2.trans e76
    refine dk rfl rfl (i7 rfl rfl fun x82 y83 h84 e85 f86=>?_)
    obtain⟨A87,n87,c87,rfl,j87,o87⟩:=h84
    have o87:=o87.ext f86
    refine aJ ?_
    have L88:ln ((iJ (fs.take i))+(sg (cY (fs.getD i 0)) ((pm (fs.getD i 0))*2^(pe (fs.getD i 0)))))≤67:=aG (KH (tI (k:=0) (xH hfin)) (rQ (s:=(cY (fs.getD i 0))) (nZ (n:=1) (fY (by rw [cF,Nat.pow_one];omega))))) (by decide)
    refine cl (vs:= [.agg #[.bool kp.s,.slice kp.A kp.n kp.c],.agg #[.bool (cY (fs.getD i 0)),.slice A87 n87 c87]]) hw3 (YI hw3.size (zp.ext (e9.trans e76)).zi (zp.le (aG (tI (k:=0) (xH hfin)) (by decide))) ((o87).wi.zi (cY (fs.getD i 0))) (aG (aG (Nat.le_of_eq j87) (nZ (n:=1) (fY (by rw [cF,Nat.pow_one];omega)))) (by decide))) rfl (by kernel_rfl) fun xr91 v89 r91 e90 hw4=>?_
    obtain⟨s92,A92,n92,c92,rfl,z92⟩:=r91
    exact aQ rfl e90 ⟨_,_,_,_,rfl,z92⟩
   · 
    intro v93 e94
    have hw3:=hw2.trans e94
    refine dk rfl rfl (dk rfl rfl (dk rfl rfl (i7 rfl rfl fun x110 y111 h112 e113 f114=>?_)))
    obtain⟨A115,rfl,o115⟩:=h112
    have o115:=o115.ext f114
    refine dk rfl rfl (dk rfl rfl (i7 rfl rfl fun x126 y127 h128 e129 f130=>?_))
    obtain⟨A131,n131,c131,rfl,j131,o131⟩:=h128
    have o131:=o131.ext f130
    refine i7 rfl rfl fun x132 y133 h134 e135 f136=>?_
    obtain⟨A137,n137,c137,rfl,j137,o137⟩:=h134
    have o137:=o137.ext f136
    refine i7 rfl rfl fun x138 y139 h140 e141 f142=>?_
    obtain⟨s143,A143,n143,c143,rfl,z143⟩:=h140
    have z143:=z143.ext f142
    refine aJ ?_
    have hb145:=(hB.ext (e9.trans e94))
    refine so bO hb145 [.bool s143,.slice A143 n143 c143] hw3 ge6 rfl rfl rfl rfl fun v144 hb146 u147 hw4=>(aU (gQ (cA (aD (a7 (aE rfl rfl rfl ((i+1:Nat):Int) (bF (a:=i) (b:=1) rfl rfl) (mv 1 rfl (aU (cH (⟨v144,i+1,⟨s143,A143,n143,c143⟩⟩:a6×Nat×ZC) ⟨hw4,(by omega),(fun j hj=>by by_cases e:j=i;(· subst e;exact hfi);(· exact hfin j (by omega))),hb146,(((z143.updT hb145 u147)).cast (by rw [xG (by omega)];unfold fv;rw [lA])),(Rf.updL (rl11.ext (e9.trans e94)) u147 ne3)⟩ (show n-(i+1)<n-i by omega) rfl ⟨rfl,rfl,rfl,rfl,trivial⟩)))))))))
  · 
   have hf:=hfi
   refine a7 (mv 1 rfl (cl (vs:= [.float .f64 (fs.getD i 0)]) hw1 (LA hb hf) rfl (by kernel_rfl) fun xr151 v149 r151 e150 hw2=>?_))
   obtain rfl:=r151
   refine mv 1 rfl (pu (v:= .bool false) rfl (pu (v:= .int .u64 0) rfl (pu (v:= .int .i64 0) rfl (pu (v:= .bool false) rfl (mv 4 rfl (a0 (aA (sr (mv 1 rfl (pu (v:= .bool true) rfl (a0 (aP rfl (aA ?_)))))))))))))
   refine a7 (mv 2 rfl (a0 (aM (bL (eC (bL (mY (eC (bL (aL [.float .f64 0,.int .i64 3] rfl ⟨rfl,rfl,trivial⟩ ?_))))))))))
   have ha:=NB (by omega) hfi
   have e1:iI fs=0:=FX ha
   have e2:kO fs=3:=FW ha
   rw [e1,e2]
   exact⟨_,rfl,⟨_,_,rfl,rfl,rfl⟩,hw2⟩
 · 
  have hie:i=n:=by omega
  have htk:fs.take i=fs:=List.take_of_length_le (by omega)
  rw [htk] at zp
  refine a7 (aB rfl rfl rfl false (cX (a:=i) (b:=n) rfl rfl) (a0 (aA (aI rfl (cR (cN (cP (cQ (aD (aA ?_))))))))))
  obtain⟨u,hu⟩:∃u,1*2^bM=u:=⟨_,rfl⟩
  have hu0:0<u:=hu▸FQ
  have hul:(wd u).length≤66:=hu▸KI
  obtain⟨nb,hnb⟩:∃nb,cU (Int.natAbs (iJ fs)*2^bM) u=nb:=⟨_,rfl⟩
  have hnl:nb≤9218868437227405312:=hnb▸qL _ _
  have e0:nb=cU (Int.natAbs (iJ fs)) 1:=by rw [←hnb,←hu,JU]
  replace hu:=Lib.hid hu
  replace hnb:=Lib.hid hnb
  replace e0:=Lib.hid e0
  refine gR eZ 8 [] [Is (.pointer (some ⟨g1,0,none⟩)),Is (.bool kp.s),Is (.pointer (some ⟨g1,1,none⟩)),Is (.slice kp.A kp.n kp.c),WR w.heap.size (1),WR w.heap.size (u),Is (.float .f64 nb),Is (.float .f64 (dV kp.s nb))] [[],[0],[],[2],[],[4],[3,5],[1,6]] [[],[0],[],[2],[],[4],[2,3,4,5],[0,1,2,3,4,5,6],[0,1,2,3,4,5,6,7],[0,1,2,3,4,5,6,7,8]] rfl
   (aR rfl rfl (aK rfl rfl ?_) (aR rfl rfl (aK rfl rfl ?_) (aR rfl rfl (aK rfl rfl ?_) (aR rfl rfl (aK rfl rfl ?_) (aR rfl rfl (aK rfl rfl ?_) (aR rfl rfl (aK rfl rfl ?_) (aR rfl rfl (aK rfl rfl ?_) (aR rfl rfl (aK rfl rfl ?_) gP)))))))) ?_
  · 
   exact fun _ _=>aJ (pf g1 0 rfl (aQ rfl (Ext.refl _) rfl))
  · 
   exact fun _ e157=>dk rfl rfl (aJ (aS rfl rfl (aY eK (hB.ext e157) rfl) (aQ rfl (Ext.refl _) rfl)))
  · 
   exact fun _ _=>aJ (pf g1 1 rfl (aQ rfl (Ext.refl _) rfl))
  · 
   exact fun _ e166=>dk rfl rfl (aJ (aS rfl rfl (aY eM (hB.ext e166) rfl) (aQ rfl (Ext.refl _) rfl)))
  · 
   intro v172 e173
   have hw2:=hw1.trans e173
   refine aJ (dQ rfl rfl (k:=1) (e:=65) [.int .u64 1] (fun _=>by kernel_rfl) fun g174 v175 nb176=>?_)
   have o177:=O1.mk_ (x:=1) (b:=w.heap.size) nb176 hw2.size
   have e178:=nb176.ext
   have hw3:=hw2.trans e178
   have o180:=iK o177 (show 1≤18446744073709551615 by decide) (show 1≠0 by decide)
   have j179:=hZ (show 1≤18446744073709551615 by decide) (show 1≠0 by decide)
   exact aQ rfl e178 ⟨_,_,_,rfl,j179,o180⟩
  · 
   intro v181 e182
   have hw2:=hw1.trans e182
   refine i7 rfl rfl fun x183 y184 h185 e186 f187=>?_
   obtain⟨A188,n188,c188,rfl,j188,o188⟩:=h185
   have o188:=o188.ext f187
   refine aJ (cl (vs:= [.slice A188 n188 c188,.int .i64 1074]) hw2 (YL (b:=w.heap.size) hu.out hw2.size o188.wi (by rw [j188];exact aG (Nat.le_of_eq (hZ (show 1≤18446744073709551615 by decide) (show 1≠0 by decide)).symm) (by decide))) rfl (by kernel_rfl) fun xr191 v189 r191 e190 hw3=>?_)
   obtain⟨A192,n192,c192,rfl,j192,o192⟩:=r191
   exact aQ rfl e190 ⟨_,_,_,rfl,j192,o192⟩
  · 
   intro v193 e194
   have hw2:=hw1.trans e194
   refine dk rfl rfl (i7 rfl rfl fun x200 y201 h202 e203 f204=>?_)
   obtain⟨A205,n205,c205,rfl,j205,o205⟩:=h202
   have o205:=o205.ext f204
   refine aJ (cl (vs:= [.slice kp.A kp.n kp.c,.slice A205 n205 c205]) hw2 (YU (zp.ext e194).zi.wi (zp.le (aG (tI (k:=0) (by have:=xH hfin;rwa [htk] at this)) (by decide))) o205.wi (by rw [j205];exact aG hul (by decide)) hu0 hnb.out) rfl (by kernel_rfl) fun xr208 v206 r208 e207 hw3=>?_)
   obtain rfl:=r208
   exact aQ rfl e207 rfl
  · 
   intro v209 e210
   have hw2:=hw1.trans e210
   refine dk rfl rfl (dk rfl rfl (aJ (cl (vs:= [.bool kp.s,.float .f64 nb]) hw2 (rV (ng:=kp.s) hnl) rfl (by kernel_rfl) fun xr223 v221 r223 e222 hw3=>?_)))
   obtain rfl:=r223
   exact aQ rfl e222 rfl
  · 
   intro v224 e225
   have hw2:=hw1.trans e225
   refine dk rfl rfl (dk rfl rfl (dk rfl rfl (dk rfl rfl (i7 rfl rfl fun x246 y247 h248 e249 f250=>?_))))
   obtain⟨A251,n251,c251,rfl,j251,o251⟩:=h248
   have o251:=o251.ext f250
   refine i7 rfl rfl fun x252 y253 h254 e255 f256=>?_
   obtain⟨A257,n257,c257,rfl,j257,o257⟩:=h254
   have o257:=o257.ext f256
   refine dk rfl rfl (dk rfl rfl (aJ (mv 2 rfl (aU (gQ (aD (aM (aL [.float .f64 (dV kp.s nb),I0] rfl ⟨rfl,rfl,trivial⟩ ?_))))))))
   have ha:=E1 (fun j hj=>hfin j (by omega))
   have e1:iI fs=dV kp.s nb:=by rw [xD ha,e0.out,zp.sgn,sU]
   have e2:kO fs=0:=xC ha
   rw [e1,e2]
   exact⟨_,rfl,⟨_,_,rfl,rfl,rfl⟩,hw2⟩
theorem PM (i:Nat):cG 10 ((l.take i).map dv)≤cG 10 (l.map dv):=by
 have h:=BE 10 ((l.take i).map dv) ((l.drop i).map dv)
 rw [←List.map_append,List.take_append_drop] at h
 rw [h]
 exact aG (Nat.le_mul_of_pos_right _ (eP (by decide))) (Nat.le_add_right _ _)
theorem PL (h:i<l.length)(hd:Digs l):cG 10 ((l.take (i+1)).map dv)=10*cG 10 ((l.take i).map dv)+(l.getD i 0-48):=by
 rw [BI h,List.map_append,iN,j7,sP,D8 (hd _ (jF h))]
 omega
theorem M8 (h:k≤9223372036854775807):bV .i64 (IntKind.i64.wrap (0-((k:Nat):Int)))= .int .i64 (-((k:Nat):Int)):=by rw [IntWalk.i64_in _ ⟨by omega,by omega⟩,Int.zero_sub]
set_option maxHeartbeats 4000000 in
theorem LE {w:a6}(hbs:∀b,b∈bs→b<256)(hlen:bs.length≤1073741824)(hdg:Digs bs):
    aO aF 212 #[.string (a8 bs)] w (fun e w'=>(cG 10 (bs.map dv)≤5000→Gv w (T2 (Is (.int .i64 ((cG 10 (bs.map dv):Nat):Int))) (Is (.bool true))) e w')∧(5000<cG 10 (bs.map dv)→Gv w (T2 (Is (.int .i64 0)) (Is (.bool false))) e w')):=by
 refine bK Tryz.func212 rfl (n:=23) rfl (bq rfl) (args:= [.string (a8 bs)]) (bE [(0,.string (a8 bs))] ⟨rfl,trivial⟩ (sr (mv 2 rfl (a0 (sr (mv 1 rfl (a0 (aA (sr (mv 1 rfl (bD rfl rfl (v:= .int .i64 (((a8 bs).size:Nat):Int)) (v':= .int .i64 ((bs.length:Nat):Int)) (by rw [cM]) (mv 1 rfl (aU ?_)))))))))))))
 refine aD (bG ?_)
 refine d4 (T:=a6×Nat×Nat)
  (fun⟨wr,i,v⟩=> [(0,.string (a8 bs)),(4,.int .i64 v),(7,.int .i64 ((bs.length:Nat):Int)),(8,.int .i64 i)])
  (fun⟨wr,i,v⟩=>wr)
  (fun⟨wr,i,v⟩=>(Ext w wr)∧(i≤bs.length)∧(v=cG 10 ((bs.take i).map dv))∧(v≤5000))
  (fun⟨wr,i,v⟩=>bs.length-i)
  (⟨w,0,0⟩:a6×Nat×Nat) ⟨(Ext.refl w),(bW _),rfl,(by decide)⟩ rfl ⟨rfl,rfl,rfl,rfl,trivial⟩ ?_
 rintro⟨wr,i,v⟩ ⟨hw1,hi,hv,hv5⟩
 refine cC [(0,.string (a8 bs)),(4,.int .i64 v),(7,.int .i64 ((bs.length:Nat):Int)),(8,.int .i64 i)] wr rfl ⟨rfl,rfl,rfl,rfl,trivial⟩ (aA ?_)
 by_cases hlt:i<bs.length
 · 
  refine a7 (aB rfl rfl rfl true (dB (a:=i) (b:=bs.length) rfl rfl) (a0 (aA (aP rfl (aN (aD (aA (bG (sr (mv 2 rfl (a0 (aA ?_))))))))))))
  have hst:=PL hlt hdg
  have hc:=hdg _ (jF hlt)
  refine a7 (mv 1 rfl (aE rfl rfl rfl ((10*v:Nat):Int) (nB (a:=10) (b:=v) rfl rfl) (mv 2 rfl (dK (bs:=bs) (i:=i) rfl rfl rfl Tryz.underlying9 hbs (aE rfl rfl rfl (((bs.getD i 0)-48:Nat):Int) (NF (a:=bs.getD i 0) (b:=48) rfl rfl (by omega) (by omega)) (bD rfl rfl (v:= .int .i64 (IntKind.i64.wrap (((bs.getD i 0)-48:Nat):Int))) (v':= .int .i64 (((bs.getD i 0)-48:Nat):Int)) (lS (by first | omega | exact hle64)) (aE rfl rfl rfl (((10*v)+((bs.getD i 0)-48):Nat):Int) (bF (a:=10*v) (b:=(bs.getD i 0)-48) rfl rfl) (mv 1 rfl (a0 (aA ?_))))))))))
  by_cases hgt:(10*v)+((bs.getD i 0)-48)>5000
  · 
   refine a7 (mv 1 rfl (aB rfl rfl rfl true (dJ (a:=(10*v)+((bs.getD i 0)-48)) (b:=5000) rfl rfl) (a0 (aP rfl (sr (mv 2 rfl (a0 (aM (eC (bL (mY (eC (bL ?_)))))))))))))
   refine aL [I0,F0] rfl ⟨rfl,rfl,trivial⟩ ?_
   have hle:=PM (l:=bs) (i+1)
   exact⟨fun h=>absurd h (by omega),fun _=>⟨_,rfl,⟨_,_,rfl,rfl,rfl⟩,hw1⟩⟩
  · 
   refine a7 (mv 1 rfl (aB rfl rfl rfl false (d6 (a:=(10*v)+((bs.getD i 0)-48)) (b:=5000) rfl rfl) (a0 (aI rfl (aN (cA (aD (a7 (aE rfl rfl rfl ((i+1:Nat):Int) (bF (a:=i) (b:=1) rfl rfl) (mv 1 rfl (aU (cH (⟨wr,i+1,10*v+(bs.getD i 0-48)⟩:a6×Nat×Nat) ⟨hw1,(by omega),(by rw [hst,hv]),(by omega)⟩ (show bs.length-(i+1)<bs.length-i by omega) rfl ⟨rfl,rfl,rfl,rfl,trivial⟩))))))))))))
 · 
  have hie:i=bs.length:=by omega
  rw [hie,List.take_length] at hv
  refine a7 (aB rfl rfl rfl false (cX (a:=i) (b:=bs.length) rfl rfl) (a0 (aA (aI rfl (cR (cN (cP (cQ (aD (sr (mv 3 rfl (a0 (aM ?_)))))))))))))
  refine aL [.int .i64 v,.bool true] rfl ⟨rfl,rfl,trivial⟩ ?_
  exact⟨fun _=>⟨_,rfl,⟨_,_,rfl,(show bV .i64 ((v:Nat):Int)=_ by rw [hv]),rfl⟩,hw1⟩,fun h=>absurd hv5 (by omega)⟩
set_option maxHeartbeats 4000000 in
theorem zB {w:a6}(hb:b≤w.heap.size)(hn:n≤68719476736:=by omega):
    aO aF 213 #[.int .i64 n] w (Gv w (WR b (10^n))):=by
 refine bK Tryz.func213 rfl (n:=20) rfl (bq rfl) (args:= [.int .i64 n]) (bE [(0,.int .i64 n)] ⟨rfl,trivial⟩ (sr (mv 1 rfl (a0 (sr (dQ rfl rfl (k:=1) (e:=65) [.int .u64 1] (fun _=>by kernel_rfl) fun g1 v2 nb3=>?_))))))
 have o4:=O1.mk_ (x:=1) (b:=w.heap.size) nb3 (Ext.refl w).size
 have e5:=nb3.ext
 have hw1:=(Ext.refl w).trans e5
 have o7:=iK o4 (show 1≤18446744073709551615 by decide) (show 1≠0 by decide)
 have j6:=hZ (show 1≤18446744073709551615 by decide) (show 1≠0 by decide)
 refine dQ rfl rfl (k:=1) (e:=65) [.int .u64 10] (fun _=>by kernel_rfl) fun g8 v9 nb10=>?_
 have o11:=O1.mk_ (x:=10) (b:=w.heap.size) nb10 hw1.size
 have e12:=nb10.ext
 have hw2:=hw1.trans e12
 have o14:=iK o11 (show 10≤18446744073709551615 by decide) (show 10≠0 by decide)
 have j13:=hZ (show 10≤18446744073709551615 by decide) (show 10≠0 by decide)
 refine mv 2 rfl (a0 (aA (bG ?_)))
 refine d4 (T:=a6×Nat×Nat×Nat×Option aC×Nat×Nat×Option aC×Nat×Nat)
  (fun⟨wr,e,p,b,PA,pn,pc,BA,bn,bc⟩=> [(0,.int .i64 e),(3,.slice PA pn pc),(4,.slice BA bn bc)])
  (fun⟨wr,e,p,b,PA,pn,pc,BA,bn,bc⟩=>wr)
  (fun⟨wr,e,p,b,PA,pn,pc,BA,bn,bc⟩=>(Ext w wr)∧(p*b^e=10^n)∧(1≤p)∧(1≤b)∧(pn=(wd p).length)∧(bn=(wd b).length)∧(Own wr w.heap.size 65 1 PA pn pc ((wd p).map aW))∧(Own wr w.heap.size 65 1 BA bn bc ((wd b).map aW))∧(e≤n))
  (fun⟨wr,e,p,b,PA,pn,pc,BA,bn,bc⟩=>e)
  (⟨v9,n,1,10,(some ⟨g1,0,none⟩),1,1,(some ⟨g8,0,none⟩),1,1⟩:a6×Nat×Nat×Nat×Option aC×Nat×Nat×Option aC×Nat×Nat) ⟨hw2,(by rw [Nat.one_mul]),(by decide),(by decide),j6,j13,(o7.ext e12),o14,(b8 _)⟩ rfl ⟨rfl,rfl,rfl,trivial⟩ ?_
 rintro⟨wr,e,p,b,PA,pn,pc,BA,bn,bc⟩ ⟨hw1,hI,hp1,hb1,hpn,hbn,hpo,hbo,he⟩
 refine cC [(0,.int .i64 e),(3,.slice PA pn pc),(4,.slice BA bn bc)] wr rfl ⟨rfl,rfl,rfl,trivial⟩ (aA (aA ?_))
 by_cases he0:e>0
 · 
  have hpK:=aG (gZ (IV hI hb1)) (kA (n:=n))
  have hbK:=aG (gZ (IZ hI hp1 hb1 he0)) (kA (n:=n))
  refine a7 (mv 1 rfl (aB rfl rfl rfl true (dJ (a:=e) (b:=0) rfl rfl) (a0 (aP rfl (aN (aD (aA (bG (aA (aA ?_))))))))))
  by_cases ho:e%2=1
  · 
   refine a7 (mv 1 rfl (aE rfl rfl rfl ((e%2:Nat):Int) (fC (a:=e) (b:=2) rfl rfl) (aB rfl rfl rfl true (dA (a:=e%2) (b:=1) rfl rfl) (a0 (aP rfl (a7 (mv 2 rfl (cl (vs:= [.slice PA pn pc,.slice BA bn bc]) hw1 (xS hw1.size hpo.wi hbo.wi) rfl (by kernel_rfl) fun xr17 v15 r17 e16 hw2=>?_))))))))
   obtain⟨A18,n18,c18,rfl,j18,o18⟩:=r17
   refine mv 1 rfl (a0 (a7 (mv 1 rfl (cl (vs:= [.slice BA bn bc]) hw2 (uU hw2.size (hbo.ext e16).wi) rfl (by kernel_rfl) fun xr21 v19 r21 e20 hw3=>?_))))
   obtain⟨A22,n22,c22,rfl,j22,o22⟩:=r21
   refine mv 1 rfl (aU (cA (aD (a7 (mv 1 rfl (aE rfl rfl rfl ((e/2:Nat):Int) (iS (a:=e) (b:=2) rfl rfl) (mv 1 rfl (aU (cH (⟨v19,e/2,p*b,b*b,A18,n18,c18,A22,n22,c22⟩:a6×Nat×Nat×Nat×Option aC×Nat×Nat×Option aC×Nat×Nat) ⟨hw3,(by rw [IW ho];exact hI),(fS hp1 hb1),(fS hb1 hb1),j18,j22,(o18.ext e20),o22,(aG (fI _ _) he)⟩ (jZ he0 (by decide)) rfl ⟨rfl,rfl,rfl,trivial⟩)))))))))
  · 
   refine a7 (mv 1 rfl (aE rfl rfl rfl ((e%2:Nat):Int) (fC (a:=e) (b:=2) rfl rfl) (aB rfl rfl rfl false (dC (a:=e%2) (b:=1) rfl rfl) (a0 (aI rfl (aN (aD (a7 (mv 1 rfl (cl (vs:= [.slice BA bn bc]) hw1 (uU hw1.size hbo.wi) rfl (by kernel_rfl) fun xr25 v23 r25 iE hw2=>?_))))))))))
   obtain⟨A26,n26,c26,rfl,j26,o26⟩:=r25
   refine mv 1 rfl (aU (cA (aD (a7 (mv 1 rfl (aE rfl rfl rfl ((e/2:Nat):Int) (iS (a:=e) (b:=2) rfl rfl) (mv 1 rfl (aU (cH (⟨v23,e/2,p,b*b,PA,pn,pc,A26,n26,c26⟩:a6×Nat×Nat×Nat×Option aC×Nat×Nat×Option aC×Nat×Nat) ⟨hw2,(by rw [IY ho];exact hI),hp1,(fS hb1 hb1),hpn,j26,(hpo.ext iE),o26,(aG (fI _ _) he)⟩ (jZ he0 (by decide)) rfl ⟨rfl,rfl,rfl,trivial⟩)))))))))
 · 
  refine a7 (mv 1 rfl (aB rfl rfl rfl false (d6 (a:=e) (b:=0) rfl rfl) (a0 (aI rfl (cR (cN (cP (cQ (aD (sr (mv 2 rfl (a0 (aM ?_)))))))))))))
  refine aL [.slice PA pn pc] rfl ⟨rfl,trivial⟩ ?_
  have e0:e=0:=by omega
  subst e0
  rw [Nat.pow_zero,cI] at hI
  subst hI
  exact⟨_,rfl,⟨_,_,_,rfl,hpn,(hpo).mono hb⟩,hw1⟩
theorem yY {w:a6}(hX:Wi w A n c X){nb:Nat}(hD:Wi w B n' c' D)(hD0:0<D)(h:cU (X*2^bM) D=nb)(hXn:n≤67108864:=by omega)(hDn:n'≤67108864:=by omega):
  aO aF 166 #[.slice A n c,.slice B n' c'] w (Gv w (Is (.float .f64 nb))):=by
 subst h
 exact yZ hX hXn hD hDn hD0
def mT (m bh x:Nat)(dn:Bool):Nat:=if dn=false∧bh≤x then cU (m*10^(x-bh)*2^bM) 1 else cU (m*2^bM) (10^(if dn=true then x+bh else bh-x))
def jC (bs:List Nat):Nat×Int:=if 4096<bs.length then (0,5) else match fO bs with
 | none=>(0,7)
 | some x=>if 5000<cG 10 (x.2.2.2.map dv) then (0,5) else (dV (aZ bs) (mT (cG 10 (x.1.map dv)) x.2.1 (cG 10 (x.2.2.2.map dv)) x.2.2.1),0)
theorem IE (h:4096<bs.length):jC bs=(0,5):=by unfold jC;rw [if_pos h]
theorem ID (h:¬4096<bs.length)(hc:fO bs=none):jC bs=(0,7):=by unfold jC;rw [if_neg h,hc]
theorem IF {dg:List Nat}(h:¬4096<bs.length)(hc:fO bs=some (dg,bh,dn,pw))(h5:5000<cG 10 (pw.map dv)):jC bs=(0,5):=by unfold jC;rw [if_neg h,hc];exact if_pos h5
theorem qF {dg:List Nat}{V nb:Nat}(h:¬4096<bs.length)(hc:fO bs=some (dg,bh,dn,pw))(hV:cG 10 (pw.map dv)=V)(h5:¬5000<V)(hX:cG 10 (dg.map dv)=X)(hn:mT X bh V dn=nb):jC bs=(dV (aZ bs) nb,0):=by
 unfold jC;rw [if_neg h,hc]
 show (if 5000<cG 10 (pw.map dv) then _ else (dV (aZ bs) (mT (cG 10 (dg.map dv)) bh (cG 10 (pw.map dv)) dn),(0:Int)))=_
 rw [hV,hX,if_neg h5,hn]
set_option maxHeartbeats 4000000 in
theorem Z8 {w:a6}(hbs:∀b,b∈bs→b<256)(hlen:bs.length≤1099511627776):
    aO aF 171 #[.string (a8 bs)] w (Gv w (T2 (Is (.float .f64 (jC bs).1)) (Is (.int .i64 (jC bs).2)))):=by
 refine bK Tryz.func171 rfl (n:=58) rfl (bq rfl) (args:= [.string (a8 bs)]) (bE [(0,.string (a8 bs))] ⟨rfl,trivial⟩ (sr (mv 2 rfl (a0 (aA (aA ?_))))))
 by_cases hlong:bs.length>4096
 · 
  refine a7 (mv 1 rfl (bD rfl rfl (v:= .int .i64 (((a8 bs).size:Nat):Int)) (v':= .int .i64 ((bs.length:Nat):Int)) (by rw [cM]) (aB rfl rfl rfl true (dJ (a:=bs.length) (b:=4096) rfl rfl) (a0 (aP rfl (sr (mv 2 rfl (a0 (aM (bL (aL [.float .f64 0,.int .i64 5] rfl ⟨rfl,rfl,trivial⟩ ?_)))))))))))
  have hr:=IE hlong
  exact⟨_,rfl,⟨_,_,rfl,(show Value.float .f64 _=_ by rw [hr]),(show bV .i64 _=_ by rw [hr])⟩,(Ext.refl w)⟩
 · 
  refine a7 (mv 1 rfl (bD rfl rfl (v:= .int .i64 (((a8 bs).size:Nat):Int)) (v':= .int .i64 ((bs.length:Nat):Int)) (by rw [cM]) (aB rfl rfl rfl false (d6 (a:=bs.length) (b:=4096) rfl rfl) (a0 (aI rfl (aN (aD (aA ?_))))))))
  rcases hcut:fO bs with _ | ⟨dg,bh,dn,pw⟩
  · 
   refine a7 (mv 1 rfl (dD rfl rfl (vs:= [.string (a8 bs)]) (by kernel_rfl) (by decide) (Z9 hbs (by omega) hcut) ?_))
   rintro _ v1 ⟨ng4,dg5,bh6,dn7,pw8,p9,xr3,rfl,r3,e2⟩
   refine dE ?_
   have hw1:=(Ext.refl w).trans e2
   obtain rfl:=r3
   refine mv 1 rfl (pu (v:= .agg #[.bool ng4,.string (a8 dg5),.int .i64 bh6,.bool dn7,.string (a8 pw8)]) rfl (pu (v:= .bool false) rfl (al [F0,.string (a8 []),I0,F0,.string (a8 [])] hw1 (fun _=>by kernel_rfl) rfl fun g10 v11 hb13 ge14 e12 hw2=>(so fR hb13 [.bool ng4,.string (a8 dg5),.int .i64 bh6,.bool dn7,.string (a8 pw8)] hw2 ge14 rfl rfl rfl rfl fun v15 hb17 u18 hw3=>(mv 1 rfl (a0 (aA (sr (mv 1 rfl (pu (v:= .bool true) rfl (a0 (aP rfl (aA ?_)))))))))))))
   refine a7 (mv 2 rfl (a0 (aM (bL (aL [.float .f64 0,.int .i64 7] rfl ⟨rfl,rfl,trivial⟩ ?_)))))
   have hr:=ID hlong hcut
   exact⟨_,rfl,⟨_,_,rfl,(show Value.float .f64 _=_ by rw [hr]),(show bV .i64 _=_ by rw [hr])⟩,hw3⟩
  · 
   obtain⟨hdg,hdg0,hpw,hbh,hdgl,hpwl⟩:=MD hcut
   have hdg256:∀b,b∈dg→b<256:=fun b hb=>by have:=hdg b hb;omega
   have hpw256:∀b,b∈pw→b<256:=fun b hb=>by have:=hpw b hb;omega
   obtain⟨X,hX⟩:∃X,cG 10 (dg.map dv)=X:=⟨_,rfl⟩
   obtain⟨V,hV⟩:∃V,cG 10 (pw.map dv)=V:=⟨_,rfl⟩
   have hXl:(wd X).length≤4096:=by rw [←hX];exact aG (CT (hdg.good hdg0).2) (by omega)
   refine a7 (mv 1 rfl (cl (vs:= [.string (a8 bs)]) (Ext.refl w) (ZA hbs (by omega) hcut) rfl (by kernel_rfl) fun xr22 v20 r22 e21 hw1=>?_))
   obtain rfl:=r22
   refine mv 1 rfl (pu (v:= .agg #[.bool (aZ bs),.string (a8 dg),.int .i64 bh,.bool dn,.string (a8 pw)]) rfl (pu (v:= .bool true) rfl (al [F0,.string (a8 []),I0,F0,.string (a8 [])] hw1 (fun _=>by kernel_rfl) rfl fun g23 v24 hb26 ge27 e25 hw2=>(so fR hb26 [.bool (aZ bs),.string (a8 dg),.int .i64 bh,.bool dn,.string (a8 pw)] hw2 ge27 rfl rfl rfl rfl fun v28 hb30 u31 hw3=>(mv 1 rfl (a0 (aA (sr (mv 1 rfl (pu (v:= .bool false) rfl (a0 (aI rfl (aN ?_)))))))))))))
   refine aD (aA ?_)
   by_cases h5:5000<V
   · 
    refine a7 (pf g23 4 rfl (aS rfl rfl (aY (fun _=>by kernel_rfl) hb30 rfl) (cl (vs:= [.string (a8 pw)]) hw3 ((LE hpw256 (by omega) hpw).mono fun e w' h=>h.2 (by rw [hV];exact h5)) rfl (by kernel_rfl) fun xr35 v33 r35 e34 hw4=>?_)))
    obtain⟨_,_,rfl,rfl,rfl⟩:=r35
    refine mv 1 rfl (pu (v:= .int .i64 0) rfl (pu (v:= .bool false) rfl (mv 2 rfl (a0 (aA (sr (mv 1 rfl (pu (v:= .bool true) rfl (a0 (aP rfl (sr (mv 2 rfl (aU ?_)))))))))))))
    refine aD (aM (bL (aL [.float .f64 0,.int .i64 5] rfl ⟨rfl,rfl,trivial⟩ ?_)))
    have hr:=IF hlong hcut (by rw [hV];exact h5)
    exact⟨_,rfl,⟨_,_,rfl,(show Value.float .f64 _=_ by rw [hr]),(show bV .i64 _=_ by rw [hr])⟩,hw4⟩
   · 
    refine a7 (pf g23 4 rfl (aS rfl rfl (aY (fun _=>by kernel_rfl) hb30 rfl) (cl (vs:= [.string (a8 pw)]) hw3 ((LE hpw256 (by omega) hpw).mono fun e w' h=>by have h2:=h.1 (by rw [hV];omega);rw [hV] at h2;exact h2) rfl (by kernel_rfl) fun xr39 v37 r39 e38 hw4=>?_)))
    obtain⟨_,_,rfl,rfl,rfl⟩:=r39
    refine mv 1 rfl (pu (v:= .int .i64 V) rfl (pu (v:= .bool true) rfl (mv 2 rfl (a0 (aA (sr (mv 1 rfl (pu (v:= .bool false) rfl (a0 (aI rfl (aN (aD (aA ?_)))))))))))))
    refine aA ?_
    cases dn
    · 
     refine a7 (pf g23 3 rfl (aS rfl rfl (aY (fun _=>by kernel_rfl) (hb30.ext e38) rfl) (a0 (aI rfl (aN (aD (sr (mv 1 rfl (pf g23 2 rfl (aS rfl rfl (aY (fun _=>by kernel_rfl) (hb30.ext e38) rfl) (aE rfl rfl rfl (((V:Nat):Int)-((bh:Nat):Int)) (dM rfl) (mv 1 rfl (aU ?_)))))))))))))
     refine aD (sr (pf g23 1 rfl (aS rfl rfl (aY (fun _=>by kernel_rfl) (hb30.ext e38) rfl) (dD rfl rfl (vs:= [.string (a8 dg)]) (by kernel_rfl) (by decide) (by have h:=GW (w:=v37) hdg256 (by omega) (hdg.good hdg0);rw [hX] at h;exact h.mono (Gv.imp (T2.imp (WR.imp hw4.size) Is.imp))) ?_))))
     rintro _ v41 ⟨xr43,rfl,r43,e42⟩
     refine dE ?_
     have hw5:=hw4.trans e42
     obtain⟨_,_,rfl,⟨A45,n45,c45,rfl,j45,o45⟩,rfl⟩:=r43
     refine mv 1 rfl (pu (v:= .slice A45 n45 c45) rfl (pu (v:= .int .i64 0) rfl (mv 2 rfl (a0 (sr (dQ rfl rfl (k:=1) (e:=65) [.int .u64 1] (fun _=>by kernel_rfl) fun g46 v47 nb48=>?_))))))
     have o49:=O1.mk_ (x:=1) (b:=w.heap.size) nb48 hw5.size
     have e50:=nb48.ext
     have hw6:=hw5.trans e50
     have o52:=iK o49 (show 1≤18446744073709551615 by decide) (show 1≠0 by decide)
     have j51:=hZ (show 1≤18446744073709551615 by decide) (show 1≠0 by decide)
     refine mv 1 rfl (a0 (aA (aA ?_)))
     by_cases hz:bh≤V
     · 
      refine bE [(0,.string (a8 bs)),(2,.float .f64 0),(3,.int .i64 0),(10,.string (a8 bs)),(11,.int .i64 ((bs.length:Nat):Int)),(12,.bool false),(14,.string (a8 bs)),(15,.tuple #[.agg #[.bool (aZ bs),.string (a8 dg),.int .i64 bh,F0,.string (a8 pw)],.bool true]),(13,.tuple #[.agg #[.bool (aZ bs),.string (a8 dg),.int .i64 bh,F0,.string (a8 pw)],.bool true]),(16,.agg #[.bool (aZ bs),.string (a8 dg),.int .i64 bh,F0,.string (a8 pw)]),(17,.bool true),(4,.pointer (some ⟨g23,0,none⟩)),(5,.bool true),(18,.bool true),(19,.bool false),(21,.pointer (some ⟨g23,4,none⟩)),(22,.string (a8 pw)),(23,.tuple #[.int .i64 V,.bool true]),(20,.tuple #[.int .i64 V,.bool true]),(24,.int .i64 V),(25,.bool true),(6,.int .i64 (((V:Nat):Int)-((bh:Nat):Int))),(26,.bool true),(27,.bool false),(28,.pointer (some ⟨g23,3,none⟩)),(29,.bool false),(32,.int .i64 V),(33,.pointer (some ⟨g23,2,none⟩)),(34,.int .i64 bh),(35,.int .i64 (((V:Nat):Int)-((bh:Nat):Int))),(37,.pointer (some ⟨g23,1,none⟩)),(38,.string (a8 dg)),(39,.tuple #[.slice A45 n45 c45,I0]),(36,.tuple #[.slice A45 n45 c45,I0]),(40,.slice A45 n45 c45),(41,.int .i64 0),(7,.slice A45 n45 c45),(8,.int .i64 0),(42,.slice (some ⟨g46,0,none⟩) 1 1),(9,.slice (some ⟨g46,0,none⟩) 1 1)] ⟨rfl,rfl,rfl,rfl,rfl,rfl,rfl,rfl,rfl,rfl,rfl,rfl,rfl,rfl,rfl,rfl,rfl,rfl,rfl,rfl,rfl,rfl,rfl,rfl,rfl,rfl,rfl,rfl,rfl,rfl,rfl,rfl,rfl,rfl,rfl,rfl,rfl,rfl,rfl,rfl,trivial⟩ ?_
      rw [show (((V:Nat):Int)-((bh:Nat):Int))=((V-bh:Nat):Int) by omega]
      have h10:(wd (10^(V-bh))).length≤(V-bh)+1:=kA
      refine a7 (mv 1 rfl (aB rfl rfl rfl true (eI (a:=V-bh) (b:=0) rfl rfl) (a0 (aP rfl (a7 (mv 2 rfl (cl (vs:= [.int .i64 ((V-bh:Nat):Int)]) hw6 (zB (n:=V-bh) hw6.size) rfl (by kernel_rfl) fun xr55 v53 r55 e54 hw7=>?_)))))))
      obtain⟨A56,n56,c56,rfl,j56,o56⟩:=r55
      refine cl (vs:= [.slice A45 n45 c45,.slice A56 n56 c56]) hw7 (xS hw7.size (o45.ext (e50.trans e54)).wi o56.wi) rfl (by kernel_rfl) fun xr59 v57 r59 e58 hw8=>?_
      obtain⟨A60,n60,c60,rfl,j60,o60⟩:=r59
      refine mv 1 rfl (a0 (aA ?_))
      have hXM:(wd (X*10^(V-bh))).length≤20000:=by have:=vP X (10^(V-bh));omega
      obtain⟨nb,hnb⟩:∃nb,cU ((X*10^(V-bh))*2^bM) 1=nb:=⟨_,rfl⟩
      have hnbl:nb≤9218868437227405312:=hnb▸qL _ _
      have hrd:=qF (nb:=nb) hlong hcut hV h5 hX (by unfold mT;rw [if_pos ⟨rfl,hz⟩];exact hnb)
      refine gR eZ 6 [] [Is (.pointer (some ⟨g23,0,none⟩)),Is (.bool (aZ bs)),Is (.slice A60 n60 c60),Is (.slice (some ⟨g46,0,none⟩) 1 1),Is (.float .f64 nb),Is (.float .f64 (dV (aZ bs) nb))] [[],[0],[],[],[2,3],[1,4]] [[],[0],[],[],[2,3],[0,1,2,3,4],[0,1,2,3,4,5],[0,1,2,3,4,5,6]] rfl
       (aR rfl rfl (aK rfl rfl ?_) (aR rfl rfl (aK rfl rfl ?_) (aR rfl rfl (aK rfl rfl ?_) (aR rfl rfl (aK rfl rfl ?_) (aR rfl rfl (aK rfl rfl ?_) (aR rfl rfl (aK rfl rfl ?_) gP)))))) ?_
      · 
       exact fun _ _=>aJ (pf g23 0 rfl (aQ rfl (Ext.refl _) rfl))
      · 
       exact fun _ e64=>dk rfl rfl (aJ (aS rfl rfl (aY (fun _=>by kernel_rfl) (hb30.ext (e38.trans (e42.trans (e50.trans (e54.trans (e58.trans e64)))))) rfl) (aQ rfl (Ext.refl _) rfl)))
      · 
       exact fun _ _=>aJ (mv 1 rfl (aQ rfl (Ext.refl _) rfl))
      · 
       exact fun _ _=>aJ (mv 1 rfl (aQ rfl (Ext.refl _) rfl))
      · 
       intro v74 e75
       have hw9:=hw8.trans e75
       refine dk rfl rfl (dk rfl rfl (aJ (cl (vs:= [.slice A60 n60 c60,.slice (some ⟨g46,0,none⟩) 1 1]) hw9 (yY (o60.ext e75).wi (o52.ext (e54.trans (e58.trans e75))).wi (by decide) hnb) rfl (by kernel_rfl) fun xr88 v86 r88 e87 hw10=>?_)))
       obtain rfl:=r88
       exact aQ rfl e87 rfl
      · 
       intro v89 e90
       have hw9:=hw8.trans e90
       refine dk rfl rfl (dk rfl rfl (aJ (cl (vs:= [.bool (aZ bs),.float .f64 nb]) hw9 (rV hnbl) rfl (by kernel_rfl) fun xr103 v101 r103 e102 hw10=>?_)))
       obtain rfl:=r103
       exact aQ rfl e102 rfl
      · 
       intro v104 e105
       have hw9:=hw8.trans e105
       refine dk rfl rfl (dk rfl rfl (dk rfl rfl (dk rfl rfl (dk rfl rfl (dk rfl rfl (aJ (mv 2 rfl (aU (gQ (aD (aM (aL [.float .f64 (dV (aZ bs) nb),I0] rfl ⟨rfl,rfl,trivial⟩ ?_))))))))))))
       have hr:=hrd
       exact⟨_,rfl,⟨_,_,rfl,(show Value.float .f64 _=_ by rw [hr]),(show bV .i64 _=_ by rw [hr])⟩,hw9⟩
     · 
      refine bE [(0,.string (a8 bs)),(2,.float .f64 0),(3,.int .i64 0),(10,.string (a8 bs)),(11,.int .i64 ((bs.length:Nat):Int)),(12,.bool false),(14,.string (a8 bs)),(15,.tuple #[.agg #[.bool (aZ bs),.string (a8 dg),.int .i64 bh,F0,.string (a8 pw)],.bool true]),(13,.tuple #[.agg #[.bool (aZ bs),.string (a8 dg),.int .i64 bh,F0,.string (a8 pw)],.bool true]),(16,.agg #[.bool (aZ bs),.string (a8 dg),.int .i64 bh,F0,.string (a8 pw)]),(17,.bool true),(4,.pointer (some ⟨g23,0,none⟩)),(5,.bool true),(18,.bool true),(19,.bool false),(21,.pointer (some ⟨g23,4,none⟩)),(22,.string (a8 pw)),(23,.tuple #[.int .i64 V,.bool true]),(20,.tuple #[.int .i64 V,.bool true]),(24,.int .i64 V),(25,.bool true),(6,.int .i64 (((V:Nat):Int)-((bh:Nat):Int))),(26,.bool true),(27,.bool false),(28,.pointer (some ⟨g23,3,none⟩)),(29,.bool false),(32,.int .i64 V),(33,.pointer (some ⟨g23,2,none⟩)),(34,.int .i64 bh),(35,.int .i64 (((V:Nat):Int)-((bh:Nat):Int))),(37,.pointer (some ⟨g23,1,none⟩)),(38,.string (a8 dg)),(39,.tuple #[.slice A45 n45 c45,I0]),(36,.tuple #[.slice A45 n45 c45,I0]),(40,.slice A45 n45 c45),(41,.int .i64 0),(7,.slice A45 n45 c45),(8,.int .i64 0),(42,.slice (some ⟨g46,0,none⟩) 1 1),(9,.slice (some ⟨g46,0,none⟩) 1 1)] ⟨rfl,rfl,rfl,rfl,rfl,rfl,rfl,rfl,rfl,rfl,rfl,rfl,rfl,rfl,rfl,rfl,rfl,rfl,rfl,rfl,rfl,rfl,rfl,rfl,rfl,rfl,rfl,rfl,rfl,rfl,rfl,rfl,rfl,rfl,rfl,rfl,rfl,rfl,rfl,rfl,trivial⟩ ?_
      rw [show (((V:Nat):Int)-((bh:Nat):Int))=(-((bh-V:Nat):Int)) by omega]
      have h10:(wd (10^(bh-V))).length≤(bh-V)+1:=kA
      refine a7 (mv 1 rfl (aB rfl rfl rfl false (jG) (a0 (aI rfl (a7 (mv 1 rfl (bD rfl rfl (v:= .int .i64 (IntKind.i64.wrap (0- -((bh-V:Nat):Int)))) (v':= .int .i64 ((bh-V:Nat):Int)) (oB) (cl (vs:= [.int .i64 ((bh-V:Nat):Int)]) hw6 (zB (n:=bh-V) hw6.size) rfl (by kernel_rfl) fun xr138 v136 r138 e137 hw7=>?_))))))))
      obtain⟨A139,n139,c139,rfl,j139,o139⟩:=r138
      refine mv 1 rfl (a0 (aA ?_))
      obtain⟨nb,hnb⟩:∃nb,cU (X*2^bM) (10^(bh-V))=nb:=⟨_,rfl⟩
      have hnbl:nb≤9218868437227405312:=hnb▸qL _ _
      have hrd:=qF (nb:=nb) hlong hcut hV h5 hX (by unfold mT;rw [if_neg (fun h=>hz h.2),if_neg (by decide)];exact hnb)
      refine gR eZ 6 [] [Is (.pointer (some ⟨g23,0,none⟩)),Is (.bool (aZ bs)),Is (.slice A45 n45 c45),Is (.slice A139 n139 c139),Is (.float .f64 nb),Is (.float .f64 (dV (aZ bs) nb))] [[],[0],[],[],[2,3],[1,4]] [[],[0],[],[],[2,3],[0,1,2,3,4],[0,1,2,3,4,5],[0,1,2,3,4,5,6]] rfl
       (aR rfl rfl (aK rfl rfl ?_) (aR rfl rfl (aK rfl rfl ?_) (aR rfl rfl (aK rfl rfl ?_) (aR rfl rfl (aK rfl rfl ?_) (aR rfl rfl (aK rfl rfl ?_) (aR rfl rfl (aK rfl rfl ?_) gP)))))) ?_
      · 
       exact fun _ _=>aJ (pf g23 0 rfl (aQ rfl (Ext.refl _) rfl))
      · 
       exact fun _ e143=>dk rfl rfl (aJ (aS rfl rfl (aY (fun _=>by kernel_rfl) (hb30.ext (e38.trans (e42.trans (e50.trans (e137.trans e143))))) rfl) (aQ rfl (Ext.refl _) rfl)))
      · 
       exact fun _ _=>aJ (mv 1 rfl (aQ rfl (Ext.refl _) rfl))
      · 
       exact fun _ _=>aJ (mv 1 rfl (aQ rfl (Ext.refl _) rfl))
      · 
       intro v153 e154
       have hw8:=hw7.trans e154
       refine dk rfl rfl (dk rfl rfl (aJ (cl (vs:= [.slice A45 n45 c45,.slice A139 n139 c139]) hw8 (yY (o45.ext (e50.trans (e137.trans e154))).wi (o139.ext e154).wi (eP (by decide)) hnb) rfl (by kernel_rfl) fun xr167 v165 r167 e166 hw9=>?_)))
       obtain rfl:=r167
       exact aQ rfl e166 rfl
      · 
       intro v168 e169
       have hw8:=hw7.trans e169
       refine dk rfl rfl (dk rfl rfl (aJ (cl (vs:= [.bool (aZ bs),.float .f64 nb]) hw8 (rV hnbl) rfl (by kernel_rfl) fun xr182 v180 r182 e181 hw9=>?_)))
       obtain rfl:=r182
       exact aQ rfl e181 rfl
      · 
       intro v183 e184
       have hw8:=hw7.trans e184
       refine dk rfl rfl (dk rfl rfl (dk rfl rfl (dk rfl rfl (dk rfl rfl (dk rfl rfl (aJ (mv 2 rfl (aU (gQ (aD (aM (aL [.float .f64 (dV (aZ bs) nb),I0] rfl ⟨rfl,rfl,trivial⟩ ?_))))))))))))
       have hr:=hrd
       exact⟨_,rfl,⟨_,_,rfl,(show Value.float .f64 _=_ by rw [hr]),(show bV .i64 _=_ by rw [hr])⟩,hw8⟩
    · 
     refine a7 (pf g23 3 rfl (aS rfl rfl (aY (fun _=>by kernel_rfl) (hb30.ext e38) rfl) (a0 (aP rfl (a7 (mv 1 rfl (bD rfl rfl (v:= .int .i64 (IntKind.i64.wrap (0-((V:Nat):Int)))) (v':= .int .i64 (-((V:Nat):Int))) (M8 (by omega)) (mv 1 rfl (a0 (sr (mv 1 rfl (pf g23 2 rfl (aS rfl rfl (aY (fun _=>by kernel_rfl) (hb30.ext e38) rfl) ?_)))))))))))))
     refine aE rfl rfl rfl ((-((V:Nat):Int))-((bh:Nat):Int)) (dM rfl) (mv 1 rfl (a0 (sr (pf g23 1 rfl (aS rfl rfl (aY (fun _=>by kernel_rfl) (hb30.ext e38) rfl) (dD rfl rfl (vs:= [.string (a8 dg)]) (by kernel_rfl) (by decide) (by have h:=GW (w:=v37) hdg256 (by omega) (hdg.good hdg0);rw [hX] at h;exact h.mono (Gv.imp (T2.imp (WR.imp hw4.size) Is.imp))) ?_))))))
     rintro _ v215 ⟨xr217,rfl,r217,e216⟩
     refine dE ?_
     have hw5:=hw4.trans e216
     obtain⟨_,_,rfl,⟨A219,n219,c219,rfl,j219,o219⟩,rfl⟩:=r217
     refine mv 1 rfl (pu (v:= .slice A219 n219 c219) rfl (pu (v:= .int .i64 0) rfl (mv 2 rfl (a0 (sr (dQ rfl rfl (k:=1) (e:=65) [.int .u64 1] (fun _=>by kernel_rfl) fun g220 v221 nb222=>?_))))))
     have o223:=O1.mk_ (x:=1) (b:=w.heap.size) nb222 hw5.size
     have e224:=nb222.ext
     have hw6:=hw5.trans e224
     have o226:=iK o223 (show 1≤18446744073709551615 by decide) (show 1≠0 by decide)
     have j225:=hZ (show 1≤18446744073709551615 by decide) (show 1≠0 by decide)
     refine mv 1 rfl (a0 (aA (aA ?_)))
     by_cases hz:V+bh=0
     · 
      refine bE [(0,.string (a8 bs)),(2,.float .f64 0),(3,.int .i64 0),(10,.string (a8 bs)),(11,.int .i64 ((bs.length:Nat):Int)),(12,.bool false),(14,.string (a8 bs)),(15,.tuple #[.agg #[.bool (aZ bs),.string (a8 dg),.int .i64 bh,.bool true,.string (a8 pw)],.bool true]),(13,.tuple #[.agg #[.bool (aZ bs),.string (a8 dg),.int .i64 bh,.bool true,.string (a8 pw)],.bool true]),(16,.agg #[.bool (aZ bs),.string (a8 dg),.int .i64 bh,.bool true,.string (a8 pw)]),(17,.bool true),(4,.pointer (some ⟨g23,0,none⟩)),(5,.bool true),(18,.bool true),(19,.bool false),(21,.pointer (some ⟨g23,4,none⟩)),(22,.string (a8 pw)),(23,.tuple #[.int .i64 V,.bool true]),(20,.tuple #[.int .i64 V,.bool true]),(24,.int .i64 V),(25,.bool true),(6,.int .i64 ((-((V:Nat):Int))-((bh:Nat):Int))),(26,.bool true),(27,.bool false),(28,.pointer (some ⟨g23,3,none⟩)),(29,.bool true),(30,.int .i64 V),(31,.int .i64 (-((V:Nat):Int))),(32,.int .i64 (-((V:Nat):Int))),(33,.pointer (some ⟨g23,2,none⟩)),(34,.int .i64 bh),(35,.int .i64 ((-((V:Nat):Int))-((bh:Nat):Int))),(37,.pointer (some ⟨g23,1,none⟩)),(38,.string (a8 dg)),(39,.tuple #[.slice A219 n219 c219,I0]),(36,.tuple #[.slice A219 n219 c219,I0]),(40,.slice A219 n219 c219),(41,.int .i64 0),(7,.slice A219 n219 c219),(8,.int .i64 0),(42,.slice (some ⟨g220,0,none⟩) 1 1),(9,.slice (some ⟨g220,0,none⟩) 1 1)] ⟨rfl,rfl,rfl,rfl,rfl,rfl,rfl,rfl,rfl,rfl,rfl,rfl,rfl,rfl,rfl,rfl,rfl,rfl,rfl,rfl,rfl,rfl,rfl,rfl,rfl,rfl,rfl,rfl,rfl,rfl,rfl,rfl,rfl,rfl,rfl,rfl,rfl,rfl,rfl,rfl,rfl,rfl,trivial⟩ ?_
      rw [show ((-((V:Nat):Int))-((bh:Nat):Int))=0 by omega]
      have h10:(wd (10^(0))).length≤0+1:=kA
      refine a7 (mv 1 rfl (aB rfl rfl rfl true (by decide) (a0 (aP rfl (a7 (mv 2 rfl (cl (vs:= [I0]) hw6 (zB (n:=0) hw6.size) rfl (by kernel_rfl) fun xr229 v227 r229 e228 hw7=>?_)))))))
      obtain⟨A230,n230,c230,rfl,j230,o230⟩:=r229
      refine cl (vs:= [.slice A219 n219 c219,.slice A230 n230 c230]) hw7 (xS hw7.size (o219.ext (e224.trans e228)).wi o230.wi) rfl (by kernel_rfl) fun xr233 v231 r233 e232 hw8=>?_
      obtain⟨A234,n234,c234,rfl,j234,o234⟩:=r233
      refine mv 1 rfl (a0 (aA ?_))
      have hXM:(wd (X*10^(0))).length≤20000:=by have:=vP X (10^(0));omega
      obtain⟨nb,hnb⟩:∃nb,cU ((X*10^(0))*2^bM) 1=nb:=⟨_,rfl⟩
      have hnbl:nb≤9218868437227405312:=hnb▸qL _ _
      have hrd:=qF (nb:=nb) hlong hcut hV h5 hX (by unfold mT;rw [if_neg (by simp),if_pos rfl,hz,Nat.pow_zero];rw [Nat.pow_zero,cI] at hnb;exact hnb)
      refine gR eZ 6 [] [Is (.pointer (some ⟨g23,0,none⟩)),Is (.bool (aZ bs)),Is (.slice A234 n234 c234),Is (.slice (some ⟨g220,0,none⟩) 1 1),Is (.float .f64 nb),Is (.float .f64 (dV (aZ bs) nb))] [[],[0],[],[],[2,3],[1,4]] [[],[0],[],[],[2,3],[0,1,2,3,4],[0,1,2,3,4,5],[0,1,2,3,4,5,6]] rfl
       (aR rfl rfl (aK rfl rfl ?_) (aR rfl rfl (aK rfl rfl ?_) (aR rfl rfl (aK rfl rfl ?_) (aR rfl rfl (aK rfl rfl ?_) (aR rfl rfl (aK rfl rfl ?_) (aR rfl rfl (aK rfl rfl ?_) gP)))))) ?_
      · 
       exact fun _ _=>aJ (pf g23 0 rfl (aQ rfl (Ext.refl _) rfl))
      · 
       exact fun _ e238=>dk rfl rfl (aJ (aS rfl rfl (aY (fun _=>by kernel_rfl) (hb30.ext (e38.trans (e216.trans (e224.trans (e228.trans (e232.trans e238)))))) rfl) (aQ rfl (Ext.refl _) rfl)))
      · 
       exact fun _ _=>aJ (mv 1 rfl (aQ rfl (Ext.refl _) rfl))
      · 
       exact fun _ _=>aJ (mv 1 rfl (aQ rfl (Ext.refl _) rfl))
      · 
       intro v248 e249
       have hw9:=hw8.trans e249
       refine dk rfl rfl (dk rfl rfl (aJ (cl (vs:= [.slice A234 n234 c234,.slice (some ⟨g220,0,none⟩) 1 1]) hw9 (yY (o234.ext e249).wi (o226.ext (e228.trans (e232.trans e249))).wi (by decide) hnb) rfl (by kernel_rfl) fun xr262 v260 r262 e261 hw10=>?_)))
       obtain rfl:=r262
       exact aQ rfl e261 rfl
      · 
       intro v263 e264
       have hw9:=hw8.trans e264
       refine dk rfl rfl (dk rfl rfl (aJ (cl (vs:= [.bool (aZ bs),.float .f64 nb]) hw9 (rV hnbl) rfl (by kernel_rfl) fun xr277 v275 r277 e276 hw10=>?_)))
       obtain rfl:=r277
       exact aQ rfl e276 rfl
      · 
       intro v278 e279
       have hw9:=hw8.trans e279
       refine dk rfl rfl (dk rfl rfl (dk rfl rfl (dk rfl rfl (dk rfl rfl (dk rfl rfl (aJ (mv 2 rfl (aU (gQ (aD (aM (aL [.float .f64 (dV (aZ bs) nb),I0] rfl ⟨rfl,rfl,trivial⟩ ?_))))))))))))
       have hr:=hrd
       exact⟨_,rfl,⟨_,_,rfl,(show Value.float .f64 _=_ by rw [hr]),(show bV .i64 _=_ by rw [hr])⟩,hw9⟩
     · 
      refine bE [(0,.string (a8 bs)),(2,.float .f64 0),(3,.int .i64 0),(10,.string (a8 bs)),(11,.int .i64 ((bs.length:Nat):Int)),(12,.bool false),(14,.string (a8 bs)),(15,.tuple #[.agg #[.bool (aZ bs),.string (a8 dg),.int .i64 bh,.bool true,.string (a8 pw)],.bool true]),(13,.tuple #[.agg #[.bool (aZ bs),.string (a8 dg),.int .i64 bh,.bool true,.string (a8 pw)],.bool true]),(16,.agg #[.bool (aZ bs),.string (a8 dg),.int .i64 bh,.bool true,.string (a8 pw)]),(17,.bool true),(4,.pointer (some ⟨g23,0,none⟩)),(5,.bool true),(18,.bool true),(19,.bool false),(21,.pointer (some ⟨g23,4,none⟩)),(22,.string (a8 pw)),(23,.tuple #[.int .i64 V,.bool true]),(20,.tuple #[.int .i64 V,.bool true]),(24,.int .i64 V),(25,.bool true),(6,.int .i64 ((-((V:Nat):Int))-((bh:Nat):Int))),(26,.bool true),(27,.bool false),(28,.pointer (some ⟨g23,3,none⟩)),(29,.bool true),(30,.int .i64 V),(31,.int .i64 (-((V:Nat):Int))),(32,.int .i64 (-((V:Nat):Int))),(33,.pointer (some ⟨g23,2,none⟩)),(34,.int .i64 bh),(35,.int .i64 ((-((V:Nat):Int))-((bh:Nat):Int))),(37,.pointer (some ⟨g23,1,none⟩)),(38,.string (a8 dg)),(39,.tuple #[.slice A219 n219 c219,I0]),(36,.tuple #[.slice A219 n219 c219,I0]),(40,.slice A219 n219 c219),(41,.int .i64 0),(7,.slice A219 n219 c219),(8,.int .i64 0),(42,.slice (some ⟨g220,0,none⟩) 1 1),(9,.slice (some ⟨g220,0,none⟩) 1 1)] ⟨rfl,rfl,rfl,rfl,rfl,rfl,rfl,rfl,rfl,rfl,rfl,rfl,rfl,rfl,rfl,rfl,rfl,rfl,rfl,rfl,rfl,rfl,rfl,rfl,rfl,rfl,rfl,rfl,rfl,rfl,rfl,rfl,rfl,rfl,rfl,rfl,rfl,rfl,rfl,rfl,rfl,rfl,trivial⟩ ?_
      rw [show ((-((V:Nat):Int))-((bh:Nat):Int))=(-((V+bh:Nat):Int)) by omega]
      have h10:(wd (10^(V+bh))).length≤(V+bh)+1:=kA
      refine a7 (mv 1 rfl (aB rfl rfl rfl false (jG) (a0 (aI rfl (a7 (mv 1 rfl (bD rfl rfl (v:= .int .i64 (IntKind.i64.wrap (0- -((V+bh:Nat):Int)))) (v':= .int .i64 ((V+bh:Nat):Int)) (oB) (cl (vs:= [.int .i64 ((V+bh:Nat):Int)]) hw6 (zB (n:=V+bh) hw6.size) rfl (by kernel_rfl) fun xr312 v310 r312 e311 hw7=>?_))))))))
      obtain⟨A313,n313,c313,rfl,j313,o313⟩:=r312
      refine mv 1 rfl (a0 (aA ?_))
      obtain⟨nb,hnb⟩:∃nb,cU (X*2^bM) (10^(V+bh))=nb:=⟨_,rfl⟩
      have hnbl:nb≤9218868437227405312:=hnb▸qL _ _
      have hrd:=qF (nb:=nb) hlong hcut hV h5 hX (by unfold mT;rw [if_neg (by simp),if_pos rfl];exact hnb)
      refine gR eZ 6 [] [Is (.pointer (some ⟨g23,0,none⟩)),Is (.bool (aZ bs)),Is (.slice A219 n219 c219),Is (.slice A313 n313 c313),Is (.float .f64 nb),Is (.float .f64 (dV (aZ bs) nb))] [[],[0],[],[],[2,3],[1,4]] [[],[0],[],[],[2,3],[0,1,2,3,4],[0,1,2,3,4,5],[0,1,2,3,4,5,6]] rfl
       (aR rfl rfl (aK rfl rfl ?_) (aR rfl rfl (aK rfl rfl ?_) (aR rfl rfl (aK rfl rfl ?_) (aR rfl rfl (aK rfl rfl ?_) (aR rfl rfl (aK rfl rfl ?_) (aR rfl rfl (aK rfl rfl ?_) gP)))))) ?_
      · 
       exact fun _ _=>aJ (pf g23 0 rfl (aQ rfl (Ext.refl _) rfl))
      · 
       exact fun _ e317=>dk rfl rfl (aJ (aS rfl rfl (aY (fun _=>by kernel_rfl) (hb30.ext (e38.trans (e216.trans (e224.trans (e311.trans e317))))) rfl) (aQ rfl (Ext.refl _) rfl)))
      · 
       exact fun _ _=>aJ (mv 1 rfl (aQ rfl (Ext.refl _) rfl))
      · 
       exact fun _ _=>aJ (mv 1 rfl (aQ rfl (Ext.refl _) rfl))
      · 
       intro v327 e328
       have hw8:=hw7.trans e328
       refine dk rfl rfl (dk rfl rfl (aJ (cl (vs:= [.slice A219 n219 c219,.slice A313 n313 c313]) hw8 (yY (o219.ext (e224.trans (e311.trans e328))).wi (o313.ext e328).wi (eP (by decide)) hnb) rfl (by kernel_rfl) fun xr341 v339 r341 e340 hw9=>?_)))
       obtain rfl:=r341
       exact aQ rfl e340 rfl
      · 
       intro v342 e343
       have hw8:=hw7.trans e343
       refine dk rfl rfl (dk rfl rfl (aJ (cl (vs:= [.bool (aZ bs),.float .f64 nb]) hw8 (rV hnbl) rfl (by kernel_rfl) fun xr356 v354 r356 e355 hw9=>?_)))
       obtain rfl:=r356
       exact aQ rfl e355 rfl
      · 
       intro v357 e358
       have hw8:=hw7.trans e358
       refine dk rfl rfl (dk rfl rfl (dk rfl rfl (dk rfl rfl (dk rfl rfl (dk rfl rfl (aJ (mv 2 rfl (aU (gQ (aD (aM (aL [.float .f64 (dV (aZ bs) nb),I0] rfl ⟨rfl,rfl,trivial⟩ ?_))))))))))))
       have hr:=hrd
       exact⟨_,rfl,⟨_,_,rfl,(show Value.float .f64 _=_ by rw [hr]),(show bV .i64 _=_ by rw [hr])⟩,hw8⟩
theorem CY {w:a6}(hb:b≤w.heap.size){x y:Nat}(hx:Wi w A n c x)(hl:n≤68719476735)(hy:Wi w B m d y)(hl':m≤68719476735):aO aF 131 #[.slice A n c,.slice B m d] w (Gv w (WR b (x*y))):=YQ hb hx hl hy hl'
theorem FZ (h:Y*10^k=10^n):Y≤10^n:=by rw [←h];exact Nat.le_mul_of_pos_right _ (eP (by decide))
theorem QH (h:Y*10^k=10^n)(hk:18≤k):Y*1000000000000000000*10^(k-18)=10^n:=by
 rw [←h,bH]
 congr 1
 rw [show (1000000000000000000:Nat)=10^18 from rfl,←bX]
 congr 1
 omega
theorem QI (h:Y*10^k=10^n)(hk:0<k):Y*10*10^(k-1)=10^n:=by
 rw [←h,bH]
 congr 1
 rw [←Nat.pow_succ']
 congr 1
 omega
set_option maxHeartbeats 4000000 in
theorem IJ {w:a6}(hb:b≤w.heap.size)(hX:Wi w A n c X)(hXn:n≤2097152)(hv0:v≠0)(hv:v≤18446744073709551615):
    aO aF 250 #[.slice A n c,.int .u64 v] w (Gv w (WR b (X*v))):=by
 refine bK Tryz.func250 rfl (n:=9) rfl (bq rfl) (args:= [.slice A n c,.int .u64 v]) (bE [(0,.slice A n c),(1,.int .u64 v)] ⟨rfl,rfl,trivial⟩ (sr (mv 1 rfl (a0 (sr (mv 2 rfl (dQ rfl rfl (k:=1) (e:=65) [.int .u64 v] (fun _=>by kernel_rfl) fun g1 v2 nb3=>?_)))))))
 have o4:=O1.mk_ (x:=v) (b:=w.heap.size) nb3 (Ext.refl w).size
 have e5:=nb3.ext
 have hw1:=(Ext.refl w).trans e5
 have o7:=iK o4 hv hv0
 have j6:=hZ hv hv0
 refine cl (vs:= [.slice A n c,.slice (some ⟨g1,0,none⟩) 1 1]) hw1 (CY hw1.size (hX.ext hw1) (bQ hXn rfl) o7.wi (by decide)) rfl (by kernel_rfl) fun xr10 v8 r10 e9 hw2=>?_
 obtain⟨A11,n11,c11,rfl,j11,o11⟩:=r10
 refine mv 1 rfl (a0 (aM (aL [.slice A11 n11 c11] rfl ⟨rfl,trivial⟩ ?_)))
 exact⟨_,rfl,⟨_,_,_,rfl,j11,(o11).mono hb⟩,hw2⟩
set_option maxHeartbeats 4000000 in
theorem yE {w:a6}(hb:b≤w.heap.size)(hn:n≤100000:=by omega):
    aO aF 210 #[.int .i64 n] w (Gv w (WR b (10^n))):=by
 refine bK Tryz.func210 rfl (n:=18) rfl (bq rfl) (args:= [.int .i64 n]) (bE [(0,.int .i64 n)] ⟨rfl,trivial⟩ (sr (mv 1 rfl (a0 (sr (dQ rfl rfl (k:=1) (e:=65) [.int .u64 1] (fun _=>by kernel_rfl) fun g1 v2 nb3=>?_))))))
 have o4:=O1.mk_ (x:=1) (b:=w.heap.size) nb3 (Ext.refl w).size
 have e5:=nb3.ext
 have hw1:=(Ext.refl w).trans e5
 have o7:=iK o4 (show 1≤18446744073709551615 by decide) (show 1≠0 by decide)
 have j6:=hZ (show 1≤18446744073709551615 by decide) (show 1≠0 by decide)
 refine mv 1 rfl (a0 (aA (bG ?_)))
 refine d4 (T:=a6×Nat×Nat×Option aC×Nat×Nat)
  (fun⟨wr,k,Y,YA,yn,yc⟩=> [(0,.int .i64 k),(3,.slice YA yn yc)])
  (fun⟨wr,k,Y,YA,yn,yc⟩=>wr)
  (fun⟨wr,k,Y,YA,yn,yc⟩=>(Ext w wr)∧(Y*10^k=10^n)∧(k≤n)∧(yn=(wd Y).length)∧(Own wr w.heap.size 65 1 YA yn yc ((wd Y).map aW)))
  (fun⟨wr,k,Y,YA,yn,yc⟩=>k)
  (⟨v2,n,1,(some ⟨g1,0,none⟩),1,1⟩:a6×Nat×Nat×Option aC×Nat×Nat) ⟨hw1,(by rw [Nat.one_mul]),(b8 _),j6,o7⟩ rfl ⟨rfl,rfl,trivial⟩ ?_
 rintro⟨wr,k,Y,YA,yn,yc⟩ ⟨hw1,hI,hk,hYn,hYo⟩
 refine cC [(0,.int .i64 k),(3,.slice YA yn yc)] wr rfl ⟨rfl,rfl,trivial⟩ ?_
 have hYK:=aG (gZ (FZ hI)) (kA (n:=n))
 refine aA (aA ?_)
 by_cases hkp:k≥18
 · 
  refine a7 (mv 1 rfl (aB rfl rfl rfl true (eI (a:=k) (b:=18) rfl rfl) (a0 (aP rfl (aN (aD (bG (sr (mv 1 rfl (cl (vs:= [.slice YA yn yc,.int .u64 1000000000000000000]) hw1 (IJ (v:=1000000000000000000) hw1.size hYo.wi (by omega) (by decide) (by decide)) rfl (by kernel_rfl) fun xr10 v8 r10 e9 hw2=>?_))))))))))
  obtain⟨A11,n11,c11,rfl,j11,o11⟩:=r10
  refine mv 1 rfl (a0 (a7 (mv 1 rfl (aE rfl rfl rfl ((k-18:Nat):Int) (eR (a:=k) (b:=18) rfl rfl) (mv 1 rfl (aU (cA (cH (⟨v8,k-18,Y*1000000000000000000,A11,n11,c11⟩:a6×Nat×Nat×Option aC×Nat×Nat) ⟨hw2,(QH hI hkp),(by omega),j11,o11⟩ (show k-18<k by omega) rfl ⟨rfl,rfl,trivial⟩))))))))
 · 
  refine a7 (mv 1 rfl (aB rfl rfl rfl false (iF (a:=k) (b:=18) rfl rfl) (a0 (aI rfl (cR (cN (cP (cQ (aD (aA (bG ?_)))))))))))
  refine d4 (T:=a6×Nat×Nat×Option aC×Nat×Nat)
   (fun⟨wr,k,Y,YA,yn,yc⟩=> [(0,.int .i64 k),(3,.slice YA yn yc)])
   (fun⟨wr,k,Y,YA,yn,yc⟩=>wr)
   (fun⟨wr,k,Y,YA,yn,yc⟩=>(Ext w wr)∧(Y*10^k=10^n)∧(k≤n)∧(yn=(wd Y).length)∧(Own wr w.heap.size 65 1 YA yn yc ((wd Y).map aW))∧(k<18))
   (fun⟨wr,k,Y,YA,yn,yc⟩=>k)
   (⟨wr,k,Y,YA,yn,yc⟩:a6×Nat×Nat×Option aC×Nat×Nat) ⟨hw1,hI,hk,hYn,hYo,(by omega)⟩ rfl ⟨rfl,rfl,trivial⟩ ?_
  rintro⟨wr,k,Y,YA,yn,yc⟩ ⟨hw1,hI,hk,hYn,hYo,hk18⟩
  refine cC [(0,.int .i64 k),(3,.slice YA yn yc)] wr rfl ⟨rfl,rfl,trivial⟩ ?_
  have hYK:=aG (gZ (FZ hI)) (kA (n:=n))
  refine aA (aA ?_)
  by_cases hkp:k>0
  · 
   refine a7 (mv 1 rfl (aB rfl rfl rfl true (dJ (a:=k) (b:=0) rfl rfl) (a0 (aP rfl (aN (aD (bG (sr (mv 1 rfl (cl (vs:= [.slice YA yn yc,.int .u64 10]) hw1 (IJ (v:=10) hw1.size hYo.wi (by omega) (by decide) (by decide)) rfl (by kernel_rfl) fun xr14 v12 r14 e13 hw2=>?_))))))))))
   obtain⟨A15,n15,c15,rfl,j15,o15⟩:=r14
   refine mv 1 rfl (a0 (a7 (mv 1 rfl (aE rfl rfl rfl ((k-1:Nat):Int) (eR (a:=k) (b:=1) rfl rfl) (mv 1 rfl (aU (cA (cH (⟨v12,k-1,Y*10,A15,n15,c15⟩:a6×Nat×Nat×Option aC×Nat×Nat) ⟨hw2,(QI hI hkp),(by omega),j15,o15,(by omega)⟩ (show k-1<k by omega) rfl ⟨rfl,rfl,trivial⟩))))))))
  · 
   refine a7 (mv 1 rfl (aB rfl rfl rfl false (d6 (a:=k) (b:=0) rfl rfl) (a0 (aI rfl (cR (cN (cP (cQ (aD (sr (mv 2 rfl (a0 (aM ?_)))))))))))))
   refine aL [.slice YA yn yc] rfl ⟨rfl,trivial⟩ ?_
   have e0:k=0:=by omega
   subst e0
   rw [Nat.pow_zero,cI] at hI
   subst hI
   exact⟨_,rfl,⟨_,_,_,rfl,hYn,(hYo).mono hb⟩,hw1⟩
def CV (l:List Nat):Bool:=decide (l.getD 0 0=45∨l.getD 0 0=43)
theorem vR (h:l.getD i 0=45∨l.getD i 0=43):CV (l.drop i)=true:=decide_eq_true (by rw [iC,dN];exact h)
theorem vS (h:¬(l.getD i 0=45∨l.getD i 0=43)):CV (l.drop i)=false:=decide_eq_false (by rw [iC,dN];exact h)
set_option maxHeartbeats 4000000 in
theorem qG {w:a6}{r:Nat}(hbs:∀b,b∈bs→b<256)(hlen:bs.length≤1073741824)(hr:r=rn (bs.drop i))(hi:i≤bs.length:=by omega):
    aO aF 249 #[.string (a8 bs),.int .i64 i] w (Gv w (Is (.int .i64 r))):=by
 refine bK Tryz.func249 rfl (n:=31) rfl (bq rfl) (args:= [.string (a8 bs),.int .i64 i]) (bE [(0,.string (a8 bs)),(1,.int .i64 i)] ⟨rfl,rfl,trivial⟩ (sr (mv 1 rfl (a0 (sr (mv 1 rfl (a0 (aA (bG ?_)))))))))
 refine d4 (T:=a6×Nat)
  (fun⟨wr,m⟩=> [(0,.string (a8 bs)),(1,.int .i64 i),(5,.int .i64 m)])
  (fun⟨wr,m⟩=>wr)
  (fun⟨wr,m⟩=>(Ext w wr)∧(i+m≤bs.length)∧(∀j,j<m→48≤(bs.drop i).getD j 0∧(bs.drop i).getD j 0≤57))
  (fun⟨wr,m⟩=>bs.length-m)
  (⟨w,0⟩:a6×Nat) ⟨(Ext.refl w),(by omega),(fun j hj=>absurd hj (Nat.not_lt_zero _))⟩ rfl ⟨rfl,rfl,rfl,trivial⟩ ?_
 rintro⟨wr,m⟩ ⟨hw1,hm,hd⟩
 refine cC [(0,.string (a8 bs)),(1,.int .i64 i),(5,.int .i64 m)] wr rfl ⟨rfl,rfl,rfl,trivial⟩ (aA (aA ?_))
 by_cases hlt:i+m<bs.length
 · 
  have hc255:bs.getD (i+m) 0<256:=hbs _ (jF hlt)
  by_cases hc1:bs.getD (i+m) 0≥48
  · 
   by_cases hc2:bs.getD (i+m) 0≤57
   · 
    refine a7 (mv 2 rfl (aE rfl rfl rfl ((i+m:Nat):Int) (bF (a:=i) (b:=m) rfl rfl) (mv 1 rfl (bD rfl rfl (v:= .int .i64 (((a8 bs).size:Nat):Int)) (v':= .int .i64 ((bs.length:Nat):Int)) (by rw [cM]) (aB rfl rfl rfl true (dB (a:=i+m) (b:=bs.length) rfl rfl) (mv 4 rfl (aE rfl rfl rfl ((i+m:Nat):Int) (bF (a:=i) (b:=m) rfl rfl) (dK (bs:=bs) (i:=i+m) rfl rfl rfl Tryz.underlying9 hbs (aB rfl rfl rfl true (eI (a:=bs.getD (i+m) 0) (b:=48) rfl rfl) (pu (v:= .bool true) rfl (mv 4 rfl (aE rfl rfl rfl ((i+m:Nat):Int) (bF (a:=i) (b:=m) rfl rfl) (dK (bs:=bs) (i:=i+m) rfl rfl rfl Tryz.underlying9 hbs ?_)))))))))))))
    refine aB rfl rfl rfl true (lV (a:=bs.getD (i+m) 0) (b:=57) rfl rfl) (pu (v:= .bool true) rfl (a0 (aP rfl (aN (aD (bG (a7 (mv 1 rfl (aE rfl rfl rfl ((m+1:Nat):Int) (bF (a:=m) (b:=1) rfl rfl) (mv 1 rfl (aU (cA (cH (⟨wr,m+1⟩:a6×Nat) ⟨hw1,(by omega),(fun j hj=>by by_cases e:j=m;(· subst e;rw [iC];exact⟨hc1,hc2⟩);(· exact hd j (by omega)))⟩ (show bs.length-(m+1)<bs.length-m by omega) rfl ⟨rfl,rfl,rfl,trivial⟩)))))))))))))
   · 
    refine a7 (mv 2 rfl (aE rfl rfl rfl ((i+m:Nat):Int) (bF (a:=i) (b:=m) rfl rfl) (mv 1 rfl (bD rfl rfl (v:= .int .i64 (((a8 bs).size:Nat):Int)) (v':= .int .i64 ((bs.length:Nat):Int)) (by rw [cM]) (aB rfl rfl rfl true (dB (a:=i+m) (b:=bs.length) rfl rfl) (mv 4 rfl (aE rfl rfl rfl ((i+m:Nat):Int) (bF (a:=i) (b:=m) rfl rfl) (dK (bs:=bs) (i:=i+m) rfl rfl rfl Tryz.underlying9 hbs (aB rfl rfl rfl true (eI (a:=bs.getD (i+m) 0) (b:=48) rfl rfl) (pu (v:= .bool true) rfl (mv 4 rfl (aE rfl rfl rfl ((i+m:Nat):Int) (bF (a:=i) (b:=m) rfl rfl) (dK (bs:=bs) (i:=i+m) rfl rfl rfl Tryz.underlying9 hbs ?_)))))))))))))
    refine aB rfl rfl rfl false (lW (a:=bs.getD (i+m) 0) (b:=57) rfl rfl) (pu (v:= .bool false) rfl (a0 (aI rfl (cR (cN (cP (cQ (aD (sr (mv 2 rfl (a0 (aM (aL [.int .i64 m] rfl ⟨rfl,trivial⟩ ?_)))))))))))))
    exact⟨_,rfl,(show bV .i64 _=_ by rw [hr,sZ hd (fun h=>hc2 (by rw [iC] at h;exact h.2))]),hw1⟩
  · 
   refine a7 (mv 2 rfl (aE rfl rfl rfl ((i+m:Nat):Int) (bF (a:=i) (b:=m) rfl rfl) (mv 1 rfl (bD rfl rfl (v:= .int .i64 (((a8 bs).size:Nat):Int)) (v':= .int .i64 ((bs.length:Nat):Int)) (by rw [cM]) (aB rfl rfl rfl true (dB (a:=i+m) (b:=bs.length) rfl rfl) (mv 4 rfl (aE rfl rfl rfl ((i+m:Nat):Int) (bF (a:=i) (b:=m) rfl rfl) (dK (bs:=bs) (i:=i+m) rfl rfl rfl Tryz.underlying9 hbs (aB rfl rfl rfl false (iF (a:=bs.getD (i+m) 0) (b:=48) rfl rfl) (pu (v:= .bool false) rfl (mv 7 rfl (pu (v:= .bool false) rfl (aU ?_)))))))))))))
   refine aD (aI rfl (cR (cN (cP (cQ (aD (sr (mv 2 rfl (a0 (aM (aL [.int .i64 m] rfl ⟨rfl,trivial⟩ ?_)))))))))))
   exact⟨_,rfl,(show bV .i64 _=_ by rw [hr,sZ hd (fun h=>hc1 (by rw [iC] at h;exact h.1))]),hw1⟩
 · 
  refine a7 (mv 2 rfl (aE rfl rfl rfl ((i+m:Nat):Int) (bF (a:=i) (b:=m) rfl rfl) (mv 1 rfl (bD rfl rfl (v:= .int .i64 (((a8 bs).size:Nat):Int)) (v':= .int .i64 ((bs.length:Nat):Int)) (by rw [cM]) (aB rfl rfl rfl false (cX (a:=i+m) (b:=bs.length) rfl rfl) (mv 7 rfl (pu (v:= .bool false) rfl (mv 7 rfl (pu (v:= .bool false) rfl (a0 (aI rfl (cR (cN ?_)))))))))))))
  refine cP (cQ (aD (sr (mv 2 rfl (a0 (aM (aL [.int .i64 m] rfl ⟨rfl,trivial⟩ ?_)))))))
  exact⟨_,rfl,(show bV .i64 _=_ by rw [hr,sZ hd (by rw [iC,tL];decide)]),hw1⟩
set_option maxHeartbeats 4000000 in
theorem tB {w:a6}(hbs:∀b,b∈bs→b<256)(_hlen:bs.length≤1073741824)(hs:s=CV (bs.drop i))(hi:i≤bs.length:=by omega):
    aO aF 248 #[.string (a8 bs),.int .i64 i] w (Gv w (Is (.bool s))):=by
 refine bK Tryz.func248 rfl (n:=21) rfl (bq rfl) (args:= [.string (a8 bs),.int .i64 i]) (bE [(0,.string (a8 bs)),(1,.int .i64 i)] ⟨rfl,rfl,trivial⟩ (sr (mv 1 rfl (a0 (aA ?_)))))
 by_cases hlt:i<bs.length
 · 
  have hc255:bs.getD i 0<256:=hbs _ (jF hlt)
  by_cases h45:bs.getD i 0=45
  · 
   refine a7 (mv 2 rfl (bD rfl rfl (v:= .int .i64 (((a8 bs).size:Nat):Int)) (v':= .int .i64 ((bs.length:Nat):Int)) (by rw [cM]) (aB rfl rfl rfl true (dB (a:=i) (b:=bs.length) rfl rfl) (mv 3 rfl (dK (bs:=bs) (i:=i) rfl rfl rfl Tryz.underlying9 hbs (aB rfl rfl rfl true (dA (a:=bs.getD i 0) (b:=45) rfl rfl) (mv 5 rfl (pu (v:= .bool true) rfl (pu (v:= .bool true) rfl (mv 1 rfl (a0 (aM (aL [.bool true] rfl ⟨rfl,trivial⟩ ?_)))))))))))))
   exact⟨_,rfl,(show Value.bool true=_ by rw [hs,vR (cE h45)]),(Ext.refl w)⟩
  · 
   by_cases h43:bs.getD i 0=43
   · 
    refine a7 (mv 2 rfl (bD rfl rfl (v:= .int .i64 (((a8 bs).size:Nat):Int)) (v':= .int .i64 ((bs.length:Nat):Int)) (by rw [cM]) (aB rfl rfl rfl true (dB (a:=i) (b:=bs.length) rfl rfl) (mv 3 rfl (dK (bs:=bs) (i:=i) rfl rfl rfl Tryz.underlying9 hbs (aB rfl rfl rfl false (dC (a:=bs.getD i 0) (b:=45) rfl rfl) (mv 3 rfl (dK (bs:=bs) (i:=i) rfl rfl rfl Tryz.underlying9 hbs (aB rfl rfl rfl true (dA (a:=bs.getD i 0) (b:=43) rfl rfl) (pu (v:= .bool true) rfl (pu (v:= .bool true) rfl (mv 1 rfl (aU ?_)))))))))))))
    refine aD (aM (aL [.bool true] rfl ⟨rfl,trivial⟩ ?_))
    exact⟨_,rfl,(show Value.bool true=_ by rw [hs,vR (bR h43)]),(Ext.refl w)⟩
   · 
    refine a7 (mv 2 rfl (bD rfl rfl (v:= .int .i64 (((a8 bs).size:Nat):Int)) (v':= .int .i64 ((bs.length:Nat):Int)) (by rw [cM]) (aB rfl rfl rfl true (dB (a:=i) (b:=bs.length) rfl rfl) (mv 3 rfl (dK (bs:=bs) (i:=i) rfl rfl rfl Tryz.underlying9 hbs (aB rfl rfl rfl false (dC (a:=bs.getD i 0) (b:=45) rfl rfl) (mv 3 rfl (dK (bs:=bs) (i:=i) rfl rfl rfl Tryz.underlying9 hbs (aB rfl rfl rfl false (dC (a:=bs.getD i 0) (b:=43) rfl rfl) (pu (v:= .bool false) rfl (pu (v:= .bool false) rfl (mv 1 rfl (aU ?_)))))))))))))
    refine aD (aM (aL [F0] rfl ⟨rfl,trivial⟩ ?_))
    exact⟨_,rfl,(show Value.bool false=_ by rw [hs,vS (fun h=>h.elim h45 h43)]),(Ext.refl w)⟩
 · 
  refine a7 (mv 2 rfl (bD rfl rfl (v:= .int .i64 (((a8 bs).size:Nat):Int)) (v':= .int .i64 ((bs.length:Nat):Int)) (by rw [cM]) (aB rfl rfl rfl false (cX (a:=i) (b:=bs.length) rfl rfl) (mv 11 rfl (pu (v:= .bool false) rfl (mv 1 rfl (a0 (aM (aL [F0] rfl ⟨rfl,trivial⟩ ?_)))))))))
  exact⟨_,rfl,(show Value.bool false=_ by rw [hs,vS (by rw [tL];decide)]),(Ext.refl w)⟩
def mR (l:List Nat):List Nat:=if l= [] then [48] else l
def CutR7 (bs:List Nat)(v:aH)(_:a6):Prop:=match fO bs with
 | none=>∃(ng:Bool) (dg:List Nat) (bh:Nat) (dn:Bool) (ex:List Nat),v= .tuple #[.bool ng,.string (a8 dg),.int .i64 bh,.bool dn,.string (a8 ex),.bool false]
 | some x=>v= .tuple #[.bool (aZ bs),.string (a8 x.1),.int .i64 ((x.2.1:Nat):Int),.bool x.2.2.1,.string (a8 (mR x.2.2.2)),.bool true]
theorem CutR7.none_ (ng:Bool)(dg:List Nat)(bh:Nat)(dn:Bool)(ex:List Nat){w:a6}(h:fO bs=none):CutR7 bs (.tuple #[.bool ng,.string (a8 dg),.int .i64 bh,.bool dn,.string (a8 ex),.bool false]) w:=by unfold CutR7;rw [h];exact⟨_,_,_,_,_,rfl⟩
theorem CutR7.some_ {x:List Nat×Nat×Bool×List Nat}{v:aH}{w:a6}(h:fO bs=some x)(hv:v= .tuple #[.bool (aZ bs),.string (a8 x.1),.int .i64 ((x.2.1:Nat):Int),.bool x.2.2.1,.string (a8 (mR x.2.2.2)),.bool true]):CutR7 bs v w:=by unfold CutR7;rw [h];exact hv
theorem DW (h:l.getD i 0≠0:=by omega):i<l.length:=Nat.lt_of_not_le fun hc=>h (tL (h:=hc))
theorem a07 (hrs:eQ bs=bs.drop i0)(h:rn (bs.drop i0)=0):fO bs=none:=by unfold fO;rw [hrs,if_pos h]
theorem zQ:(l.take (i+n)).drop i=(l.drop i).take n:=by rw [List.drop_take,Nat.add_sub_cancel_left]
theorem a1a (hrs:eQ bs=bs.drop i0)(hn:n=rn (bs.drop i0))(h:n≠0):fO bs=(lT (bs.drop (i0+n))).map fun x=>((bs.take (i0+n)).drop i0++x.1,x.2.1,x.2.2.1,x.2.2.2):=by
 unfold fO;rw [hrs,←hn,if_neg h,List.drop_drop,zQ]
theorem MU {dg:List Nat}(hD:fO bs=(lT (bs.drop i1)).map fun x=>(dg++x.1,x.2.1,x.2.2.1,x.2.2.2))(h:bs.getD i1 0≠46):fO bs=(jO (bs.drop i1)).map fun x=>(dg,0,x.1,x.2):=by
 rw [hD,a0N (by rw [iC,dN];exact h),DR]
theorem a08 {dg:List Nat}(hD:fO bs=(lT (bs.drop i1)).map fun x=>(dg++x.1,x.2.1,x.2.2.1,x.2.2.2))(h:bs.getD i1 0=46)(h0:rn (bs.drop (i1+1))=0):fO bs=none:=by
 rw [hD];unfold lT;rw [if_pos (by rw [iC,dN];exact h),List.drop_drop,if_pos h0];rfl
theorem a09 {dg:List Nat}(hD:fO bs=(lT (bs.drop i1)).map fun x=>(dg++x.1,x.2.1,x.2.2.1,x.2.2.2))(h:bs.getD i1 0=46)(hm:m=rn (bs.drop (i1+1)))(h0:m≠0):fO bs=(jO (bs.drop (i1+1+m))).map fun x=>(dg++(bs.take (i1+1+m)).drop (i1+1),m,x.1,x.2):=by
 rw [hD];unfold lT
 rw [if_pos (by rw [iC,dN];exact h),List.drop_drop,←hm,if_neg h0,MC,List.drop_drop,show i1+(m+1)=i1+1+m by omega,zQ,List.drop_take,kI,List.drop_drop]
def AJ (bs:List Nat)(i2 i4:Nat)(dn:Bool)(ex:List Nat):Prop:=(i4=bs.length∧ex≠ []∧∃pw,jO (bs.drop i2)=some (dn,pw)∧ex=mR pw)∨(¬(i4=bs.length∧ex≠ [])∧jO (bs.drop i2)=none)
theorem LL (hi:i2≤bs.length)(h:¬(bs.getD i2 0=101∨bs.getD i2 0=69)):AJ bs i2 i2 false [48]:=by
 have e:¬((bs.drop i2).getD 0 0=101∨(bs.drop i2).getD 0 0=69):=by rw [iC,dN];exact h
 by_cases hl:i2=bs.length
 ·refine cE ⟨hl,by decide,[],?_,rfl⟩
  unfold jO;rw [if_neg e,if_pos (List.drop_eq_nil_iff.2 (by omega))]
 ·refine bR ⟨fun h=>hl h.1,?_⟩
  unfold jO;rw [if_neg e,if_neg (fun h=>by have:=List.drop_eq_nil_iff.1 h;omega)]
theorem tO {i3:Nat}(h:bs.getD i2 0=101∨bs.getD i2 0=69)(hr:eQ (bs.drop (i2+1))=bs.drop i3)(hd:dn=aZ (bs.drop (i2+1)))(hm:m=rn (bs.drop i3))(hi:i3+m≤bs.length:=by omega):AJ bs i2 (i3+m) dn ((bs.take (i3+m)).drop i3):=by
 have e:(bs.drop i2).getD 0 0=101∨(bs.drop i2).getD 0 0=69:=by rw [iC,dN];exact h
 have hx:((bs.take (i3+m)).drop i3≠ [])↔m≠0:=by
  rw [zQ]
  constructor
  ·intro h1 h2;exact h1 (by rw [h2,List.take_zero])
  ·intro h1 h2
   have:=congrArg List.length h2
   rw [bJ,cV] at this
   simp at this;omega
 have hc:jO (bs.drop i2)=if m=0 then none else if bs.drop (i3+m)= [] then some (dn,(bs.take (i3+m)).drop i3) else none:=by
  unfold jO
  rw [if_pos e,List.drop_drop,hr,←hm,List.drop_drop,←hd,zQ]
 unfold AJ
 rw [hx,hc]
 by_cases h0:m=0
 ·exact bR ⟨fun h=>h.2 h0,if_pos h0⟩
 ·by_cases hl:i3+m=bs.length
  ·refine cE ⟨hl,h0,_,by rw [if_neg h0,if_pos (List.drop_eq_nil_iff.2 (by omega))],?_⟩
   unfold mR;rw [if_neg (hx.2 h0)]
  ·exact bR ⟨fun h=>hl h.1,by rw [if_neg h0,if_neg (fun h=>by have:=List.drop_eq_nil_iff.1 h;omega)]⟩
set_option maxHeartbeats 8000000 in
theorem IL {w:a6}(hbs:∀b,b∈bs→b<256)(hlen:bs.length≤1073741824):
  aO aF 209 #[.string (a8 bs)] w (Gv w (CutR7 bs)):=by
 refine bK Tryz.func209 rfl (n:=111) rfl (bq rfl) (args:= [.string (a8 bs)]) (bE [(0,.string (a8 bs))] ⟨rfl,trivial⟩ (sr (mv 6 rfl (a0 (sr (mv 1 rfl (a0 (i8 (T:=a6×Bool×Nat) (fun⟨wr,ng,i0⟩=> [(0,.string (a8 bs)),(2,.bool ng),(4,.int .i64 0),(5,.bool false),(8,.int .i64 i0)]) (fun⟨wr,ng,i0⟩=>wr) (fun⟨wr,ng,i0⟩=>(Ext w wr)∧(ng=aZ bs)∧(i0≤bs.length)∧(eQ bs=bs.drop i0)) ?_ ?_))))))))
 ·
  refine aA ?_
  by_cases hsa:bs.getD 0 0=45∨bs.getD 0 0=43
  ·
   have hla:0<bs.length:=DW
   have hca:bs.getD 0 0<256:=hbs _ (jF hla)
   refine a7 (mv 1 rfl (cl (vs:= [.string (a8 bs),I0]) (Ext.refl w) (tB (i:=0) hbs hlen (vR hsa).symm) rfl (by kernel_rfl) fun xr3 v1 r3 e2 hw1=>?_))
   obtain rfl:=r3
   refine a0 (aP rfl (aA ?_))
   by_cases h45:bs.getD 0 0=45
   ·
    refine a7 (mv 1 rfl (dK (bs:=bs) (i:=0) rfl rfl rfl Tryz.underlying9 hbs (aB rfl rfl rfl true (dA (a:=bs.getD 0 0) (b:=45) rfl rfl) (mv 1 rfl (a0 (a7 (mv 1 rfl (aU (dG (⟨v1,true,1⟩:a6×Bool×Nat) ⟨hw1,(by unfold aZ;rw [decide_eq_true h45]),(by omega),(by unfold eQ;rw [if_pos hsa])⟩ rfl ⟨rfl,rfl,rfl,rfl,rfl,trivial⟩)))))))))
   ·
    refine a7 (mv 1 rfl (dK (bs:=bs) (i:=0) rfl rfl rfl Tryz.underlying9 hbs (aB rfl rfl rfl false (dC (a:=bs.getD 0 0) (b:=45) rfl rfl) (mv 1 rfl (a0 (a7 (mv 1 rfl (aU (dG (⟨v1,false,1⟩:a6×Bool×Nat) ⟨hw1,(by unfold aZ;rw [decide_eq_false h45]),(by omega),(by unfold eQ;rw [if_pos hsa])⟩ rfl ⟨rfl,rfl,rfl,rfl,rfl,trivial⟩)))))))))
  ·
   refine a7 (mv 1 rfl (cl (vs:= [.string (a8 bs),I0]) (Ext.refl w) (tB (i:=0) hbs hlen (vS hsa).symm) rfl (by kernel_rfl) fun xr6 v4 r6 e5 hw1=>?_))
   obtain rfl:=r6
   refine a0 (aI rfl (aN (dG (⟨v4,false,0⟩:a6×Bool×Nat) ⟨hw1,(by unfold aZ;rw [decide_eq_false (by omega)]),(bW _),(by unfold eQ;rw [if_neg hsa];rfl)⟩ rfl ⟨rfl,rfl,rfl,rfl,rfl,trivial⟩)))
 ·
  rintro⟨wr,ng,i0⟩ ⟨hw1,hng,hi0,hrs⟩
  refine cC [(0,.string (a8 bs)),(2,.bool ng),(4,.int .i64 0),(5,.bool false),(8,.int .i64 i0)] wr rfl ⟨rfl,rfl,rfl,rfl,rfl,trivial⟩ (sr (mv 2 rfl ?_))
  obtain⟨n1,hn1⟩:∃r,r=rn (bs.drop i0):=⟨_,rfl⟩
  have hn1l:i0+n1≤bs.length:=by have h:=kQ (bs.drop i0);rw [cV] at h;omega
  refine cl (vs:= [.string (a8 bs),.int .i64 i0]) hw1 (qG (i:=i0) hbs hlen hn1) rfl (by kernel_rfl) fun xr9 v7 r9 e8 hw2=>?_
  obtain rfl:=r9
  refine mv 1 rfl (a0 (aA (aA ?_)))
  by_cases hn0:n1=0
  ·
   refine a7 (mv 1 rfl (aB rfl rfl rfl true (dA (a:=n1) (b:=0) rfl rfl) (a0 (aP rfl (sr (mv 6 rfl (a0 (aM (bL (aL [F0,.string (a8 ([])),I0,F0,.string (a8 ([])),F0] rfl ⟨rfl,rfl,rfl,rfl,rfl,rfl,trivial⟩ ?_))))))))))
   exact⟨_,rfl,CutR7.none_ _ _ _ _ _ (a07 hrs (by rw [←hn1];exact hn0)),hw2⟩
  ·
   refine a7 (mv 1 rfl (aB rfl rfl rfl false (dC (a:=n1) (b:=0) rfl rfl) (a0 (aI rfl (aN (aD (sr (mv 4 rfl (aE rfl rfl rfl ((i0+n1:Nat):Int) (bF (a:=i0) (b:=n1) rfl rfl) (oN (bs:=bs) (i:=i0) (j:=i0+n1) rfl rfl rfl rfl Tryz.underlying9 (mv 1 rfl (a0 (aA ?_)))))))))))))
   refine a7 (mv 2 rfl (aE rfl rfl rfl ((i0+n1:Nat):Int) (bF (a:=i0) (b:=n1) rfl rfl) (mv 1 rfl (a0 (i8 (T:=a6×List Nat×Nat×Nat) (fun⟨wr,dg,bh,i2⟩=> [(0,.string (a8 bs)),(2,.bool ng),(3,.string (a8 dg)),(4,.int .i64 bh),(5,.bool false),(8,.int .i64 i2)]) (fun⟨wr,dg,bh,i2⟩=>wr) (fun⟨wr,dg,bh,i2⟩=>(Ext w wr)∧(i2≤bs.length)∧(fO bs=(jO (bs.drop i2)).map fun x=>(dg,bh,x.1,x.2))) ?_ ?_)))))
   ·
    refine aA ?_
    have hD:=a1a hrs hn1 hn0
    by_cases hlt1:i0+n1<bs.length
    ·
     have hc10:bs.getD (i0+n1) 0<256:=hbs _ (jF hlt1)
     by_cases hnd:bs.getD (i0+n1) 0=46
     ·
      refine a7 (mv 2 rfl (bD rfl rfl (v:= .int .i64 (((a8 bs).size:Nat):Int)) (v':= .int .i64 ((bs.length:Nat):Int)) (by rw [cM]) (aB rfl rfl rfl true (dB (a:=i0+n1) (b:=bs.length) rfl rfl) (mv 3 rfl (dK (bs:=bs) (i:=i0+n1) rfl rfl rfl Tryz.underlying9 hbs (aB rfl rfl rfl true (dA (a:=bs.getD (i0+n1) 0) (b:=46) rfl rfl) (pu (v:= .bool true) rfl (a0 (aP rfl (sr (mv 2 rfl (aE rfl rfl rfl (((i0+n1)+1:Nat):Int) (bF (a:=i0+n1) (b:=1) rfl rfl) ?_))))))))))))
      obtain⟨n2,hn2⟩:∃r,r=rn (bs.drop ((i0+n1)+1)):=⟨_,rfl⟩
      have hn2l:((i0+n1)+1)+n2≤bs.length:=by have h:=kQ (bs.drop ((i0+n1)+1));rw [cV] at h;omega
      refine cl (vs:= [.string (a8 bs),.int .i64 (((i0+n1)+1:Nat):Int)]) hw2 (qG (i:=(i0+n1)+1) hbs hlen hn2) rfl (by kernel_rfl) fun xr12 v10 r12 e11 hw3=>?_
      obtain rfl:=r12
      refine mv 1 rfl (a0 (aA (aA ?_)))
      by_cases hn20:n2=0
      ·
       refine a7 (mv 1 rfl (aB rfl rfl rfl true (dA (a:=n2) (b:=0) rfl rfl) (a0 (aP rfl (sr (mv 6 rfl (a0 (aM (bL (LM (aL [F0,.string (a8 ([])),I0,F0,.string (a8 ([])),F0] rfl ⟨rfl,rfl,rfl,rfl,rfl,rfl,trivial⟩ ?_)))))))))))
       exact⟨_,rfl,CutR7.none_ _ _ _ _ _ (a08 hD hnd (by rw [←hn2];exact hn20)),hw3⟩
      ·
       refine a7 (mv 1 rfl (aB rfl rfl rfl false (dC (a:=n2) (b:=0) rfl rfl) (a0 (aI rfl (aN (aD (sr (mv 3 rfl (aE rfl rfl rfl (((i0+n1)+1:Nat):Int) (bF (a:=i0+n1) (b:=1) rfl rfl) (mv 1 rfl (aE rfl rfl rfl (((i0+n1)+1:Nat):Int) (bF (a:=i0+n1) (b:=1) rfl rfl) (mv 1 rfl (aE rfl rfl rfl ((((i0+n1)+1)+n2:Nat):Int) (bF (a:=(i0+n1)+1) (b:=n2) rfl rfl) ?_)))))))))))))
       refine oN (bs:=bs) (i:=(i0+n1)+1) (j:=((i0+n1)+1)+n2) rfl rfl rfl rfl Tryz.underlying9 (bS rfl rfl rfl (r:= .string (a8 (((bs.take (i0+n1)).drop i0)++((bs.take (((i0+n1)+1)+n2)).drop ((i0+n1)+1))))) rfl (fun w=>d8 (a:=(bs.take (i0+n1)).drop i0) (b:=(bs.take (((i0+n1)+1)+n2)).drop ((i0+n1)+1)) (by simp only [cV,bJ];omega)) (mv 1 rfl (a0 (a7 (mv 1 rfl (aE rfl rfl rfl (((i0+n1)+1:Nat):Int) (bF (a:=i0+n1) (b:=1) rfl rfl) (mv 1 rfl (aE rfl rfl rfl ((((i0+n1)+1)+n2:Nat):Int) (bF (a:=(i0+n1)+1) (b:=n2) rfl rfl) (mv 1 rfl (aU (dG (⟨v10,((bs.take (i0+n1)).drop i0)++((bs.take (((i0+n1)+1)+n2)).drop ((i0+n1)+1)),n2,((i0+n1)+1)+n2⟩:a6×List Nat×Nat×Nat) ⟨hw3,(by omega),(a09 hD hnd hn2 hn20)⟩ rfl ⟨rfl,rfl,rfl,rfl,rfl,rfl,trivial⟩)))))))))))
     ·
      refine a7 (mv 2 rfl (bD rfl rfl (v:= .int .i64 (((a8 bs).size:Nat):Int)) (v':= .int .i64 ((bs.length:Nat):Int)) (by rw [cM]) (aB rfl rfl rfl true (dB (a:=i0+n1) (b:=bs.length) rfl rfl) (mv 3 rfl (dK (bs:=bs) (i:=i0+n1) rfl rfl rfl Tryz.underlying9 hbs (aB rfl rfl rfl false (dC (a:=bs.getD (i0+n1) 0) (b:=46) rfl rfl) (pu (v:= .bool false) rfl (a0 (aI rfl (aN (dG (⟨v7,(bs.take (i0+n1)).drop i0,0,i0+n1⟩:a6×List Nat×Nat×Nat) ⟨hw2,(by omega),(MU hD hnd)⟩ rfl ⟨rfl,rfl,rfl,rfl,rfl,rfl,trivial⟩)))))))))))
    ·
     have hnd:bs.getD (i0+n1) 0≠46:=by rw [tL];decide
     refine a7 (mv 2 rfl (bD rfl rfl (v:= .int .i64 (((a8 bs).size:Nat):Int)) (v':= .int .i64 ((bs.length:Nat):Int)) (by rw [cM]) (aB rfl rfl rfl false (cX (a:=i0+n1) (b:=bs.length) rfl rfl) (mv 5 rfl (pu (v:= .bool false) rfl (a0 (aI rfl (aN (dG (⟨v7,(bs.take (i0+n1)).drop i0,0,i0+n1⟩:a6×List Nat×Nat×Nat) ⟨hw2,(by omega),(MU hD hnd)⟩ rfl ⟨rfl,rfl,rfl,rfl,rfl,rfl,trivial⟩)))))))))
   ·
    rintro⟨wr,dg,bh,i2⟩ ⟨hw1,hi2,hcf⟩
    refine cC [(0,.string (a8 bs)),(2,.bool ng),(3,.string (a8 dg)),(4,.int .i64 bh),(5,.bool false),(8,.int .i64 i2)] wr rfl ⟨rfl,rfl,rfl,rfl,rfl,rfl,trivial⟩ (sr (mv 1 rfl (a0 (i8 (T:=a6×Bool×List Nat×Nat) (fun⟨wr,dn,ex,i4⟩=> [(0,.string (a8 bs)),(2,.bool ng),(3,.string (a8 dg)),(4,.int .i64 bh),(5,.bool dn),(6,.string (a8 ex)),(8,.int .i64 i4)]) (fun⟨wr,dn,ex,i4⟩=>wr) (fun⟨wr,dn,ex,i4⟩=>(Ext w wr)∧(i4≤bs.length)∧(AJ bs i2 i4 dn ex)∧(∀x,x∈ex→x<256)) ?_ ?_))))
    ·
     refine aA ?_
     by_cases hlt2:i2<bs.length
     ·
      have hc17:bs.getD i2 0<256:=hbs _ (jF hlt2)
      by_cases h101:bs.getD i2 0=101
      ·
       have hee:bs.getD i2 0=101∨bs.getD i2 0=69:=cE h101
       refine a7 (mv 2 rfl (bD rfl rfl (v:= .int .i64 (((a8 bs).size:Nat):Int)) (v':= .int .i64 ((bs.length:Nat):Int)) (by rw [cM]) (aB rfl rfl rfl true (dB (a:=i2) (b:=bs.length) rfl rfl) (mv 3 rfl (dK (bs:=bs) (i:=i2) rfl rfl rfl Tryz.underlying9 hbs (aB rfl rfl rfl true (dA (a:=bs.getD i2 0) (b:=101) rfl rfl) (mv 5 rfl (pu (v:= .bool true) rfl (pu (v:= .bool true) rfl (a0 (aP rfl (sr (mv 1 rfl ?_)))))))))))))
       refine aE rfl rfl rfl ((i2+1:Nat):Int) (bF (a:=i2) (b:=1) rfl rfl) (mv 1 rfl (a0 (aA (aA ?_))))
       by_cases hsb:bs.getD (i2+1) 0=45∨bs.getD (i2+1) 0=43
       ·
        have hlb:i2+1<bs.length:=DW
        have hcb:bs.getD (i2+1) 0<256:=hbs _ (jF hlb)
        refine a7 (mv 2 rfl (cl (vs:= [.string (a8 bs),.int .i64 ((i2+1:Nat):Int)]) hw1 (tB (i:=i2+1) hbs hlen (vR hsb).symm) rfl (by kernel_rfl) fun xr15 v13 r15 e14 hw2=>?_))
        obtain rfl:=r15
        refine a0 (aP rfl (aA ?_))
        by_cases h45b:bs.getD (i2+1) 0=45
        ·
         refine a7 (mv 2 rfl (dK (bs:=bs) (i:=i2+1) rfl rfl rfl Tryz.underlying9 hbs (aB rfl rfl rfl true (dA (a:=bs.getD (i2+1) 0) (b:=45) rfl rfl) (mv 1 rfl (a0 (a7 (mv 1 rfl (aE rfl rfl rfl (((i2+1)+1:Nat):Int) (bF (a:=i2+1) (b:=1) rfl rfl) (mv 1 rfl (a0 (sr (mv 2 rfl ?_))))))))))))
         obtain⟨n3,hn3⟩:∃r,r=rn (bs.drop ((i2+1)+1)):=⟨_,rfl⟩
         have hn3l:((i2+1)+1)+n3≤bs.length:=by have h:=kQ (bs.drop ((i2+1)+1));rw [cV] at h;omega
         refine cl (vs:= [.string (a8 bs),.int .i64 (((i2+1)+1:Nat):Int)]) hw2 (qG (i:=(i2+1)+1) hbs hlen hn3) rfl (by kernel_rfl) fun xr18 v16 r18 e17 hw3=>?_
         obtain rfl:=r18
         refine mv 1 rfl (a0 (sr (mv 4 rfl (aE rfl rfl rfl ((((i2+1)+1)+n3:Nat):Int) (bF (a:=(i2+1)+1) (b:=n3) rfl rfl) (oN (bs:=bs) (i:=(i2+1)+1) (j:=((i2+1)+1)+n3) rfl rfl rfl rfl Tryz.underlying9 (mv 1 rfl (a0 (a7 (mv 2 rfl (aE rfl rfl rfl ((((i2+1)+1)+n3:Nat):Int) (bF (a:=(i2+1)+1) (b:=n3) rfl rfl) (mv 1 rfl (aU (dG (⟨v16,true,(bs.take (((i2+1)+1)+n3)).drop ((i2+1)+1),((i2+1)+1)+n3⟩:a6×Bool×List Nat×Nat) ⟨hw3,(by omega),(tO hee (by unfold eQ;rw [if_pos (by rw [iC,dN];exact hsb),List.drop_drop]) (by unfold aZ;rw [iC,dN,decide_eq_true h45b]) hn3),(fun x hx=>hbs x (l5 (gK hx)))⟩ rfl ⟨rfl,rfl,rfl,rfl,rfl,rfl,rfl,trivial⟩)))))))))))))
        ·
         refine a7 (mv 2 rfl (dK (bs:=bs) (i:=i2+1) rfl rfl rfl Tryz.underlying9 hbs (aB rfl rfl rfl false (dC (a:=bs.getD (i2+1) 0) (b:=45) rfl rfl) (mv 1 rfl (a0 (a7 (mv 1 rfl (aE rfl rfl rfl (((i2+1)+1:Nat):Int) (bF (a:=i2+1) (b:=1) rfl rfl) (mv 1 rfl (a0 (sr (mv 2 rfl ?_))))))))))))
         obtain⟨n3,hn3⟩:∃r,r=rn (bs.drop ((i2+1)+1)):=⟨_,rfl⟩
         have hn3l:((i2+1)+1)+n3≤bs.length:=by have h:=kQ (bs.drop ((i2+1)+1));rw [cV] at h;omega
         refine cl (vs:= [.string (a8 bs),.int .i64 (((i2+1)+1:Nat):Int)]) hw2 (qG (i:=(i2+1)+1) hbs hlen hn3) rfl (by kernel_rfl) fun xr21 v19 r21 e20 hw3=>?_
         obtain rfl:=r21
         refine mv 1 rfl (a0 (sr (mv 4 rfl (aE rfl rfl rfl ((((i2+1)+1)+n3:Nat):Int) (bF (a:=(i2+1)+1) (b:=n3) rfl rfl) (oN (bs:=bs) (i:=(i2+1)+1) (j:=((i2+1)+1)+n3) rfl rfl rfl rfl Tryz.underlying9 (mv 1 rfl (a0 (a7 (mv 2 rfl (aE rfl rfl rfl ((((i2+1)+1)+n3:Nat):Int) (bF (a:=(i2+1)+1) (b:=n3) rfl rfl) (mv 1 rfl (aU (dG (⟨v19,false,(bs.take (((i2+1)+1)+n3)).drop ((i2+1)+1),((i2+1)+1)+n3⟩:a6×Bool×List Nat×Nat) ⟨hw3,(by omega),(tO hee (by unfold eQ;rw [if_pos (by rw [iC,dN];exact hsb),List.drop_drop]) (by unfold aZ;rw [iC,dN,decide_eq_false h45b]) hn3),(fun x hx=>hbs x (l5 (gK hx)))⟩ rfl ⟨rfl,rfl,rfl,rfl,rfl,rfl,rfl,trivial⟩)))))))))))))
       ·
        refine a7 (mv 2 rfl (cl (vs:= [.string (a8 bs),.int .i64 ((i2+1:Nat):Int)]) hw1 (tB (i:=i2+1) hbs hlen (vS hsb).symm) rfl (by kernel_rfl) fun xr24 v22 r24 e23 hw2=>?_))
        obtain rfl:=r24
        refine a0 (aI rfl (aN (aD (sr (mv 2 rfl ?_)))))
        obtain⟨n3,hn3⟩:∃r,r=rn (bs.drop (i2+1)):=⟨_,rfl⟩
        have hn3l:(i2+1)+n3≤bs.length:=by have h:=kQ (bs.drop (i2+1));rw [cV] at h;omega
        refine cl (vs:= [.string (a8 bs),.int .i64 ((i2+1:Nat):Int)]) hw2 (qG (i:=i2+1) hbs hlen hn3) rfl (by kernel_rfl) fun xr27 v25 r27 e26 hw3=>?_
        obtain rfl:=r27
        refine mv 1 rfl (a0 (sr (mv 4 rfl (aE rfl rfl rfl (((i2+1)+n3:Nat):Int) (bF (a:=i2+1) (b:=n3) rfl rfl) (oN (bs:=bs) (i:=i2+1) (j:=(i2+1)+n3) rfl rfl rfl rfl Tryz.underlying9 (mv 1 rfl (a0 (a7 (mv 2 rfl (aE rfl rfl rfl (((i2+1)+n3:Nat):Int) (bF (a:=i2+1) (b:=n3) rfl rfl) (mv 1 rfl (aU (dG (⟨v25,false,(bs.take ((i2+1)+n3)).drop (i2+1),(i2+1)+n3⟩:a6×Bool×List Nat×Nat) ⟨hw3,(by omega),(tO hee (by unfold eQ;rw [if_neg (by rw [iC,dN];exact hsb)]) (by unfold aZ;rw [iC,dN,decide_eq_false (by omega)]) hn3),(fun x hx=>hbs x (l5 (gK hx)))⟩ rfl ⟨rfl,rfl,rfl,rfl,rfl,rfl,rfl,trivial⟩)))))))))))))
      ·
       by_cases h69:bs.getD i2 0=69
       ·
        have hee:bs.getD i2 0=101∨bs.getD i2 0=69:=bR h69
        refine a7 (mv 2 rfl (bD rfl rfl (v:= .int .i64 (((a8 bs).size:Nat):Int)) (v':= .int .i64 ((bs.length:Nat):Int)) (by rw [cM]) (aB rfl rfl rfl true (dB (a:=i2) (b:=bs.length) rfl rfl) (mv 3 rfl (dK (bs:=bs) (i:=i2) rfl rfl rfl Tryz.underlying9 hbs (aB rfl rfl rfl false (dC (a:=bs.getD i2 0) (b:=101) rfl rfl) (mv 3 rfl (dK (bs:=bs) (i:=i2) rfl rfl rfl Tryz.underlying9 hbs (aB rfl rfl rfl true (dA (a:=bs.getD i2 0) (b:=69) rfl rfl) (pu (v:= .bool true) rfl (pu (v:= .bool true) rfl (a0 (aP rfl ?_)))))))))))))
        refine sr (mv 1 rfl (aE rfl rfl rfl ((i2+1:Nat):Int) (bF (a:=i2) (b:=1) rfl rfl) (mv 1 rfl (a0 (aA (aA ?_))))))
        by_cases hsb:bs.getD (i2+1) 0=45∨bs.getD (i2+1) 0=43
        ·
         have hlb:i2+1<bs.length:=DW
         have hcb:bs.getD (i2+1) 0<256:=hbs _ (jF hlb)
         refine a7 (mv 2 rfl (cl (vs:= [.string (a8 bs),.int .i64 ((i2+1:Nat):Int)]) hw1 (tB (i:=i2+1) hbs hlen (vR hsb).symm) rfl (by kernel_rfl) fun xr30 v28 r30 e29 hw2=>?_))
         obtain rfl:=r30
         refine a0 (aP rfl (aA ?_))
         by_cases h45b:bs.getD (i2+1) 0=45
         ·
          refine a7 (mv 2 rfl (dK (bs:=bs) (i:=i2+1) rfl rfl rfl Tryz.underlying9 hbs (aB rfl rfl rfl true (dA (a:=bs.getD (i2+1) 0) (b:=45) rfl rfl) (mv 1 rfl (a0 (a7 (mv 1 rfl (aE rfl rfl rfl (((i2+1)+1:Nat):Int) (bF (a:=i2+1) (b:=1) rfl rfl) (mv 1 rfl (a0 (sr (mv 2 rfl ?_))))))))))))
          obtain⟨n3,hn3⟩:∃r,r=rn (bs.drop ((i2+1)+1)):=⟨_,rfl⟩
          have hn3l:((i2+1)+1)+n3≤bs.length:=by have h:=kQ (bs.drop ((i2+1)+1));rw [cV] at h;omega
          refine cl (vs:= [.string (a8 bs),.int .i64 (((i2+1)+1:Nat):Int)]) hw2 (qG (i:=(i2+1)+1) hbs hlen hn3) rfl (by kernel_rfl) fun xr33 v31 r33 e32 hw3=>?_
          obtain rfl:=r33
          refine mv 1 rfl (a0 (sr (mv 4 rfl (aE rfl rfl rfl ((((i2+1)+1)+n3:Nat):Int) (bF (a:=(i2+1)+1) (b:=n3) rfl rfl) (oN (bs:=bs) (i:=(i2+1)+1) (j:=((i2+1)+1)+n3) rfl rfl rfl rfl Tryz.underlying9 (mv 1 rfl (a0 (a7 (mv 2 rfl (aE rfl rfl rfl ((((i2+1)+1)+n3:Nat):Int) (bF (a:=(i2+1)+1) (b:=n3) rfl rfl) (mv 1 rfl (aU (dG (⟨v31,true,(bs.take (((i2+1)+1)+n3)).drop ((i2+1)+1),((i2+1)+1)+n3⟩:a6×Bool×List Nat×Nat) ⟨hw3,(by omega),(tO hee (by unfold eQ;rw [if_pos (by rw [iC,dN];exact hsb),List.drop_drop]) (by unfold aZ;rw [iC,dN,decide_eq_true h45b]) hn3),(fun x hx=>hbs x (l5 (gK hx)))⟩ rfl ⟨rfl,rfl,rfl,rfl,rfl,rfl,rfl,trivial⟩)))))))))))))
         ·
          refine a7 (mv 2 rfl (dK (bs:=bs) (i:=i2+1) rfl rfl rfl Tryz.underlying9 hbs (aB rfl rfl rfl false (dC (a:=bs.getD (i2+1) 0) (b:=45) rfl rfl) (mv 1 rfl (a0 (a7 (mv 1 rfl (aE rfl rfl rfl (((i2+1)+1:Nat):Int) (bF (a:=i2+1) (b:=1) rfl rfl) (mv 1 rfl (a0 (sr (mv 2 rfl ?_))))))))))))
          obtain⟨n3,hn3⟩:∃r,r=rn (bs.drop ((i2+1)+1)):=⟨_,rfl⟩
          have hn3l:((i2+1)+1)+n3≤bs.length:=by have h:=kQ (bs.drop ((i2+1)+1));rw [cV] at h;omega
          refine cl (vs:= [.string (a8 bs),.int .i64 (((i2+1)+1:Nat):Int)]) hw2 (qG (i:=(i2+1)+1) hbs hlen hn3) rfl (by kernel_rfl) fun xr36 v34 r36 e35 hw3=>?_
          obtain rfl:=r36
          refine mv 1 rfl (a0 (sr (mv 4 rfl (aE rfl rfl rfl ((((i2+1)+1)+n3:Nat):Int) (bF (a:=(i2+1)+1) (b:=n3) rfl rfl) (oN (bs:=bs) (i:=(i2+1)+1) (j:=((i2+1)+1)+n3) rfl rfl rfl rfl Tryz.underlying9 (mv 1 rfl (a0 (a7 (mv 2 rfl (aE rfl rfl rfl ((((i2+1)+1)+n3:Nat):Int) (bF (a:=(i2+1)+1) (b:=n3) rfl rfl) (mv 1 rfl (aU (dG (⟨v34,false,(bs.take (((i2+1)+1)+n3)).drop ((i2+1)+1),((i2+1)+1)+n3⟩:a6×Bool×List Nat×Nat) ⟨hw3,(by omega),(tO hee (by unfold eQ;rw [if_pos (by rw [iC,dN];exact hsb),List.drop_drop]) (by unfold aZ;rw [iC,dN,decide_eq_false h45b]) hn3),(fun x hx=>hbs x (l5 (gK hx)))⟩ rfl ⟨rfl,rfl,rfl,rfl,rfl,rfl,rfl,trivial⟩)))))))))))))
        ·
         refine a7 (mv 2 rfl (cl (vs:= [.string (a8 bs),.int .i64 ((i2+1:Nat):Int)]) hw1 (tB (i:=i2+1) hbs hlen (vS hsb).symm) rfl (by kernel_rfl) fun xr39 v37 r39 e38 hw2=>?_))
         obtain rfl:=r39
         refine a0 (aI rfl (aN (aD (sr (mv 2 rfl ?_)))))
         obtain⟨n3,hn3⟩:∃r,r=rn (bs.drop (i2+1)):=⟨_,rfl⟩
         have hn3l:(i2+1)+n3≤bs.length:=by have h:=kQ (bs.drop (i2+1));rw [cV] at h;omega
         refine cl (vs:= [.string (a8 bs),.int .i64 ((i2+1:Nat):Int)]) hw2 (qG (i:=i2+1) hbs hlen hn3) rfl (by kernel_rfl) fun xr42 v40 r42 e41 hw3=>?_
         obtain rfl:=r42
         refine mv 1 rfl (a0 (sr (mv 4 rfl (aE rfl rfl rfl (((i2+1)+n3:Nat):Int) (bF (a:=i2+1) (b:=n3) rfl rfl) (oN (bs:=bs) (i:=i2+1) (j:=(i2+1)+n3) rfl rfl rfl rfl Tryz.underlying9 (mv 1 rfl (a0 (a7 (mv 2 rfl (aE rfl rfl rfl (((i2+1)+n3:Nat):Int) (bF (a:=i2+1) (b:=n3) rfl rfl) (mv 1 rfl (aU (dG (⟨v40,false,(bs.take ((i2+1)+n3)).drop (i2+1),(i2+1)+n3⟩:a6×Bool×List Nat×Nat) ⟨hw3,(by omega),(tO hee (by unfold eQ;rw [if_neg (by rw [iC,dN];exact hsb)]) (by unfold aZ;rw [iC,dN,decide_eq_false (by omega)]) hn3),(fun x hx=>hbs x (l5 (gK hx)))⟩ rfl ⟨rfl,rfl,rfl,rfl,rfl,rfl,rfl,trivial⟩)))))))))))))
       ·
        have hne:¬(bs.getD i2 0=101∨bs.getD i2 0=69):=fun h=>h.elim h101 h69
        refine a7 (mv 2 rfl (bD rfl rfl (v:= .int .i64 (((a8 bs).size:Nat):Int)) (v':= .int .i64 ((bs.length:Nat):Int)) (by rw [cM]) (aB rfl rfl rfl true (dB (a:=i2) (b:=bs.length) rfl rfl) (mv 3 rfl (dK (bs:=bs) (i:=i2) rfl rfl rfl Tryz.underlying9 hbs (aB rfl rfl rfl false (dC (a:=bs.getD i2 0) (b:=101) rfl rfl) (mv 3 rfl (dK (bs:=bs) (i:=i2) rfl rfl rfl Tryz.underlying9 hbs (aB rfl rfl rfl false (dC (a:=bs.getD i2 0) (b:=69) rfl rfl) (pu (v:= .bool false) rfl (pu (v:= .bool false) rfl (a0 (aI rfl ?_)))))))))))))
        refine aN (dG (⟨wr,false,[48],i2⟩:a6×Bool×List Nat×Nat) ⟨hw1,(by omega),(LL hi2 hne),(fun x hx=>by rw [jI] at hx;omega)⟩ rfl ⟨rfl,rfl,rfl,rfl,rfl,rfl,rfl,trivial⟩)
     ·
      have hne:¬(bs.getD i2 0=101∨bs.getD i2 0=69):=by rw [tL];decide
      refine a7 (mv 2 rfl (bD rfl rfl (v:= .int .i64 (((a8 bs).size:Nat):Int)) (v':= .int .i64 ((bs.length:Nat):Int)) (by rw [cM]) (aB rfl rfl rfl false (cX (a:=i2) (b:=bs.length) rfl rfl) (mv 11 rfl (pu (v:= .bool false) rfl (a0 (aI rfl (aN (dG (⟨wr,false,[48],i2⟩:a6×Bool×List Nat×Nat) ⟨hw1,(by omega),(LL hi2 hne),(fun x hx=>by rw [jI] at hx;omega)⟩ rfl ⟨rfl,rfl,rfl,rfl,rfl,rfl,rfl,trivial⟩)))))))))
    ·
     rintro⟨wr,dn,ex,i4⟩ ⟨hw1,hi4,hex,hexb⟩
     refine cC [(0,.string (a8 bs)),(2,.bool ng),(3,.string (a8 dg)),(4,.int .i64 bh),(5,.bool dn),(6,.string (a8 ex)),(8,.int .i64 i4)] wr rfl ⟨rfl,rfl,rfl,rfl,rfl,rfl,rfl,trivial⟩ (aA ?_)
     by_cases hle:i4=bs.length
     ·
      by_cases hx0:ex= []
      ·
       refine a7 (mv 7 rfl (bD rfl rfl (v:= .int .i64 (((a8 bs).size:Nat):Int)) (v':= .int .i64 ((bs.length:Nat):Int)) (by rw [cM]) (aB rfl rfl rfl true (dA (a:=i4) (b:=bs.length) rfl rfl) (mv 2 rfl (fV (a:=ex) (b:= []) rfl rfl rfl hexb false (xJ (hx0)) (pu (v:= .bool false) rfl (mv 6 rfl (a0 (aM (aL [.bool ng,.string (a8 dg),.int .i64 bh,.bool dn,.string (a8 ex),F0] rfl ⟨rfl,rfl,rfl,rfl,rfl,rfl,trivial⟩ ?_))))))))))
       rcases hex with⟨h1,h2,_⟩ | ⟨_,h2⟩
       ·exact absurd hx0 h2
       ·exact⟨_,rfl,CutR7.none_ _ _ _ _ _ (by rw [hcf,h2];rfl),hw1⟩
      ·
       refine a7 (mv 7 rfl (bD rfl rfl (v:= .int .i64 (((a8 bs).size:Nat):Int)) (v':= .int .i64 ((bs.length:Nat):Int)) (by rw [cM]) (aB rfl rfl rfl true (dA (a:=i4) (b:=bs.length) rfl rfl) (mv 2 rfl (fV (a:=ex) (b:= []) rfl rfl rfl hexb true (oS (hx0)) (pu (v:= .bool true) rfl (mv 6 rfl (a0 (aM (aL [.bool ng,.string (a8 dg),.int .i64 bh,.bool dn,.string (a8 ex),.bool true] rfl ⟨rfl,rfl,rfl,rfl,rfl,rfl,trivial⟩ ?_))))))))))
       rcases hex with⟨_,_,pw,h1,h2⟩ | ⟨h1,_⟩
       ·exact⟨_,rfl,CutR7.some_ (by rw [hcf,h1];rfl) (by rw [hng,h2];rfl),hw1⟩
       ·exact absurd ⟨hle,hx0⟩ h1
     ·
      refine a7 (mv 7 rfl (bD rfl rfl (v:= .int .i64 (((a8 bs).size:Nat):Int)) (v':= .int .i64 ((bs.length:Nat):Int)) (by rw [cM]) (aB rfl rfl rfl false (dC (a:=i4) (b:=bs.length) rfl rfl) (mv 3 rfl (pu (v:= .bool false) rfl (mv 6 rfl (a0 (aM (aL [.bool ng,.string (a8 dg),.int .i64 bh,.bool dn,.string (a8 ex),F0] rfl ⟨rfl,rfl,rfl,rfl,rfl,rfl,trivial⟩ ?_)))))))))
      rcases hex with⟨h1,h2,_⟩ | ⟨_,h2⟩
      ·exact absurd h1 hle
      ·exact⟨_,rfl,CutR7.none_ _ _ _ _ _ (by rw [hcf,h2];rfl),hw1⟩
theorem U7 {w:a6}(hj:j=1074)(hu:1*2^j=u)(hb:b≤w.heap.size)(hX:Wi w A n c 1)(hXn:n≤2097152):aO aF 114 #[.slice A n c,.int .i64 1074] w (Gv w (WR b u)):=by
 subst hu
 have h:=oU (k:=j) hb hX hXn
 have e:((j:Nat):Int)=1074:=by omega
 rw [e] at h
 exact h
theorem U6 {w:a6}(hu:1*2^bM=u)(hb:b≤w.heap.size)(hX:Wi w A n c 1)(hXn:n≤2097152):aO aF 114 #[.slice A n c,.int .i64 1074] w (Gv w (WR b u)):=U7 i6 hu hb hX hXn
theorem tD {w:a6}(hX:Wi w A n c X){nb:Nat}(hD:Wi w B n' c' D)(hD0:0<D)(h:cU (X*2^bM) D=nb)(hXn:n≤2000000:=by omega)(hDn:n'≤2000000:=by omega):
  aO aF 183 #[.slice A n c,.slice B n' c',.bool ng] w (Gv w (Is (.int .u64 ((dV ng nb:Nat):Int)))):=by
 subst h
 exact tE hX hXn hD hDn (hD0:=hD0)
theorem FT (h:P≤i*2^fN)(hi:i≤2097153):(wd P).length≤34:=tI (z:=(P:Int)) (k:=0) (n:=i) h (hn:=hi)
theorem SC (hf:fin f):pm f*2^pe f≤2^fN:=by
 have h:=zD hf
 unfold fv at h
 rw [p8,lA] at h
 exact h
theorem FV {l:Nat}(h:P≤i*2^fN)(hl:l≤2^fN):P+l≤(i+1)*2^fN:=by rw [lZ];omega
theorem FU (h:P≤i*2^fN):P≤(i+1)*2^fN:=by rw [lZ];exact aG h (Nat.le_add_right _ _)
theorem QB {l:Nat}(h:(P:Int)-(M:Int)=iJ (fs.take i))(hi:i<fs.length)(hf:fv (fs.getD i 0)=(l:Int)):((P+l:Nat):Int)-(M:Int)=iJ (fs.take (i+1)):=by rw [xG hi,hf];omega
theorem QD {l:Nat}(h:(P:Int)-(M:Int)=iJ (fs.take i))(hi:i<fs.length)(hf:fv (fs.getD i 0)= -(l:Int)):(P:Int)-((M+l:Nat):Int)=iJ (fs.take (i+1)):=by rw [xG hi,hf];omega
theorem PF {w:a6}(hx:Rd w A n c xs)(i:Nat):xs.getD i 0<18446744073709551616:=by
 rw [bC]
 cases h:xs[i]? with
 | none=>decide
 | some x=>have:=hx.wf x (List.mem_of_getElem? h);rw [cF] at this;exact this
set_option maxHeartbeats 4000000 in
theorem IK {w:a6}(hx:Rd w A n cap fs)(hn:n≤2097152):
    aO aF 121 #[.slice A n cap] w (Gv w (T2 (Is (.int .u64 ((iI fs:Nat):Int))) (Is (.int .i64 (kO fs))))):=by
 have hlen:=hx.len
 refine bK Tryz.func121 rfl (n:=75) rfl (bq rfl) (args:= [.slice A n cap]) (bE [(0,.slice A n cap)] ⟨rfl,trivial⟩ (sr (mv 2 rfl (a0 (sr (mv 2 rfl (a0 (aA (sr (mv 1 rfl (a0 (bG ?_))))))))))))
 refine d4 (T:=a6×Nat×Nat×Nat×Option aC×Nat×Nat×Option aC×Nat×Nat)
  (fun⟨wr,i,P,M,PA,pn,pc,MA,mn,mc⟩=> [(0,.slice A n cap),(4,.slice PA pn pc),(5,.slice MA mn mc),(6,.int .i64 i)])
  (fun⟨wr,i,P,M,PA,pn,pc,MA,mn,mc⟩=>wr)
  (fun⟨wr,i,P,M,PA,pn,pc,MA,mn,mc⟩=>(Ext w wr)∧(i≤n)∧(∀j,j<i→fin (fs.getD j 0))∧((P:Int)-(M:Int)=iJ (fs.take i))∧(P≤i*2^fN)∧(M≤i*2^fN)∧(pn=(wd P).length)∧(mn=(wd M).length)∧(Own wr w.heap.size 65 1 PA pn pc ((wd P).map aW))∧(Own wr w.heap.size 65 1 MA mn mc ((wd M).map aW))∧(Rd wr A n cap fs))
  (fun⟨wr,i,P,M,PA,pn,pc,MA,mn,mc⟩=>n-i)
  (⟨w,0,0,0,none,0,0,none,0,0⟩:a6×Nat×Nat×Nat×Option aC×Nat×Nat×Option aC×Nat×Nat) ⟨(Ext.refl w),(bW _),(fun j hj=>absurd hj (Nat.not_lt_zero _)),rfl,(bW _),(bW _),rfl,rfl,(Own.nil _ _ _ _),(Own.nil _ _ _ _),hx⟩ rfl ⟨rfl,rfl,rfl,rfl,trivial⟩ ?_
 rintro⟨wr,i,P,M,PA,pn,pc,MA,mn,mc⟩ ⟨hw1,hi,hfin,hS,hPb,hMb,hPn,hMn,hPo,hMo,rl0⟩
 refine cC [(0,.slice A n cap),(4,.slice PA pn pc),(5,.slice MA mn mc),(6,.int .i64 i)] wr rfl ⟨rfl,rfl,rfl,rfl,trivial⟩ ?_
 have hPl:=FT hPb (by omega)
 have hMl:=FT hMb (by omega)
 refine aA (aA ?_)
 by_cases hin:i<n
 · 
  refine a7 (mv 2 rfl (pu (v:= .int .i64 n) rfl (aB rfl rfl rfl true (dB (a:=i) (b:=n) rfl rfl) (a0 (aP rfl (aN (aD (aA (bG (aA (aA ?_)))))))))))
  have hbx:fs.getD i 0<18446744073709551616:=PF hx i
  by_cases hfi:fin (fs.getD i 0)
  · 
   have hf:=hfi
   have hpe:=qI hf
   have hlb:=SC hf
   refine a7 (mv 2 rfl ?_)
   obtain⟨p1,hp1,hc1,hv1⟩:=(rl0).at (i:=i) (by omega)
   refine bT rfl rfl rfl bU bN i rfl p1 hp1 (aS rfl rfl (cZ d7 hc1) (cl (vs:= [.int .u64 ((fs.getD i 0:Nat):Int)]) hw1 (vC hbx hf) rfl (by kernel_rfl) fun xr4 v2 r4 e3 hw2=>?_))
   obtain rfl:=r4
   refine pu (v:= .bool false) rfl (a0 (aI rfl (aN (aD (sr (mv 2 rfl (bT rfl rfl rfl bU bN i rfl p1 hp1 (aS rfl rfl (cZ d7 (e3.cell hc1)) (cl (vs:= [.int .u64 ((fs.getD i 0:Nat):Int)]) hw2 (vB hbx) rfl (by kernel_rfl) fun xr7 v5 r7 e6 hw3=>?_)))))))))
   obtain⟨_,_,rfl,rfl,rfl⟩:=r7
   refine mv 1 rfl (pu (v:= .int .u64 ((pm (fs.getD i 0):Nat):Int)) rfl (pu (v:= .int .i64 (((pe (fs.getD i 0):Nat):Int)+ -1074)) rfl (mv 2 rfl (a0 (sr (mv 1 rfl (dQ rfl rfl (k:=1) (e:=65) [.int .u64 ((pm (fs.getD i 0):Nat):Int)] (fun _=>by kernel_rfl) fun g9 v10 nb11=>?_)))))))
   have o12:=O1.mk_ (x:=pm (fs.getD i 0)) (b:=w.heap.size) nb11 hw3.size
   have e13:=nb11.ext
   have hw4:=hw3.trans e13
   refine mv 1 rfl (aE rfl rfl rfl ((pe (fs.getD i 0):Nat):Int) (lJ) (cl (vs:= [.slice (some ⟨g9,0,none⟩) 1 1,.int .i64 ((pe (fs.getD i 0):Nat):Int)]) hw4 (oU (k:=pe (fs.getD i 0)) hw4.size (gL o12 (show pm (fs.getD i 0)≤18446744073709551615 by have:=jD (fs.getD i 0);omega)) (by decide)) rfl (by kernel_rfl) fun xr18 v16 r18 e17 hw5=>?_))
   obtain⟨A19,n19,c19,rfl,j19,o19⟩:=r18
   refine mv 1 rfl (a0 (aA ?_))
   by_cases h63:9223372036854775808≤fs.getD i 0
   · 
    have hfx:fv (fs.getD i 0)= -((pm (fs.getD i 0)*2^pe (fs.getD i 0):Nat):Int):=by unfold fv;rw [m7 hbx (decide_eq_true h63).symm,lA];rfl
    refine a7 (mv 2 rfl (bT rfl rfl rfl bU bN i rfl p1 hp1 (aS rfl rfl (cZ d7 ((e3.trans (e6.trans (e13.trans e17))).cell hc1)) (aB rfl rfl rfl true (eI (a:=fs.getD i 0) (b:=9223372036854775808) rfl rfl) (a0 (aP rfl (a7 (mv 2 rfl (cl (vs:= [.slice MA mn mc,.slice A19 n19 c19]) hw5 (CZ hw5.size (hMo.ext (e3.trans (e6.trans (e13.trans e17)))).wi (by rw [hMn];exact aG hMl (by decide)) o19.wi (by rw [j19];exact aG (pE (tF (fs.getD i 0))) (by decide))) rfl (by kernel_rfl) fun xr22 v20 r22 e21 hw6=>?_)))))))))
    obtain⟨A23,n23,c23,rfl,j23,o23⟩:=r22
    refine mv 1 rfl (aU (cA (aD (a7 (mv 1 rfl (aE rfl rfl rfl ((i+1:Nat):Int) (bF (a:=i) (b:=1) rfl rfl) (mv 1 rfl (aU (cH (⟨v20,i+1,P,M+((pm (fs.getD i 0))*2^(pe (fs.getD i 0))),PA,pn,pc,A23,n23,c23⟩:a6×Nat×Nat×Nat×Option aC×Nat×Nat×Option aC×Nat×Nat) ⟨hw6,(by omega),(fun j hj=>by by_cases e:j=i;(· subst e;exact hfi);(· exact hfin j (by omega))),(QD hS (by omega) hfx),(FU hPb),(FV hMb hlb),hPn,j23,(hPo.ext (e3.trans (e6.trans (e13.trans (e17.trans e21))))),o23,(rl0.ext (e3.trans (e6.trans (e13.trans (e17.trans e21)))))⟩ (show n-(i+1)<n-i by omega) rfl ⟨rfl,rfl,rfl,rfl,trivial⟩)))))))))
   · 
    have hfx:fv (fs.getD i 0)=((pm (fs.getD i 0)*2^pe (fs.getD i 0):Nat):Int):=by unfold fv;rw [m7 hbx (decide_eq_false h63).symm,lA];rfl
    refine a7 (mv 2 rfl (bT rfl rfl rfl bU bN i rfl p1 hp1 (aS rfl rfl (cZ d7 ((e3.trans (e6.trans (e13.trans e17))).cell hc1)) (aB rfl rfl rfl false (iF (a:=fs.getD i 0) (b:=9223372036854775808) rfl rfl) (a0 (aI rfl (a7 (mv 2 rfl (cl (vs:= [.slice PA pn pc,.slice A19 n19 c19]) hw5 (CZ hw5.size (hPo.ext (e3.trans (e6.trans (e13.trans e17)))).wi (by rw [hPn];exact aG hPl (by decide)) o19.wi (by rw [j19];exact aG (pE (tF (fs.getD i 0))) (by decide))) rfl (by kernel_rfl) fun xr26 v24 r26 e25 hw6=>?_)))))))))
    obtain⟨A27,n27,c27,rfl,j27,o27⟩:=r26
    refine mv 1 rfl (aU (cA (aD (a7 (mv 1 rfl (aE rfl rfl rfl ((i+1:Nat):Int) (bF (a:=i) (b:=1) rfl rfl) (mv 1 rfl (aU (cH (⟨v24,i+1,P+((pm (fs.getD i 0))*2^(pe (fs.getD i 0))),M,A27,n27,c27,MA,mn,mc⟩:a6×Nat×Nat×Nat×Option aC×Nat×Nat×Option aC×Nat×Nat) ⟨hw6,(by omega),(fun j hj=>by by_cases e:j=i;(· subst e;exact hfi);(· exact hfin j (by omega))),(QB hS (by omega) hfx),(FV hPb hlb),(FU hMb),j27,hMn,o27,(hMo.ext (e3.trans (e6.trans (e13.trans (e17.trans e25))))),(rl0.ext (e3.trans (e6.trans (e13.trans (e17.trans e25)))))⟩ (show n-(i+1)<n-i by omega) rfl ⟨rfl,rfl,rfl,rfl,trivial⟩)))))))))
  · 
   have hf:=hfi
   refine a7 (mv 2 rfl ?_)
   obtain⟨p28,hp28,hc28,hv28⟩:=(rl0).at (i:=i) (by omega)
   refine bT rfl rfl rfl bU bN i rfl p28 hp28 (aS rfl rfl (cZ d7 hc28) (cl (vs:= [.int .u64 ((fs.getD i 0:Nat):Int)]) hw1 (vD hbx hf) rfl (by kernel_rfl) fun xr31 v29 r31 e30 hw2=>?_))
   obtain rfl:=r31
   refine pu (v:= .bool true) rfl (a0 (aP rfl (sr (mv 2 rfl (a0 (aM (bL (eC (bL (mY (eC (bL (aL [.int .u64 0,.int .i64 3] rfl ⟨rfl,rfl,trivial⟩ ?_)))))))))))))
   have ha:=NB (by omega) hfi
   have e1:iI fs=0:=FX ha
   have e2:kO fs=3:=FW ha
   rw [e1,e2]
   exact⟨_,rfl,⟨_,_,rfl,rfl,rfl⟩,hw2⟩
 · 
  have hie:i=n:=by omega
  have htk:fs.take i=fs:=List.take_of_length_le (by omega)
  rw [htk] at hS
  refine a7 (mv 2 rfl (pu (v:= .int .i64 n) rfl (aB rfl rfl rfl false (cX (a:=i) (b:=n) rfl rfl) (a0 (aI rfl (cR (cN (cP (cQ (aD (aA ?_)))))))))))
  obtain⟨u,hu⟩:∃u,1*2^bM=u:=⟨_,rfl⟩
  have hu0:0<u:=hu▸FQ
  have hul:(wd u).length≤66:=hu▸KI
  have hnr:∀T,cU (T*2^bM) u=cU T 1:=fun T=>by rw [←hu,JU]
  replace hu:=Lib.hid hu
  refine a7 (dQ rfl rfl (k:=1) (e:=65) [.int .u64 1] (fun _=>by kernel_rfl) fun g32 v33 nb34=>?_)
  have o35:=O1.mk_ (x:=1) (b:=w.heap.size) nb34 hw1.size
  have e36:=nb34.ext
  have hw2:=hw1.trans e36
  have o38:=iK o35 (show 1≤18446744073709551615 by decide) (show 1≠0 by decide)
  have j37:=hZ (show 1≤18446744073709551615 by decide) (show 1≠0 by decide)
  refine cl (vs:= [.slice (some ⟨g32,0,none⟩) 1 1,.int .i64 1074]) hw2 (U6 (b:=w.heap.size) hu.out hw2.size o38.wi (by decide)) rfl (by kernel_rfl) fun xr41 v39 r41 e40 hw3=>?_
  obtain⟨A42,n42,c42,rfl,j42,o42⟩:=r41
  refine mv 1 rfl (a0 (aA (aA ?_)))
  by_cases hMP:M≤P
  · 
   have hc3:0≤dH P M:=by unfold dH;rw [if_neg (by omega)];split <;> omega
   refine a7 (mv 2 rfl (cl (vs:= [.slice PA pn pc,.slice MA mn mc]) hw3 (qT (hPo.ext (e36.trans e40)).wi (by rw [hPn];exact aG hPl (by decide)) (hMo.ext (e36.trans e40)).wi (by rw [hMn];exact aG hMl (by decide))) rfl (by kernel_rfl) fun xr45 v43 r45 e44 hw4=>?_))
   obtain rfl:=r45
   refine aB rfl rfl rfl true (CX hc3) (a0 (aP rfl (sr (mv 2 rfl (cl (vs:= [.slice PA pn pc,.slice MA mn mc]) hw4 (L8 hw4.size (hPo.ext (e36.trans (e40.trans e44))).wi (by rw [hPn];exact aG hPl (by decide)) (hMo.ext (e36.trans (e40.trans e44))).wi (by rw [hMn];exact aG hMl (by decide)) (by omega)) rfl (by kernel_rfl) fun xr48 v46 r48 e47 hw5=>?_)))))
   obtain⟨_,_,rfl,⟨A50,n50,c50,rfl,j50,o50⟩,rfl⟩:=r48
   refine mv 1 rfl (pu (v:= .slice A50 n50 c50) rfl (pu (v:= .int .i64 0) rfl (mv 2 rfl (a0 (sr (mv 2 rfl (cl (vs:= [.slice A50 n50 c50,.slice A42 n42 c42,F0]) hw5 (tD (ng:=false) o50.wi (o42.ext (e44.trans e47)).wi hu0 (hnr _) (hXn:=(by rw [j50];exact aG (aG (gZ (Nat.sub_le _ _)) hPl) (by decide))) (hDn:=(by rw [j42];exact aG hul (by decide)))) rfl (by kernel_rfl) fun xr53 v51 r53 e52 hw6=>?_)))))))
   obtain rfl:=r53
   refine mv 2 rfl (a0 (aM (bL (aL [.int .u64 ((dV false (cU (P-M) 1):Nat):Int),I0] rfl ⟨rfl,rfl,trivial⟩ ?_))))
   have ha:=E1 (fun j hj=>hfin j (by omega))
   have e2:kO fs=0:=xC ha
   have e1:dV false (cU (P-M) 1)=iI fs:=by rw [xD ha,sU,←hS,show ((P:Int)-(M:Int)).natAbs=P-M by omega,show decide ((P:Int)-(M:Int)<0)=false from decide_eq_false (by omega)]
   rw [e2]
   exact⟨_,rfl,⟨_,_,rfl,rF e1,rfl⟩,hw6⟩
  · 
   have hc3:¬0≤dH P M:=by unfold dH;rw [if_pos (by omega)];omega
   refine a7 (mv 2 rfl (cl (vs:= [.slice PA pn pc,.slice MA mn mc]) hw3 (qT (hPo.ext (e36.trans e40)).wi (by rw [hPn];exact aG hPl (by decide)) (hMo.ext (e36.trans e40)).wi (by rw [hMn];exact aG hMl (by decide))) rfl (by kernel_rfl) fun xr56 v54 r56 e55 hw4=>?_))
   obtain rfl:=r56
   refine aB rfl rfl rfl false (jG) (a0 (aI rfl (aN (aD (sr (mv 2 rfl (cl (vs:= [.slice MA mn mc,.slice PA pn pc]) hw4 (L8 hw4.size (hMo.ext (e36.trans (e40.trans e55))).wi (by rw [hMn];exact aG hMl (by decide)) (hPo.ext (e36.trans (e40.trans e55))).wi (by rw [hPn];exact aG hPl (by decide)) (by omega)) rfl (by kernel_rfl) fun xr59 v57 r59 e58 hw5=>?_)))))))
   obtain⟨_,_,rfl,⟨A61,n61,c61,rfl,j61,o61⟩,rfl⟩:=r59
   refine mv 1 rfl (pu (v:= .slice A61 n61 c61) rfl (pu (v:= .int .i64 0) rfl (mv 2 rfl (a0 (sr (mv 2 rfl (cl (vs:= [.slice A61 n61 c61,.slice A42 n42 c42,.bool true]) hw5 (tD (ng:=true) o61.wi (o42.ext (e55.trans e58)).wi hu0 (hnr _) (hXn:=(by rw [j61];exact aG (aG (gZ (Nat.sub_le _ _)) hMl) (by decide))) (hDn:=(by rw [j42];exact aG hul (by decide)))) rfl (by kernel_rfl) fun xr64 v62 r64 e63 hw6=>?_)))))))
   obtain rfl:=r64
   refine mv 2 rfl (a0 (aM (aL [.int .u64 ((dV true (cU (M-P) 1):Nat):Int),I0] rfl ⟨rfl,rfl,trivial⟩ ?_)))
   have ha:=E1 (fun j hj=>hfin j (by omega))
   have e2:kO fs=0:=xC ha
   have e1:dV true (cU (M-P) 1)=iI fs:=by rw [xD ha,sU,←hS,show ((P:Int)-(M:Int)).natAbs=M-P by omega,show decide ((P:Int)-(M:Int)<0)=true from decide_eq_true (by omega)]
   rw [e2]
   exact⟨_,rfl,⟨_,_,rfl,rF e1,rfl⟩,hw6⟩
set_option maxHeartbeats 4000000 in
theorem TG {w:a6}(ho:Own w lb 3 1 A n c (ds.map I6))(hlb:lb≤w.heap.size)(hwf:Wfb 65536 ds)(hbl:2≤base)(hbu:base≤36)(hn:n≤1099511627775)(hvb:v≤36):
    aO aF 263 #[.slice A n c,.int .i64 base,.int .i64 v] w (fun e w'=>∃A' n' c',∃es:List Nat,e= .returned (.slice A' n' c')∧Own w' lb 3 1 A' n' c' (es.map I6)∧n'≤n+1∧es.length=n'∧Wfb 65536 es∧nb 65536 es=nb 65536 ds*base+v∧UpdO A w w'):=by
 have hdl:=qJ ho
 refine bK Tryz.func263 rfl (n:=37) rfl (bq rfl) (args:= [.slice A n c,.int .i64 base,.int .i64 v]) (bE [(0,.slice A n c),(1,.int .i64 base),(2,.int .i64 v)] ⟨rfl,rfl,rfl,trivial⟩ (sr (mv 1 rfl (a0 (aA (sr (mv 1 rfl (a0 (bG ?_)))))))))
 refine d4 (T:=a6×Nat×Nat×List Nat)
  (fun⟨wr,i,cy,l⟩=> [(0,.slice A n c),(1,.int .i64 base),(2,.int .i64 cy),(7,.int .i64 i)])
  (fun⟨wr,i,cy,l⟩=>wr)
  (fun⟨wr,i,cy,l⟩=>(UpdO A w wr)∧(i≤n)∧(Own wr lb 3 1 A n c (l.map I6))∧(l.length=n)∧(Wfb 65536 l)∧(l.drop i=ds.drop i)∧(cy≤36)∧(nb 65536 (l.take i)+65536^i*cy=nb 65536 (ds.take i)*base+v))
  (fun⟨wr,i,cy,l⟩=>n-i)
  (⟨w,0,v,ds⟩:a6×Nat×Nat×List Nat) ⟨(UpdO.refl A w),(bW _),ho,hdl,hwf,rfl,(by omega),(by rw [List.take_zero];simp [nb])⟩ rfl ⟨rfl,rfl,rfl,rfl,trivial⟩ ?_
 rintro⟨wr,i,cy,l⟩ ⟨hw1,hi,hO,hll,hwl,hdr,hcy,hv⟩
 refine cC [(0,.slice A n c),(1,.int .i64 base),(2,.int .i64 cy),(7,.int .i64 i)] wr rfl ⟨rfl,rfl,rfl,rfl,trivial⟩ (aA (aA ?_))
 by_cases hlt:i<n
 · 
  refine a7 (mv 2 rfl (pu (v:= .int .i64 n) rfl (aB rfl rfl rfl true (dB (a:=i) (b:=n) rfl rfl) (a0 (aP rfl (aN (aD (aA (bG (aA ?_))))))))))
  have hdb:=iY (b:=65536) hwl i
  have hmu:l.getD i 0*base≤65535*36:=Nat.mul_le_mul (by omega) hbu
  refine a7 (mv 2 rfl ?_)
  obtain⟨p2,hp2,hc2⟩:=(hO).at1 (i:=i) (by omega)
  refine bT rfl rfl rfl mL oR i rfl p2 hp2 (aS rfl rfl (cZ zX hc2) (mv 1 rfl (aE rfl rfl rfl (((l.getD i 0)*base:Nat):Int) (nB (a:=l.getD i 0) (b:=base) rfl rfl) (mv 1 rfl (aE rfl rfl rfl ((((l.getD i 0)*base)+cy:Nat):Int) (bF (a:=(l.getD i 0)*base) (b:=cy) rfl rfl) (mv 1 rfl (a0 (sr (mv 3 rfl (aE rfl rfl rfl (((((l.getD i 0)*base)+cy)%65536:Nat):Int) (fC (a:=((l.getD i 0)*base)+cy) (b:=65536) rfl rfl) ?_))))))))))
  obtain⟨p3,hp3,hc3⟩:=(hO).at1 (i:=i) (by omega)
  refine bT rfl rfl rfl mL oR i rfl p3 hp3 ?_
  have ow4:=hO
  refine F3 (f:=I6) (u:=(((l.getD i 0)*base)+cy)%65536) (i:=i) rfl rfl rfl hp3 ow4 (by omega) rfl rfl oR fun v5 ho6 uo7=>?_
  have hw2:UpdO A w v5:=hw1.trans uo7
  refine a0 (a7 (mv 1 rfl (aE rfl rfl rfl (((((l.getD i 0)*base)+cy)/65536:Nat):Int) (iS (a:=((l.getD i 0)*base)+cy) (b:=65536) rfl rfl) (mv 1 rfl (aU (cA (aD (a7 (mv 1 rfl (aE rfl rfl rfl ((i+1:Nat):Int) (bF (a:=i) (b:=1) rfl rfl) (mv 1 rfl (aU (cH (⟨v5,i+1,(l.getD i 0*base+cy)/65536,l.set i ((((l.getD i 0)*base)+cy)%65536)⟩:a6×Nat×Nat×List Nat) ⟨hw2,(by omega),ho6,(by rw [List.length_set];exact hll),(iX hwl _ (hx:=(eO _ (by decide)))),(by rw [List.drop_set_of_lt (by omega)];have h:=congrArg (List.drop 1) hdr;rwa [List.drop_drop,List.drop_drop] at h),(by omega),(VP (by omega) (by omega) hdr hv)⟩ (show n-(i+1)<n-i by omega) rfl ⟨rfl,rfl,rfl,rfl,trivial⟩)))))))))))))
 · 
  have hin:i=n:=by omega
  rw [List.take_of_length_le (by omega),List.take_of_length_le (by omega),hin] at hv
  refine a7 (mv 2 rfl (pu (v:= .int .i64 n) rfl (aB rfl rfl rfl false (cX (a:=i) (b:=n) rfl rfl) (a0 (aI rfl (cR (cN (cP (cQ (aD (aA (aA ?_))))))))))))
  by_cases hcy0:cy>0
  · 
   refine a7 (mv 1 rfl (aB rfl rfl rfl true (dJ (a:=cy) (b:=0) rfl rfl) (a0 (aP rfl (a7 (mv 2 rfl (dQ rfl rfl (k:=1) (e:=3) [.int .i64 cy] (fun _=>by kernel_rfl) fun g8 v9 nb=>?_)))))))
   have hb10:=nb.bk
   have e11:=nb.ext
   clear nb
   have hw2:UpdO A w v9:=hw1.then_ext e11
   have ow12:=(hO.ext e11)
   refine nP rfl rfl rfl mL mX rfl ow12 (aG hlb hw2.size) [.int .i64 cy] rfl (oW _ hb10) rfl fun A13 c14 v15 ho16 uo17 kp18=>?_
   have hw3:UpdO A w v15:=hw2.trans uo17
   have ho19:Own v15 lb 3 1 A13 (n+1) c14 ((l++ [cy]).map I6):=by have h:=ho16;simp only [List.map_append,iN,j7] at h⊢;exact h
   refine mv 1 rfl (a0 (sr (mv 2 rfl (a0 (aM (aL [.slice A13 (n+1) c14] rfl ⟨rfl,trivial⟩ ?_))))))
   exact⟨A13,(n+1),c14,l++ [cy],rfl,ho19,(b8 _),(by rw [cL,hll];rfl),(sA hwl (fun x hx=>by rw [jI] at hx;omega)),(by rw [vL,hll];exact hv),hw3⟩
  · 
   refine a7 (mv 1 rfl (aB rfl rfl rfl false (d6 (a:=cy) (b:=0) rfl rfl) (a0 (aI rfl (aN (aD (sr (mv 2 rfl (a0 (aM (aL [.slice A n c] rfl ⟨rfl,trivial⟩ ?_)))))))))))
   exact⟨A,n,c,l,rfl,hO,(Nat.le_succ _),hll,hwl,(by rw [show cy=0 by omega,Nat.mul_zero,dN] at hv;exact hv),hw1⟩
theorem YZ {w:a6}(hb:b≤w.heap.size)(h:Own w lb 3 1 A n c (ds.map I6))(hw:Wfb 65536 ds)(hl:n≤1099511627775):aO aF 179 #[.slice A n c] w (Gv w (WR b (nb 65536 ds))):=(uZ ⟨h.rv,hw⟩ hl).mono (gw hb)
theorem TD {w:a6}(hc:c≤255)(h:dv c<36):aO aF 262 #[.int .u8 ((c:Nat):Int)] w (Gv w (Is (.int .i64 ((dv c:Nat):Int)))):=by
 have h1:=TE (w:=w) hc
 rw [if_pos h] at h1;exact h1
set_option maxHeartbeats 4000000 in
theorem TI {w:a6}(hbs:∀b,b∈bs→b<256)(hlen:bs.length≤17179869184)(hbl:2≤base)(hbu:base≤36)(hg:mG base bs):
    aO aF 233 #[.string (a8 bs),.int .i64 base] w (Gv w (T2 (WR w.heap.size (cG base (bs.map dv))) (Is (.int .i64 0)))):=by
 refine bK Tryz.func233 rfl (n:=36) rfl (bq rfl) (args:= [.string (a8 bs),.int .i64 base]) (bE [(0,.string (a8 bs)),(1,.int .i64 base)] ⟨rfl,rfl,trivial⟩ (sr (mv 2 rfl (a0 (aA (sr (mv 1 rfl (aB rfl rfl rfl false (cX (a:=base) (b:=2) rfl rfl) (mv 2 rfl (aB rfl rfl rfl false (d6 (a:=base) (b:=36) rfl rfl) (pu (v:= .bool false) rfl (a0 (aI rfl ?_)))))))))))))
 refine aN (aD (aA (aA ?_)))
 have hne:=hg.1
 refine a7 (mv 1 rfl (fV (a:=bs) (b:= []) rfl rfl rfl hbs false (q7 (hne)) (a0 (aI rfl (aN (aD (sr (mv 1 rfl (a0 (aA (sr (mv 1 rfl (aU ?_)))))))))))))
 refine aD (bG ?_)
 refine d4 (T:=a6×Nat×List Nat×Option aC×Nat×Nat)
  (fun⟨wr,i,l,DA,dn,dc⟩=> [(0,.string (a8 bs)),(1,.int .i64 base),(6,.slice DA dn dc),(7,.int .i64 i)])
  (fun⟨wr,i,l,DA,dn,dc⟩=>wr)
  (fun⟨wr,i,l,DA,dn,dc⟩=>(Ext w wr)∧(i≤bs.length)∧(Own wr w.heap.size 3 1 DA dn dc (l.map I6))∧(dn≤i)∧(Wfb 65536 l)∧(nb 65536 l=cG base ((bs.take i).map dv))∧(∀c,c∈bs.take i→dv c<base))
  (fun⟨wr,i,l,DA,dn,dc⟩=>bs.length-i)
  (⟨w,0,[],none,0,0⟩:a6×Nat×List Nat×Option aC×Nat×Nat) ⟨(Ext.refl w),(bW _),(Own.nil _ _ _ _),(bW _),(NG _),rfl,(fun c hc=>absurd hc (by simp))⟩ rfl ⟨rfl,rfl,rfl,rfl,trivial⟩ ?_
 rintro⟨wr,i,l,DA,dn,dc⟩ ⟨hw1,hi,hD,hdn,hwl,hv,hok⟩
 refine cC [(0,.string (a8 bs)),(1,.int .i64 base),(6,.slice DA dn dc),(7,.int .i64 i)] wr rfl ⟨rfl,rfl,rfl,rfl,trivial⟩ (aA (aA ?_))
 by_cases hlt:i<bs.length
 · 
  refine a7 (mv 2 rfl (bD rfl rfl (v:= .int .i64 (((a8 bs).size:Nat):Int)) (v':= .int .i64 ((bs.length:Nat):Int)) (by rw [cM]) (aB rfl rfl rfl true (dB (a:=i) (b:=bs.length) rfl rfl) (a0 (aP rfl (aN (aD (aA (bG (aA ?_))))))))))
  have hc255:bs.getD i 0≤255:=by have:=hbs _ (CW hlt);omega
  have hdc:=hg.2 _ (CW hlt)
  refine a7 (mv 2 rfl (dK (bs:=bs) (i:=i) rfl rfl rfl Tryz.underlying9 hbs (cl (vs:= [.int .u8 ((bs.getD i 0:Nat):Int)]) hw1 (TD hc255 (Nat.lt_of_lt_of_le hdc hbu)) rfl (by kernel_rfl) fun xr4 v2 r4 e3 hw2=>?_)))
  obtain rfl:=r4
  refine mv 1 rfl (a0 (aA (sr (mv 2 rfl (aB rfl rfl rfl false (iF (a:=dv (bs.getD i 0)) (b:=base) rfl rfl) (a0 (aI rfl (aN (aD (a7 (mv 3 rfl ?_)))))))))))
  have ow5:=(hD.ext e3)
  refine dD rfl rfl (vs:= [.slice DA dn dc,.int .i64 base,.int .i64 ((dv (bs.getD i 0):Nat):Int)]) (by kernel_rfl) (by decide) (TG ow5 hw2.size hwl hbl hbu (by omega) (by omega)) ?_
  rintro _ v6 ⟨A8,n9,c10,es7,rfl,ho11,hle12,hl13,hwf14,hv15,uo16⟩
  refine dE ?_
  have hw3:=uo16.ext hw2 (fun p hp=>(ow5.block p hp).1)
  refine mv 1 rfl (aU (cA (aD (a7 (mv 1 rfl (aE rfl rfl rfl ((i+1:Nat):Int) (bF (a:=i) (b:=1) rfl rfl) (mv 1 rfl (aU (cH (⟨v6,i+1,es7,A8,n9,c10⟩:a6×Nat×List Nat×Option aC×Nat×Nat) ⟨hw3,(by omega),ho11,(by omega),hwf14,(by rw [hv15,hv,BI hlt,List.map_append,iN,j7,sP]),(fun c hc=>by rw [BI hlt] at hc;rcases nI.1 hc with h | h;(· exact hok c h);(· rw [jI.1 h];exact hdc))⟩ (show bs.length-(i+1)<bs.length-i by omega) rfl ⟨rfl,rfl,rfl,rfl,trivial⟩)))))))))
 · 
  have hie:i=bs.length:=by omega
  rw [hie,List.take_length] at hok hv
  refine a7 (mv 2 rfl (bD rfl rfl (v:= .int .i64 (((a8 bs).size:Nat):Int)) (v':= .int .i64 ((bs.length:Nat):Int)) (by rw [cM]) (aB rfl rfl rfl false (cX (a:=i) (b:=bs.length) rfl rfl) (a0 (aI rfl (cR (cN (cP (cQ (aD (sr (mv 1 rfl (dD rfl rfl (vs:= [.slice DA dn dc]) (by kernel_rfl) (by decide) (by have h:=YZ hw1.size hD hwl (by omega);rw [hv] at h;exact h) ?_)))))))))))))
  rintro _ v18 ⟨xr20,rfl,r20,e19⟩
  refine dE ?_
  have hw2:=hw1.trans e19
  obtain⟨A21,n21,c21,rfl,j21,o21⟩:=r20
  refine mv 2 rfl (a0 (aM (aL [.slice A21 n21 c21,I0] rfl ⟨rfl,rfl,trivial⟩ ?_)))
  exact⟨_,rfl,⟨_,_,rfl,⟨_,_,_,rfl,j21,o21⟩,rfl⟩,hw2⟩
set_option maxHeartbeats 4000000 in
theorem TJ {w:a6}(hbs:∀b,b∈bs→b<256)(hlen:bs.length≤17179869184)(hg:mG 10 bs):
    aO aF 192 #[.string (a8 bs)] w (Gv w (T2 (WR w.heap.size (cG 10 (bs.map dv))) (Is (.int .i64 0)))):=by
 refine bK Tryz.func192 rfl (n:=8) rfl (bq rfl) (args:= [.string (a8 bs)]) (bE [(0,.string (a8 bs))] ⟨rfl,trivial⟩ (sr (mv 2 rfl (a0 (sr (mv 1 rfl (cl (vs:= [.string (a8 bs),.int .i64 10]) (Ext.refl w) (TI hbs hlen (by decide) (by decide) hg) rfl (by kernel_rfl) fun xr3 v1 r3 e2 hw1=>?_)))))))
 obtain⟨_,_,rfl,⟨A5,n5,c5,rfl,j5,o5⟩,rfl⟩:=r3
 refine pu (v:= .slice A5 n5 c5) rfl (pu (v:= .int .i64 0) rfl (mv 2 rfl (a0 (aM (aL [.slice A5 n5 c5,I0] rfl ⟨rfl,rfl,trivial⟩ ?_)))))
 exact⟨_,rfl,⟨_,_,rfl,⟨_,_,_,rfl,j5,o5⟩,rfl⟩,hw1⟩
end Go.Proofs.YtkepckmdjncehaaGreatDoor
