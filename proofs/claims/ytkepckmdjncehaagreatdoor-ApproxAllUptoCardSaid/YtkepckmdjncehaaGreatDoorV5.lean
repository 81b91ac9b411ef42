/- Parts R7p, Atm, Atx, Law5s, Atr, Apt, Atq, R7t, R7u, R7v, Ref4r, joined. -/
import Derived.Test.YtkepckmdjncehaaGreatDoorV4

open Go renaming Addr → aC, Calls → aL, Operand → cS, Program → bY, TypeId → aO, Value → aG, World → a6, run_underlying → kV
open Int renaming toNat_natCast → gM
open Go.Lib renaming hid → aU
open List renaming getD_eq_getElem?_getD → bD, getElem?_eq_getElem → cK, length_append → cR, length_drop → cO, length_take → bK, map_cons → iH, map_nil → iX, mem_append → nR, mem_of_mem_drop → gG, mem_of_mem_take → kW, mem_singleton → iW
open Nat renaming add_mul → dY, add_sub_cancel → jZ, add_zero → dH, div_add_mod → gS, div_le_self → fF, div_lt_self → jN, le_refl → aZ, le_trans → aK, mod_lt → eL, mul_add_div → mM, mul_assoc → bC, mul_comm → bR, mul_one → cQ, mul_pos → fO, mul_right_comm → jY, pow_add → bU, pow_pos → eO, pow_succ → bS, succ_mul → lF, two_pow_pos → dX, zero_add → fD, zero_le → bZ
open Go.Next renaming value → fT
open Option.some renaming injEq → fG
open Or renaming inl → cH, inr → bV
open Go.Sem renaming run_bind → cG
open Go.Proofs.Tryz renaming prog → aF
open Go.Value renaming int → bQ
namespace Go.Proofs.YtkepckmdjncehaaGreatDoor
variable {A Aa B:Option aC}{D M P X Y a b base bh c c' cap cap' d f g i i0 i1 i2 j k lb m n n' u v:Nat}{af:Array Edge}{bs ds fs l pw r xs:List Nat}{dn ng s sa t:Bool}{dst:Option Tmp}{gd:Option (Nat×Bool)}{ops:Array Oper}{pos:String}{rest:List Oper}{ty:aO}{x y z:Int}
open Go.RowKit
theorem wL (s:Bool):dR s 0=0:=by unfold dR;rw [if_neg (by simp)]
theorem TX {w:a6}(hx:Zi w s A n cap x):dR s (cN (x.natAbs*2^bN) 1)=mB x:=by
 unfold mB
 by_cases h:x=0
 ·subst h;rw [show (0:Int).natAbs=0 from rfl,xF (by decide),wL,wL]
 ·have hs:s=decide (x<0):=by
   obtain⟨xs,_,h2⟩:=hx
   unfold sg at h2
   cases s with
   | true=>rw [if_pos rfl] at h2;exact (decide_eq_true (by omega)).symm
   | false=>rw [if_neg Bool.false_ne_true] at h2;exact (decide_eq_false (by omega)).symm
  rw [hs]
theorem mR {w:a6}(hx:Zi w s A n cap x)(h:x≠0):s=decide (x<0):=by
 obtain⟨xs,_,h2⟩:=hx
 unfold sg at h2
 cases s with
 | true=>rw [if_pos rfl] at h2;exact (decide_eq_true (by omega)).symm
 | false=>rw [if_neg Bool.false_ne_true] at h2;exact (decide_eq_false (by omega)).symm
theorem x8 {w w2:a6}(hx:Zi w s A n cap x)(hy:Zi w2 t B m cap' y)(h0:y≠0):dR (s != t) (cN (x.natAbs*2^bN) y.natAbs)=uE x y:=by
 unfold uE
 by_cases h:x=0
 ·subst h;rw [show (0:Int).natAbs=0 from rfl,xF (by omega),wL,wL]
 ·have e:(s != t)=decide (x*y<0):=by
   rw [mR hx h,mR hy h0]
   by_cases h1:x<0 <;> by_cases h2:y<0
   ·have:=Int.mul_pos_of_neg_of_neg h1 h2
    rw [decide_eq_true h1,decide_eq_true h2,decide_eq_false (by omega)];rfl
   ·have:=Int.mul_neg_of_neg_of_pos h1 (show 0<y by omega)
    rw [decide_eq_true h1,decide_eq_false h2,decide_eq_true this];rfl
   ·have:=Int.mul_neg_of_pos_of_neg (show 0<x by omega) h2
    rw [decide_eq_false h1,decide_eq_true h2,decide_eq_true this];rfl
   ·have:=Int.mul_pos (show 0<x by omega) (show 0<y by omega)
    rw [decide_eq_false h1,decide_eq_false h2,decide_eq_false (by omega)];rfl
  rw [e]
theorem qI (h:a=b):bQ .u64 ((a:Nat):Int)= .int .u64 b:=by rw [h]
set_option maxHeartbeats 4000000 in
theorem ST {w:a6}(hx:Zi w s A n cap x)(la:n≤2000000):
    aL aF 167 #[.agg #[.bool s,.slice A n cap]] w (Gv w (Is (.int .u64 ((mB x:Nat):Int)))):=by
 have Lx:ln x≤2000000:=aK hx.ln la
 refine bL Tryz.func167 rfl (n:=9) rfl (bq rfl) (args:= [.agg #[.bool s,.slice A n cap]]) (bB [(0,.agg #[.bool s,.slice A n cap])] ⟨rfl,trivial⟩ (sr (bx [.bool s,.slice A n cap] (Ext.refl w) rfl rfl rfl fun g1 v2 hb4 ge5 e3 hw1=>(mv 1 rfl (a0 (sr (pf g1 1 rfl (aQ rfl rfl (bE eW hb4 rfl) (dN rfl rfl (k:=1) (e:=65) [.int .u64 1] (fun _=>by kernel_rfl) fun g6 v7 nb8=>?_)))))))))
 have o9:=O1.mk_ (x:=1) (b:=w.heap.size) nb8 hw1.size
 have e10:=nb8.ext
 have hw2:=hw1.trans e10
 have o12:=i6 o9 (show 1≤18446744073709551615 by decide) (show 1≠0 by decide)
 have j11:=gP (show 1≤18446744073709551615 by decide) (show 1≠0 by decide)
 refine pf g1 0 rfl (aQ rfl rfl (bE eG (hb4.ext e10) rfl) (cl (vs:= [.slice A n cap,.slice (some ⟨g6,0,none⟩) 1 1,.bool s]) hw2 (sG (ng:=s) (hx.ext hw2).wi (cC la rfl) o12.wi (by rw [j11];exact aK (Nat.le_of_eq j11.symm) (by decide)) (hD0:=(by decide))) rfl (by kernel_rfl) fun xr15 v13 r15 e14 hw3=>?_))
 obtain rfl:=r15
 refine mv 1 rfl (a0 (aJ (aI [.int .u64 ((dR s (cN (Int.natAbs x*2^bN) 1):Nat):Int)] rfl ⟨rfl,trivial⟩ ?_)))
 exact⟨_,rfl,qI (TX hx),hw3⟩
set_option maxHeartbeats 4000000 in
theorem SS {w:a6}(hx:Zi w s A n cap x)(la:n≤2000000)(hy:Zi w t B m cap' y)(lb:m≤2000000)(h0:y≠0):
    aL aF 168 #[.agg #[.bool s,.slice A n cap],.agg #[.bool t,.slice B m cap']] w (Gv w (T2 (Is (.int .u64 ((uE x y:Nat):Int))) (Is (.int .i64 0)))):=by
 have Lx:ln x≤2000000:=aK hx.ln la
 have Ly:ln y≤2000000:=aK hy.ln lb
 have hyb:aV y.natAbs≠0:=fun e=>by have:=jV.1 e;omega
 refine bL Tryz.func168 rfl (n:=20) rfl (bq rfl) (args:= [.agg #[.bool s,.slice A n cap],.agg #[.bool t,.slice B m cap']]) (bB [(0,.agg #[.bool s,.slice A n cap]),(1,.agg #[.bool t,.slice B m cap'])] ⟨rfl,rfl,trivial⟩ (sr (bx [.bool s,.slice A n cap] (Ext.refl w) rfl rfl rfl fun g1 v2 hb4 ge5 e3 hw1=>(sU [.bool t,.slice B m cap'] hw1 hb4.lt rfl rfl rfl fun g6 v7 hb9 ge10 q11 e8 hw2=>(mv 2 rfl (a0 (aA (sr (pf g6 1 rfl (aQ rfl rfl (bE eW hb9 rfl) (cl (vs:= [.slice B m cap']) hw2 (sO (hy.ext hw2).wi (cC lb rfl)) rfl (by kernel_rfl) fun xr14 v12 r14 e13 hw3=>?_)))))))))))
 obtain rfl:=r14
 refine aB rfl rfl rfl false (d4 (a:=aV y.natAbs) (b:=0) rfl rfl) (a0 (aH rfl (aN (aE (aA ?_)))))
 cases s
 · 
  cases t
  · 
   refine a8 (pf g1 1 rfl (aQ rfl rfl (bE eW (hb4.ext (e8.trans e13)) rfl) (pf g6 1 rfl (aQ rfl rfl (bE eW (hb9.ext e13) rfl) (pf g1 0 rfl (aQ rfl rfl (bE eG (hb4.ext (e8.trans e13)) rfl) (pf g6 0 rfl (aQ rfl rfl (bE eG (hb9.ext e13) rfl) (pu (v:= .bool false) rfl (cl (vs:= [.slice A n cap,.slice B m cap',F0]) hw3 (sG (ng:=false) (hx.ext hw3).wi (cC la rfl) (hy.ext hw3).wi (cC lb rfl)) rfl (by kernel_rfl) fun xr17 v15 r17 e16 hw4=>?_))))))))))
   obtain rfl:=r17
   refine mv 2 rfl (a0 (aJ (aI [.int .u64 ((dR false (cN (Int.natAbs x*2^bN) (Int.natAbs y)):Nat):Int),I0] rfl ⟨rfl,rfl,trivial⟩ ?_)))
   exact⟨_,rfl,⟨_,_,rfl,qI (x8 hx hy h0),rfl⟩,hw4⟩
  · 
   refine a8 (pf g1 1 rfl (aQ rfl rfl (bE eW (hb4.ext (e8.trans e13)) rfl) (pf g6 1 rfl (aQ rfl rfl (bE eW (hb9.ext e13) rfl) (pf g1 0 rfl (aQ rfl rfl (bE eG (hb4.ext (e8.trans e13)) rfl) (pf g6 0 rfl (aQ rfl rfl (bE eG (hb9.ext e13) rfl) (pu (v:= .bool true) rfl (cl (vs:= [.slice A n cap,.slice B m cap',.bool true]) hw3 (sG (ng:=true) (hx.ext hw3).wi (cC la rfl) (hy.ext hw3).wi (cC lb rfl)) rfl (by kernel_rfl) fun xr20 v18 r20 e19 hw4=>?_))))))))))
   obtain rfl:=r20
   refine mv 2 rfl (a0 (aJ (aI [.int .u64 ((dR true (cN (Int.natAbs x*2^bN) (Int.natAbs y)):Nat):Int),I0] rfl ⟨rfl,rfl,trivial⟩ ?_)))
   exact⟨_,rfl,⟨_,_,rfl,qI (x8 hx hy h0),rfl⟩,hw4⟩
 · 
  cases t
  · 
   refine a8 (pf g1 1 rfl (aQ rfl rfl (bE eW (hb4.ext (e8.trans e13)) rfl) (pf g6 1 rfl (aQ rfl rfl (bE eW (hb9.ext e13) rfl) (pf g1 0 rfl (aQ rfl rfl (bE eG (hb4.ext (e8.trans e13)) rfl) (pf g6 0 rfl (aQ rfl rfl (bE eG (hb9.ext e13) rfl) (pu (v:= .bool true) rfl (cl (vs:= [.slice A n cap,.slice B m cap',.bool true]) hw3 (sG (ng:=true) (hx.ext hw3).wi (cC la rfl) (hy.ext hw3).wi (cC lb rfl)) rfl (by kernel_rfl) fun xr23 v21 r23 e22 hw4=>?_))))))))))
   obtain rfl:=r23
   refine mv 2 rfl (a0 (aJ (aI [.int .u64 ((dR true (cN (Int.natAbs x*2^bN) (Int.natAbs y)):Nat):Int),I0] rfl ⟨rfl,rfl,trivial⟩ ?_)))
   exact⟨_,rfl,⟨_,_,rfl,qI (x8 hx hy h0),rfl⟩,hw4⟩
  · 
   refine a8 (pf g1 1 rfl (aQ rfl rfl (bE eW (hb4.ext (e8.trans e13)) rfl) (pf g6 1 rfl (aQ rfl rfl (bE eW (hb9.ext e13) rfl) (pf g1 0 rfl (aQ rfl rfl (bE eG (hb4.ext (e8.trans e13)) rfl) (pf g6 0 rfl (aQ rfl rfl (bE eG (hb9.ext e13) rfl) (pu (v:= .bool false) rfl (cl (vs:= [.slice A n cap,.slice B m cap',F0]) hw3 (sG (ng:=false) (hx.ext hw3).wi (cC la rfl) (hy.ext hw3).wi (cC lb rfl)) rfl (by kernel_rfl) fun xr26 v24 r26 e25 hw4=>?_))))))))))
   obtain rfl:=r26
   refine mv 2 rfl (a0 (aJ (aI [.int .u64 ((dR false (cN (Int.natAbs x*2^bN) (Int.natAbs y)):Nat):Int),I0] rfl ⟨rfl,rfl,trivial⟩ ?_)))
   exact⟨_,rfl,⟨_,_,rfl,qI (x8 hx hy h0),rfl⟩,hw4⟩
set_option maxHeartbeats 4000000 in
theorem SR {w:a6}(hx:Zi w s A n cap x)(la:n≤2000000)(hy:Zi w t B m cap' y)(lb:m≤2000000)(h0:y=0):
    aL aF 168 #[.agg #[.bool s,.slice A n cap],.agg #[.bool t,.slice B m cap']] w (Gv w (T2 (Is (.int .u64 0)) (Is (.int .i64 4)))):=by
 have Lx:ln x≤2000000:=aK hx.ln la
 have Ly:ln y≤2000000:=aK hy.ln lb
 have hyb:aV y.natAbs=0:=by rw [h0];exact kC
 refine bL Tryz.func168 rfl (n:=20) rfl (bq rfl) (args:= [.agg #[.bool s,.slice A n cap],.agg #[.bool t,.slice B m cap']]) (bB [(0,.agg #[.bool s,.slice A n cap]),(1,.agg #[.bool t,.slice B m cap'])] ⟨rfl,rfl,trivial⟩ (sr (bx [.bool s,.slice A n cap] (Ext.refl w) rfl rfl rfl fun g1 v2 hb4 ge5 e3 hw1=>(sU [.bool t,.slice B m cap'] hw1 hb4.lt rfl rfl rfl fun g6 v7 hb9 ge10 q11 e8 hw2=>(mv 2 rfl (a0 (aA (sr (pf g6 1 rfl (aQ rfl rfl (bE eW hb9 rfl) (cl (vs:= [.slice B m cap']) hw2 (sO (hy.ext hw2).wi (cC lb rfl)) rfl (by kernel_rfl) fun xr14 v12 r14 e13 hw3=>?_)))))))))))
 obtain rfl:=r14
 refine aB rfl rfl rfl true (cZ (a:=aV y.natAbs) (b:=0) rfl rfl) (a0 (aM rfl (sr (mv 2 rfl (a0 (aJ (bJ (aI [.int .u64 0,.int .i64 4] rfl ⟨rfl,rfl,trivial⟩ ?_))))))))
 exact⟨_,rfl,⟨_,_,rfl,rfl,rfl⟩,hw3⟩
theorem DV {w:a6}(h0:X=0)(hn:n=(wd X).length)(ho:Own w b 65 1 A n c ((wd X).map b8)):Zr w b false A n c (sg s X):=by
 subst h0
 rw [m7]
 exact⟨rfl,hn,ho⟩
theorem zP {w:a6}:Zr w b false none 0 0 0:=⟨rfl,rfl,Own.nil _ _ _ _⟩
theorem lH (hb:f<18446744073709551616){l:Bool}(h:l=decide (9223372036854775808≤f)):cT f=l:=by
 unfold cT
 rw [h]
 by_cases h1:9223372036854775808≤f
 ·rw [decide_eq_true h1,decide_eq_true (by omega)]
 ·rw [decide_eq_false h1,decide_eq_false (by omega)]
set_option maxHeartbeats 4000000 in
theorem SF {w:a6}(hX:Wi w A n c X)(hXn:n≤2000000):
    aL aF 116 #[.bool ng,.slice A n c] w (Gv w (ZR w.heap.size (sg ng X))):=by
 have hXl:(wd X).length≤2000000:=aK hX.len hXn
 refine bL Tryz.func116 rfl (n:=15) rfl (bq rfl) (args:= [.bool ng,.slice A n c]) (bB [(0,.bool ng),(1,.slice A n c)] ⟨rfl,rfl,trivial⟩ (sr (al [F0,S0] (Ext.refl w) (fun _=>by kernel_rfl) rfl fun g1 v2 hb4 ge5 e3 hw1=>(a0 (sr (mv 1 rfl (cl (vs:= [.slice A n c]) hw1 (WL hw1.size (hX.ext hw1) (cC hXn rfl)) rfl (by kernel_rfl) fun xr8 v6 r8 e7 hw2=>?_)))))))
 obtain⟨A9,n9,c9,rfl,j9,o9⟩:=r8
 refine mv 1 rfl (a0 (aA ?_))
 by_cases hX0:X=0
 · 
  have hln:n9=0:=by rw [j9];exact j7.2 hX0
  cases ng
  · 
   refine a8 (mv 5 rfl (pu (v:= .bool false) rfl (mv 1 rfl (pu (v:= .agg #[F0,.slice A9 n9 c9]) rfl ?_))))
   have hb11:=(hb4.ext e7)
   refine so cD hb11 [F0,.slice A9 n9 c9] hw2 ge5 rfl rfl rfl rfl fun v10 hb12 u13 hw3=>(a0 (aJ (aI [.agg #[F0,.slice A9 n9 c9]] rfl ⟨⟨_,rfl,fU cD hb12 [F0,.slice A9 n9 c9] rfl (bq rfl) rfl⟩,trivial⟩ ?_)))
   exact⟨_,rfl,⟨_,_,_,_,rfl,DV hX0 j9 (o9.updT hb11 (by decide) u13)⟩,hw3⟩
  · 
   refine a8 (mv 3 rfl (pu (v:= .int .i64 n9) rfl (aB rfl rfl rfl false (cW (a:=n9) (b:=0) rfl rfl) (pu (v:= .bool false) rfl (mv 1 rfl (pu (v:= .agg #[F0,.slice A9 n9 c9]) rfl ?_))))))
   have hb16:=(hb4.ext e7)
   refine so cD hb16 [F0,.slice A9 n9 c9] hw2 ge5 rfl rfl rfl rfl fun v15 hb17 u18 hw3=>(a0 (aJ (aI [.agg #[F0,.slice A9 n9 c9]] rfl ⟨⟨_,rfl,fU cD hb17 [F0,.slice A9 n9 c9] rfl (bq rfl) rfl⟩,trivial⟩ ?_)))
   exact⟨_,rfl,⟨_,_,_,_,rfl,DV hX0 j9 (o9.updT hb16 (by decide) u18)⟩,hw3⟩
 · 
  have hln:n9≠0:=by rw [j9];exact fun e=>hX0 (j7.1 e)
  cases ng
  · 
   refine a8 (mv 5 rfl (pu (v:= .bool false) rfl (mv 1 rfl ?_)))
   have z20:=yU false hX0 j9 o9
   refine pu (v:= .agg #[F0,.slice A9 n9 c9]) rfl ?_
   have hb22:=(hb4.ext e7)
   refine so cD hb22 [F0,.slice A9 n9 c9] hw2 ge5 rfl rfl rfl rfl fun v21 hb23 u24 hw3=>(a0 (aJ (aI [.agg #[F0,.slice A9 n9 c9]] rfl ⟨⟨_,rfl,fU cD hb23 [F0,.slice A9 n9 c9] rfl (bq rfl) rfl⟩,trivial⟩ ?_)))
   exact⟨_,rfl,⟨_,_,_,_,rfl,(z20.updT hb22 u24)⟩,hw3⟩
  · 
   refine a8 (mv 3 rfl (pu (v:= .int .i64 n9) rfl (aB rfl rfl rfl true (dC (a:=n9) (b:=0) rfl rfl) (pu (v:= .bool true) rfl (mv 1 rfl ?_)))))
   have z26:=yU true hX0 j9 o9
   refine pu (v:= .agg #[.bool true,.slice A9 n9 c9]) rfl ?_
   have hb28:=(hb4.ext e7)
   refine so cD hb28 [.bool true,.slice A9 n9 c9] hw2 ge5 rfl rfl rfl rfl fun v27 hb29 u30 hw3=>(a0 (aJ (aI [.agg #[.bool true,.slice A9 n9 c9]] rfl ⟨⟨_,rfl,fU cD hb29 [.bool true,.slice A9 n9 c9] rfl (bq rfl) rfl⟩,trivial⟩ ?_)))
   exact⟨_,rfl,⟨_,_,_,_,rfl,(z26.updT hb28 u30)⟩,hw3⟩
theorem pK {w:a6}(hb:b≤w.heap.size)(hz:sg ng X=z)(hX:Wi w A n c X)(hXn:n≤2000000):aL aF 116 #[.bool ng,.slice A n c] w (Gv w (ZR b z)):=by subst hz;exact (SF hX hXn).mono (Gv.imp (ZR.imp hb))
theorem EE (hk:((pe f:Nat):Int)+ -1074=(k:Int)):sg (cT f) (pm f*2^k)=iI f:=by
 unfold iI
 rw [kK,show pe f=k+bN by have:=iA;omega,bU,←bC,Nat.mul_div_cancel _ (dX _)]
theorem EF (hk:((pe f:Nat):Int)+ -1074= -(k:Int)):sg (cT f) (pm f/2^k)=iI f:=by
 unfold iI
 rw [kK,show bN=k+pe f by have:=iA;omega,bU,Nat.mul_div_mul_right _ _ (dX _)]
theorem V4 (hf:fin f):ln (iI f)≤34:=by
 have h1:(iI f).natAbs≤(fv f).natAbs:=by
  unfold iI fv
  rw [oD,oD]
  exact fF _ _
 exact aK (V7 h1) (sK (n:=1) (k:=0) (by rw [Nat.one_mul];exact xX hf) (hn:=(by decide)))
theorem sH (f:Nat):(wd (pm f)).length≤1:=fS (by have:=iQ f;rw [cF,Nat.pow_one];omega)
set_option maxHeartbeats 4000000 in
theorem SH {w:a6}(hb:f<18446744073709551616)(hf:fin f):
    aL aF 32 #[.int .u64 f] w (Gv w (T2 (ZR w.heap.size (iI f)) (Is (.int .i64 0)))):=by
 refine bL Tryz.func32 rfl (n:=34) rfl (bq rfl) (args:= [.int .u64 f]) (bB [(0,.int .u64 f)] ⟨rfl,trivial⟩ (sr (al [F0,S0] (Ext.refl w) (fun _=>by kernel_rfl) rfl fun g1 v2 hb4 ge5 e3 hw1=>(mv 1 rfl (a0 (aA (sr (mv 1 rfl (cl (vs:= [.int .u64 f]) hw1 (uG hb hf) rfl (by kernel_rfl) fun xr8 v6 r8 e7 hw2=>?_)))))))))
 obtain rfl:=r8
 refine pu (v:= .bool false) rfl (a0 (aH rfl (aN (aE (sr (mv 1 rfl (cl (vs:= [.int .u64 f]) hw2 (uF hb) rfl (by kernel_rfl) fun xr11 v9 r11 e10 hw3=>?_)))))))
 obtain⟨_,_,rfl,rfl,rfl⟩:=r11
 refine mv 1 rfl (pu (v:= .int .u64 ((pm f:Nat):Int)) rfl (pu (v:= .int .i64 (((pe f:Nat):Int)+ -1074)) rfl (mv 2 rfl (a0 (sr (mv 1 rfl (dN rfl rfl (k:=1) (e:=65) [.int .u64 ((pm f:Nat):Int)] (fun _=>by kernel_rfl) fun g13 v14 nb15=>?_)))))))
 have o16:=O1.mk_ (x:=pm f) (b:=w.heap.size) nb15 hw3.size
 have e17:=nb15.ext
 have hw4:=hw3.trans e17
 refine mv 1 rfl (a0 (aA (aA ?_)))
 have hpeb:=pL hf
 by_cases hsp:0≤((pe f:Nat):Int)+ -1074
 · 
  obtain⟨k,hk⟩:∃k:Nat,((pe f:Nat):Int)+ -1074=(k:Int):=⟨(((pe f:Nat):Int)+ -1074).toNat,by omega⟩
  rw [hk]
  refine a8 (mv 1 rfl (aB rfl rfl rfl true (eI (a:=k) (b:=0) rfl rfl) (a0 (aM rfl (a8 (mv 2 rfl ?_))))))
  have hLk:(wd (pm f*2^k)).length≤66:=oI (sH f)
  refine cl (vs:= [.slice (some ⟨g13,0,none⟩) 1 1,.int .i64 k]) hw4 (nY (k:=k) hw4.size (gF o16 (show pm f≤18446744073709551615 by have:=iQ f;omega)) (by decide)) rfl (by kernel_rfl) fun xr22 v20 r22 e21 hw5=>?_
  obtain⟨A23,n23,c23,rfl,j23,o23⟩:=r22
  refine mv 1 rfl (a0 (aA ?_))
  by_cases h63:9223372036854775808≤f
  · 
   have hsg:cT f=true:=lH hb (decide_eq_true h63).symm
   refine a8 (mv 1 rfl (aB rfl rfl rfl true (eI (a:=f) (b:=9223372036854775808) rfl rfl) (mv 1 rfl ?_)))
   have hz:sg true (pm f*2^k)=iI f:=by rw [←hsg];exact EE hk
   refine cl (vs:= [.bool true,.slice A23 n23 c23]) hw5 (pK hw5.size hz o23.wi (by rw [j23];exact aK hLk (by decide))) rfl (by kernel_rfl) fun xr26 v24 r26 e25 hw6=>?_
   obtain⟨s27,A27,n27,c27,rfl,z27⟩:=r26
   have hb29:=(hb4.ext (e7.trans (e10.trans (e17.trans (e21.trans e25)))))
   refine so cD hb29 [.bool s27,.slice A27 n27 c27] hw6 ge5 rfl rfl rfl rfl fun v28 hb30 u31 hw7=>(mv 1 rfl (a0 (aJ (aI [.agg #[.bool s27,.slice A27 n27 c27],I0] rfl ⟨⟨_,rfl,fU cD hb30 [.bool s27,.slice A27 n27 c27] rfl (bq rfl) rfl⟩,rfl,trivial⟩ ?_))))
   exact⟨_,rfl,⟨_,_,rfl,⟨_,_,_,_,rfl,(z27.updT hb29 u31)⟩,rfl⟩,hw7⟩
  · 
   have hsg:cT f=false:=lH hb (decide_eq_false h63).symm
   refine a8 (mv 1 rfl (aB rfl rfl rfl false (iD (a:=f) (b:=9223372036854775808) rfl rfl) (mv 1 rfl ?_)))
   have hz:sg false (pm f*2^k)=iI f:=by rw [←hsg];exact EE hk
   refine cl (vs:= [F0,.slice A23 n23 c23]) hw5 (pK hw5.size hz o23.wi (by rw [j23];exact aK hLk (by decide))) rfl (by kernel_rfl) fun xr35 v33 r35 e34 hw6=>?_
   obtain⟨s36,A36,n36,c36,rfl,z36⟩:=r35
   have hb38:=(hb4.ext (e7.trans (e10.trans (e17.trans (e21.trans e34)))))
   refine so cD hb38 [.bool s36,.slice A36 n36 c36] hw6 ge5 rfl rfl rfl rfl fun v37 hb39 u40 hw7=>(mv 1 rfl (a0 (aJ (aI [.agg #[.bool s36,.slice A36 n36 c36],I0] rfl ⟨⟨_,rfl,fU cD hb39 [.bool s36,.slice A36 n36 c36] rfl (bq rfl) rfl⟩,rfl,trivial⟩ ?_))))
   exact⟨_,rfl,⟨_,_,rfl,⟨_,_,_,_,rfl,(z36.updT hb38 u40)⟩,rfl⟩,hw7⟩
 · 
  obtain⟨k,hk⟩:∃k:Nat,((pe f:Nat):Int)+ -1074= -(k:Int):=⟨(-(((pe f:Nat):Int)+ -1074)).toNat,by omega⟩
  rw [hk]
  refine a8 (mv 1 rfl (aB rfl rfl rfl false (iT) (a0 (aH rfl (a8 (mv 2 rfl (bA rfl rfl (v:= .int .i64 (IntKind.i64.wrap (0- -((k:Nat):Int)))) (v':= .int .i64 k) (nH) (cl (vs:= [.slice (some ⟨g13,0,none⟩) 1 1,.int .i64 k]) hw4 (T1 (n:=k) hw4.size (gF o16 (show pm f≤18446744073709551615 by have:=iQ f;omega)) (by decide) (by omega)) rfl (by kernel_rfl) fun xr44 v42 r44 e43 hw5=>?_))))))))
  obtain⟨_,_,rfl,⟨A46,n46,c46,rfl,j46,o46⟩,rfl⟩:=r44
  refine mv 1 rfl (pu (v:= .slice A46 n46 c46) rfl (pu (v:= .int .i64 0) rfl (mv 1 rfl (a0 (aA ?_)))))
  by_cases h63:9223372036854775808≤f
  · 
   have hsg:cT f=true:=lH hb (decide_eq_true h63).symm
   refine a8 (mv 1 rfl (aB rfl rfl rfl true (eI (a:=f) (b:=9223372036854775808) rfl rfl) (mv 1 rfl ?_)))
   have hz:sg true (pm f/2^k)=iI f:=by rw [←hsg];exact EF hk
   refine cl (vs:= [.bool true,.slice A46 n46 c46]) hw5 (pK hw5.size hz o46.wi (by rw [j46];exact aK (aK (gN (fF _ _)) (sH f)) (by decide))) rfl (by kernel_rfl) fun xr49 v47 r49 e48 hw6=>?_
   obtain⟨s50,A50,n50,c50,rfl,z50⟩:=r49
   have hb52:=(hb4.ext (e7.trans (e10.trans (e17.trans (e43.trans e48)))))
   refine so cD hb52 [.bool s50,.slice A50 n50 c50] hw6 ge5 rfl rfl rfl rfl fun v51 hb53 u54 hw7=>(mv 1 rfl (a0 (aJ (aI [.agg #[.bool s50,.slice A50 n50 c50],I0] rfl ⟨⟨_,rfl,fU cD hb53 [.bool s50,.slice A50 n50 c50] rfl (bq rfl) rfl⟩,rfl,trivial⟩ ?_))))
   exact⟨_,rfl,⟨_,_,rfl,⟨_,_,_,_,rfl,(z50.updT hb52 u54)⟩,rfl⟩,hw7⟩
  · 
   have hsg:cT f=false:=lH hb (decide_eq_false h63).symm
   refine a8 (mv 1 rfl (aB rfl rfl rfl false (iD (a:=f) (b:=9223372036854775808) rfl rfl) (mv 1 rfl ?_)))
   have hz:sg false (pm f/2^k)=iI f:=by rw [←hsg];exact EF hk
   refine cl (vs:= [F0,.slice A46 n46 c46]) hw5 (pK hw5.size hz o46.wi (by rw [j46];exact aK (aK (gN (fF _ _)) (sH f)) (by decide))) rfl (by kernel_rfl) fun xr58 v56 r58 e57 hw6=>?_
   obtain⟨s59,A59,n59,c59,rfl,z59⟩:=r58
   have hb61:=(hb4.ext (e7.trans (e10.trans (e17.trans (e43.trans e57)))))
   refine so cD hb61 [.bool s59,.slice A59 n59 c59] hw6 ge5 rfl rfl rfl rfl fun v60 hb62 u63 hw7=>(mv 1 rfl (a0 (aJ (aI [.agg #[.bool s59,.slice A59 n59 c59],I0] rfl ⟨⟨_,rfl,fU cD hb62 [.bool s59,.slice A59 n59 c59] rfl (bq rfl) rfl⟩,rfl,trivial⟩ ?_))))
   exact⟨_,rfl,⟨_,_,rfl,⟨_,_,_,_,rfl,(z59.updT hb61 u63)⟩,rfl⟩,hw7⟩
set_option maxHeartbeats 4000000 in
theorem SG {w:a6}(hb:f<18446744073709551616)(hf:¬fin f):
    aL aF 32 #[.int .u64 f] w (Gv w (T2 (ZR w.heap.size 0) (Is (.int .i64 3)))):=by
 refine bL Tryz.func32 rfl (n:=34) rfl (bq rfl) (args:= [.int .u64 f]) (bB [(0,.int .u64 f)] ⟨rfl,trivial⟩ (sr (al [F0,S0] (Ext.refl w) (fun _=>by kernel_rfl) rfl fun g1 v2 hb4 ge5 e3 hw1=>(mv 1 rfl (a0 (aA (sr (mv 1 rfl (cl (vs:= [.int .u64 f]) hw1 (uH hb hf) rfl (by kernel_rfl) fun xr8 v6 r8 e7 hw2=>?_)))))))))
 obtain rfl:=r8
 refine pu (v:= .bool true) rfl (a0 (aM rfl (sr (pu (v:= .agg #[F0,S0]) rfl ?_))))
 have hb10:=(hb4.ext e7)
 refine so cD hb10 [F0,S0] hw2 ge5 rfl rfl rfl rfl fun v9 hb11 u12 hw3=>(mv 1 rfl (a0 (aJ (bJ (aI [.agg #[F0,S0],.int .i64 3] rfl ⟨⟨_,rfl,fU cD hb11 [F0,S0] rfl (bq rfl) rfl⟩,rfl,trivial⟩ ?_)))))
 exact⟨_,rfl,⟨_,_,rfl,⟨_,_,_,_,rfl,zP⟩,rfl⟩,hw3⟩
set_option maxHeartbeats 4000000 in
theorem SL {w:a6}(hb:f<18446744073709551616)(hf:¬fin f):
    aL aF 33 #[.int .u64 f] w (Gv w (T3 (ZR w.heap.size 0) (Is (.int .i64 0)) (Is (.int .i64 3)))):=by
 refine bL Tryz.func33 rfl (n:=32) rfl (bq rfl) (args:= [.int .u64 f]) (bB [(0,.int .u64 f)] ⟨rfl,trivial⟩ (sr (al [F0,S0] (Ext.refl w) (fun _=>by kernel_rfl) rfl fun g1 v2 hb4 ge5 e3 hw1=>(mv 2 rfl (a0 (aA (sr (mv 1 rfl (cl (vs:= [.int .u64 f]) hw1 (uH hb hf) rfl (by kernel_rfl) fun xr8 v6 r8 e7 hw2=>?_)))))))))
 obtain rfl:=r8
 refine pu (v:= .bool true) rfl (a0 (aM rfl (sr (pu (v:= .agg #[F0,S0]) rfl ?_))))
 have hb10:=(hb4.ext e7)
 refine so cD hb10 [F0,S0] hw2 ge5 rfl rfl rfl rfl fun v9 hb11 u12 hw3=>(mv 2 rfl (a0 (aJ (bJ (aI [.agg #[F0,S0],I0,.int .i64 3] rfl ⟨⟨_,rfl,fU cD hb11 [F0,S0] rfl (bq rfl) rfl⟩,rfl,rfl,trivial⟩ ?_)))))
 exact⟨_,rfl,⟨_,_,_,rfl,⟨_,_,_,_,rfl,zP⟩,rfl,rfl⟩,hw3⟩
set_option maxHeartbeats 4000000 in
theorem SJ {w:a6}(hb:f<18446744073709551616)(hf:fin f)(hp0:pm f=0):
    aL aF 33 #[.int .u64 f] w (Gv w (T3 (ZR w.heap.size (eJ f)) (Is (.int .i64 (eV f))) (Is (.int .i64 0)))):=by
 have hpeb:=pL hf
 refine bL Tryz.func33 rfl (n:=32) rfl (bq rfl) (args:= [.int .u64 f]) (bB [(0,.int .u64 f)] ⟨rfl,trivial⟩ (sr (al [F0,S0] (Ext.refl w) (fun _=>by kernel_rfl) rfl fun g1 v2 hb4 ge5 e3 hw1=>(mv 2 rfl (a0 (aA (sr (mv 1 rfl (cl (vs:= [.int .u64 f]) hw1 (uG hb hf) rfl (by kernel_rfl) fun xr8 v6 r8 e7 hw2=>?_)))))))))
 obtain rfl:=r8
 refine pu (v:= .bool false) rfl (a0 (aH rfl (aN (aE (sr (mv 1 rfl (cl (vs:= [.int .u64 f]) hw2 (uF hb) rfl (by kernel_rfl) fun xr11 v9 r11 e10 hw3=>?_)))))))
 obtain⟨_,_,rfl,rfl,rfl⟩:=r11
 refine mv 1 rfl (pu (v:= .int .u64 ((pm f:Nat):Int)) rfl (pu (v:= .int .i64 (((pe f:Nat):Int)+ -1074)) rfl (mv 2 rfl (a0 (aA (sr (mv 1 rfl (aB rfl rfl rfl true (cZ (a:=pm f) (b:=0) rfl rfl) (a0 (aM rfl (sr (pu (v:= .agg #[F0,S0]) rfl ?_))))))))))))
 have hb14:=(hb4.ext (e7.trans e10))
 refine so cD hb14 [F0,S0] hw3 ge5 rfl rfl rfl rfl fun v13 hb15 u16 hw4=>(mv 2 rfl (a0 (aJ (bJ (aI [.agg #[F0,S0],I0,I0] rfl ⟨⟨_,rfl,fU cD hb15 [F0,S0] rfl (bq rfl) rfl⟩,rfl,rfl,trivial⟩ ?_)))))
 exact⟨_,rfl,⟨_,_,_,rfl,(by rw [show eJ f=0 by unfold eJ;rw [hp0,oA,m7]];exact⟨_,_,_,_,rfl,zP⟩),(show bQ .i64 0=_ by unfold eV;rw [if_pos hp0]),rfl⟩,hw4⟩
set_option maxHeartbeats 4000000 in
theorem SK {w:a6}(hb:f<18446744073709551616)(hf:fin f)(hp0:pm f≠0):
    aL aF 33 #[.int .u64 f] w (Gv w (T3 (ZR w.heap.size (eJ f)) (Is (.int .i64 (eV f))) (Is (.int .i64 0)))):=by
 have hpeb:=pL hf
 refine bL Tryz.func33 rfl (n:=32) rfl (bq rfl) (args:= [.int .u64 f]) (bB [(0,.int .u64 f)] ⟨rfl,trivial⟩ (sr (al [F0,S0] (Ext.refl w) (fun _=>by kernel_rfl) rfl fun g1 v2 hb4 ge5 e3 hw1=>(mv 2 rfl (a0 (aA (sr (mv 1 rfl (cl (vs:= [.int .u64 f]) hw1 (uG hb hf) rfl (by kernel_rfl) fun xr8 v6 r8 e7 hw2=>?_)))))))))
 obtain rfl:=r8
 refine pu (v:= .bool false) rfl (a0 (aH rfl (aN (aE (sr (mv 1 rfl (cl (vs:= [.int .u64 f]) hw2 (uF hb) rfl (by kernel_rfl) fun xr11 v9 r11 e10 hw3=>?_)))))))
 obtain⟨_,_,rfl,rfl,rfl⟩:=r11
 refine mv 1 rfl (pu (v:= .int .u64 ((pm f:Nat):Int)) rfl (pu (v:= .int .i64 (((pe f:Nat):Int)+ -1074)) rfl (mv 2 rfl (a0 (aA (sr (mv 1 rfl (aB rfl rfl rfl false (d4 (a:=pm f) (b:=0) rfl rfl) (a0 (aH rfl (aN (aE (aA ?_)))))))))))))
 refine bM ?_
 refine dS (T:=a6×Nat×Nat×Int)
  (fun⟨wr,mm,j,nn⟩=> [(0,.int .u64 f),(2,.pointer (some ⟨g1,0,none⟩)),(5,.int .u64 mm),(6,.int .i64 nn)])
  (fun⟨wr,mm,j,nn⟩=>wr)
  (fun⟨wr,mm,j,nn⟩=>(Ext w wr)∧(pm f=mm*2^j)∧(mm≠0)∧(nn=((pe f:Nat):Int)+ -1074+(j:Int))∧(Bk wr g1 24 [F0,S0]))
  (fun⟨wr,mm,j,nn⟩=>mm)
  (⟨v9,pm f,0,_⟩:a6×Nat×Nat×Int) ⟨hw3,(by rw [Nat.pow_zero,cQ]),hp0,(by omega),(hb4.ext (e7.trans e10))⟩ rfl ⟨rfl,rfl,rfl,rfl,trivial⟩ ?_
 rintro⟨wr,mm,j,nn⟩ ⟨hw1,hmj,hm0,hnn,b_2⟩
 refine cM [(0,.int .u64 f),(2,.pointer (some ⟨g1,0,none⟩)),(5,.int .u64 mm),(6,.int .i64 nn)] wr rfl ⟨rfl,rfl,rfl,rfl,trivial⟩ ?_
 have hj53:=JG hmj hm0 (iQ f)
 have hmm:mm≤pm f:=by rw [hmj];exact Nat.le_mul_of_pos_right _ (dX j)
 have hpl:=iQ f
 refine aA (aA ?_)
 by_cases hev:mm%2=0
 · 
  refine a8 (mv 1 rfl (aD rfl rfl rfl ((mm%2:Nat):Int) (f7 (a:=mm) (b:=2) rfl rfl) (aB rfl rfl rfl true (cZ (a:=mm%2) (b:=0) rfl rfl) (a0 (aM rfl (aN (aE (bM (sr (mv 1 rfl (aD rfl rfl rfl ((mm/2:Nat):Int) (iE (a:=mm) (b:=2) rfl rfl) (mv 1 rfl (aR ?_)))))))))))))
  refine aE (a8 (mv 1 rfl (aD rfl rfl rfl (nn+1) (kU (h:=rfl)) (mv 1 rfl (aR (cE (cU (⟨wr,mm/2,j+1,nn+1⟩:a6×Nat×Nat×Int) ⟨hw1,(JF hmj hev),(by omega),(by omega),b_2⟩ (show mm/2<mm by omega) rfl ⟨rfl,rfl,rfl,rfl,trivial⟩)))))))
 · 
  have htz:=AD hmj (by omega) (iQ f)
  refine a8 (mv 1 rfl (aD rfl rfl rfl ((mm%2:Nat):Int) (f7 (a:=mm) (b:=2) rfl rfl) (aB rfl rfl rfl false (d4 (a:=mm%2) (b:=0) rfl rfl) (a0 (aH rfl (dB (d7 (d9 (dA (aE (aA ?_)))))))))))
  by_cases h63:9223372036854775808≤f
  · 
   have hsg:cT f=true:=lH hb (decide_eq_true h63).symm
   refine a8 (mv 1 rfl (aB rfl rfl rfl true (eI (a:=f) (b:=9223372036854775808) rfl rfl) (mv 1 rfl (dN rfl rfl (k:=1) (e:=65) [.int .u64 mm] (fun _=>by kernel_rfl) fun g13 v14 nb15=>?_))))
   have o16:=O1.mk_ (x:=mm) (b:=w.heap.size) nb15 hw1.size
   have e17:=nb15.ext
   have hw2:=hw1.trans e17
   have hz:sg true mm=eJ f:=by rw [←hsg];unfold eJ;rw [htz.2]
   refine cl (vs:= [.bool true,.slice (some ⟨g13,0,none⟩) 1 1]) hw2 (pK hw2.size hz (gF o16 (show mm≤18446744073709551615 by omega)) (by decide)) rfl (by kernel_rfl) fun xr22 v20 r22 e21 hw3=>?_
   obtain⟨s23,A23,n23,c23,rfl,z23⟩:=r22
   refine mv 1 rfl ?_
   have hb25:=(b_2.ext (e17.trans e21))
   refine so cD hb25 [.bool s23,.slice A23 n23 c23] hw3 ge5 rfl rfl rfl rfl fun v24 hb26 u27 hw4=>(mv 2 rfl (a0 (aJ (aI [.agg #[.bool s23,.slice A23 n23 c23],.int .i64 nn,I0] rfl ⟨⟨_,rfl,fU cD hb26 [.bool s23,.slice A23 n23 c23] rfl (bq rfl) rfl⟩,rfl,rfl,trivial⟩ ?_))))
   exact⟨_,rfl,⟨_,_,_,rfl,⟨_,_,_,_,rfl,(z23.updT hb25 u27)⟩,(show bQ .i64 nn=_ by unfold eV;rw [if_neg hp0,htz.1,hnn]),rfl⟩,hw4⟩
  · 
   have hsg:cT f=false:=lH hb (decide_eq_false h63).symm
   refine a8 (mv 1 rfl (aB rfl rfl rfl false (iD (a:=f) (b:=9223372036854775808) rfl rfl) (mv 1 rfl (dN rfl rfl (k:=1) (e:=65) [.int .u64 mm] (fun _=>by kernel_rfl) fun g29 v30 nb31=>?_))))
   have o32:=O1.mk_ (x:=mm) (b:=w.heap.size) nb31 hw1.size
   have e33:=nb31.ext
   have hw2:=hw1.trans e33
   have hz:sg false mm=eJ f:=by rw [←hsg];unfold eJ;rw [htz.2]
   refine cl (vs:= [F0,.slice (some ⟨g29,0,none⟩) 1 1]) hw2 (pK hw2.size hz (gF o32 (show mm≤18446744073709551615 by omega)) (by decide)) rfl (by kernel_rfl) fun xr38 v36 r38 e37 hw3=>?_
   obtain⟨s39,A39,n39,c39,rfl,z39⟩:=r38
   refine mv 1 rfl ?_
   have hb41:=(b_2.ext (e33.trans e37))
   refine so cD hb41 [.bool s39,.slice A39 n39 c39] hw3 ge5 rfl rfl rfl rfl fun v40 hb42 u43 hw4=>(mv 2 rfl (a0 (aJ (aI [.agg #[.bool s39,.slice A39 n39 c39],.int .i64 nn,I0] rfl ⟨⟨_,rfl,fU cD hb42 [.bool s39,.slice A39 n39 c39] rfl (bq rfl) rfl⟩,rfl,rfl,trivial⟩ ?_))))
   exact⟨_,rfl,⟨_,_,_,rfl,⟨_,_,_,_,rfl,(z39.updT hb41 u43)⟩,(show bQ .i64 nn=_ by unfold eV;rw [if_neg hp0,htz.1,hnn]),rfl⟩,hw4⟩
theorem SM {w:a6}(hb:f<18446744073709551616)(hf:fin f):aL aF 33 #[.int .u64 f] w (Gv w (T3 (ZR w.heap.size (eJ f)) (Is (.int .i64 (eV f))) (Is (.int .i64 0)))):=by
 by_cases h:pm f=0
 ·exact SJ hb hf h
 ·exact SK hb hf h
theorem Z5 (a b:Nat): -1≤d6 a b∧d6 a b≤1:=by unfold d6;split <;> (try split) <;> omega
theorem YP {c:Int}(h: -1≤c∧c≤1):bQ .i64 (IntKind.i64.wrap (0-c))= .int .i64 (-c):=by rw [IntWalk.i64_in _ ⟨by omega,by omega⟩,Int.zero_sub]
theorem DW {w:a6}(hx:Zi w s A n cap x):sg s (Int.natAbs x)=x:=by
 obtain⟨xs,_,h2⟩:=hx
 rw [←h2,oD]
theorem TP (hx:x<0)(hy:¬y<0):cP x y= -1:=by unfold cP;rw [if_pos (by omega)]
theorem TQ (hx:¬x<0)(hy:y<0):cP x y=1:=by unfold cP;rw [if_neg (by omega),if_neg (by omega)]
theorem TS (hx:¬x<0)(hy:¬y<0):cP x y=d6 (Int.natAbs x) (Int.natAbs y):=by
 unfold cP d6
 rcases Int.lt_trichotomy x y with h | h | h
 ·rw [if_pos h,if_pos (by omega)]
 ·rw [if_neg (by omega),if_pos h,if_neg (by omega),if_pos (by omega)]
 ·rw [if_neg (by omega),if_neg (by omega),if_neg (by omega),if_neg (by omega)]
theorem TO (hx:x<0)(hy:y<0):cP x y= -d6 (Int.natAbs x) (Int.natAbs y):=by
 unfold cP d6
 rcases Int.lt_trichotomy x y with h | h | h
 ·rw [if_pos h,if_neg (by omega),if_neg (by omega)]
 ·rw [if_neg (by omega),if_pos h,if_neg (by omega),if_pos (by omega)];rfl
 ·rw [if_neg (by omega),if_neg (by omega),if_pos (by omega)];rfl
set_option maxHeartbeats 4000000 in
theorem xA {w:a6}(hx:Zi w s A n cap x)(la:n≤2000000)(hy:Zi w t B m cap' y)(lb:m≤2000000):
    aL aF 215 #[.agg #[.bool s,.slice A n cap],.agg #[.bool t,.slice B m cap']] w (Gv w (Is (.int .i64 (cP x y)))):=by
 have Lx:ln x≤2000000:=aK hx.ln la
 have Ly:ln y≤2000000:=aK hy.ln lb
 refine bL Tryz.func215 rfl (n:=35) rfl (bq rfl) (args:= [.agg #[.bool s,.slice A n cap],.agg #[.bool t,.slice B m cap']]) (bB [(0,.agg #[.bool s,.slice A n cap]),(1,.agg #[.bool t,.slice B m cap'])] ⟨rfl,rfl,trivial⟩ (sr (bx [.bool s,.slice A n cap] (Ext.refl w) rfl rfl rfl fun g1 v2 hb4 ge5 e3 hw1=>(sU [.bool t,.slice B m cap'] hw1 hb4.lt rfl rfl rfl fun g6 v7 hb9 ge10 q11 e8 hw2=>(mv 1 rfl (a0 (sr (pf g1 0 rfl (aQ rfl rfl (bE eG (hb4.ext e8) rfl) (pf g1 1 rfl (aQ rfl rfl (bE eW (hb4.ext e8) rfl) ?_)))))))))))
 have hzx:sg s (Int.natAbs x)=x:=DW hx
 refine cl (vs:= [.bool s,.slice A n cap]) hw2 (pK hw2.size hzx (hx.ext hw2).wi (cC la rfl)) rfl (by kernel_rfl) fun xr14 v12 r14 e13 hw3=>?_
 obtain⟨s15,A15,n15,c15,rfl,z15⟩:=r14
 refine mH [F0,S0] hw3 (hb9.ext e13).lt (fun _=>by kernel_rfl) rfl fun g16 v17 hb19 ge20 q21 e18 hw4=>(so cD hb19 [.bool s15,.slice A15 n15 c15] hw4 ge20 rfl rfl rfl rfl fun v22 hb24 u25 hw5=>(a0 (sr (pf g6 0 rfl (aQ rfl rfl (bE eG ((hb9.ext (e13.trans e18)).updN u25 (by omega)) rfl) (pf g6 1 rfl (aQ rfl rfl (bE eW ((hb9.ext (e13.trans e18)).updN u25 (by omega)) rfl) ?_)))))))
 have hzy:sg t (Int.natAbs y)=y:=DW hy
 refine cl (vs:= [.bool t,.slice B m cap']) hw5 (pK hw5.size hzy (hy.ext hw5).wi (cC lb rfl)) rfl (by kernel_rfl) fun xr29 v27 r29 e28 hw6=>?_
 obtain⟨s30,A30,n30,c30,rfl,z30⟩:=r29
 refine mH [F0,S0] hw6 (hb24.ext e28).lt (fun _=>by kernel_rfl) rfl fun g31 v32 hb34 ge35 q36 e33 hw7=>(so cD hb34 [.bool s30,.slice A30 n30 c30] hw7 ge35 rfl rfl rfl rfl fun v37 hb39 u40 hw8=>(a0 (aA (aA ?_))))
 have hsx:s15=decide (x<0):=(((((z15.ext e18).updT hb19 u25).ext (e28.trans e33)).updT hb34 u40)).sgn
 have hsy:s30=decide (y<0):=(((z30.ext e33).updT hb34 u40)).sgn
 by_cases hxn:x<0
 · 
  rw [decide_eq_true hxn] at hsx
  subst hsx
  by_cases hyn:y<0
  · 
   rw [decide_eq_true hyn] at hsy
   subst hsy
   refine a8 (pf g16 0 rfl (aQ rfl rfl (bE eG ((hb24.ext (e28.trans e33)).updN u40 (by omega)) rfl) (pf g31 0 rfl (aQ rfl rfl (bE eG hb39 rfl) (pu (v:= .bool false) rfl (a0 (aH rfl (aN (aE (sr (pf g16 1 rfl (aQ rfl rfl (bE eW ((hb24.ext (e28.trans e33)).updN u40 (by omega)) rfl) (pf g31 1 rfl ?_)))))))))))))
   refine aQ rfl rfl (bE eW hb39 rfl) (cl (vs:= [.slice A15 n15 c15,.slice A30 n30 c30]) hw8 (pV ((((z15.ext e18).updT hb19 u25).ext (e28.trans e33)).updT hb34 u40).zi.wi (z15.le (cC Lx rfl)) ((z30.ext e33).updT hb34 u40).zi.wi (z30.le (cC Ly rfl))) rfl (by kernel_rfl) fun xr44 v42 r44 e43 hw9=>?_)
   obtain rfl:=r44
   refine mv 1 rfl (a0 (aA (sr (pf g16 0 rfl (aQ rfl rfl (bE eG (((hb24.ext (e28.trans e33)).updN u40 (by omega)).ext e43) rfl) (a0 (aM rfl (sr (mv 1 rfl (bA rfl rfl (v:= .int .i64 (IntKind.i64.wrap (0-d6 (Int.natAbs x) (Int.natAbs y)))) (v':= .int .i64 (-d6 (Int.natAbs x) (Int.natAbs y))) (YP (Z5 _ _)) (mv 1 rfl (a0 (aJ ?_)))))))))))))
   refine bJ (aI [.int .i64 (-d6 (Int.natAbs x) (Int.natAbs y))] rfl ⟨rfl,trivial⟩ ?_)
   exact⟨_,rfl,(show bQ .i64 (-d6 (Int.natAbs x) (Int.natAbs y))=_ by rw [TO hxn hyn]),hw9⟩
  · 
   rw [decide_eq_false hyn] at hsy
   subst hsy
   refine a8 (pf g16 0 rfl (aQ rfl rfl (bE eG ((hb24.ext (e28.trans e33)).updN u40 (by omega)) rfl) (pf g31 0 rfl (aQ rfl rfl (bE eG hb39 rfl) (pu (v:= .bool true) rfl (a0 (aM rfl (aA (sr (pf g16 0 rfl (aQ rfl rfl (bE eG ((hb24.ext (e28.trans e33)).updN u40 (by omega)) rfl) (a0 (aM rfl ?_)))))))))))))
   refine sr (mv 1 rfl (a0 (aJ (bJ (bJ (aI [.int .i64 (-1)] rfl ⟨rfl,trivial⟩ ?_))))))
   exact⟨_,rfl,(show bQ .i64 (-1)=_ by rw [TP hxn hyn]),hw8⟩
 · 
  rw [decide_eq_false hxn] at hsx
  subst hsx
  by_cases hyn:y<0
  · 
   rw [decide_eq_true hyn] at hsy
   subst hsy
   refine a8 (pf g16 0 rfl (aQ rfl rfl (bE eG ((hb24.ext (e28.trans e33)).updN u40 (by omega)) rfl) (pf g31 0 rfl (aQ rfl rfl (bE eG hb39 rfl) (pu (v:= .bool true) rfl (a0 (aM rfl (aA (sr (pf g16 0 rfl (aQ rfl rfl (bE eG ((hb24.ext (e28.trans e33)).updN u40 (by omega)) rfl) (a0 (aH rfl ?_)))))))))))))
   refine aN (aE (sr (mv 1 rfl (a0 (aJ (bJ (aI [.int .i64 1] rfl ⟨rfl,trivial⟩ ?_)))))))
   exact⟨_,rfl,(show bQ .i64 (1)=_ by rw [TQ hxn hyn]),hw8⟩
  · 
   rw [decide_eq_false hyn] at hsy
   subst hsy
   refine a8 (pf g16 0 rfl (aQ rfl rfl (bE eG ((hb24.ext (e28.trans e33)).updN u40 (by omega)) rfl) (pf g31 0 rfl (aQ rfl rfl (bE eG hb39 rfl) (pu (v:= .bool false) rfl (a0 (aH rfl (aN (aE (sr (pf g16 1 rfl (aQ rfl rfl (bE eW ((hb24.ext (e28.trans e33)).updN u40 (by omega)) rfl) (pf g31 1 rfl ?_)))))))))))))
   refine aQ rfl rfl (bE eW hb39 rfl) (cl (vs:= [.slice A15 n15 c15,.slice A30 n30 c30]) hw8 (pV ((((z15.ext e18).updT hb19 u25).ext (e28.trans e33)).updT hb34 u40).zi.wi (z15.le (cC Lx rfl)) ((z30.ext e33).updT hb34 u40).zi.wi (z30.le (cC Ly rfl))) rfl (by kernel_rfl) fun xr47 v45 r47 kQ hw9=>?_)
   obtain rfl:=r47
   refine mv 1 rfl (a0 (aA (sr (pf g16 0 rfl (aQ rfl rfl (bE eG (((hb24.ext (e28.trans e33)).updN u40 (by omega)).ext kQ) rfl) (a0 (aH rfl (aN (aE (sr (mv 2 rfl (a0 (aJ ?_)))))))))))))
   refine aI [.int .i64 (d6 (Int.natAbs x) (Int.natAbs y))] rfl ⟨rfl,trivial⟩ ?_
   exact⟨_,rfl,(show bQ .i64 (d6 (Int.natAbs x) (Int.natAbs y))=_ by rw [TS hxn hyn]),hw9⟩
theorem vT {w:a6}(h:Wi w A n c X):Zi w s A n c (sg s X):=by
 obtain⟨xs,h1,rfl⟩:=h
 exact⟨xs,h1,rfl⟩
theorem KX (hk:((pe f:Nat):Int)+ -1074=(k:Int)):cP x (sg (cT f) (pm f*2^k))=cP (x*((2^bN:Nat):Int)) (fv f):=by
 unfold fv
 rw [kK,show pe f=k+bN by have:=iA;omega,bU,←bC,qM (cT f) (pm f*2^k) (2^bN),tZ (dX _)]
theorem KY {w:a6}(hx:Zi w s A n cap x)(hk:((pe f:Nat):Int)+ -1074= -(k:Int)):cP (sg s (x.natAbs*2^k)) (sg (cT f) (pm f))=cP (x*((2^bN:Nat):Int)) (fv f):=by
 unfold fv
 rw [FM hx,kK,qM,show bN=k+pe f by have:=iA;omega,bU,Int.natCast_mul,←Int.mul_assoc,tZ (dX _)]
set_option maxHeartbeats 4000000 in
theorem SW {w:a6}(hx:Zi w s A n cap x)(la:n≤1900000)(hb:f<18446744073709551616)(hf:¬fin f)(hm:f%4503599627370496≠0):
    aL aF 172 #[.agg #[.bool s,.slice A n cap],.int .u64 f] w (Gv w (T2 (Is (.int .i64 0)) (Is (.int .i64 3)))):=by
 have Lx:ln x≤1900000:=aK hx.ln la
 refine bL Tryz.func172 rfl (n:=42) rfl (bq rfl) (args:= [.agg #[.bool s,.slice A n cap],.int .u64 f]) (bB [(0,.agg #[.bool s,.slice A n cap]),(1,.int .u64 f)] ⟨rfl,rfl,trivial⟩ (sr (bx [.bool s,.slice A n cap] (Ext.refl w) rfl rfl rfl fun g1 v2 hb4 ge5 e3 hw1=>(mv 2 rfl (a0 (aA (sr (mv 1 rfl (cl (vs:= [.int .u64 f]) hw1 (SA hb hf hm) rfl (by kernel_rfl) fun xr8 v6 r8 e7 hw2=>?_)))))))))
 obtain rfl:=r8
 refine a0 (aM rfl (sr (mv 2 rfl (a0 (aJ (bJ (aI [I0,.int .i64 3] rfl ⟨rfl,rfl,trivial⟩ ?_)))))))
 exact⟨_,rfl,⟨_,_,rfl,rfl,rfl⟩,hw2⟩
set_option maxHeartbeats 4000000 in
theorem SX {w:a6}(hx:Zi w s A n cap x)(la:n≤1900000)(hb:f<18446744073709551616)(hf:¬fin f)(hm:f%4503599627370496=0)(hs:f<9223372036854775808):
    aL aF 172 #[.agg #[.bool s,.slice A n cap],.int .u64 f] w (Gv w (T2 (Is (.int .i64 (-1))) (Is (.int .i64 0)))):=by
 have Lx:ln x≤1900000:=aK hx.ln la
 refine bL Tryz.func172 rfl (n:=42) rfl (bq rfl) (args:= [.agg #[.bool s,.slice A n cap],.int .u64 f]) (bB [(0,.agg #[.bool s,.slice A n cap]),(1,.int .u64 f)] ⟨rfl,rfl,trivial⟩ (sr (bx [.bool s,.slice A n cap] (Ext.refl w) rfl rfl rfl fun g1 v2 hb4 ge5 e3 hw1=>(mv 2 rfl (a0 (aA (sr (mv 1 rfl (cl (vs:= [.int .u64 f]) hw1 (GS hb hf hm) rfl (by kernel_rfl) fun xr8 v6 r8 e7 hw2=>?_)))))))))
 obtain rfl:=r8
 refine a0 (aH rfl (aN (aE (aA (sr (mv 1 rfl (cl (vs:= [.int .u64 f]) hw2 (uH hb hf) rfl (by kernel_rfl) fun xr11 v9 r11 e10 hw3=>?_)))))))
 obtain rfl:=r11
 refine pu (v:= .bool true) rfl (a0 (aM rfl (aA (sr (mv 1 rfl (aB rfl rfl rfl false (iD (a:=f) (b:=9223372036854775808) rfl rfl) (a0 (aH rfl (aN (aE (sr (mv 2 rfl (aR ?_)))))))))))))
 refine aE (aJ (bJ (aI [.int .i64 (-1),I0] rfl ⟨rfl,rfl,trivial⟩ ?_)))
 exact⟨_,rfl,⟨_,_,rfl,rfl,rfl⟩,hw3⟩
set_option maxHeartbeats 4000000 in
theorem SY {w:a6}(hx:Zi w s A n cap x)(la:n≤1900000)(hb:f<18446744073709551616)(hf:¬fin f)(hm:f%4503599627370496=0)(hs:9223372036854775808≤f):
    aL aF 172 #[.agg #[.bool s,.slice A n cap],.int .u64 f] w (Gv w (T2 (Is (.int .i64 1)) (Is (.int .i64 0)))):=by
 have Lx:ln x≤1900000:=aK hx.ln la
 refine bL Tryz.func172 rfl (n:=42) rfl (bq rfl) (args:= [.agg #[.bool s,.slice A n cap],.int .u64 f]) (bB [(0,.agg #[.bool s,.slice A n cap]),(1,.int .u64 f)] ⟨rfl,rfl,trivial⟩ (sr (bx [.bool s,.slice A n cap] (Ext.refl w) rfl rfl rfl fun g1 v2 hb4 ge5 e3 hw1=>(mv 2 rfl (a0 (aA (sr (mv 1 rfl (cl (vs:= [.int .u64 f]) hw1 (GS hb hf hm) rfl (by kernel_rfl) fun xr8 v6 r8 e7 hw2=>?_)))))))))
 obtain rfl:=r8
 refine a0 (aH rfl (aN (aE (aA (sr (mv 1 rfl (cl (vs:= [.int .u64 f]) hw2 (uH hb hf) rfl (by kernel_rfl) fun xr11 v9 r11 e10 hw3=>?_)))))))
 obtain rfl:=r11
 refine pu (v:= .bool true) rfl (a0 (aM rfl (aA (sr (mv 1 rfl (aB rfl rfl rfl true (eI (a:=f) (b:=9223372036854775808) rfl rfl) (a0 (aM rfl (sr (mv 2 rfl (a0 (aJ (bJ ?_)))))))))))))
 refine bJ (aI [.int .i64 1,I0] rfl ⟨rfl,rfl,trivial⟩ ?_)
 exact⟨_,rfl,⟨_,_,rfl,rfl,rfl⟩,hw3⟩
set_option maxHeartbeats 4000000 in
theorem SZ {w:a6}(hx:Zi w s A n cap x)(la:n≤1900000)(hb:f<18446744073709551616)(hf:fin f):
    aL aF 172 #[.agg #[.bool s,.slice A n cap],.int .u64 f] w (Gv w (T2 (Is (.int .i64 (cP (x*((2^bN:Nat):Int)) (fv f)))) (Is (.int .i64 0)))):=by
 have Lx:ln x≤1900000:=aK hx.ln la
 refine bL Tryz.func172 rfl (n:=42) rfl (bq rfl) (args:= [.agg #[.bool s,.slice A n cap],.int .u64 f]) (bB [(0,.agg #[.bool s,.slice A n cap]),(1,.int .u64 f)] ⟨rfl,rfl,trivial⟩ (sr (bx [.bool s,.slice A n cap] (Ext.refl w) rfl rfl rfl fun g1 v2 hb4 ge5 e3 hw1=>(mv 2 rfl (a0 (aA (sr (mv 1 rfl (cl (vs:= [.int .u64 f]) hw1 (SB hb hf) rfl (by kernel_rfl) fun xr8 v6 r8 e7 hw2=>?_)))))))))
 obtain rfl:=r8
 refine a0 (aH rfl (aN (aE (aA (sr (mv 1 rfl (cl (vs:= [.int .u64 f]) hw2 (uG hb hf) rfl (by kernel_rfl) fun xr11 v9 r11 e10 hw3=>?_)))))))
 obtain rfl:=r11
 refine pu (v:= .bool false) rfl (a0 (aH rfl (aN (aE (sr (mv 1 rfl (cl (vs:= [.int .u64 f]) hw3 (uF hb) rfl (by kernel_rfl) fun xr14 v12 r14 e13 hw4=>?_)))))))
 obtain⟨_,_,rfl,rfl,rfl⟩:=r14
 refine mv 1 rfl (pu (v:= .int .u64 ((pm f:Nat):Int)) rfl (pu (v:= .int .i64 (((pe f:Nat):Int)+ -1074)) rfl (mv 2 rfl (a0 (sr (lo cD (hb4.ext (e7.trans (e10.trans e13))) [.bool s,.slice A n cap] rfl rfl rfl (mH [F0,S0] hw4 (hb4.ext (e7.trans (e10.trans e13))).lt (fun _=>by kernel_rfl) rfl fun g16 v17 hb19 ge20 q21 e18 hw5=>(so cD hb19 [.bool s,.slice A n cap] hw5 ge20 rfl rfl rfl rfl fun v22 hb24 u25 hw6=>(a0 (sr (mv 1 rfl (dN rfl rfl (k:=1) (e:=65) [.int .u64 ((pm f:Nat):Int)] (fun _=>by kernel_rfl) fun g27 v28 nb29=>?_))))))))))))
 have o30:=O1.mk_ (x:=pm f) (b:=w.heap.size) nb29 hw6.size
 have e31:=nb29.ext
 have hw7:=hw6.trans e31
 refine mv 1 rfl (a0 (aA (aA ?_)))
 have hpeb:=pL hf
 by_cases hsp:0≤((pe f:Nat):Int)+ -1074
 · 
  obtain⟨k,hk⟩:∃k:Nat,((pe f:Nat):Int)+ -1074=(k:Int):=⟨(((pe f:Nat):Int)+ -1074).toNat,by omega⟩
  rw [hk]
  refine a8 (mv 1 rfl (aB rfl rfl rfl true (eI (a:=k) (b:=0) rfl rfl) (a0 (aM rfl (a8 (mv 2 rfl ?_))))))
  have hLk:(wd (pm f*2^k)).length≤66:=oI (sH f)
  refine cl (vs:= [.slice (some ⟨g27,0,none⟩) 1 1,.int .i64 k]) hw7 (nY (k:=k) hw7.size (gF o30 (show pm f≤18446744073709551615 by have:=iQ f;omega)) (by decide)) rfl (by kernel_rfl) fun xr36 v34 r36 e35 hw8=>?_
  obtain⟨A37,n37,c37,rfl,j37,o37⟩:=r36
  refine mv 1 rfl (a0 (aA ?_))
  by_cases h63:9223372036854775808≤f
  · 
   have hsg:cT f=true:=lH hb (decide_eq_true h63).symm
   refine a8 (lo cD (hb24.ext (e31.trans e35)) [.bool s,.slice A n cap] rfl rfl rfl (mv 1 rfl (aB rfl rfl rfl true (eI (a:=f) (b:=9223372036854775808) rfl rfl) (mv 1 rfl ?_))))
   have zb38:=vT (s:=true) o37.wi
   refine pu (v:= .agg #[.bool true,.slice A37 n37 c37]) rfl (cl (vs:= [.agg #[.bool s,.slice A n cap],.agg #[.bool true,.slice A37 n37 c37]]) hw8 (xA (hx.ext hw8) (cC la rfl) zb38 (aK (aK (Nat.le_of_eq j37) hLk) (by decide))) rfl (by kernel_rfl) fun xr41 v39 r41 e40 hw9=>?_)
   obtain rfl:=r41
   refine mv 2 rfl (a0 (aJ (aI [.int .i64 (cP x (sg true (pm f*2^k))),I0] rfl ⟨rfl,rfl,trivial⟩ ?_)))
   exact⟨_,rfl,⟨_,_,rfl,(show bQ .i64 (cP x (sg true (pm f*2^k)))=_ by rw [←hsg,KX hk]),rfl⟩,hw9⟩
  · 
   have hsg:cT f=false:=lH hb (decide_eq_false h63).symm
   refine a8 (lo cD (hb24.ext (e31.trans e35)) [.bool s,.slice A n cap] rfl rfl rfl (mv 1 rfl (aB rfl rfl rfl false (iD (a:=f) (b:=9223372036854775808) rfl rfl) (mv 1 rfl ?_))))
   have zb42:=vT (s:=false) o37.wi
   refine pu (v:= .agg #[F0,.slice A37 n37 c37]) rfl (cl (vs:= [.agg #[.bool s,.slice A n cap],.agg #[F0,.slice A37 n37 c37]]) hw8 (xA (hx.ext hw8) (cC la rfl) zb42 (aK (aK (Nat.le_of_eq j37) hLk) (by decide))) rfl (by kernel_rfl) fun xr45 v43 r45 e44 hw9=>?_)
   obtain rfl:=r45
   refine mv 2 rfl (a0 (aJ (aI [.int .i64 (cP x (sg false (pm f*2^k))),I0] rfl ⟨rfl,rfl,trivial⟩ ?_)))
   exact⟨_,rfl,⟨_,_,rfl,(show bQ .i64 (cP x (sg false (pm f*2^k)))=_ by rw [←hsg,KX hk]),rfl⟩,hw9⟩
 · 
  obtain⟨k,hk⟩:∃k:Nat,((pe f:Nat):Int)+ -1074= -(k:Int):=⟨(-(((pe f:Nat):Int)+ -1074)).toNat,by omega⟩
  rw [hk]
  refine a8 (mv 1 rfl (aB rfl rfl rfl false (iT) (a0 (aH rfl (a8 (pf g16 1 rfl (aQ rfl rfl (bE eW (hb24.ext e31) rfl) (mv 1 rfl (bA rfl rfl (v:= .int .i64 (IntKind.i64.wrap (0- -((k:Nat):Int)))) (v':= .int .i64 k) (nH) ?_)))))))))
  have hLx:(wd (Int.natAbs x*2^k)).length≤1900065:=oI Lx
  refine cl (vs:= [.slice A n cap,.int .i64 k]) hw7 (nY (k:=k) hw7.size (hx.ext hw7).wi (cC la rfl)) rfl (by kernel_rfl) fun xr48 v46 r48 e47 hw8=>?_
  obtain⟨A49,n49,c49,rfl,j49,o49⟩:=r48
  refine pf g16 1 rfl ?_
  have hb52:=(hb24.ext (e31.trans e47))
  refine eM rfl rfl rfl (fun _=>by kernel_rfl) rfl hb52 (bq rfl) rfl [.bool s,.slice A49 n49 c49] rfl fun v50 hb51 u53 hs54=>?_
  have hw9:=u53.ext hw8 ge20
  refine a0 (aA ?_)
  by_cases h63:9223372036854775808≤f
  · 
   have hsg:cT f=true:=lH hb (decide_eq_true h63).symm
   refine a8 (lo cD hb51 [.bool s,.slice A49 n49 c49] rfl rfl rfl (mv 1 rfl (aB rfl rfl rfl true (eI (a:=f) (b:=9223372036854775808) rfl rfl) (mv 1 rfl ?_))))
   have zb55:=vT (s:=true) (gF ((o30.ext e47).updT hb52 (by decide) u53) (show pm f≤18446744073709551615 by have:=iQ f;omega))
   refine pu (v:= .agg #[.bool true,.slice (some ⟨g27,0,none⟩) 1 1]) rfl (cl (vs:= [.agg #[.bool s,.slice A49 n49 c49],.agg #[.bool true,.slice (some ⟨g27,0,none⟩) 1 1]]) hw9 (xA (((o49.updT hb52 (by decide) u53)).wi.zi s) (aK (aK (Nat.le_of_eq j49) hLx) (by decide)) zb55 (aK (show 1≤1 by decide) (by decide))) rfl (by kernel_rfl) fun xr58 v56 r58 e57 hw10=>?_)
   obtain rfl:=r58
   refine mv 2 rfl (a0 (aJ (aI [.int .i64 (cP (sg s (Int.natAbs x*2^k)) (sg true (pm f))),I0] rfl ⟨rfl,rfl,trivial⟩ ?_)))
   exact⟨_,rfl,⟨_,_,rfl,(show bQ .i64 (cP (sg s (Int.natAbs x*2^k)) (sg true (pm f)))=_ by rw [←hsg,KY hx hk]),rfl⟩,hw10⟩
  · 
   have hsg:cT f=false:=lH hb (decide_eq_false h63).symm
   refine a8 (lo cD hb51 [.bool s,.slice A49 n49 c49] rfl rfl rfl (mv 1 rfl (aB rfl rfl rfl false (iD (a:=f) (b:=9223372036854775808) rfl rfl) (mv 1 rfl ?_))))
   have zb59:=vT (s:=false) (gF ((o30.ext e47).updT hb52 (by decide) u53) (show pm f≤18446744073709551615 by have:=iQ f;omega))
   refine pu (v:= .agg #[F0,.slice (some ⟨g27,0,none⟩) 1 1]) rfl (cl (vs:= [.agg #[.bool s,.slice A49 n49 c49],.agg #[F0,.slice (some ⟨g27,0,none⟩) 1 1]]) hw9 (xA (((o49.updT hb52 (by decide) u53)).wi.zi s) (aK (aK (Nat.le_of_eq j49) hLx) (by decide)) zb59 (aK (show 1≤1 by decide) (by decide))) rfl (by kernel_rfl) fun xr62 v60 r62 e61 hw10=>?_)
   obtain rfl:=r62
   refine mv 2 rfl (a0 (aJ (aI [.int .i64 (cP (sg s (Int.natAbs x*2^k)) (sg false (pm f))),I0] rfl ⟨rfl,rfl,trivial⟩ ?_)))
   exact⟨_,rfl,⟨_,_,rfl,(show bQ .i64 (cP (sg s (Int.natAbs x*2^k)) (sg false (pm f)))=_ by rw [←hsg,KY hx hk]),rfl⟩,hw10⟩
def aP:Nat→Nat→List Nat
 | 0,_=> []
 | n+1,v=>aP n (v/10)++ [48+v%10]
theorem cV:∀n v,(aP n v).length=n
 | 0,_=>rfl
 | n+1,v=>by simp [aP,cV n]
theorem lN:∀{n v i:Nat},i<n→(aP n v).getD i 0=48+v/10^(n-1-i)%10
 | 0,_,_,h=>absurd h (Nat.not_lt_zero _)
 | n+1,v,i,h=>by
  have hl:=cV n (v/10)
  rw [aP,bD]
  by_cases hi:i<n
  ·rw [List.getElem?_append_left (by omega),←bD,lN hi,Nat.div_div_eq_div_mul,←Nat.pow_succ',show (n-1-i).succ=n+1-1-i by omega]
  ·have e:i=n:=by omega
   subst e
   rw [List.getElem?_append_right (by omega),hl,Nat.sub_self,jZ,Nat.sub_self,Nat.pow_zero,Nat.div_one]
   rfl
theorem kB (h:c∈aP n v):48≤c∧c≤57:=by
 induction n generalizing v with
 | zero=>cases h
 | succ n ih=>
  rw [aP] at h
  rcases nR.1 h with h | h
  ·exact ih h
  ·rw [iW] at h;omega
theorem CF (h:48≤c∧c≤57):dv c=c-48:=by unfold dv;rw [if_pos h]
theorem KK : ∀ {n v : Nat}, v < 10 ^ n → cB 10 ((aP n v).map dv) = v
  | 0, v, h => by rw [Nat.pow_zero] at h; have : v = 0 := by omega
                  subst this; rfl
  | n + 1, v, h => by
    rw [aP, List.map_append, iH, iX, rS, KK (by rw [bS] at h; omega), CF ⟨by omega, by omega⟩]
    omega
theorem BW (h:l.length=r.length)(hg:∀i,i<l.length→l.getD i 0=r.getD i 0):l=r:=by
 refine List.ext_getElem h fun i h1 h2=>?_
 have:=hg i h1
 rw [bD,bD,cK h1,cK h2] at this
 exact this
theorem rA (v k:Nat):v=v/10^(k+1)*10^(k+1)+v/10^k%10*10^k+v%10^k:=by
 have h1:=gS v (10^k)
 have h2:=gS (v/10^k) 10
 rw [Nat.div_div_eq_div_mul,←bS] at h2
 have h3:v/10^(k+1)*10^(k+1)=10^k*(10*(v/10^(k+1))):=by rw [bS];grind
 have h4:10^k*(v/10^k)=10^k*(10*(v/10^(k+1)))+10^k*(v/10^k%10):=by
  rw [←Nat.mul_add,h2]
 have h5:=bR (10^k) (v/10^k%10)
 omega
theorem sR {h l:Nat}(hl:l<10^k)(hc:c<10:=by omega):(h*10^(k+1)+c*10^k+l)/10^j%10=if j=k then c else if k<j then h/10^(j-k-1)%10 else l/10^j%10:=by
 have hp:0<10^k:=eO (by decide)
 have e0:h*10^(k+1)+c*10^k+l=(h*10+c)*10^k+l:=by rw [bS];grind
 have hd:((h*10+c)*10^k+l)/10^k=h*10+c:=by
  rw [bR,mM hp,Nat.div_eq_of_lt hl,dH]
 rw [e0]
 split
 ·rename_i e;subst e
  rw [hd];omega
 ·split
  ·rename_i h1 h2
   obtain⟨d,rfl⟩:∃d,j=k+1+d:=⟨j-k-1,by omega⟩
   rw [show k+1+d-k-1=d by omega,bU,bS,bC,←Nat.div_div_eq_div_mul,hd,←Nat.div_div_eq_div_mul,show (h*10+c)/10=h by omega]
  ·rename_i h1 h2
   obtain⟨d,rfl⟩:∃d,k=j+1+d:=⟨k-j-1,by omega⟩
   have hj:0<10^j:=eO (by decide)
   have e:(h*10+c)*10^(j+1+d)+l=10^j*(10*((h*10+c)*10^d))+l:=by rw [bU,bS];grind
   rw [e,mM hj]
   omega
theorem CI (hk:k<n)(hc:c<10):(aP n v).set (n-1-k) (48+c)=aP n (v/10^(k+1)*10^(k+1)+c*10^k+v%10^k):=by
 refine BW (by rw [List.length_set,cV,cV]) fun i hi=>?_
 rw [List.length_set,cV] at hi
 have hl:v%10^k<10^k:=eL _ (eO (by decide))
 rw [lN hi,sR hl (hc:=hc)]
 by_cases e:n-1-k=i
 ·subst e
  rw [bD,List.getElem?_set_self (by rw [cV];omega),if_pos (by omega)];rfl
 ·rw [bD,List.getElem?_set_ne e,←bD,lN hi,if_neg (by omega)]
  have hv:=rA v k
  have:=sR (h:=v/10^(k+1)) (c:=v/10^k%10) (l:=v%10^k) (k:=k) (j:=n-1-i) hl
  rw [←hv,if_neg (by omega)] at this
  rw [this]
theorem NY (h9:v%10^k=10^k-1)(hc:v/10^k%10=9):v%10^(k+1)=10^(k+1)-1:=by
 have hp:0<10^k:=eO (by decide)
 have h1:=rA v k
 have h2:=gS v (10^(k+1))
 have h3:=bR (10^(k+1)) (v/10^(k+1))
 rw [hc,h9] at h1
 have h4:10^(k+1)=10*10^k:=by rw [bS];omega
 omega
theorem O0 (h9:v%10^k=10^k-1)(hc:v/10^k%10<9)(hu:u=v-(10^k-1)):u/10^(k+1)*10^(k+1)+(v/10^k%10+1)*10^k+u%10^k=v+1∧u/10^k%10=v/10^k%10:=by
 have hp:0<10^k:=eO (by decide)
 have h1:=rA v k
 have eu:u=v/10^(k+1)*10^(k+1)+v/10^k%10*10^k+0:=by omega
 have hd:=fun j=>sR (h:=v/10^(k+1)) (c:=v/10^k%10) (l:=0) (k:=k) (j:=j) hp
 have h5:u/10^k%10=v/10^k%10:=by
  have:=hd k
  rw [←eu,if_pos rfl] at this;exact this
 have h6:u%10^k=0:=by
  rw [eu,dH,bS,←bC,jY,←dY]
  exact Nat.mul_mod_left _ _
 have h7:=rA u k
 rw [h5,h6] at h7
 have h8:(v/10^k%10+1)*10^k=v/10^k%10*10^k+10^k:=lF _ _
 refine⟨by omega,h5⟩
theorem NX (h9:v%10^k=10^k-1)(hc:v/10^k%10=9)(hu:u=v-(10^k-1)):u/10^(k+1)*10^(k+1)+0*10^k+u%10^k=v-(10^(k+1)-1)∧u/10^k%10=9:=by
 have hp:0<10^k:=eO (by decide)
 have h1:=rA v k
 have eu:u=v/10^(k+1)*10^(k+1)+v/10^k%10*10^k+0:=by omega
 have hd:=fun j=>sR (h:=v/10^(k+1)) (c:=v/10^k%10) (l:=0) (k:=k) (j:=j) hp
 have h5:u/10^k%10=v/10^k%10:=by
  have:=hd k
  rw [←eu,if_pos rfl] at this;exact this
 have h6:u%10^k=0:=by
  rw [eu,dH,bS,←bC,jY,←dY]
  exact Nat.mul_mod_left _ _
 have h7:=rA u k
 rw [h5,h6,hc] at h7
 rw [hc] at h1
 have h4:10^(k+1)=10*10^k:=by rw [bS];omega
 refine⟨by omega,by omega⟩
theorem CJ:aP n (v%10^n)=aP n v:=by
 refine BW (by rw [cV,cV]) fun i hi=>?_
 rw [cV] at hi
 rw [lN hi,lN hi]
 have hl:v%10^(n-1-i)<10^(n-1-i):=eL _ (eO (by decide))
 obtain⟨k,e⟩:∃k,k=n-1-i:=⟨_,rfl⟩
 rw [←e]
 obtain⟨d,rfl⟩:∃d,n=k+1+d:=⟨n-k-1,by omega⟩
 have h1:10^(k+1+d)=10^k*(10*10^d):=by rw [bU,bS];grind
 rw [h1,Nat.mod_mul_right_div_self,Nat.mod_mul_right_mod]
theorem tR:∀{n m:Nat},0<m→10^n≤m→m<10^(n+1)→aX 10 m=aP (n+1) m
 | 0,m,h0,h1,h2=>by
  have hm:m<10:=by simpa using h2
  have e:=KO (b:=10) (v:=0) (d:=m) (by decide) hm (by omega)
  rw [Nat.zero_mul,fD] at e
  have e0:db 10 0= []:=rfl
  rw [aX,if_neg (by omega),e,e0]
  show [sgn m]= [48+m%10]
  rw [Nat.mod_eq_of_lt hm,sgn,if_pos hm]
 | n+1,m,h0,h1,h2=>by
  have hp:0<10^n:=eO (by decide)
  have hq1:10^n≤m/10:=by rw [bS] at h1;omega
  have hq2:m/10<10^(n+1):=by rw [bS] at h2;omega
  have ih:=tR (m:=m/10) (by omega) hq1 hq2
  have e:=KO (b:=10) (v:=m/10) (d:=m%10) (by decide) (eL _ (by decide)) (by omega)
  rw [show m/10*10+m%10=m by omega] at e
  rw [aX,if_neg (by omega)] at ih
  rw [aX,if_neg (by omega),e,aP,←ih]
  show ((m%10)::db 10 (m/10)).reverse.map sgn=_
  rw [List.reverse_cons,List.map_append]
  show eB (db 10 (m/10))++ [sgn (m%10)]=_
  rw [sgn,if_pos (eL _ (by decide))]
theorem KH:∀m:Nat,0<m→∃n,10^n≤m∧m<10^(n+1):=by
 intro m
 induction m using Nat.strongRecOn with
 | _ m ih=>
  intro h
  by_cases h1:m<10
  ·exact⟨0,by rw [Nat.pow_zero];exact h,by simpa using h1⟩
  ·obtain⟨n,h2,h3⟩:=ih (m/10) (by omega) (by omega)
   refine⟨n+1,?_,?_⟩
   ·rw [bS];omega
   ·rw [bS];omega
def rn:List Nat→Nat
 | []=>0
 | c::r=>if 48≤c∧c≤57 then rn r+1 else 0
theorem k7:∀l,rn l≤l.length
 | []=>aZ _
 | c::r=>by
  have:=k7 r
  unfold rn
  split <;> simp <;> omega
theorem B5:∀{l:List Nat}{i:Nat},i<rn l→48≤l.getD i 0∧l.getD i 0≤57
 | [],i,h=>absurd h (Nat.not_lt_zero _)
 | c::r,i,h=>by
  unfold rn at h
  split at h
  ·rename_i hc
   cases i with
   | zero=>exact hc
   | succ i=>simpa using B5 (l:=r) (i:=i) (by omega)
  ·exact absurd h (Nat.not_lt_zero _)
theorem GA:∀l:List Nat,¬(48≤l.getD (rn l) 0∧l.getD (rn l) 0≤57)
 | []=>by decide
 | c::r=>by
  have:=GA r
  unfold rn
  split
  ·simpa using this
  ·rename_i h;exact h
theorem s8 (hd:∀i,i<n→48≤l.getD i 0∧l.getD i 0≤57)(hs:¬(48≤l.getD n 0∧l.getD n 0≤57)):rn l=n:=by
 rcases Nat.lt_trichotomy (rn l) n with h | h | h
 ·exact absurd (hd _ h) (GA l)
 ·exact h
 ·exact absurd (B5 h) hs
theorem sN (h:l.length≤i:=by omega):l.getD i 0=0:=by
 rw [bD,List.getElem?_eq_none h];rfl
theorem gV:(l.drop k).getD i 0=l.getD (k+i) 0:=by
 simp only [bD,List.getElem?_drop]
theorem iS (h:i<l.length):l.getD i 0∈l:=by
 rw [bD,cK h];exact List.getElem_mem h
theorem B4 (h:c∈l.take (rn l)):48≤c∧c≤57:=by
 obtain⟨i,hi,rfl⟩:=List.mem_iff_getElem.1 h
 rw [bK] at hi
 have:=B5 (l:=l) (i:=i) (by omega)
 rw [List.getElem_take]
 rw [bD,cK (by omega)] at this
 exact this
def aT (l:List Nat):Bool:=decide (l.getD 0 0=45)
def eP (l:List Nat):List Nat:=if l.getD 0 0=45∨l.getD 0 0=43 then l.drop 1 else l
theorem uB (l:List Nat):(eP l).length≤l.length:=by
 unfold eP;split
 ·rw [cO];omega
 ·exact aZ _
theorem B3 (h:c∈eP l):c∈l:=by
 unfold eP at h;split at h
 ·exact gG h
 ·exact h
def jB (l:List Nat):Option (Bool×List Nat):=
 if l.getD 0 0=101∨l.getD 0 0=69 then
  (if rn (eP (l.drop 1))=0 then none else if (eP (l.drop 1)).drop (rn (eP (l.drop 1)))= [] then some (aT (l.drop 1),(eP (l.drop 1)).take (rn (eP (l.drop 1)))) else none)
 else if l= [] then some (false,[]) else none
def lC (l:List Nat):Option (List Nat×Nat×Bool×List Nat):=
 if l.getD 0 0=46 then
  (if rn (l.drop 1)=0 then none else (jB (l.drop (rn (l.drop 1)+1))).map fun x=>((l.take (rn (l.drop 1)+1)).drop 1,rn (l.drop 1),x.1,x.2))
 else (jB l).map fun x=>([],0,x.1,x.2)
def fK (l:List Nat):Option (List Nat×Nat×Bool×List Nat):=
 if rn (eP l)=0 then none else (lC ((eP l).drop (rn (eP l)))).map fun x=>((eP l).take (rn (eP l))++x.1,x.2.1,x.2.2.1,x.2.2.2)
def Digs (l:List Nat):Prop:=∀c,c∈l→48≤c∧c≤57
theorem Digs.app {a b:List Nat}(ha:Digs a)(hb:Digs b):Digs (a++b):=fun c hc=>(nR.1 hc).elim (ha c) (hb c)
theorem Digs.good (h:Digs l)(h0:l≠ []):lS 10 l:=⟨h0,fun c hc=>by rw [CF (h c hc)];have:=h c hc;omega⟩
theorem KU {x:Bool×List Nat}(h:jB l=some x):Digs x.2∧x.2.length≤l.length:=by
 unfold jB at h
 split at h
 ·split at h
  ·cases h
  ·split at h
   ·rw [fG] at h;subst h
    refine⟨fun c hc=>B4 hc,?_⟩
    have:=uB (l.drop 1)
    rw [cO] at this
    simp only [bK]
    omega
   ·cases h
 ·split at h
  ·rw [fG] at h;subst h;exact⟨fun c hc=>(by cases hc),by simp⟩
  ·cases h
theorem YR {x:List Nat×Nat×Bool×List Nat}(h:lC l=some x):Digs x.1∧x.1.length=x.2.1∧Digs x.2.2.2∧x.1.length+x.2.2.2.length≤l.length:=by
 unfold lC at h
 split at h
 ·split at h
  ·cases h
  ·obtain⟨y,hy,rfl⟩:=Option.map_eq_some_iff.1 h
   obtain⟨h1,h2⟩:=KU hy
   have h3:=k7 (l.drop 1)
   rw [cO] at h3
   rw [cO] at h2
   have e:(l.take (rn (l.drop 1)+1)).drop 1=(l.drop 1).take (rn (l.drop 1)):=by rw [List.drop_take];rfl
   refine⟨fun c hc=>B4 (e▸hc),?_,h1,?_⟩
   ·simp only [cO,bK];omega
   ·simp only [cO,bK];omega
 ·obtain⟨y,hy,rfl⟩:=Option.map_eq_some_iff.1 h
  obtain⟨h1,h2⟩:=KU hy
  exact⟨fun c hc=>(by cases hc),rfl,h1,by simpa using h2⟩
theorem KT {dg:List Nat}(h:fK l=some (dg,bh,dn,pw)):Digs dg∧dg≠ []∧Digs pw∧bh≤l.length∧dg.length≤l.length∧pw.length≤l.length:=by
 unfold fK at h
 split at h
 ·cases h
 ·rename_i h0
  obtain⟨y,hy,e⟩:=Option.map_eq_some_iff.1 h
  obtain⟨h1,h2,h3,h4⟩:=YR hy
  have hr:=uB l
  have hn:=k7 (eP l)
  rw [cO] at h4
  simp only [Prod.mk.injEq] at e
  obtain⟨rfl,rfl,rfl,rfl⟩:=e
  refine⟨Digs.app (fun c hc=>B4 hc) h1,fun e=>?_,h3,by omega,?_,by omega⟩
  ·have:=congrArg List.length e
   simp only [cR,bK,List.length_nil] at this
   omega
  ·simp only [cR,bK];omega
theorem YQ (h:l.getD 0 0≠46):lC l=(jB l).map fun x=>([],0,x.1,x.2):=by unfold lC;rw [if_neg h]
theorem O9:Digs (aX 10 m)∧aX 10 m≠ []:=by
 by_cases h:m=0
 ·subst h;exact⟨by unfold Digs;decide,by decide⟩
 ·obtain⟨n,h1,h2⟩:=KH m (by omega)
  rw [tR (by omega) h1 h2]
  exact⟨fun c hc=>kB hc,fun e=>by have:=congrArg List.length e;rw [cV] at this;simp at this⟩
theorem NU:cB 10 ((aX 10 m).map dv)=m:=NM (by decide) (by decide)
set_option maxHeartbeats 4000000 in
theorem PX {w:a6}{na ca:Nat}(hx:Zi w sa Aa na ca x)(la:na≤4194304)(hS:Signs w):
    aL aF 40 #[.agg #[.bool sa,.slice Aa na ca]] w (Gv w (Is (.string (a7 (qL x))))):=by
 have Lx:ln x≤4194304:=aK hx.ln la
 refine bL Tryz.func40 rfl (n:=13) rfl (bq rfl) (args:= [.agg #[.bool sa,.slice Aa na ca]]) (bB [(0,.agg #[.bool sa,.slice Aa na ca])] ⟨rfl,trivial⟩ (sr (bx [.bool sa,.slice Aa na ca] (Ext.refl w) rfl rfl rfl fun g1 v2 hb4 ge5 e3 hw1=>(mv 1 rfl (a0 (sr (pf g1 1 rfl (aQ rfl rfl (bE eW hb4 rfl) (cl (vs:= [.slice Aa na ca]) hw1 (AV (hS.ext hw1) (hx.ext hw1).wi (by omega)) rfl (by kernel_rfl) fun xr8 v6 r8 e7 hw2=>?_)))))))))
 obtain rfl:=r8
 refine mv 1 rfl (a0 (aA (aA ?_)))
 by_cases hx0:x<0
 · 
  refine a8 (lo cD (hb4.ext e7) [.bool sa,.slice Aa na ca] rfl rfl rfl (cl (vs:= [.agg #[.bool sa,.slice Aa na ca]]) hw2 (nD (hx.ext hw2) (cC la rfl)) rfl (by kernel_rfl) fun xr11 v9 r11 e10 hw3=>?_))
  obtain rfl:=r11
  refine aB rfl rfl rfl true (FN hx0) (a0 (aM rfl (sr (mv 1 rfl (bO rfl rfl rfl (r:= .string (a7 (([45])++(aX 10 (Int.natAbs x))))) rfl (fun w=>cX (a:= [45]) (b:=aX 10 (Int.natAbs x)) (by have:=pB (b:=10) (show (wd (Int.natAbs x)).length≤4194304 from Lx);show 1+_≤_;omega)) (mv 1 rfl (a0 (aJ (bJ (aI [.string (a7 (([45])++(aX 10 (Int.natAbs x))))] rfl ⟨rfl,trivial⟩ ?_))))))))))
  exact⟨_,rfl,(show Value.string _= .string (a7 (qL x)) by rw [qL,if_pos hx0]),hw3⟩
 · 
  refine a8 (lo cD (hb4.ext e7) [.bool sa,.slice Aa na ca] rfl rfl rfl (cl (vs:= [.agg #[.bool sa,.slice Aa na ca]]) hw2 (nD (hx.ext hw2) (cC la rfl)) rfl (by kernel_rfl) fun xr14 v12 r14 e13 hw3=>?_))
  obtain rfl:=r14
  refine aB rfl rfl rfl false (FO (by omega)) (a0 (aH rfl (aN (aE (sr (mv 2 rfl (a0 (aJ (aI [.string (a7 (aX 10 (Int.natAbs x)))] rfl ⟨rfl,trivial⟩ ?_)))))))))
  exact⟨_,rfl,(show Value.string _= .string (a7 (qL x)) by rw [qL,if_neg hx0]),hw3⟩
section
variable {P:bY}{Q:Exit→Act→a6→Prop}{n:Nat}{l:Fr}{w:a6}{ops:Array Oper}{rest:List Oper}{d:Nat}{ty:aO}{pos:String}{af:Array Edge}{gd:Option (Nat×Bool)}
theorem uW {a:cS→aG}{x y:cS}{t:aO}(hx:a x= .string (a7 bs))(hy:a y= .int .i64 (i:Int))(ht:P.underlying t=some .string)(hi:i≤bs.length:=by omega):
  (execOp a ⟨dst,.slice t x (some y) none none,ty,pos,af,gd⟩).run P w= .ok (.value (.string (a7 (bs.drop i)))) w:=by
 have e:(Instr.sliceAt t (a x) ((some y).map a) (Option.map a none) (Option.map a none)).run P w= .ok (.string (a7 (bs.drop i))) w:=by
  show (Instr.sliceAt t (a x) (some (a y)) none none).run P w=_
  rw [hx,hy,wW ht,run_slice_string_l (ht:=ht) (kl:= .i64) (l:=(i:Int)) (h0:=by omega) (h1:=by rw [cI];omega),gM,FC]
 show ((Instr.sliceAt t (a x) ((some y).map a) (Option.map a none) (Option.map a none)>>=fun r=>pure (fT r):Sem Next)).run P w=_
 rw [cG,e];rfl
theorem nU {x y z:cS}{t:aO}(hw:dF ops l gd=some true)(hx:bW l x=some (.string (a7 bs)))(hy:bW l y=some (.int .i64 (i:Int)))(hz:bW l z=some (.int .i64 (j:Int)))(ht:P.underlying t=some .string)(h:wl P ops Q n rest ((d,.string (a7 ((bs.take j).drop i)))::l) w)(hij:i≤j:=by omega)(hj:j≤bs.length:=by omega)(hn:d<n:=by decide):wl P ops Q n (⟨some d,.slice t x (some y) (some z) none,ty,pos,af,gd⟩::rest) l w:=
 fI hw hn (fun a' ha=>by
  have e:(Instr.sliceAt t (a'.eval x) ((some y).map a'.eval) ((some z).map a'.eval) (Option.map a'.eval none)).run P w= .ok (.string (a7 ((bs.take j).drop i))) w:=by
   show (Instr.sliceAt t (a'.eval x) (some (a'.eval y)) (some (a'.eval z)) none).run P w=_
   rw [ha.ev hx,ha.ev hy,ha.ev hz,wW ht,run_slice_string w t (a7 bs) .i64 .i64 (i:Int) (j:Int) ht (by omega) (by omega) (by rw [cI];omega),gM,gM,AL]
  show ((Instr.sliceAt t (a'.eval x) ((some y).map a'.eval) ((some z).map a'.eval) (Option.map a'.eval none)>>=fun r=>pure (fT r):Sem Next)).run P w=_
  rw [cG,e];rfl) h
end
theorem a0e {A B:Int}(ha:A=(a:Int))(hb:B=(b:Int))(h:a+b≤255):fM .add .u8 A B=some ((a+b:Nat):Int):=by
 subst ha hb;simp only [fM,fG];rw [show (a:Int)+(b:Int)=((a+b:Nat):Int) by omega,IntWalk.u8_in _ ⟨by omega,by omega⟩]
theorem EL {x:Nat}(hx:x≤255)(P:bY)(t:aO)(w:a6):(binOp .and t (.int .u8 (x:Int)) (.int .u8 1)).run P w= .ok (.int .u8 ((x%2:Nat):Int)) w:=by
 have h:∀x:Nat,x<256→bits BinOp.and IntKind.u8 ((x:Nat):Int) 1=((x%2:Nat):Int):=by decide+kernel
 have e2:(binOp .and t (.int .u8 (x:Int)) (.int .u8 1)).run P w= .ok (.int .u8 (bits BinOp.and IntKind.u8 (x:Int) 1)) w:=rfl
 rw [e2,h x (by omega)]
theorem yN {w:a6}(h:Bk w g 5 (l.map B8))(hl:l.length=n)(hd:∀x,x∈l→x<b)(hn:n≤1099511627776:=by omega):Rb b w (some ⟨g,0,none⟩) n n l:=
 Own.rb (lb:=0) (Own.mk_ (bZ _) h (aZ _) (by rw [fB];omega) (by rw [List.length_map,hl,cQ]) (by rw [cQ,List.take_of_length_le (by rw [List.length_map,hl];exact aZ _)])) hd
theorem QO {P:bY}{w:a6}(h:Rv w 1 A n c (bs.map B8)):(Conv.bytesToString (.slice A n c)).run P w= .ok (.string (a7 bs)) w:=by
 have hn:n=bs.length:=by have:=h.len;rw [List.length_map] at this;omega
 cases A with
 | none=>
  cases bs with
  | nil=>rw [hn];rfl
  | cons x r=>
   obtain⟨a,ha,_⟩:=h.get 0 (by rw [hn];simp)
   cases ha
 | some a=>
  have hl:=u6 (P:=P) (w:=w) (p:=a) (bs.map B8) 0 #[] (fun j hj=>by
   rw [List.length_map] at hj
   obtain⟨a',ha,hc⟩:=h.get j (by omega)
   cases ha
   rw [fD];exact hc)
  have hr:=run_bytesToString (P:=P) w a n c (bs.map fun x:Nat=>(x:Int)) (by
   rw [List.length_map,←hn] at hl
   unfold loadCells
   rw [hl]
   congr 1
   simp [B8,Function.comp_def])
  rw [hr,BD]
  rw [show ByteArray.empty.data= #[] from rfl,Array.empty_append]
  rfl
theorem vV {Q:Exit→Act→a6→Prop}{l:Fr}{w:a6}{x:cS}(hw:dF ops l gd=some true)(hx:bW l x=some (.slice A k c))(ho:Rv w 1 A k c (bs.map B8))(h:wl aF ops Q n rest ((d,.string (a7 bs))::l) w)(hn:d<n:=by decide):wl aF ops Q n (⟨some d,.convert 183 9 x,ty,pos,af,gd⟩::rest) l w:=by
 refine fI hw hn (fun a' ha=>?_) h
 have e:(convert 183 9 (a'.eval x)).run aF w= .ok (.string (a7 bs)) w:=by
  rw [ha.ev hx]
  have h1:(underlying 183).run aF w= .ok (.slice 5) w:=kV fJ w
  have h2:(underlying 9).run aF w= .ok .string w:=kV Tryz.underlying9 w
  have h3:(underlying 5).run aF w= .ok (.int .u8) w:=kV Tryz.underlying5 w
  unfold convert
  simp only [cG,h1,h2,h3,Result.andThen_ok]
  exact QO ho
 show ((convert 183 9 (a'.eval x)>>=fun r=>pure (fT r):Sem Next)).run aF w=_
 rw [cG,e];rfl
theorem fN:AggT aF 174 5:=⟨fun _=>by kernel_rfl,fun _=>by kernel_rfl⟩
set_option maxHeartbeats 4000000 in
theorem WX {w:a6}(hbs:∀b,b∈bs→b<256)(hlen:bs.length≤1073741824):
    aL aF 252 #[.string (a7 bs)] w (Gv w (Is (.int .i64 ((rn bs:Nat):Int)))):=by
 refine bL Tryz.func252 rfl (n:=23) rfl (bq rfl) (args:= [.string (a7 bs)]) (bB [(0,.string (a7 bs))] ⟨rfl,trivial⟩ (sr (mv 1 rfl (a0 (sr (mv 1 rfl (a0 (aA (bM ?_)))))))))
 refine dS (T:=a6×Nat)
  (fun⟨wr,i⟩=> [(0,.string (a7 bs)),(3,.int .i64 i)])
  (fun⟨wr,i⟩=>wr)
  (fun⟨wr,i⟩=>(Ext w wr)∧(i≤bs.length)∧(∀j,j<i→48≤bs.getD j 0∧bs.getD j 0≤57))
  (fun⟨wr,i⟩=>bs.length-i)
  (⟨w,0⟩:a6×Nat) ⟨(Ext.refl w),(bZ _),(fun j hj=>absurd hj (Nat.not_lt_zero _))⟩ rfl ⟨rfl,rfl,trivial⟩ ?_
 rintro⟨wr,i⟩ ⟨hw1,hi,hd⟩
 refine cM [(0,.string (a7 bs)),(3,.int .i64 i)] wr rfl ⟨rfl,rfl,trivial⟩ (aA (aA ?_))
 by_cases hlt:i<bs.length
 · 
  have hc255:bs.getD i 0<256:=hbs _ (iS hlt)
  by_cases hc1:bs.getD i 0≥48
  · 
   by_cases hc2:bs.getD i 0≤57
   · 
    refine a8 (mv 2 rfl (bA rfl rfl (v:= .int .i64 (((a7 bs).size:Nat):Int)) (v':= .int .i64 ((bs.length:Nat):Int)) (by rw [cI]) (aB rfl rfl rfl true (dV (a:=i) (b:=bs.length) rfl rfl) (mv 3 rfl (dD (bs:=bs) (i:=i) rfl rfl rfl Tryz.underlying9 hbs (aB rfl rfl rfl true (eI (a:=bs.getD i 0) (b:=48) rfl rfl) (pu (v:= .bool true) rfl (mv 3 rfl (dD (bs:=bs) (i:=i) rfl rfl rfl Tryz.underlying9 hbs (aB rfl rfl rfl true (lO (a:=bs.getD i 0) (b:=57) rfl rfl) (pu (v:= .bool true) rfl (a0 (aM rfl ?_)))))))))))))
    refine aN (aE (bM (a8 (mv 1 rfl (aD rfl rfl rfl ((i+1:Nat):Int) (bF (a:=i) (b:=1) rfl rfl) (mv 1 rfl (aR (cE (cU (⟨wr,i+1⟩:a6×Nat) ⟨hw1,(by omega),(fun j hj=>by by_cases e:j=i;(· subst e;exact⟨hc1,hc2⟩);(· exact hd j (by omega)))⟩ (show bs.length-(i+1)<bs.length-i by omega) rfl ⟨rfl,rfl,trivial⟩)))))))))
   · 
    refine a8 (mv 2 rfl (bA rfl rfl (v:= .int .i64 (((a7 bs).size:Nat):Int)) (v':= .int .i64 ((bs.length:Nat):Int)) (by rw [cI]) (aB rfl rfl rfl true (dV (a:=i) (b:=bs.length) rfl rfl) (mv 3 rfl (dD (bs:=bs) (i:=i) rfl rfl rfl Tryz.underlying9 hbs (aB rfl rfl rfl true (eI (a:=bs.getD i 0) (b:=48) rfl rfl) (pu (v:= .bool true) rfl (mv 3 rfl (dD (bs:=bs) (i:=i) rfl rfl rfl Tryz.underlying9 hbs (aB rfl rfl rfl false (lP (a:=bs.getD i 0) (b:=57) rfl rfl) (pu (v:= .bool false) rfl (a0 (aH rfl ?_)))))))))))))
    refine dB (d7 (d9 (dA (aE (sr (mv 2 rfl (a0 (aJ (aI [.int .i64 i] rfl ⟨rfl,trivial⟩ ?_)))))))))
    exact⟨_,rfl,(show bQ .i64 _=_ by rw [s8 hd (fun h=>hc2 h.2)]),hw1⟩
  · 
   refine a8 (mv 2 rfl (bA rfl rfl (v:= .int .i64 (((a7 bs).size:Nat):Int)) (v':= .int .i64 ((bs.length:Nat):Int)) (by rw [cI]) (aB rfl rfl rfl true (dV (a:=i) (b:=bs.length) rfl rfl) (mv 3 rfl (dD (bs:=bs) (i:=i) rfl rfl rfl Tryz.underlying9 hbs (aB rfl rfl rfl false (iD (a:=bs.getD i 0) (b:=48) rfl rfl) (pu (v:= .bool false) rfl (mv 5 rfl (pu (v:= .bool false) rfl (a0 (aH rfl (dB (d7 ?_)))))))))))))
   refine d9 (dA (aE (sr (mv 2 rfl (a0 (aJ (aI [.int .i64 i] rfl ⟨rfl,trivial⟩ ?_)))))))
   exact⟨_,rfl,(show bQ .i64 _=_ by rw [s8 hd (fun h=>hc1 h.1)]),hw1⟩
 · 
  refine a8 (mv 2 rfl (bA rfl rfl (v:= .int .i64 (((a7 bs).size:Nat):Int)) (v':= .int .i64 ((bs.length:Nat):Int)) (by rw [cI]) (aB rfl rfl rfl false (dP (a:=i) (b:=bs.length) rfl rfl) (mv 5 rfl (pu (v:= .bool false) rfl (mv 5 rfl (pu (v:= .bool false) rfl (a0 (aH rfl (dB (d7 (d9 (dA ?_)))))))))))))
  refine aE (sr (mv 2 rfl (a0 (aJ (aI [.int .i64 i] rfl ⟨rfl,trivial⟩ ?_)))))
  exact⟨_,rfl,(show bQ .i64 _=_ by rw [s8 hd (by rw [sN];decide)]),hw1⟩
theorem xW {w:a6}(hbs:∀b,b∈bs→b<256)(hlen:bs.length≤1073741824)(h:n=rn bs):aL aF 252 #[.string (a7 bs)] w (Gv w (Is (.int .i64 n))):=by subst h;exact WX hbs hlen
set_option maxHeartbeats 4000000 in
theorem WW {w:a6}(hbs:∀b,b∈bs→b<256):
    aL aF 251 #[.string (a7 bs)] w (Gv w (T2 (Is (.bool (aT bs))) (Is (.string (a7 (eP bs)))))):=by
 refine bL Tryz.func251 rfl (n:=22) rfl (bq rfl) (args:= [.string (a7 bs)]) (bB [(0,.string (a7 bs))] ⟨rfl,trivial⟩ (sr (mv 2 rfl (a0 (aA (aA ?_))))))
 by_cases h0:bs= []
 · 
  have hl0:bs.length=0:=by rw [h0];rfl
  refine a8 (mv 1 rfl (fP (a:=bs) (b:= []) rfl rfl rfl hbs false (wJ (h0)) (mv 9 rfl (pu (v:= .bool false) rfl (a0 (aH rfl (aN (aE (sr (mv 3 rfl (a0 (aJ (aI [F0,.string (a7 bs)] rfl ⟨rfl,rfl,trivial⟩ ?_)))))))))))))
  exact⟨_,rfl,⟨_,_,rfl,(show Value.bool _=_ by rw [h0];rfl),(show Value.string _=_ by rw [h0];rfl)⟩,(Ext.refl w)⟩
 · 
  have hl0:0<bs.length:=List.length_pos_iff.2 h0
  have hc255:bs.getD 0 0<256:=hbs _ (iS hl0)
  by_cases h45:bs.getD 0 0=45
  · 
   refine a8 (mv 1 rfl (fP (a:=bs) (b:= []) rfl rfl rfl hbs true (nX (h0)) (mv 2 rfl (dD (bs:=bs) (i:=0) rfl rfl rfl Tryz.underlying9 hbs (aB rfl rfl rfl true (cZ (a:=bs.getD 0 0) (b:=45) rfl rfl) (mv 4 rfl (pu (v:= .bool true) rfl (pu (v:= .bool true) rfl (a0 (aM rfl (aA ?_)))))))))))
   refine jA gC 5 [3,4] [Is (.string (a7 bs)),Is (.int .u8 ((bs.getD 0 0:Nat):Int)),Is (.bool true),Is (.string (a7 bs)),Is (.string (a7 (bs.drop 1)))] [[],[0],[1],[],[3]] [[],[0],[0,1],[],[3],[0,1,2],[0,1,2,3,4,5]] rfl
    (bH rfl rfl (aW rfl rfl ?_) (bH rfl rfl (aW rfl rfl ?_) (bH rfl rfl (aW rfl rfl ?_) (l7 rfl rfl (l8 rfl ?_) (l7 rfl rfl (l8 rfl ?_) j0))))) ?_
   · 
    exact fun _ _=>aY (mv 1 rfl (bG rfl (Ext.refl _) rfl))
   · 
    exact fun _ _=>dk rfl rfl (aY (dD (bs:=bs) (i:=0) rfl rfl rfl Tryz.underlying9 hbs (bG rfl (Ext.refl _) rfl)))
   · 
    exact fun _ _=>dk rfl rfl (aY (aB rfl rfl rfl true (cZ (a:=bs.getD 0 0) (b:=45) rfl rfl) (bG rfl (Ext.refl _) rfl)))
   · 
    exact fun _ _=>aY (⟨.string (a7 bs),rfl,rfl,fun _=>by kernel_rfl,rfl⟩)
   · 
    exact fun _ _=>dk rfl rfl (aY (⟨.string (a7 (bs.drop 1)),rfl,rfl,fun _=>uW (bs:=bs) (i:=1) rfl rfl Tryz.underlying9,rfl⟩))
   · 
    intro v26 e27
    have hw1:=(Ext.refl w).trans e27
    refine dk rfl rfl (dk rfl rfl (dk rfl rfl (dk rfl rfl (dk rfl rfl (aY (mv 2 rfl (aR (j8 (aE (aJ (bJ (aI [.bool true,.string (a7 (bs.drop 1))] rfl ⟨rfl,rfl,trivial⟩ ?_))))))))))))
    exact⟨_,rfl,⟨_,_,rfl,(show Value.bool true=_ by unfold aT;rw [decide_eq_true h45]),(show Value.string _=_ by unfold eP;rw [if_pos (cH h45)])⟩,hw1⟩
  · 
   by_cases h43:bs.getD 0 0=43
   · 
    refine a8 (mv 1 rfl (fP (a:=bs) (b:= []) rfl rfl rfl hbs true (nX (h0)) (mv 2 rfl (dD (bs:=bs) (i:=0) rfl rfl rfl Tryz.underlying9 hbs (aB rfl rfl rfl false (d4 (a:=bs.getD 0 0) (b:=45) rfl rfl) (mv 2 rfl (dD (bs:=bs) (i:=0) rfl rfl rfl Tryz.underlying9 hbs (aB rfl rfl rfl true (cZ (a:=bs.getD 0 0) (b:=43) rfl rfl) (pu (v:= .bool true) rfl (pu (v:= .bool true) rfl (a0 (aM rfl (aA ?_)))))))))))))
    refine jA gC 5 [3,4] [Is (.string (a7 bs)),Is (.int .u8 ((bs.getD 0 0:Nat):Int)),Is (.bool false),Is (.string (a7 bs)),Is (.string (a7 (bs.drop 1)))] [[],[0],[1],[],[3]] [[],[0],[0,1],[],[3],[0,1,2],[0,1,2,3,4,5]] rfl
     (bH rfl rfl (aW rfl rfl ?_) (bH rfl rfl (aW rfl rfl ?_) (bH rfl rfl (aW rfl rfl ?_) (l7 rfl rfl (l8 rfl ?_) (l7 rfl rfl (l8 rfl ?_) j0))))) ?_
    · 
     exact fun _ _=>aY (mv 1 rfl (bG rfl (Ext.refl _) rfl))
    · 
     exact fun _ _=>dk rfl rfl (aY (dD (bs:=bs) (i:=0) rfl rfl rfl Tryz.underlying9 hbs (bG rfl (Ext.refl _) rfl)))
    · 
     exact fun _ _=>dk rfl rfl (aY (aB rfl rfl rfl false (d4 (a:=bs.getD 0 0) (b:=45) rfl rfl) (bG rfl (Ext.refl _) rfl)))
    · 
     exact fun _ _=>aY (⟨.string (a7 bs),rfl,rfl,fun _=>by kernel_rfl,rfl⟩)
    · 
     exact fun _ _=>dk rfl rfl (aY (⟨.string (a7 (bs.drop 1)),rfl,rfl,fun _=>uW (bs:=bs) (i:=1) rfl rfl Tryz.underlying9,rfl⟩))
    · 
     intro v78 e79
     have hw1:=(Ext.refl w).trans e79
     refine dk rfl rfl (dk rfl rfl (dk rfl rfl (dk rfl rfl (dk rfl rfl (aY (mv 2 rfl (aR (j8 (aE (aJ (bJ (aI [F0,.string (a7 (bs.drop 1))] rfl ⟨rfl,rfl,trivial⟩ ?_))))))))))))
     exact⟨_,rfl,⟨_,_,rfl,(show Value.bool false=_ by unfold aT;rw [decide_eq_false (by omega)]),(show Value.string _=_ by unfold eP;rw [if_pos (bV h43)])⟩,hw1⟩
   · 
    refine a8 (mv 1 rfl (fP (a:=bs) (b:= []) rfl rfl rfl hbs true (nX (h0)) (mv 2 rfl (dD (bs:=bs) (i:=0) rfl rfl rfl Tryz.underlying9 hbs (aB rfl rfl rfl false (d4 (a:=bs.getD 0 0) (b:=45) rfl rfl) (mv 2 rfl (dD (bs:=bs) (i:=0) rfl rfl rfl Tryz.underlying9 hbs (aB rfl rfl rfl false (d4 (a:=bs.getD 0 0) (b:=43) rfl rfl) (pu (v:= .bool false) rfl (pu (v:= .bool false) rfl (a0 (aH rfl (aN ?_)))))))))))))
    refine aE (sr (mv 3 rfl (a0 (aJ (aI [F0,.string (a7 bs)] rfl ⟨rfl,rfl,trivial⟩ ?_)))))
    exact⟨_,rfl,⟨_,_,rfl,(show Value.bool false=_ by unfold aT;rw [decide_eq_false h45]),(show Value.string _=_ by unfold eP;rw [if_neg (by omega)])⟩,(Ext.refl w)⟩
theorem C8 {w:a6}{t:List Nat}(hbs:∀b,b∈bs→b<256)(h:t=eP bs):aL aF 251 #[.string (a7 bs)] w (Gv w (T2 (Is (.bool (aT bs))) (Is (.string (a7 t))))):=by subst h;exact WW hbs
theorem CS (o:Option (Bool×List Nat))(a:List Nat):(o.map fun x=>(([]:List Nat),(0:Nat),x.1,x.2)).map (fun x=>(a++x.1,x.2.1,x.2.2.1,x.2.2.2))=o.map fun x=>(a,0,x.1,x.2):=by cases o <;> simp
theorem KS (o:Option (Bool×List Nat))(a b:List Nat)(m:Nat):(o.map fun x=>(b,m,x.1,x.2)).map (fun x=>(a++x.1,x.2.1,x.2.2.1,x.2.2.2))=o.map fun x=>(a++b,m,x.1,x.2):=by cases o <;> simp
def CutR (bs:List Nat)(v:aG)(_:a6):Prop:=match fK bs with
 | none=>∃(ng:Bool) (dg:List Nat) (bh:Nat) (dn:Bool) (pw:List Nat),v= .tuple #[.agg #[.bool ng,.string (a7 dg),.int .i64 bh,.bool dn,.string (a7 pw)],.bool false]
 | some x=>v= .tuple #[.agg #[.bool (aT bs),.string (a7 x.1),.int .i64 ((x.2.1:Nat):Int),.bool x.2.2.1,.string (a7 x.2.2.2)],.bool true]
theorem CutR.none_ (ng:Bool)(dg:List Nat)(bh:Nat)(dn:Bool)(pw:List Nat){w:a6}(h:fK bs=none):CutR bs (.tuple #[.agg #[.bool ng,.string (a7 dg),.int .i64 bh,.bool dn,.string (a7 pw)],.bool false]) w:=by unfold CutR;rw [h];exact⟨_,_,_,_,_,rfl⟩
theorem CutR.some_ {x:List Nat×Nat×Bool×List Nat}{v:aG}{w:a6}(h:fK bs=some x)(hv:v= .tuple #[.agg #[.bool (aT bs),.string (a7 x.1),.int .i64 ((x.2.1:Nat):Int),.bool x.2.2.1,.string (a7 x.2.2.2)],.bool true]):CutR bs v w:=by unfold CutR;rw [h];exact hv
set_option maxHeartbeats 4000000 in
theorem K0 {w:a6}(hbs:∀b,b∈bs→b<256)(hlen:bs.length≤1073741824):
    aL aF 211 #[.string (a7 bs)] w (Gv w (CutR bs)):=by
 refine bL Tryz.func211 rfl (n:=85) rfl (bq rfl) (args:= [.string (a7 bs)]) (bB [(0,.string (a7 bs))] ⟨rfl,trivial⟩ (sr (al [F0,.string (a7 []),I0,F0,.string (a7 [])] (Ext.refl w) (fun _=>by kernel_rfl) rfl fun g1 v2 hb4 ge5 e3 hw1=>(mv 1 rfl (a0 (sr (mH [F0,.string (a7 []),I0,F0,.string (a7 [])] hw1 hb4.lt (fun _=>by kernel_rfl) rfl fun g6 v7 hb9 ge10 q11 e8 hw2=>(a0 (aA ?_)))))))))
 obtain⟨s1,hs1⟩:∃s,s=eP bs:=⟨_,rfl⟩
 obtain⟨n1,hn1⟩:∃n,n=rn s1:=⟨_,rfl⟩
 have h1b:∀b,b∈s1→b<256:=fun b hb=>hbs b (B3 (hs1▸hb))
 have h1l:s1.length≤1073741824:=aK (hs1▸uB bs) hlen
 have hn1l:n1≤s1.length:=hn1▸k7 s1
 obtain⟨s2,hs2⟩:∃s,s=s1.drop n1:=⟨_,rfl⟩
 have h2b:∀b,b∈s2→b<256:=fun b hb=>h1b b (gG (hs2▸hb))
 have h2l:s2.length≤1073741824:=by rw [hs2,cO];omega
 have hF:fK bs=if n1=0 then none else (lC s2).map fun x=>(s1.take n1++x.1,x.2.1,x.2.2.1,x.2.2.2):=by unfold fK;rw [←hs1,←hn1,←hs2]
 refine a8 (mv 1 rfl (cl (vs:= [.string (a7 bs)]) hw2 (C8 hbs hs1) rfl (by kernel_rfl) fun xr14 v12 r14 e13 hw3=>?_))
 obtain⟨_,_,rfl,rfl,rfl⟩:=r14
 refine mv 1 rfl (pu (v:= .bool (aT bs)) rfl (pu (v:= .string (a7 s1)) rfl (pf g6 0 rfl ?_)))
 have hb17:=(hb9.ext e13)
 refine eM rfl rfl rfl (fun _=>by kernel_rfl) rfl hb17 (bq rfl) rfl [.bool (aT bs),.string (a7 ([])),I0,F0,.string (a7 ([]))] rfl fun v16 hb18 u19 hs20=>?_
 have hw4:=u19.ext hw3 ge10
 refine mv 1 rfl (a0 (sr (mv 1 rfl (cl (vs:= [.string (a7 s1)]) hw4 (xW h1b (by first | assumption | (rw [cO];omega)) hn1) rfl (by kernel_rfl) fun xr23 v21 r23 e22 hw5=>?_))))
 obtain rfl:=r23
 refine mv 1 rfl (a0 (aA (aA ?_)))
 by_cases hn0:n1=0
 · 
  refine a8 (mv 1 rfl (aB rfl rfl rfl true (cZ (a:=n1) (b:=0) rfl rfl) (a0 (aM rfl (sr (lo fN (hb18.ext e22) [.bool (aT bs),.string (a7 ([])),I0,F0,.string (a7 ([]))] rfl rfl rfl ?_))))))
  have hb25:=(((hb4.ext (e8.trans e13)).updN u19 (by omega)).ext e22)
  refine so fN hb25 [.bool (aT bs),.string (a7 ([])),I0,F0,.string (a7 ([]))] hw5 ge5 rfl rfl rfl rfl fun v24 hb26 u27 hw6=>(mv 1 rfl (a0 (aJ (bJ (aI [.agg #[.bool (aT bs),.string (a7 ([])),I0,F0,.string (a7 ([]))],F0] rfl ⟨⟨_,rfl,fU fN hb26 [.bool (aT bs),.string (a7 ([])),I0,F0,.string (a7 ([]))] rfl (bq rfl) rfl⟩,rfl,trivial⟩ ?_)))))
  exact⟨_,rfl,CutR.none_ (aT bs) ([]) 0 false ([]) (by rw [hF,if_pos hn0]),hw6⟩
 · 
  refine a8 (mv 1 rfl (aB rfl rfl rfl false (d4 (a:=n1) (b:=0) rfl rfl) (a0 (aH rfl (aN (aE (aA ?_)))))))
  refine jA gC 7 [3,4,5] [Is (.string (a7 s1)),Is (.int .i64 n1),Is (.string (a7 (s1.take n1))),Is (.string (a7 s1)),Is (.int .i64 n1),Is (.string (a7 (s1.drop n1))),Is (.pointer (some ⟨g6,1,none⟩))] [[],[],[0,1],[],[],[3,4],[]] [[],[],[0,1],[],[],[3,4],[0,1,2],[0,1,2,6],[0,1,2,3,4,5,6,7]] rfl
   (bH rfl rfl (aW rfl rfl ?_) (bH rfl rfl (aW rfl rfl ?_) (bH rfl rfl (aW rfl rfl ?_) (l7 rfl rfl (l8 rfl ?_) (l7 rfl rfl (l8 rfl ?_) (l7 rfl rfl (l8 rfl ?_) (bH rfl rfl (aW rfl rfl ?_) j0))))))) ?_
  · 
   exact fun _ _=>aY (mv 1 rfl (bG rfl (Ext.refl _) rfl))
  · 
   exact fun _ _=>aY (mv 1 rfl (bG rfl (Ext.refl _) rfl))
  · 
   exact fun _ _=>dk rfl rfl (dk rfl rfl (aY (kY (bs:=s1) (i:=n1) rfl rfl rfl Tryz.underlying9 (bG rfl (Ext.refl _) rfl))))
  · 
   exact fun _ _=>aY (⟨.string (a7 s1),rfl,rfl,fun _=>by kernel_rfl,rfl⟩)
  · 
   exact fun _ _=>aY (⟨.int .i64 n1,rfl,rfl,fun _=>by kernel_rfl,rfl⟩)
  · 
   exact fun _ _=>dk rfl rfl (dk rfl rfl (aY (⟨.string (a7 (s1.drop n1)),rfl,rfl,fun _=>uW (bs:=s1) (i:=n1) rfl rfl Tryz.underlying9,rfl⟩)))
  · 
   exact fun _ _=>aY (pf g6 1 rfl (bG rfl (Ext.refl _) rfl))
  · 
   intro v63 e64
   have hw6:=hw5.trans e64
   refine dk rfl rfl (dk rfl rfl (dk rfl rfl (dk rfl rfl (dk rfl rfl (dk rfl rfl (dk rfl rfl (aY ?_)))))))
   have hb101:=(hb18.ext (e22.trans e64))
   refine eM rfl rfl rfl (fun _=>by kernel_rfl) rfl hb101 (bq rfl) rfl [.bool (aT bs),.string (a7 (s1.take n1)),I0,F0,.string (a7 ([]))] rfl fun v100 hb102 u103 hs104=>?_
   have hw7:=u103.ext hw6 ge10
   refine mv 1 rfl (aR (j8 (aE (gR (T:=a6×List Nat×List Nat×Nat) (fun⟨wr,s3,dg,bh⟩=> [(0,.string (a7 s3)),(2,.pointer (some ⟨g1,0,none⟩)),(4,.pointer (some ⟨g6,0,none⟩))]) (fun⟨wr,s3,dg,bh⟩=>wr) (fun⟨wr,s3,dg,bh⟩=>(Ext w wr)∧(Bk wr g1 174 [F0,.string (a7 ([])),I0,F0,.string (a7 ([]))])∧(Bk wr g6 174 [.bool (aT bs),.string (a7 dg),.int .i64 bh,F0,.string (a7 ([]))])∧(∀b,b∈s3→b<256)∧(s3.length≤1073741824)∧(fK bs=(jB s3).map fun x=>(dg,bh,x.1,x.2))) ?_ ?_))))
   · 
    refine aA (bB [(0,.string (a7 (s1.drop n1))),(2,.pointer (some ⟨g1,0,none⟩)),(3,.bool false),(4,.pointer (some ⟨g6,0,none⟩)),(7,.string (a7 bs)),(8,.tuple #[.bool (aT bs),.string (a7 s1)]),(6,.tuple #[.bool (aT bs),.string (a7 s1)]),(9,.bool (aT bs)),(10,.string (a7 s1)),(11,.pointer (some ⟨g6,0,none⟩)),(12,.string (a7 s1)),(13,.int .i64 n1),(5,.int .i64 n1),(14,.int .i64 n1),(15,.bool false),(17,.string (a7 s1)),(18,.int .i64 n1),(19,.string (a7 (s1.take n1))),(20,.string (a7 s1)),(21,.int .i64 n1),(22,.string (a7 (s1.drop n1))),(23,.pointer (some ⟨g6,1,none⟩))] ⟨rfl,rfl,rfl,rfl,rfl,rfl,rfl,rfl,rfl,rfl,rfl,rfl,rfl,rfl,rfl,rfl,rfl,rfl,rfl,rfl,rfl,rfl,trivial⟩ ?_)
    rw [←hs2]
    have hD:lC s2=if s2.getD 0 0=46 then (if rn (s2.drop 1)=0 then none else (jB (s2.drop (rn (s2.drop 1)+1))).map fun x=>((s2.take (rn (s2.drop 1)+1)).drop 1,rn (s2.drop 1),x.1,x.2)) else (jB s2).map fun x=>([],0,x.1,x.2):=rfl
    by_cases h20:s2= []
    · 
     have hl2:s2.length=0:=by rw [h20];rfl
     have hnd:¬s2.getD 0 0=46:=by rw [h20];decide
     refine a8 (mv 1 rfl (fP (a:=s2) (b:= []) rfl rfl rfl h2b false (wJ (h20)) (mv 4 rfl (pu (v:= .bool false) rfl (a0 (aH rfl (aN (d5 (⟨v100,s2,s1.take n1,0⟩:a6×List Nat×List Nat×Nat) ⟨hw7,((((hb4.ext (e8.trans e13)).updN u19 (by omega)).ext (e22.trans e64)).updN u103 (by omega)),hb102,h2b,h2l,(by rw [hF,if_neg hn0,hD,if_neg hnd];exact CS _ _)⟩ rfl ⟨rfl,rfl,rfl,trivial⟩))))))))
    · 
     have hl2:0<s2.length:=List.length_pos_iff.2 h20
     have hc2:s2.getD 0 0<256:=h2b _ (iS hl2)
     by_cases hnd:s2.getD 0 0=46
     · 
      obtain⟨m,hm⟩:∃m,m=rn (s2.drop 1):=⟨_,rfl⟩
      rw [←hm] at hD
      have hml:m+1≤s2.length:=by have h:=k7 (s2.drop 1);rw [←hm,cO] at h;omega
      refine a8 (mv 1 rfl (fP (a:=s2) (b:= []) rfl rfl rfl h2b true (nX (h20)) (mv 2 rfl (dD (bs:=s2) (i:=0) rfl rfl rfl Tryz.underlying9 h2b (aB rfl rfl rfl true (cZ (a:=s2.getD 0 0) (b:=46) rfl rfl) (pu (v:= .bool true) rfl (a0 (aM rfl (sr (mv 1 rfl (lW (bs:=s2) (i:=1) rfl rfl rfl Tryz.underlying9 (cl (vs:= [.string (a7 (s2.drop 1))]) hw7 (xW (fun b hb=>h2b b (gG hb)) (by first | assumption | (rw [cO];omega)) hm) rfl (by kernel_rfl) fun xr107 v105 r107 e106 hw8=>?_))))))))))))
      obtain rfl:=r107
      refine mv 1 rfl (a0 (aA (aA ?_)))
      by_cases hm0:m=0
      · 
       refine a8 (mv 1 rfl (aB rfl rfl rfl true (cZ (a:=m) (b:=0) rfl rfl) (a0 (aM rfl (sr (lo fN (hb102.ext e106) [.bool (aT bs),.string (a7 (s1.take n1)),I0,F0,.string (a7 ([]))] rfl rfl rfl ?_))))))
       have hb109:=(((((hb4.ext (e8.trans e13)).updN u19 (by omega)).ext (e22.trans e64)).updN u103 (by omega)).ext e106)
       refine so fN hb109 [.bool (aT bs),.string (a7 (s1.take n1)),I0,F0,.string (a7 ([]))] hw8 ge5 rfl rfl rfl rfl fun v108 hb110 u111 hw9=>(mv 1 rfl (a0 (aJ (bJ (K6 (aI [.agg #[.bool (aT bs),.string (a7 (s1.take n1)),I0,F0,.string (a7 ([]))],F0] rfl ⟨⟨_,rfl,fU fN hb110 [.bool (aT bs),.string (a7 (s1.take n1)),I0,F0,.string (a7 ([]))] rfl (bq rfl) rfl⟩,rfl,trivial⟩ ?_))))))
       exact⟨_,rfl,CutR.none_ (aT bs) (s1.take n1) 0 false ([]) (by rw [hF,if_neg hn0,hD,if_pos hnd,if_pos hm0];rfl),hw9⟩
      · 
       refine a8 (mv 1 rfl (aB rfl rfl rfl false (d4 (a:=m) (b:=0) rfl rfl) (a0 (aH rfl (aN (aE (aA ?_)))))))
       refine jA gC 8 [] [Is (.pointer (some ⟨g6,1,none⟩)),Is (.string (a7 (s1.take n1))),Is (.string (a7 s2)),Is (.int .i64 m),Is (.int .i64 ((m+1:Nat):Int)),Is (.string (a7 ((s2.take (m+1)).drop 1))),Is (.string (a7 ((s1.take n1)++((s2.take (m+1)).drop 1)))),Is (.pointer (some ⟨g6,1,none⟩))] [[],[0],[],[],[3],[2,4],[1,5],[]] [[],[0],[],[],[3],[2,3,4],[0,1,2,3,4,5],[0,1,2,3,4,5,6],[0,1,2,3,4,5,6,7]] rfl
        (bH rfl rfl (aW rfl rfl ?_) (bH rfl rfl (aW rfl rfl ?_) (bH rfl rfl (aW rfl rfl ?_) (bH rfl rfl (aW rfl rfl ?_) (bH rfl rfl (aW rfl rfl ?_) (bH rfl rfl (aW rfl rfl ?_) (bH rfl rfl (aW rfl rfl ?_) (bH rfl rfl (aW rfl rfl ?_) j0)))))))) ?_
       · 
        exact fun _ _=>aY (pf g6 1 rfl (bG rfl (Ext.refl _) rfl))
       · 
        exact fun _ e116=>dk rfl rfl (aY (aQ rfl rfl (bE (fun _=>by kernel_rfl) (hb102.ext (e106.trans e116)) rfl) (bG rfl (Ext.refl _) rfl)))
       · 
        exact fun _ _=>aY (mv 1 rfl (bG rfl (Ext.refl _) rfl))
       · 
        exact fun _ _=>aY (mv 1 rfl (bG rfl (Ext.refl _) rfl))
       · 
        exact fun _ _=>dk rfl rfl (aY (aD rfl rfl rfl ((m+1:Nat):Int) (bF (a:=m) (b:=1) rfl rfl) (bG rfl (Ext.refl _) rfl)))
       · 
        exact fun _ _=>dk rfl rfl (dk rfl rfl (aY (nU (bs:=s2) (i:=1) (j:=m+1) rfl rfl rfl rfl Tryz.underlying9 (bG rfl (Ext.refl _) rfl))))
       · 
        exact fun _ _=>dk rfl rfl (dk rfl rfl (aY (bO rfl rfl rfl (r:= .string (a7 ((s1.take n1)++((s2.take (m+1)).drop 1)))) rfl (fun w=>cX (a:=s1.take n1) (b:=(s2.take (m+1)).drop 1) (by simp only [bK,cO];omega)) (bG rfl (Ext.refl _) rfl))))
       · 
        exact fun _ _=>aY (pf g6 1 rfl (bG rfl (Ext.refl _) rfl))
       · 
        intro v159 e160
        have hw9:=hw8.trans e160
        refine dk rfl rfl (dk rfl rfl (dk rfl rfl (dk rfl rfl (dk rfl rfl (dk rfl rfl (dk rfl rfl (dk rfl rfl (aY ?_))))))))
        have hb202:=(hb102.ext (e106.trans e160))
        refine eM rfl rfl rfl (fun _=>by kernel_rfl) rfl hb202 (bq rfl) rfl [.bool (aT bs),.string (a7 ((s1.take n1)++((s2.take (m+1)).drop 1))),I0,F0,.string (a7 ([]))] rfl fun v201 hb203 u204 hs205=>?_
        have hw10:=u204.ext hw9 ge10
        refine aR (j8 (aE (sr (mv 1 rfl (pf g6 2 rfl (eM rfl rfl rfl (fun _=>by kernel_rfl) rfl hb203 (bq rfl) rfl [.bool (aT bs),.string (a7 ((s1.take n1)++((s2.take (m+1)).drop 1))),.int .i64 m,F0,.string (a7 ([]))] rfl fun v206 hb208 u209 hs210=>?_))))))
        have hw11:=u209.ext hw10 ge10
        refine a0 (a8 (mv 2 rfl (aD rfl rfl rfl ((m+1:Nat):Int) (bF (a:=m) (b:=1) rfl rfl) (lW (bs:=s2) (i:=m+1) rfl rfl rfl Tryz.underlying9 (mv 1 rfl (aR (d5 (⟨v206,s2.drop (m+1),s1.take n1++(s2.take (m+1)).drop 1,m⟩:a6×List Nat×List Nat×Nat) ⟨hw11,(((((((hb4.ext (e8.trans e13)).updN u19 (by omega)).ext (e22.trans e64)).updN u103 (by omega)).ext (e106.trans e160)).updN u204 (by omega)).updN u209 (by omega)),hb208,(fun b hb=>h2b b (gG hb)),(by rw [cO];omega),(by rw [hF,if_neg hn0,hD,if_pos hnd,if_neg hm0];exact KS _ _ _ _)⟩ rfl ⟨rfl,rfl,rfl,trivial⟩)))))))
     · 
      refine a8 (mv 1 rfl (fP (a:=s2) (b:= []) rfl rfl rfl h2b true (nX (h20)) (mv 2 rfl (dD (bs:=s2) (i:=0) rfl rfl rfl Tryz.underlying9 h2b (aB rfl rfl rfl false (d4 (a:=s2.getD 0 0) (b:=46) rfl rfl) (pu (v:= .bool false) rfl (a0 (aH rfl (aN (d5 (⟨v100,s2,s1.take n1,0⟩:a6×List Nat×List Nat×Nat) ⟨hw7,((((hb4.ext (e8.trans e13)).updN u19 (by omega)).ext (e22.trans e64)).updN u103 (by omega)),hb102,h2b,h2l,(by rw [hF,if_neg hn0,hD,if_neg hnd];exact CS _ _)⟩ rfl ⟨rfl,rfl,rfl,trivial⟩))))))))))
   · 
    rintro⟨wr,s3,dg,bh⟩ ⟨hw1,hb2,hb4,h3b,h3l,hC⟩
    refine cM [(0,.string (a7 s3)),(2,.pointer (some ⟨g1,0,none⟩)),(4,.pointer (some ⟨g6,0,none⟩))] wr rfl ⟨rfl,rfl,rfl,trivial⟩ (aA (aA ?_))
    have hE:jB s3=if s3.getD 0 0=101∨s3.getD 0 0=69 then (if rn (eP (s3.drop 1))=0 then none else if (eP (s3.drop 1)).drop (rn (eP (s3.drop 1)))= [] then some (aT (s3.drop 1),(eP (s3.drop 1)).take (rn (eP (s3.drop 1)))) else none) else if s3= [] then some (false,[]) else none:=rfl
    by_cases h30:s3= []
    · 
     have hl3:s3.length=0:=by rw [h30];rfl
     have hne:¬(s3.getD 0 0=101∨s3.getD 0 0=69):=by rw [h30];decide
     refine a8 (mv 1 rfl (fP (a:=s3) (b:= []) rfl rfl rfl h3b false (wJ (h30)) (mv 9 rfl (pu (v:= .bool false) rfl (a0 (aH rfl (aN (aE (sr (lo fN hb4 [.bool (aT bs),.string (a7 dg),.int .i64 bh,F0,.string (a7 ([]))] rfl rfl rfl (mv 1 rfl (fP (a:=s3) (b:= []) rfl rfl rfl h3b true (mY (h30)) (so fN hb2 [.bool (aT bs),.string (a7 dg),.int .i64 bh,F0,.string (a7 ([]))] hw1 ge5 rfl rfl rfl rfl fun v211 hb213 u214 hw2=>?_)))))))))))))
     refine mv 1 rfl (a0 (aJ (aI [.agg #[.bool (aT bs),.string (a7 dg),.int .i64 bh,F0,.string (a7 ([]))],.bool true] rfl ⟨⟨_,rfl,fU fN hb213 [.bool (aT bs),.string (a7 dg),.int .i64 bh,F0,.string (a7 ([]))] rfl (bq rfl) rfl⟩,rfl,trivial⟩ ?_)))
     exact⟨_,rfl,CutR.some_ (by rw [hC,hE,if_neg hne,if_pos h30];rfl) rfl,hw2⟩
    · 
     have hl3:0<s3.length:=List.length_pos_iff.2 h30
     have hc3:s3.getD 0 0<256:=h3b _ (iS hl3)
     by_cases h101:s3.getD 0 0=101
     · 
      obtain⟨tt,htt⟩:∃t,t=eP (s3.drop 1):=⟨_,rfl⟩
      obtain⟨k,hk⟩:∃k,k=rn tt:=⟨_,rfl⟩
      have htb:∀b,b∈tt→b<256:=fun b hb=>h3b b (gG (B3 (htt▸hb)))
      have htl:tt.length≤1073741824:=by have h:=uB (s3.drop 1);rw [←htt,cO] at h;omega
      have hkl:k≤tt.length:=hk▸k7 tt
      rw [←htt,←hk] at hE
      refine a8 (mv 1 rfl (fP (a:=s3) (b:= []) rfl rfl rfl h3b true (nX (h30)) (mv 2 rfl (dD (bs:=s3) (i:=0) rfl rfl rfl Tryz.underlying9 h3b (aB rfl rfl rfl true (cZ (a:=s3.getD 0 0) (b:=101) rfl rfl) (mv 4 rfl (pu (v:= .bool true) rfl (pu (v:= .bool true) rfl (a0 (aM rfl (sr (mv 1 rfl (lW (bs:=s3) (i:=1) rfl rfl rfl Tryz.underlying9 ?_)))))))))))))
      refine cl (vs:= [.string (a7 (s3.drop 1))]) hw1 (C8 (fun b hb=>h3b b (gG hb)) htt) rfl (by kernel_rfl) fun xr218 v216 r218 e217 hw2=>?_
      obtain⟨_,_,rfl,rfl,rfl⟩:=r218
      refine mv 1 rfl (pu (v:= .bool (aT (s3.drop 1))) rfl (pu (v:= .string (a7 tt)) rfl (pf g6 3 rfl ?_)))
      have hb221:=(hb4.ext e217)
      refine eM rfl rfl rfl (fun _=>by kernel_rfl) rfl hb221 (bq rfl) rfl [.bool (aT bs),.string (a7 dg),.int .i64 bh,.bool (aT (s3.drop 1)),.string (a7 ([]))] rfl fun v220 hb222 u223 hs224=>?_
      have hw3:=u223.ext hw2 ge10
      refine mv 1 rfl (a0 (sr (mv 1 rfl (cl (vs:= [.string (a7 tt)]) hw3 (xW htb (by first | assumption | (rw [cO];omega)) hk) rfl (by kernel_rfl) fun xr227 v225 r227 e226 hw4=>?_))))
      obtain rfl:=r227
      refine mv 1 rfl (a0 (aA (aA ?_)))
      by_cases hk0:k=0
      · 
       refine a8 (mv 1 rfl (aB rfl rfl rfl true (cZ (a:=k) (b:=0) rfl rfl) (a0 (aM rfl (sr (lo fN (hb222.ext e226) [.bool (aT bs),.string (a7 dg),.int .i64 bh,.bool (aT (s3.drop 1)),.string (a7 ([]))] rfl rfl rfl ?_))))))
       have hb229:=(((hb2.ext e217).updN u223 (by omega)).ext e226)
       refine so fN hb229 [.bool (aT bs),.string (a7 dg),.int .i64 bh,.bool (aT (s3.drop 1)),.string (a7 ([]))] hw4 ge5 rfl rfl rfl rfl fun v228 hb230 u231 hw5=>(mv 1 rfl (a0 (aJ (bJ (bJ (aI [.agg #[.bool (aT bs),.string (a7 dg),.int .i64 bh,.bool (aT (s3.drop 1)),.string (a7 ([]))],F0] rfl ⟨⟨_,rfl,fU fN hb230 [.bool (aT bs),.string (a7 dg),.int .i64 bh,.bool (aT (s3.drop 1)),.string (a7 ([]))] rfl (bq rfl) rfl⟩,rfl,trivial⟩ ?_))))))
       exact⟨_,rfl,CutR.none_ (aT bs) dg bh (aT (s3.drop 1)) ([]) (by rw [hC,hE,if_pos (cH h101),if_pos hk0];rfl),hw5⟩
      · 
       refine a8 (mv 1 rfl (aB rfl rfl rfl false (d4 (a:=k) (b:=0) rfl rfl) (a0 (aH rfl (aN (aE ?_))))))
       refine jA gC 7 [3,4,5] [Is (.string (a7 tt)),Is (.int .i64 k),Is (.string (a7 (tt.take k))),Is (.string (a7 tt)),Is (.int .i64 k),Is (.string (a7 (tt.drop k))),Is (.pointer (some ⟨g6,4,none⟩))] [[],[],[0,1],[],[],[3,4],[]] [[],[],[0,1],[],[],[3,4],[0,1,2],[0,1,2,6],[0,1,2,3,4,5,6,7]] rfl
        (bH rfl rfl (aW rfl rfl ?_) (bH rfl rfl (aW rfl rfl ?_) (bH rfl rfl (aW rfl rfl ?_) (l7 rfl rfl (l8 rfl ?_) (l7 rfl rfl (l8 rfl ?_) (l7 rfl rfl (l8 rfl ?_) (bH rfl rfl (aW rfl rfl ?_) j0))))))) ?_
       · 
        exact fun _ _=>aY (mv 1 rfl (bG rfl (Ext.refl _) rfl))
       · 
        exact fun _ _=>aY (mv 1 rfl (bG rfl (Ext.refl _) rfl))
       · 
        exact fun _ _=>dk rfl rfl (dk rfl rfl (aY (kY (bs:=tt) (i:=k) rfl rfl rfl Tryz.underlying9 (bG rfl (Ext.refl _) rfl))))
       · 
        exact fun _ _=>aY (⟨.string (a7 tt),rfl,rfl,fun _=>by kernel_rfl,rfl⟩)
       · 
        exact fun _ _=>aY (⟨.int .i64 k,rfl,rfl,fun _=>by kernel_rfl,rfl⟩)
       · 
        exact fun _ _=>dk rfl rfl (dk rfl rfl (aY (⟨.string (a7 (tt.drop k)),rfl,rfl,fun _=>uW (bs:=tt) (i:=k) rfl rfl Tryz.underlying9,rfl⟩)))
       · 
        exact fun _ _=>aY (pf g6 4 rfl (bG rfl (Ext.refl _) rfl))
       · 
        intro v267 e268
        have hw5:=hw4.trans e268
        refine dk rfl rfl (dk rfl rfl (dk rfl rfl (dk rfl rfl (dk rfl rfl (dk rfl rfl (dk rfl rfl (aY ?_)))))))
        have hb305:=(hb222.ext (e226.trans e268))
        refine eM rfl rfl rfl (fun _=>by kernel_rfl) rfl hb305 (bq rfl) rfl [.bool (aT bs),.string (a7 dg),.int .i64 bh,.bool (aT (s3.drop 1)),.string (a7 (tt.take k))] rfl fun v304 hb306 u307 hs308=>?_
        have hw6:=u307.ext hw5 ge10
        refine mv 1 rfl (aR (j8 (aE (aA ?_))))
        by_cases hend:tt.drop k= []
        · 
         refine a8 (lo fN hb306 [.bool (aT bs),.string (a7 dg),.int .i64 bh,.bool (aT (s3.drop 1)),.string (a7 (tt.take k))] rfl rfl rfl (mv 1 rfl (fP (a:=tt.drop k) (b:= []) rfl rfl rfl (fun b hb=>htb b (gG hb)) true (mY (hend)) ?_)))
         have hb310:=((((hb2.ext e217).updN u223 (by omega)).ext (e226.trans e268)).updN u307 (by omega))
         refine so fN hb310 [.bool (aT bs),.string (a7 dg),.int .i64 bh,.bool (aT (s3.drop 1)),.string (a7 (tt.take k))] hw6 ge5 rfl rfl rfl rfl fun v309 hb311 u312 hw7=>(mv 1 rfl (a0 (aJ (aI [.agg #[.bool (aT bs),.string (a7 dg),.int .i64 bh,.bool (aT (s3.drop 1)),.string (a7 (tt.take k))],.bool true] rfl ⟨⟨_,rfl,fU fN hb311 [.bool (aT bs),.string (a7 dg),.int .i64 bh,.bool (aT (s3.drop 1)),.string (a7 (tt.take k))] rfl (bq rfl) rfl⟩,rfl,trivial⟩ ?_))))
         exact⟨_,rfl,CutR.some_ (by rw [hC,hE,if_pos (cH h101),if_neg hk0,if_pos hend];rfl) rfl,hw7⟩
        · 
         refine a8 (lo fN hb306 [.bool (aT bs),.string (a7 dg),.int .i64 bh,.bool (aT (s3.drop 1)),.string (a7 (tt.take k))] rfl rfl rfl (mv 1 rfl (fP (a:=tt.drop k) (b:= []) rfl rfl rfl (fun b hb=>htb b (gG hb)) false (pC (hend)) ?_)))
         have hb315:=((((hb2.ext e217).updN u223 (by omega)).ext (e226.trans e268)).updN u307 (by omega))
         refine so fN hb315 [.bool (aT bs),.string (a7 dg),.int .i64 bh,.bool (aT (s3.drop 1)),.string (a7 (tt.take k))] hw6 ge5 rfl rfl rfl rfl fun v314 hb316 u317 hw7=>(mv 1 rfl (a0 (aJ (aI [.agg #[.bool (aT bs),.string (a7 dg),.int .i64 bh,.bool (aT (s3.drop 1)),.string (a7 (tt.take k))],F0] rfl ⟨⟨_,rfl,fU fN hb316 [.bool (aT bs),.string (a7 dg),.int .i64 bh,.bool (aT (s3.drop 1)),.string (a7 (tt.take k))] rfl (bq rfl) rfl⟩,rfl,trivial⟩ ?_))))
         exact⟨_,rfl,CutR.none_ (aT bs) dg bh (aT (s3.drop 1)) (tt.take k) (by rw [hC,hE,if_pos (cH h101),if_neg hk0,if_neg hend];rfl),hw7⟩
     · 
      by_cases h69:s3.getD 0 0=69
      · 
       obtain⟨tt,htt⟩:∃t,t=eP (s3.drop 1):=⟨_,rfl⟩
       obtain⟨k,hk⟩:∃k,k=rn tt:=⟨_,rfl⟩
       have htb:∀b,b∈tt→b<256:=fun b hb=>h3b b (gG (B3 (htt▸hb)))
       have htl:tt.length≤1073741824:=by have h:=uB (s3.drop 1);rw [←htt,cO] at h;omega
       have hkl:k≤tt.length:=hk▸k7 tt
       rw [←htt,←hk] at hE
       refine a8 (mv 1 rfl (fP (a:=s3) (b:= []) rfl rfl rfl h3b true (nX (h30)) (mv 2 rfl (dD (bs:=s3) (i:=0) rfl rfl rfl Tryz.underlying9 h3b (aB rfl rfl rfl false (d4 (a:=s3.getD 0 0) (b:=101) rfl rfl) (mv 2 rfl (dD (bs:=s3) (i:=0) rfl rfl rfl Tryz.underlying9 h3b (aB rfl rfl rfl true (cZ (a:=s3.getD 0 0) (b:=69) rfl rfl) (pu (v:= .bool true) rfl (pu (v:= .bool true) rfl (a0 (aM rfl (aA ?_)))))))))))))
       refine a8 (mv 1 rfl (lW (bs:=s3) (i:=1) rfl rfl rfl Tryz.underlying9 (cl (vs:= [.string (a7 (s3.drop 1))]) hw1 (C8 (fun b hb=>h3b b (gG hb)) htt) rfl (by kernel_rfl) fun xr321 v319 r321 e320 hw2=>?_)))
       obtain⟨_,_,rfl,rfl,rfl⟩:=r321
       refine mv 1 rfl (pu (v:= .bool (aT (s3.drop 1))) rfl (pu (v:= .string (a7 tt)) rfl (pf g6 3 rfl ?_)))
       have hb324:=(hb4.ext e320)
       refine eM rfl rfl rfl (fun _=>by kernel_rfl) rfl hb324 (bq rfl) rfl [.bool (aT bs),.string (a7 dg),.int .i64 bh,.bool (aT (s3.drop 1)),.string (a7 ([]))] rfl fun v323 hb325 u326 hs327=>?_
       have hw3:=u326.ext hw2 ge10
       refine mv 1 rfl (a0 (sr (mv 1 rfl (cl (vs:= [.string (a7 tt)]) hw3 (xW htb (by first | assumption | (rw [cO];omega)) hk) rfl (by kernel_rfl) fun xr330 v328 r330 e329 hw4=>?_))))
       obtain rfl:=r330
       refine mv 1 rfl (a0 (aA (aA ?_)))
       by_cases hk0:k=0
       · 
        refine a8 (mv 1 rfl (aB rfl rfl rfl true (cZ (a:=k) (b:=0) rfl rfl) (a0 (aM rfl (sr (lo fN (hb325.ext e329) [.bool (aT bs),.string (a7 dg),.int .i64 bh,.bool (aT (s3.drop 1)),.string (a7 ([]))] rfl rfl rfl ?_))))))
        have hb332:=(((hb2.ext e320).updN u326 (by omega)).ext e329)
        refine so fN hb332 [.bool (aT bs),.string (a7 dg),.int .i64 bh,.bool (aT (s3.drop 1)),.string (a7 ([]))] hw4 ge5 rfl rfl rfl rfl fun v331 hb333 u334 hw5=>(mv 1 rfl (a0 (aJ (bJ (bJ (aI [.agg #[.bool (aT bs),.string (a7 dg),.int .i64 bh,.bool (aT (s3.drop 1)),.string (a7 ([]))],F0] rfl ⟨⟨_,rfl,fU fN hb333 [.bool (aT bs),.string (a7 dg),.int .i64 bh,.bool (aT (s3.drop 1)),.string (a7 ([]))] rfl (bq rfl) rfl⟩,rfl,trivial⟩ ?_))))))
        exact⟨_,rfl,CutR.none_ (aT bs) dg bh (aT (s3.drop 1)) ([]) (by rw [hC,hE,if_pos (bV h69),if_pos hk0];rfl),hw5⟩
       · 
        refine a8 (mv 1 rfl (aB rfl rfl rfl false (d4 (a:=k) (b:=0) rfl rfl) (a0 (aH rfl (aN (aE ?_))))))
        refine jA gC 7 [3,4,5] [Is (.string (a7 tt)),Is (.int .i64 k),Is (.string (a7 (tt.take k))),Is (.string (a7 tt)),Is (.int .i64 k),Is (.string (a7 (tt.drop k))),Is (.pointer (some ⟨g6,4,none⟩))] [[],[],[0,1],[],[],[3,4],[]] [[],[],[0,1],[],[],[3,4],[0,1,2],[0,1,2,6],[0,1,2,3,4,5,6,7]] rfl
         (bH rfl rfl (aW rfl rfl ?_) (bH rfl rfl (aW rfl rfl ?_) (bH rfl rfl (aW rfl rfl ?_) (l7 rfl rfl (l8 rfl ?_) (l7 rfl rfl (l8 rfl ?_) (l7 rfl rfl (l8 rfl ?_) (bH rfl rfl (aW rfl rfl ?_) j0))))))) ?_
        · 
         exact fun _ _=>aY (mv 1 rfl (bG rfl (Ext.refl _) rfl))
        · 
         exact fun _ _=>aY (mv 1 rfl (bG rfl (Ext.refl _) rfl))
        · 
         exact fun _ _=>dk rfl rfl (dk rfl rfl (aY (kY (bs:=tt) (i:=k) rfl rfl rfl Tryz.underlying9 (bG rfl (Ext.refl _) rfl))))
        · 
         exact fun _ _=>aY (⟨.string (a7 tt),rfl,rfl,fun _=>by kernel_rfl,rfl⟩)
        · 
         exact fun _ _=>aY (⟨.int .i64 k,rfl,rfl,fun _=>by kernel_rfl,rfl⟩)
        · 
         exact fun _ _=>dk rfl rfl (dk rfl rfl (aY (⟨.string (a7 (tt.drop k)),rfl,rfl,fun _=>uW (bs:=tt) (i:=k) rfl rfl Tryz.underlying9,rfl⟩)))
        · 
         exact fun _ _=>aY (pf g6 4 rfl (bG rfl (Ext.refl _) rfl))
        · 
         intro v370 e371
         have hw5:=hw4.trans e371
         refine dk rfl rfl (dk rfl rfl (dk rfl rfl (dk rfl rfl (dk rfl rfl (dk rfl rfl (dk rfl rfl (aY ?_)))))))
         have hb408:=(hb325.ext (e329.trans e371))
         refine eM rfl rfl rfl (fun _=>by kernel_rfl) rfl hb408 (bq rfl) rfl [.bool (aT bs),.string (a7 dg),.int .i64 bh,.bool (aT (s3.drop 1)),.string (a7 (tt.take k))] rfl fun v407 hb409 u410 hs411=>?_
         have hw6:=u410.ext hw5 ge10
         refine mv 1 rfl (aR (j8 (aE (aA ?_))))
         by_cases hend:tt.drop k= []
         · 
          refine a8 (lo fN hb409 [.bool (aT bs),.string (a7 dg),.int .i64 bh,.bool (aT (s3.drop 1)),.string (a7 (tt.take k))] rfl rfl rfl (mv 1 rfl (fP (a:=tt.drop k) (b:= []) rfl rfl rfl (fun b hb=>htb b (gG hb)) true (mY (hend)) ?_)))
          have hb413:=((((hb2.ext e320).updN u326 (by omega)).ext (e329.trans e371)).updN u410 (by omega))
          refine so fN hb413 [.bool (aT bs),.string (a7 dg),.int .i64 bh,.bool (aT (s3.drop 1)),.string (a7 (tt.take k))] hw6 ge5 rfl rfl rfl rfl fun v412 hb414 u415 hw7=>(mv 1 rfl (a0 (aJ (aI [.agg #[.bool (aT bs),.string (a7 dg),.int .i64 bh,.bool (aT (s3.drop 1)),.string (a7 (tt.take k))],.bool true] rfl ⟨⟨_,rfl,fU fN hb414 [.bool (aT bs),.string (a7 dg),.int .i64 bh,.bool (aT (s3.drop 1)),.string (a7 (tt.take k))] rfl (bq rfl) rfl⟩,rfl,trivial⟩ ?_))))
          exact⟨_,rfl,CutR.some_ (by rw [hC,hE,if_pos (bV h69),if_neg hk0,if_pos hend];rfl) rfl,hw7⟩
         · 
          refine a8 (lo fN hb409 [.bool (aT bs),.string (a7 dg),.int .i64 bh,.bool (aT (s3.drop 1)),.string (a7 (tt.take k))] rfl rfl rfl (mv 1 rfl (fP (a:=tt.drop k) (b:= []) rfl rfl rfl (fun b hb=>htb b (gG hb)) false (pC (hend)) ?_)))
          have hb418:=((((hb2.ext e320).updN u326 (by omega)).ext (e329.trans e371)).updN u410 (by omega))
          refine so fN hb418 [.bool (aT bs),.string (a7 dg),.int .i64 bh,.bool (aT (s3.drop 1)),.string (a7 (tt.take k))] hw6 ge5 rfl rfl rfl rfl fun v417 hb419 u420 hw7=>(mv 1 rfl (a0 (aJ (aI [.agg #[.bool (aT bs),.string (a7 dg),.int .i64 bh,.bool (aT (s3.drop 1)),.string (a7 (tt.take k))],F0] rfl ⟨⟨_,rfl,fU fN hb419 [.bool (aT bs),.string (a7 dg),.int .i64 bh,.bool (aT (s3.drop 1)),.string (a7 (tt.take k))] rfl (bq rfl) rfl⟩,rfl,trivial⟩ ?_))))
          exact⟨_,rfl,CutR.none_ (aT bs) dg bh (aT (s3.drop 1)) (tt.take k) (by rw [hC,hE,if_pos (bV h69),if_neg hk0,if_neg hend];rfl),hw7⟩
      · 
       refine a8 (mv 1 rfl (fP (a:=s3) (b:= []) rfl rfl rfl h3b true (nX (h30)) (mv 2 rfl (dD (bs:=s3) (i:=0) rfl rfl rfl Tryz.underlying9 h3b (aB rfl rfl rfl false (d4 (a:=s3.getD 0 0) (b:=101) rfl rfl) (mv 2 rfl (dD (bs:=s3) (i:=0) rfl rfl rfl Tryz.underlying9 h3b (aB rfl rfl rfl false (d4 (a:=s3.getD 0 0) (b:=69) rfl rfl) (pu (v:= .bool false) rfl (pu (v:= .bool false) rfl (a0 (aH rfl (aN ?_)))))))))))))
       refine aE (sr (lo fN hb4 [.bool (aT bs),.string (a7 dg),.int .i64 bh,F0,.string (a7 ([]))] rfl rfl rfl (mv 1 rfl (fP (a:=s3) (b:= []) rfl rfl rfl h3b false (pC (h30)) (so fN hb2 [.bool (aT bs),.string (a7 dg),.int .i64 bh,F0,.string (a7 ([]))] hw1 ge5 rfl rfl rfl rfl fun v422 hb424 u425 hw2=>(mv 1 rfl (a0 (aJ (aI [.agg #[.bool (aT bs),.string (a7 dg),.int .i64 bh,F0,.string (a7 ([]))],F0] rfl ⟨⟨_,rfl,fU fN hb424 [.bool (aT bs),.string (a7 dg),.int .i64 bh,F0,.string (a7 ([]))] rfl (bq rfl) rfl⟩,rfl,trivial⟩ ?_)))))))))
       exact⟨_,rfl,CutR.none_ (aT bs) dg bh false ([]) (by rw [hC,hE,if_neg (by omega),if_neg h30];rfl),hw2⟩
theorem X2 {w:a6}{dg:List Nat}(hbs:∀b,b∈bs→b<256)(hlen:bs.length≤1073741824)(h:fK bs=some (dg,bh,dn,pw)):
  aL aF 211 #[.string (a7 bs)] w (Gv w (Is (.tuple #[.agg #[.bool (aT bs),.string (a7 dg),.int .i64 bh,.bool dn,.string (a7 pw)],.bool true]))):=
 (K0 hbs hlen).mono fun e w' ⟨v,he,hv,hx⟩=>⟨v,he,by unfold CutR at hv;rw [h] at hv;exact hv,hx⟩
theorem WZ {w:a6}(hbs:∀b,b∈bs→b<256)(hlen:bs.length≤1073741824)(h:fK bs=none):
  aL aF 211 #[.string (a7 bs)] w (fun e w'=>∃(ng:Bool) (dg:List Nat) (bh:Nat) (dn:Bool) (pw:List Nat),True∧Gv w (Is (.tuple #[.agg #[.bool ng,.string (a7 dg),.int .i64 bh,.bool dn,.string (a7 pw)],.bool false])) e w'):=
 (K0 hbs hlen).mono fun e w' ⟨v,he,hv,hx⟩=>by
  unfold CutR at hv;rw [h] at hv
  obtain⟨a,b,c,d,e',rfl⟩:=hv
  exact⟨a,b,c,d,e',trivial,_,he,rfl,hx⟩
theorem WC {w:a6}(hj:j=1074)(hu:1*2^j=u)(hb:b≤w.heap.size)(hX:Wi w A n c 1)(hXn:n≤67108864):aL aF 117 #[.slice A n c,.int .i64 1074] w (Gv w (WR b u)):=by
 subst hu
 have h:=qY (k:=j) hb (by omega) hX hXn
 have e:((j:Nat):Int)=1074:=by omega
 rw [e] at h
 exact h
theorem WA {w:a6}(hu:1*2^bN=u)(hb:b≤w.heap.size)(hX:Wi w A n c 1)(hXn:n≤67108864):aL aF 117 #[.slice A n c,.int .i64 1074] w (Gv w (WR b u)):=by
 exact WC iA hu hb hX hXn
theorem WM {w:a6}(hX:Wi w A n c X)(hXn:n≤67108864){nb:Nat}(hD:Wi w B n' c' D)(hDn:n'≤67108864)(hD0:0<D)(h:cN (X*2^bN) D=nb):
  aL aF 166 #[.slice A n c,.slice B n' c'] w (Gv w (Is (.float .f64 nb))):=by
 subst h
 exact xT hX hXn hD hDn hD0
set_option maxHeartbeats 4000000 in
theorem X5 {w:a6}(hx:Rf w A n cap fs)(hn:n≤2097152):
    aL aF 122 #[.slice A n cap] w (Gv w (T2 (Is (.float .f64 (kI fs))) (Is (.int .i64 (lY fs))))):=by
 have hlen:=hx.len
 refine bL Tryz.func122 rfl (n:=44) rfl (bq rfl) (args:= [.slice A n cap]) (bB [(0,.slice A n cap)] ⟨rfl,trivial⟩ (sr (mv 2 rfl (a0 (sr (vX rfl (z:= .agg #[F0,S0]) (vs:= [F0,S0]) (fun _=>by kernel_rfl) rfl (by decide) fun g1 v2 nb=>?_))))))
 have ne3:0<cap→∀a,A=some a→a.block≠g1:=fun hc a ha=>by have:=(hx).rv.blk a ha hc;have:=nb.at_;omega
 have hb5:=nb.bk
 have ge6:w.heap.size≤g1:=by rw [←nb.at_];exact (Ext.refl w).size
 have e4:=nb.ext
 clear nb
 have hw1:=(Ext.refl w).trans e4
 refine a0 (aA (sr (mv 1 rfl (pu (v:= .int .i64 n) rfl (mv 1 rfl (a0 (bM ?_)))))))
 refine dS (T:=a6×Nat×ZC)
  (fun⟨wr,i,kp⟩=> [(4,.pointer (some ⟨g1,0,none⟩)),(11,.slice A n cap),(12,.int .i64 n),(13,.int .i64 i)])
  (fun⟨wr,i,kp⟩=>wr)
  (fun⟨wr,i,kp⟩=>(Ext w wr)∧(i≤n)∧(∀j,j<i→fin (fs.getD j 0))∧(Bk wr g1 24 [.bool kp.s,.slice kp.A kp.n kp.c])∧(Zr wr w.heap.size kp.s kp.A kp.n kp.c (iJ (fs.take i)))∧(Rf wr A n cap fs))
  (fun⟨wr,i,kp⟩=>n-i)
  (⟨v2,0,⟨false,none,0,0⟩⟩:a6×Nat×ZC) ⟨hw1,(bZ _),(fun j hj=>absurd hj (Nat.not_lt_zero _)),hb5,(Zr.zero.cast (by simp [iJ])),(hx.ext e4)⟩ rfl ⟨rfl,rfl,rfl,rfl,trivial⟩ ?_
 rintro⟨wr,i,kp⟩ ⟨hw1,hi,hfin,hB,zp,rl11⟩
 refine cM [(4,.pointer (some ⟨g1,0,none⟩)),(11,.slice A n cap),(12,.int .i64 n),(13,.int .i64 i)] wr rfl ⟨rfl,rfl,rfl,rfl,trivial⟩ (aA ?_)
 by_cases hin:i<n
 · 
  refine a8 (aB rfl rfl rfl true (dV (a:=i) (b:=n) rfl rfl) (a0 (aA (aM rfl (aN (aE (aA (bM (sr ?_)))))))))
  obtain⟨p7,hp7,hc7,hv7⟩:=(rl11).at (i:=i) (by omega)
  refine bX rfl rfl rfl AB AK i rfl p7 hp7 (aQ rfl rfl (dG ZZ hc7) (mv 1 rfl (a0 (aA ?_))))
  have hb:=hv7
  by_cases hfi:fin (fs.getD i 0)
  · 
   have hf:=hfi
   have hpe:=pL hf
   have hpl:=iQ (fs.getD i 0)
   refine a8 (mv 1 rfl (cl (vs:= [.float .f64 (fs.getD i 0)]) hw1 (JW hb hf) rfl (by kernel_rfl) fun xr10 v8 r10 e9 hw2=>?_))
   obtain rfl:=r10
   refine mv 1 rfl (pu (v:= .bool (cT (fs.getD i 0))) rfl (pu (v:= .int .u64 ((pm (fs.getD i 0):Nat):Int)) rfl (pu (v:= .int .i64 ((pe (fs.getD i 0):Int)+ -1074)) rfl (pu (v:= .bool true) rfl (mv 4 rfl (a0 (aA (sr (mv 1 rfl (pu (v:= .bool false) rfl (a0 (aH rfl (aN ?_)))))))))))))
   refine aE ?_
   have L14:ln ((iJ (fs.take i))+(sg (cT (fs.getD i 0)) ((pm (fs.getD i 0))*2^(pe (fs.getD i 0)))))≤67:=aK (J7 (sK (k:=0) (wH hfin)) (qU (s:=(cT (fs.getD i 0))) (nC (n:=1) (fS (by rw [cF,Nat.pow_one];omega))))) (by decide)
   refine jA gC 9 [] [Is (.agg #[.bool kp.s,.slice kp.A kp.n kp.c]),Is (.bool (cT (fs.getD i 0))),Is (.int .u64 ((pm (fs.getD i 0):Nat):Int)),fun v' w'=>∃A,v'= .slice A 1 1∧Own w' w.heap.size 65 1 A 1 1 [b8 (pm (fs.getD i 0))],Is (.int .i64 ((pe (fs.getD i 0):Int)+ -1074)),Is (.int .i64 ((pe (fs.getD i 0):Nat):Int)),WR w.heap.size ((pm (fs.getD i 0))*2^(pe (fs.getD i 0))),ZW w.heap.size (cT (fs.getD i 0)) ((pm (fs.getD i 0))*2^(pe (fs.getD i 0))),ZR w.heap.size ((iJ (fs.take i))+(sg (cT (fs.getD i 0)) ((pm (fs.getD i 0))*2^(pe (fs.getD i 0)))))] [[],[],[],[2],[],[4],[3,5],[1,6],[0,7]] [[],[],[],[2],[],[4],[2,3,4,5],[1,2,3,4,5,6],[0,1,2,3,4,5,6,7],[0,1,2,3,4,5,6,7,8]] rfl
    (bH rfl rfl (aW rfl rfl ?_) (bH rfl rfl (aW rfl rfl ?_) (bH rfl rfl (aW rfl rfl ?_) (bH rfl rfl (aW rfl rfl ?_) (bH rfl rfl (aW rfl rfl ?_) (bH rfl rfl (aW rfl rfl ?_) (bH rfl rfl (aW rfl rfl ?_) (bH rfl rfl (aW rfl rfl ?_) (bH rfl rfl (aW rfl rfl ?_) j0))))))))) ?_
   · 
    exact fun _ e17=>aY (lo cD (hB.ext (e9.trans e17)) [.bool kp.s,.slice kp.A kp.n kp.c] rfl rfl rfl (bG rfl (Ext.refl _) rfl))
   · 
    exact fun _ _=>aY (mv 1 rfl (bG rfl (Ext.refl _) rfl))
   · 
    exact fun _ _=>aY (mv 1 rfl (bG rfl (Ext.refl _) rfl))
   · 
    intro v22 e23
    have hw3:=hw2.trans e23
    refine dk rfl rfl (aY (dN rfl rfl (k:=1) (e:=65) [.int .u64 ((pm (fs.getD i 0):Nat):Int)] (fun _=>by kernel_rfl) fun g29 v30 nb31=>?_))
    have o32:=O1.mk_ (x:=pm (fs.getD i 0)) (b:=w.heap.size) nb31 hw3.size
    have e33:=nb31.ext
    have hw4:=hw3.trans e33
    exact bG rfl e33 ⟨_,rfl,o32⟩
   · 
    exact fun _ _=>aY (mv 1 rfl (bG rfl (Ext.refl _) rfl))
   · 
    exact fun _ _=>dk rfl rfl (aY (aD rfl rfl rfl ((pe (fs.getD i 0):Nat):Int) (dE (by omega)) (bG rfl (Ext.refl _) rfl)))
   · 
    intro v45 kQ
    have hw3:=hw2.trans kQ
    refine gQ rfl rfl fun x47 y48 h49 e50 f51=>?_
    obtain⟨A52,rfl,o52⟩:=h49
    have o52:=o52.ext f51
    refine dk rfl rfl (aY (cl (vs:= [.slice A52 1 1,.int .i64 ((pe (fs.getD i 0):Nat):Int)]) hw3 (qY (b:=w.heap.size) hw3.size (by omega) (gF o52 (show pm (fs.getD i 0)≤18446744073709551615 by omega)) (by decide)) rfl (by kernel_rfl) fun xr60 v58 r60 e59 hw4=>?_))
    obtain⟨A61,n61,c61,rfl,j61,o61⟩:=r60
    exact bG rfl e59 ⟨_,_,_,rfl,j61,o61⟩
   · 
    intro v62 e63
    refine dk rfl rfl (gQ rfl rfl fun x69 y70 h71 e72 f73=>?_)
    obtain⟨A74,n74,c74,rfl,j74,o74⟩:=h71
    have o74:=o74.ext f73
    refine aY (pu (v:= .agg #[.bool (cT (fs.getD i 0)),.slice A74 n74 c74]) rfl ?_)
    exact bG rfl (Ext.refl _) ⟨_,_,_,rfl,j74,o74⟩
   · 
    intro v75 e76
    have hw3:=hw2.trans e76
    refine dk rfl rfl (gQ rfl rfl fun x82 y83 h84 e85 f86=>?_)
    obtain⟨A87,n87,c87,rfl,j87,o87⟩:=h84
    have o87:=o87.ext f86
    refine aY ?_
    have L88:ln ((iJ (fs.take i))+(sg (cT (fs.getD i 0)) ((pm (fs.getD i 0))*2^(pe (fs.getD i 0)))))≤67:=aK (J7 (sK (k:=0) (wH hfin)) (qU (s:=(cT (fs.getD i 0))) (nC (n:=1) (fS (by rw [cF,Nat.pow_one];omega))))) (by decide)
    refine cl (vs:= [.agg #[.bool kp.s,.slice kp.A kp.n kp.c],.agg #[.bool (cT (fs.getD i 0)),.slice A87 n87 c87]]) hw3 (W8 hw3.size (zp.ext (e9.trans e76)).zi (zp.le (aK (sK (k:=0) (wH hfin)) (by decide))) ((o87).wi.zi (cT (fs.getD i 0))) (aK (aK (Nat.le_of_eq j87) (nC (n:=1) (fS (by rw [cF,Nat.pow_one];omega)))) (by decide))) rfl (by kernel_rfl) fun xr91 v89 r91 e90 hw4=>?_
    obtain⟨s92,A92,n92,c92,rfl,z92⟩:=r91
    exact bG rfl e90 ⟨_,_,_,_,rfl,z92⟩
   · 
    intro v93 e94
    have hw3:=hw2.trans e94
    refine dk rfl rfl (dk rfl rfl (dk rfl rfl (gQ rfl rfl fun x110 y111 h112 e113 f114=>?_)))
    obtain⟨A115,rfl,o115⟩:=h112
    have o115:=o115.ext f114
    refine dk rfl rfl (dk rfl rfl (gQ rfl rfl fun x126 y127 h128 e129 f130=>?_))
    obtain⟨A131,n131,c131,rfl,j131,o131⟩:=h128
    have o131:=o131.ext f130
    refine gQ rfl rfl fun x132 y133 h134 e135 f136=>?_
    obtain⟨A137,n137,c137,rfl,j137,o137⟩:=h134
    have o137:=o137.ext f136
    refine gQ rfl rfl fun x138 y139 h140 e141 f142=>?_
    obtain⟨s143,A143,n143,c143,rfl,z143⟩:=h140
    have z143:=z143.ext f142
    refine aY ?_
    have hb145:=(hB.ext (e9.trans e94))
    refine so cD hb145 [.bool s143,.slice A143 n143 c143] hw3 ge6 rfl rfl rfl rfl fun v144 hb146 u147 hw4=>(aR (j8 (cE (aE (a8 (aD rfl rfl rfl ((i+1:Nat):Int) (bF (a:=i) (b:=1) rfl rfl) (mv 1 rfl (aR (cU (⟨v144,i+1,⟨s143,A143,n143,c143⟩⟩:a6×Nat×ZC) ⟨hw4,(by omega),(fun j hj=>by by_cases e:j=i;(· subst e;exact hfi);(· exact hfin j (by omega))),hb146,(((z143.updT hb145 u147)).cast (by rw [wG (by omega)];unfold fv;rw [kK])),(Rf.updL (rl11.ext (e9.trans e94)) u147 ne3)⟩ (show n-(i+1)<n-i by omega) rfl ⟨rfl,rfl,rfl,rfl,trivial⟩)))))))))
  · 
   have hf:=hfi
   refine a8 (mv 1 rfl (cl (vs:= [.float .f64 (fs.getD i 0)]) hw1 (JV hb hf) rfl (by kernel_rfl) fun xr151 v149 r151 e150 hw2=>?_))
   obtain rfl:=r151
   refine mv 1 rfl (pu (v:= .bool false) rfl (pu (v:= .int .u64 0) rfl (pu (v:= .int .i64 0) rfl (pu (v:= .bool false) rfl (mv 4 rfl (a0 (aA (sr (mv 1 rfl (pu (v:= .bool true) rfl (a0 (aM rfl (aA ?_)))))))))))))
   refine a8 (mv 2 rfl (a0 (aJ (bJ (dZ (bJ (mF (dZ (bJ (aI [.float .f64 0,.int .i64 3] rfl ⟨rfl,rfl,trivial⟩ ?_))))))))))
   have ha:=LM (by omega) hfi
   have e1:kI fs=0:=EZ ha
   have e2:lY fs=3:=EY ha
   rw [e1,e2]
   exact⟨_,rfl,⟨_,_,rfl,rfl,rfl⟩,hw2⟩
 · 
  have hie:i=n:=by omega
  have htk:fs.take i=fs:=List.take_of_length_le (by omega)
  rw [htk] at zp
  refine a8 (aB rfl rfl rfl false (dP (a:=i) (b:=n) rfl rfl) (a0 (aA (aH rfl (dB (d7 (d9 (dA (aE (aA ?_))))))))))
  obtain⟨u,hu⟩:∃u,1*2^bN=u:=⟨_,rfl⟩
  have hu0:0<u:=hu▸ES
  have hul:(wd u).length≤66:=hu▸J8
  obtain⟨nb,hnb⟩:∃nb,cN (Int.natAbs (iJ fs)*2^bN) u=nb:=⟨_,rfl⟩
  have hnl:nb≤9218868437227405312:=hnb▸pO _ _
  have e0:nb=cN (Int.natAbs (iJ fs)) 1:=by rw [←hnb,←hu,IK]
  replace hu:=aU hu
  replace hnb:=aU hnb
  replace e0:=aU e0
  refine jA gC 8 [] [Is (.pointer (some ⟨g1,0,none⟩)),Is (.bool kp.s),Is (.pointer (some ⟨g1,1,none⟩)),Is (.slice kp.A kp.n kp.c),WR w.heap.size (1),WR w.heap.size (u),Is (.float .f64 nb),Is (.float .f64 (dR kp.s nb))] [[],[0],[],[2],[],[4],[3,5],[1,6]] [[],[0],[],[2],[],[4],[2,3,4,5],[0,1,2,3,4,5,6],[0,1,2,3,4,5,6,7],[0,1,2,3,4,5,6,7,8]] rfl
   (bH rfl rfl (aW rfl rfl ?_) (bH rfl rfl (aW rfl rfl ?_) (bH rfl rfl (aW rfl rfl ?_) (bH rfl rfl (aW rfl rfl ?_) (bH rfl rfl (aW rfl rfl ?_) (bH rfl rfl (aW rfl rfl ?_) (bH rfl rfl (aW rfl rfl ?_) (bH rfl rfl (aW rfl rfl ?_) j0)))))))) ?_
  · 
   exact fun _ _=>aY (pf g1 0 rfl (bG rfl (Ext.refl _) rfl))
  · 
   exact fun _ e157=>dk rfl rfl (aY (aQ rfl rfl (bE eG (hB.ext e157) rfl) (bG rfl (Ext.refl _) rfl)))
  · 
   exact fun _ _=>aY (pf g1 1 rfl (bG rfl (Ext.refl _) rfl))
  · 
   exact fun _ e166=>dk rfl rfl (aY (aQ rfl rfl (bE eW (hB.ext e166) rfl) (bG rfl (Ext.refl _) rfl)))
  · 
   intro v172 e173
   have hw2:=hw1.trans e173
   refine aY (dN rfl rfl (k:=1) (e:=65) [.int .u64 1] (fun _=>by kernel_rfl) fun g174 v175 nb176=>?_)
   have o177:=O1.mk_ (x:=1) (b:=w.heap.size) nb176 hw2.size
   have e178:=nb176.ext
   have hw3:=hw2.trans e178
   have o180:=i6 o177 (show 1≤18446744073709551615 by decide) (show 1≠0 by decide)
   have j179:=gP (show 1≤18446744073709551615 by decide) (show 1≠0 by decide)
   exact bG rfl e178 ⟨_,_,_,rfl,j179,o180⟩
  · 
   intro v181 e182
   have hw2:=hw1.trans e182
   refine gQ rfl rfl fun x183 y184 h185 e186 f187=>?_
   obtain⟨A188,n188,c188,rfl,j188,o188⟩:=h185
   have o188:=o188.ext f187
   refine aY (cl (vs:= [.slice A188 n188 c188,.int .i64 1074]) hw2 (WA (b:=w.heap.size) hu.out hw2.size o188.wi (by rw [j188];exact aK (Nat.le_of_eq (gP (show 1≤18446744073709551615 by decide) (show 1≠0 by decide)).symm) (by decide))) rfl (by kernel_rfl) fun xr191 v189 r191 e190 hw3=>?_)
   obtain⟨A192,n192,c192,rfl,j192,o192⟩:=r191
   exact bG rfl e190 ⟨_,_,_,rfl,j192,o192⟩
  · 
   intro v193 e194
   have hw2:=hw1.trans e194
   refine dk rfl rfl (gQ rfl rfl fun x200 y201 h202 e203 f204=>?_)
   obtain⟨A205,n205,c205,rfl,j205,o205⟩:=h202
   have o205:=o205.ext f204
   refine aY (cl (vs:= [.slice kp.A kp.n kp.c,.slice A205 n205 c205]) hw2 (WM (zp.ext e194).zi.wi (zp.le (aK (sK (k:=0) (by have:=wH hfin;rwa [htk] at this)) (by decide))) o205.wi (by rw [j205];exact aK hul (by decide)) hu0 hnb.out) rfl (by kernel_rfl) fun xr208 v206 r208 e207 hw3=>?_)
   obtain rfl:=r208
   exact bG rfl e207 rfl
  · 
   intro v209 e210
   have hw2:=hw1.trans e210
   refine dk rfl rfl (dk rfl rfl (aY (cl (vs:= [.bool kp.s,.float .f64 nb]) hw2 (qX (ng:=kp.s) hnl) rfl (by kernel_rfl) fun xr223 v221 r223 e222 hw3=>?_)))
   obtain rfl:=r223
   exact bG rfl e222 rfl
  · 
   intro v224 e225
   have hw2:=hw1.trans e225
   refine dk rfl rfl (dk rfl rfl (dk rfl rfl (dk rfl rfl (gQ rfl rfl fun x246 y247 h248 e249 f250=>?_))))
   obtain⟨A251,n251,c251,rfl,j251,o251⟩:=h248
   have o251:=o251.ext f250
   refine gQ rfl rfl fun x252 y253 h254 e255 f256=>?_
   obtain⟨A257,n257,c257,rfl,j257,o257⟩:=h254
   have o257:=o257.ext f256
   refine dk rfl rfl (dk rfl rfl (aY (mv 2 rfl (aR (j8 (aE (aJ (aI [.float .f64 (dR kp.s nb),I0] rfl ⟨rfl,rfl,trivial⟩ ?_))))))))
   have ha:=D1 (fun j hj=>hfin j (by omega))
   have e1:kI fs=dR kp.s nb:=by rw [AG ha,e0.out,zp.sgn,tS]
   have e2:lY fs=0:=AF ha
   rw [e1,e2]
   exact⟨_,rfl,⟨_,_,rfl,rfl,rfl⟩,hw2⟩
theorem NO (i:Nat):cB 10 ((l.take i).map dv)≤cB 10 (l.map dv):=by
 have h:=AA 10 ((l.take i).map dv) ((l.drop i).map dv)
 rw [←List.map_append,List.take_append_drop] at h
 rw [h]
 exact aK (Nat.le_mul_of_pos_right _ (eO (by decide))) (Nat.le_add_right _ _)
theorem NN (h:i<l.length)(hd:Digs l):cB 10 ((l.take (i+1)).map dv)=10*cB 10 ((l.take i).map dv)+(l.getD i 0-48):=by
 rw [AH h,List.map_append,iH,iX,rS,CF (hd _ (iS h))]
 omega
theorem KR (h:k≤9223372036854775807):bQ .i64 (IntKind.i64.wrap (0-((k:Nat):Int)))= .int .i64 (-((k:Nat):Int)):=by rw [IntWalk.i64_in _ ⟨by omega,by omega⟩,Int.zero_sub]
set_option maxHeartbeats 4000000 in
theorem JZ {w:a6}(hbs:∀b,b∈bs→b<256)(hlen:bs.length≤1073741824)(hdg:Digs bs):
    aL aF 212 #[.string (a7 bs)] w (fun e w'=>(cB 10 (bs.map dv)≤5000→Gv w (T2 (Is (.int .i64 ((cB 10 (bs.map dv):Nat):Int))) (Is (.bool true))) e w')∧(5000<cB 10 (bs.map dv)→Gv w (T2 (Is (.int .i64 0)) (Is (.bool false))) e w')):=by
 refine bL Tryz.func212 rfl (n:=23) rfl (bq rfl) (args:= [.string (a7 bs)]) (bB [(0,.string (a7 bs))] ⟨rfl,trivial⟩ (sr (mv 2 rfl (a0 (sr (mv 1 rfl (a0 (aA (sr (mv 1 rfl (bA rfl rfl (v:= .int .i64 (((a7 bs).size:Nat):Int)) (v':= .int .i64 ((bs.length:Nat):Int)) (by rw [cI]) (mv 1 rfl (aR ?_)))))))))))))
 refine aE (bM ?_)
 refine dS (T:=a6×Nat×Nat)
  (fun⟨wr,i,v⟩=> [(0,.string (a7 bs)),(4,.int .i64 v),(7,.int .i64 ((bs.length:Nat):Int)),(8,.int .i64 i)])
  (fun⟨wr,i,v⟩=>wr)
  (fun⟨wr,i,v⟩=>(Ext w wr)∧(i≤bs.length)∧(v=cB 10 ((bs.take i).map dv))∧(v≤5000))
  (fun⟨wr,i,v⟩=>bs.length-i)
  (⟨w,0,0⟩:a6×Nat×Nat) ⟨(Ext.refl w),(bZ _),rfl,(by decide)⟩ rfl ⟨rfl,rfl,rfl,rfl,trivial⟩ ?_
 rintro⟨wr,i,v⟩ ⟨hw1,hi,hv,hv5⟩
 refine cM [(0,.string (a7 bs)),(4,.int .i64 v),(7,.int .i64 ((bs.length:Nat):Int)),(8,.int .i64 i)] wr rfl ⟨rfl,rfl,rfl,rfl,trivial⟩ (aA ?_)
 by_cases hlt:i<bs.length
 · 
  refine a8 (aB rfl rfl rfl true (dV (a:=i) (b:=bs.length) rfl rfl) (a0 (aA (aM rfl (aN (aE (aA (bM (sr (mv 2 rfl (a0 (aA ?_))))))))))))
  have hst:=NN hlt hdg
  have hc:=hdg _ (iS hlt)
  refine a8 (mv 1 rfl (aD rfl rfl rfl ((10*v:Nat):Int) (mI (a:=10) (b:=v) rfl rfl) (mv 2 rfl (dD (bs:=bs) (i:=i) rfl rfl rfl Tryz.underlying9 hbs (aD rfl rfl rfl (((bs.getD i 0)-48:Nat):Int) (LQ (a:=bs.getD i 0) (b:=48) rfl rfl (by omega) (by omega)) (bA rfl rfl (v:= .int .i64 (IntKind.i64.wrap (((bs.getD i 0)-48:Nat):Int))) (v':= .int .i64 (((bs.getD i 0)-48:Nat):Int)) (lB (by first | omega | exact hle64)) (aD rfl rfl rfl (((10*v)+((bs.getD i 0)-48):Nat):Int) (bF (a:=10*v) (b:=(bs.getD i 0)-48) rfl rfl) (mv 1 rfl (a0 (aA ?_))))))))))
  by_cases hgt:(10*v)+((bs.getD i 0)-48)>5000
  · 
   refine a8 (mv 1 rfl (aB rfl rfl rfl true (dC (a:=(10*v)+((bs.getD i 0)-48)) (b:=5000) rfl rfl) (a0 (aM rfl (sr (mv 2 rfl (a0 (aJ (dZ (bJ (mF (dZ (bJ ?_)))))))))))))
   refine aI [I0,F0] rfl ⟨rfl,rfl,trivial⟩ ?_
   have hle:=NO (l:=bs) (i+1)
   exact⟨fun h=>absurd h (by omega),fun _=>⟨_,rfl,⟨_,_,rfl,rfl,rfl⟩,hw1⟩⟩
  · 
   refine a8 (mv 1 rfl (aB rfl rfl rfl false (cW (a:=(10*v)+((bs.getD i 0)-48)) (b:=5000) rfl rfl) (a0 (aH rfl (aN (cE (aE (a8 (aD rfl rfl rfl ((i+1:Nat):Int) (bF (a:=i) (b:=1) rfl rfl) (mv 1 rfl (aR (cU (⟨wr,i+1,10*v+(bs.getD i 0-48)⟩:a6×Nat×Nat) ⟨hw1,(by omega),(by rw [hst,hv]),(by omega)⟩ (show bs.length-(i+1)<bs.length-i by omega) rfl ⟨rfl,rfl,rfl,rfl,trivial⟩))))))))))))
 · 
  have hie:i=bs.length:=by omega
  rw [hie,List.take_length] at hv
  refine a8 (aB rfl rfl rfl false (dP (a:=i) (b:=bs.length) rfl rfl) (a0 (aA (aH rfl (dB (d7 (d9 (dA (aE (sr (mv 3 rfl (a0 (aJ ?_)))))))))))))
  refine aI [.int .i64 v,.bool true] rfl ⟨rfl,rfl,trivial⟩ ?_
  exact⟨fun _=>⟨_,rfl,⟨_,_,rfl,(show bQ .i64 ((v:Nat):Int)=_ by rw [hv]),rfl⟩,hw1⟩,fun h=>absurd hv5 (by omega)⟩
set_option maxHeartbeats 4000000 in
theorem xV {w:a6}(hb:b≤w.heap.size)(hn:n≤68719476736:=by omega):
    aL aF 213 #[.int .i64 n] w (Gv w (WR b (10^n))):=by
 refine bL Tryz.func213 rfl (n:=20) rfl (bq rfl) (args:= [.int .i64 n]) (bB [(0,.int .i64 n)] ⟨rfl,trivial⟩ (sr (mv 1 rfl (a0 (sr (dN rfl rfl (k:=1) (e:=65) [.int .u64 1] (fun _=>by kernel_rfl) fun g1 v2 nb3=>?_))))))
 have o4:=O1.mk_ (x:=1) (b:=w.heap.size) nb3 (Ext.refl w).size
 have e5:=nb3.ext
 have hw1:=(Ext.refl w).trans e5
 have o7:=i6 o4 (show 1≤18446744073709551615 by decide) (show 1≠0 by decide)
 have j6:=gP (show 1≤18446744073709551615 by decide) (show 1≠0 by decide)
 refine dN rfl rfl (k:=1) (e:=65) [.int .u64 10] (fun _=>by kernel_rfl) fun g8 v9 nb10=>?_
 have o11:=O1.mk_ (x:=10) (b:=w.heap.size) nb10 hw1.size
 have e12:=nb10.ext
 have hw2:=hw1.trans e12
 have o14:=i6 o11 (show 10≤18446744073709551615 by decide) (show 10≠0 by decide)
 have j13:=gP (show 10≤18446744073709551615 by decide) (show 10≠0 by decide)
 refine mv 2 rfl (a0 (aA (bM ?_)))
 refine dS (T:=a6×Nat×Nat×Nat×Option aC×Nat×Nat×Option aC×Nat×Nat)
  (fun⟨wr,e,p,b,PA,pn,pc,BA,bn,bc⟩=> [(0,.int .i64 e),(3,.slice PA pn pc),(4,.slice BA bn bc)])
  (fun⟨wr,e,p,b,PA,pn,pc,BA,bn,bc⟩=>wr)
  (fun⟨wr,e,p,b,PA,pn,pc,BA,bn,bc⟩=>(Ext w wr)∧(p*b^e=10^n)∧(1≤p)∧(1≤b)∧(pn=(wd p).length)∧(bn=(wd b).length)∧(Own wr w.heap.size 65 1 PA pn pc ((wd p).map b8))∧(Own wr w.heap.size 65 1 BA bn bc ((wd b).map b8))∧(e≤n))
  (fun⟨wr,e,p,b,PA,pn,pc,BA,bn,bc⟩=>e)
  (⟨v9,n,1,10,(some ⟨g1,0,none⟩),1,1,(some ⟨g8,0,none⟩),1,1⟩:a6×Nat×Nat×Nat×Option aC×Nat×Nat×Option aC×Nat×Nat) ⟨hw2,(by rw [Nat.one_mul]),(by decide),(by decide),j6,j13,(o7.ext e12),o14,(aZ _)⟩ rfl ⟨rfl,rfl,rfl,trivial⟩ ?_
 rintro⟨wr,e,p,b,PA,pn,pc,BA,bn,bc⟩ ⟨hw1,hI,hp1,hb1,hpn,hbn,hpo,hbo,he⟩
 refine cM [(0,.int .i64 e),(3,.slice PA pn pc),(4,.slice BA bn bc)] wr rfl ⟨rfl,rfl,rfl,trivial⟩ (aA (aA ?_))
 by_cases he0:e>0
 · 
  have hpK:=aK (gN (H5 hI hb1)) (jS (n:=n))
  have hbK:=aK (gN (H9 hI hp1 hb1 he0)) (jS (n:=n))
  refine a8 (mv 1 rfl (aB rfl rfl rfl true (dC (a:=e) (b:=0) rfl rfl) (a0 (aM rfl (aN (aE (aA (bM (aA (aA ?_))))))))))
  by_cases ho:e%2=1
  · 
   refine a8 (mv 1 rfl (aD rfl rfl rfl ((e%2:Nat):Int) (f7 (a:=e) (b:=2) rfl rfl) (aB rfl rfl rfl true (cZ (a:=e%2) (b:=1) rfl rfl) (a0 (aM rfl (a8 (mv 2 rfl (cl (vs:= [.slice PA pn pc,.slice BA bn bc]) hw1 (wQ hw1.size hpo.wi hbo.wi) rfl (by kernel_rfl) fun xr17 v15 r17 e16 hw2=>?_))))))))
   obtain⟨A18,n18,c18,rfl,j18,o18⟩:=r17
   refine mv 1 rfl (a0 (a8 (mv 1 rfl (cl (vs:= [.slice BA bn bc]) hw2 (u3 hw2.size (hbo.ext e16).wi) rfl (by kernel_rfl) fun xr21 v19 r21 e20 hw3=>?_))))
   obtain⟨A22,n22,c22,rfl,j22,o22⟩:=r21
   refine mv 1 rfl (aR (cE (aE (a8 (mv 1 rfl (aD rfl rfl rfl ((e/2:Nat):Int) (iF (a:=e) (b:=2) rfl rfl) (mv 1 rfl (aR (cU (⟨v19,e/2,p*b,b*b,A18,n18,c18,A22,n22,c22⟩:a6×Nat×Nat×Nat×Option aC×Nat×Nat×Option aC×Nat×Nat) ⟨hw3,(by rw [H6 ho];exact hI),(fO hp1 hb1),(fO hb1 hb1),j18,j22,(o18.ext e20),o22,(aK (fF _ _) he)⟩ (jN he0 (by decide)) rfl ⟨rfl,rfl,rfl,trivial⟩)))))))))
  · 
   refine a8 (mv 1 rfl (aD rfl rfl rfl ((e%2:Nat):Int) (f7 (a:=e) (b:=2) rfl rfl) (aB rfl rfl rfl false (d4 (a:=e%2) (b:=1) rfl rfl) (a0 (aH rfl (aN (aE (a8 (mv 1 rfl (cl (vs:= [.slice BA bn bc]) hw1 (u3 hw1.size hbo.wi) rfl (by kernel_rfl) fun xr25 v23 r25 gX hw2=>?_))))))))))
   obtain⟨A26,n26,c26,rfl,j26,o26⟩:=r25
   refine mv 1 rfl (aR (cE (aE (a8 (mv 1 rfl (aD rfl rfl rfl ((e/2:Nat):Int) (iF (a:=e) (b:=2) rfl rfl) (mv 1 rfl (aR (cU (⟨v23,e/2,p,b*b,PA,pn,pc,A26,n26,c26⟩:a6×Nat×Nat×Nat×Option aC×Nat×Nat×Option aC×Nat×Nat) ⟨hw2,(by rw [H8 ho];exact hI),hp1,(fO hb1 hb1),hpn,j26,(hpo.ext gX),o26,(aK (fF _ _) he)⟩ (jN he0 (by decide)) rfl ⟨rfl,rfl,rfl,trivial⟩)))))))))
 · 
  refine a8 (mv 1 rfl (aB rfl rfl rfl false (cW (a:=e) (b:=0) rfl rfl) (a0 (aH rfl (dB (d7 (d9 (dA (aE (sr (mv 2 rfl (a0 (aJ ?_)))))))))))))
  refine aI [.slice PA pn pc] rfl ⟨rfl,trivial⟩ ?_
  have e0:e=0:=by omega
  subst e0
  rw [Nat.pow_zero,cQ] at hI
  subst hI
  exact⟨_,rfl,⟨_,_,_,rfl,hpn,(hpo).mono hb⟩,hw1⟩
theorem xS {w:a6}(hX:Wi w A n c X){nb:Nat}(hD:Wi w B n' c' D)(hD0:0<D)(h:cN (X*2^bN) D=nb)(hXn:n≤67108864:=by omega)(hDn:n'≤67108864:=by omega):
  aL aF 166 #[.slice A n c,.slice B n' c'] w (Gv w (Is (.float .f64 nb))):=by
 subst h
 exact xT hX hXn hD hDn hD0
def mA (m bh x:Nat)(dn:Bool):Nat:=if dn=false∧bh≤x then cN (m*10^(x-bh)*2^bN) 1 else cN (m*2^bN) (10^(if dn=true then x+bh else bh-x))
def iP (bs:List Nat):Nat×Int:=if 4096<bs.length then (0,5) else match fK bs with
 | none=>(0,7)
 | some x=>if 5000<cB 10 (x.2.2.2.map dv) then (0,5) else (dR (aT bs) (mA (cB 10 (x.1.map dv)) x.2.1 (cB 10 (x.2.2.2.map dv)) x.2.2.1),0)
theorem GP (h:4096<bs.length):iP bs=(0,5):=by unfold iP;rw [if_pos h]
theorem GO (h:¬4096<bs.length)(hc:fK bs=none):iP bs=(0,7):=by unfold iP;rw [if_neg h,hc]
theorem GQ {dg:List Nat}(h:¬4096<bs.length)(hc:fK bs=some (dg,bh,dn,pw))(h5:5000<cB 10 (pw.map dv)):iP bs=(0,5):=by unfold iP;rw [if_neg h,hc];exact if_pos h5
theorem pI {dg:List Nat}{V nb:Nat}(h:¬4096<bs.length)(hc:fK bs=some (dg,bh,dn,pw))(hV:cB 10 (pw.map dv)=V)(h5:¬5000<V)(hX:cB 10 (dg.map dv)=X)(hn:mA X bh V dn=nb):iP bs=(dR (aT bs) nb,0):=by
 unfold iP;rw [if_neg h,hc]
 show (if 5000<cB 10 (pw.map dv) then _ else (dR (aT bs) (mA (cB 10 (dg.map dv)) bh (cB 10 (pw.map dv)) dn),(0:Int)))=_
 rw [hV,hX,if_neg h5,hn]
set_option maxHeartbeats 4000000 in
theorem WY {w:a6}(hbs:∀b,b∈bs→b<256)(hlen:bs.length≤1099511627776):
    aL aF 171 #[.string (a7 bs)] w (Gv w (T2 (Is (.float .f64 (iP bs).1)) (Is (.int .i64 (iP bs).2)))):=by
 refine bL Tryz.func171 rfl (n:=58) rfl (bq rfl) (args:= [.string (a7 bs)]) (bB [(0,.string (a7 bs))] ⟨rfl,trivial⟩ (sr (mv 2 rfl (a0 (aA (aA ?_))))))
 by_cases hlong:bs.length>4096
 · 
  refine a8 (mv 1 rfl (bA rfl rfl (v:= .int .i64 (((a7 bs).size:Nat):Int)) (v':= .int .i64 ((bs.length:Nat):Int)) (by rw [cI]) (aB rfl rfl rfl true (dC (a:=bs.length) (b:=4096) rfl rfl) (a0 (aM rfl (sr (mv 2 rfl (a0 (aJ (bJ (aI [.float .f64 0,.int .i64 5] rfl ⟨rfl,rfl,trivial⟩ ?_)))))))))))
  have hr:=GP hlong
  exact⟨_,rfl,⟨_,_,rfl,(show Value.float .f64 _=_ by rw [hr]),(show bQ .i64 _=_ by rw [hr])⟩,(Ext.refl w)⟩
 · 
  refine a8 (mv 1 rfl (bA rfl rfl (v:= .int .i64 (((a7 bs).size:Nat):Int)) (v':= .int .i64 ((bs.length:Nat):Int)) (by rw [cI]) (aB rfl rfl rfl false (cW (a:=bs.length) (b:=4096) rfl rfl) (a0 (aH rfl (aN (aE (aA ?_))))))))
  rcases hcut:fK bs with _ | ⟨dg,bh,dn,pw⟩
  · 
   refine a8 (mv 1 rfl (eA rfl rfl (vs:= [.string (a7 bs)]) (by kernel_rfl) (by decide) (WZ hbs (by omega) hcut) ?_))
   rintro _ v1 ⟨ng4,dg5,bh6,dn7,pw8,p9,xr3,rfl,r3,e2⟩
   refine eC ?_
   have hw1:=(Ext.refl w).trans e2
   obtain rfl:=r3
   refine mv 1 rfl (pu (v:= .agg #[.bool ng4,.string (a7 dg5),.int .i64 bh6,.bool dn7,.string (a7 pw8)]) rfl (pu (v:= .bool false) rfl (al [F0,.string (a7 []),I0,F0,.string (a7 [])] hw1 (fun _=>by kernel_rfl) rfl fun g10 v11 hb13 ge14 e12 hw2=>(so fN hb13 [.bool ng4,.string (a7 dg5),.int .i64 bh6,.bool dn7,.string (a7 pw8)] hw2 ge14 rfl rfl rfl rfl fun v15 hb17 u18 hw3=>(mv 1 rfl (a0 (aA (sr (mv 1 rfl (pu (v:= .bool true) rfl (a0 (aM rfl (aA ?_)))))))))))))
   refine a8 (mv 2 rfl (a0 (aJ (bJ (aI [.float .f64 0,.int .i64 7] rfl ⟨rfl,rfl,trivial⟩ ?_)))))
   have hr:=GO hlong hcut
   exact⟨_,rfl,⟨_,_,rfl,(show Value.float .f64 _=_ by rw [hr]),(show bQ .i64 _=_ by rw [hr])⟩,hw3⟩
  · 
   obtain⟨hdg,hdg0,hpw,hbh,hdgl,hpwl⟩:=KT hcut
   have hdg256:∀b,b∈dg→b<256:=fun b hb=>by have:=hdg b hb;omega
   have hpw256:∀b,b∈pw→b<256:=fun b hb=>by have:=hpw b hb;omega
   obtain⟨X,hX⟩:∃X,cB 10 (dg.map dv)=X:=⟨_,rfl⟩
   obtain⟨V,hV⟩:∃V,cB 10 (pw.map dv)=V:=⟨_,rfl⟩
   have hXl:(wd X).length≤4096:=by rw [←hX];exact aK (BX (hdg.good hdg0).2) (by omega)
   refine a8 (mv 1 rfl (cl (vs:= [.string (a7 bs)]) (Ext.refl w) (X2 hbs (by omega) hcut) rfl (by kernel_rfl) fun xr22 v20 r22 e21 hw1=>?_))
   obtain rfl:=r22
   refine mv 1 rfl (pu (v:= .agg #[.bool (aT bs),.string (a7 dg),.int .i64 bh,.bool dn,.string (a7 pw)]) rfl (pu (v:= .bool true) rfl (al [F0,.string (a7 []),I0,F0,.string (a7 [])] hw1 (fun _=>by kernel_rfl) rfl fun g23 v24 hb26 ge27 e25 hw2=>(so fN hb26 [.bool (aT bs),.string (a7 dg),.int .i64 bh,.bool dn,.string (a7 pw)] hw2 ge27 rfl rfl rfl rfl fun v28 hb30 u31 hw3=>(mv 1 rfl (a0 (aA (sr (mv 1 rfl (pu (v:= .bool false) rfl (a0 (aH rfl (aN ?_)))))))))))))
   refine aE (aA ?_)
   by_cases h5:5000<V
   · 
    refine a8 (pf g23 4 rfl (aQ rfl rfl (bE (fun _=>by kernel_rfl) hb30 rfl) (cl (vs:= [.string (a7 pw)]) hw3 ((JZ hpw256 (by omega) hpw).mono fun e w' h=>h.2 (by rw [hV];exact h5)) rfl (by kernel_rfl) fun xr35 v33 r35 e34 hw4=>?_)))
    obtain⟨_,_,rfl,rfl,rfl⟩:=r35
    refine mv 1 rfl (pu (v:= .int .i64 0) rfl (pu (v:= .bool false) rfl (mv 2 rfl (a0 (aA (sr (mv 1 rfl (pu (v:= .bool true) rfl (a0 (aM rfl (sr (mv 2 rfl (aR ?_)))))))))))))
    refine aE (aJ (bJ (aI [.float .f64 0,.int .i64 5] rfl ⟨rfl,rfl,trivial⟩ ?_)))
    have hr:=GQ hlong hcut (by rw [hV];exact h5)
    exact⟨_,rfl,⟨_,_,rfl,(show Value.float .f64 _=_ by rw [hr]),(show bQ .i64 _=_ by rw [hr])⟩,hw4⟩
   · 
    refine a8 (pf g23 4 rfl (aQ rfl rfl (bE (fun _=>by kernel_rfl) hb30 rfl) (cl (vs:= [.string (a7 pw)]) hw3 ((JZ hpw256 (by omega) hpw).mono fun e w' h=>by have h2:=h.1 (by rw [hV];omega);rw [hV] at h2;exact h2) rfl (by kernel_rfl) fun xr39 v37 r39 e38 hw4=>?_)))
    obtain⟨_,_,rfl,rfl,rfl⟩:=r39
    refine mv 1 rfl (pu (v:= .int .i64 V) rfl (pu (v:= .bool true) rfl (mv 2 rfl (a0 (aA (sr (mv 1 rfl (pu (v:= .bool false) rfl (a0 (aH rfl (aN (aE (aA ?_)))))))))))))
    refine aA ?_
    cases dn
    · 
     refine a8 (pf g23 3 rfl (aQ rfl rfl (bE (fun _=>by kernel_rfl) (hb30.ext e38) rfl) (a0 (aH rfl (aN (aE (sr (mv 1 rfl (pf g23 2 rfl (aQ rfl rfl (bE (fun _=>by kernel_rfl) (hb30.ext e38) rfl) (aD rfl rfl rfl (((V:Nat):Int)-((bh:Nat):Int)) (dE rfl) (mv 1 rfl (aR ?_)))))))))))))
     refine aE (sr (pf g23 1 rfl (aQ rfl rfl (bE (fun _=>by kernel_rfl) (hb30.ext e38) rfl) (eA rfl rfl (vs:= [.string (a7 dg)]) (by kernel_rfl) (by decide) (by have h:=FZ (w:=v37) hdg256 (by omega) (hdg.good hdg0);rw [hX] at h;exact h.mono (Gv.imp (T2.imp (WR.imp hw4.size) Is.imp))) ?_))))
     rintro _ v41 ⟨xr43,rfl,r43,e42⟩
     refine eC ?_
     have hw5:=hw4.trans e42
     obtain⟨_,_,rfl,⟨A45,n45,c45,rfl,j45,o45⟩,rfl⟩:=r43
     refine mv 1 rfl (pu (v:= .slice A45 n45 c45) rfl (pu (v:= .int .i64 0) rfl (mv 2 rfl (a0 (sr (dN rfl rfl (k:=1) (e:=65) [.int .u64 1] (fun _=>by kernel_rfl) fun g46 v47 nb48=>?_))))))
     have o49:=O1.mk_ (x:=1) (b:=w.heap.size) nb48 hw5.size
     have e50:=nb48.ext
     have hw6:=hw5.trans e50
     have o52:=i6 o49 (show 1≤18446744073709551615 by decide) (show 1≠0 by decide)
     have j51:=gP (show 1≤18446744073709551615 by decide) (show 1≠0 by decide)
     refine mv 1 rfl (a0 (aA (aA ?_)))
     by_cases hz:bh≤V
     · 
      refine bB [(0,.string (a7 bs)),(2,.float .f64 0),(3,.int .i64 0),(10,.string (a7 bs)),(11,.int .i64 ((bs.length:Nat):Int)),(12,.bool false),(14,.string (a7 bs)),(15,.tuple #[.agg #[.bool (aT bs),.string (a7 dg),.int .i64 bh,F0,.string (a7 pw)],.bool true]),(13,.tuple #[.agg #[.bool (aT bs),.string (a7 dg),.int .i64 bh,F0,.string (a7 pw)],.bool true]),(16,.agg #[.bool (aT bs),.string (a7 dg),.int .i64 bh,F0,.string (a7 pw)]),(17,.bool true),(4,.pointer (some ⟨g23,0,none⟩)),(5,.bool true),(18,.bool true),(19,.bool false),(21,.pointer (some ⟨g23,4,none⟩)),(22,.string (a7 pw)),(23,.tuple #[.int .i64 V,.bool true]),(20,.tuple #[.int .i64 V,.bool true]),(24,.int .i64 V),(25,.bool true),(6,.int .i64 (((V:Nat):Int)-((bh:Nat):Int))),(26,.bool true),(27,.bool false),(28,.pointer (some ⟨g23,3,none⟩)),(29,.bool false),(32,.int .i64 V),(33,.pointer (some ⟨g23,2,none⟩)),(34,.int .i64 bh),(35,.int .i64 (((V:Nat):Int)-((bh:Nat):Int))),(37,.pointer (some ⟨g23,1,none⟩)),(38,.string (a7 dg)),(39,.tuple #[.slice A45 n45 c45,I0]),(36,.tuple #[.slice A45 n45 c45,I0]),(40,.slice A45 n45 c45),(41,.int .i64 0),(7,.slice A45 n45 c45),(8,.int .i64 0),(42,.slice (some ⟨g46,0,none⟩) 1 1),(9,.slice (some ⟨g46,0,none⟩) 1 1)] ⟨rfl,rfl,rfl,rfl,rfl,rfl,rfl,rfl,rfl,rfl,rfl,rfl,rfl,rfl,rfl,rfl,rfl,rfl,rfl,rfl,rfl,rfl,rfl,rfl,rfl,rfl,rfl,rfl,rfl,rfl,rfl,rfl,rfl,rfl,rfl,rfl,rfl,rfl,rfl,rfl,trivial⟩ ?_
      rw [show (((V:Nat):Int)-((bh:Nat):Int))=((V-bh:Nat):Int) by omega]
      have h10:(wd (10^(V-bh))).length≤(V-bh)+1:=jS
      refine a8 (mv 1 rfl (aB rfl rfl rfl true (eI (a:=V-bh) (b:=0) rfl rfl) (a0 (aM rfl (a8 (mv 2 rfl (cl (vs:= [.int .i64 ((V-bh:Nat):Int)]) hw6 (xV (n:=V-bh) hw6.size) rfl (by kernel_rfl) fun xr55 v53 r55 e54 hw7=>?_)))))))
      obtain⟨A56,n56,c56,rfl,j56,o56⟩:=r55
      refine cl (vs:= [.slice A45 n45 c45,.slice A56 n56 c56]) hw7 (wQ hw7.size (o45.ext (e50.trans e54)).wi o56.wi) rfl (by kernel_rfl) fun xr59 v57 r59 e58 hw8=>?_
      obtain⟨A60,n60,c60,rfl,j60,o60⟩:=r59
      refine mv 1 rfl (a0 (aA ?_))
      have hXM:(wd (X*10^(V-bh))).length≤20000:=by have:=uS X (10^(V-bh));omega
      obtain⟨nb,hnb⟩:∃nb,cN ((X*10^(V-bh))*2^bN) 1=nb:=⟨_,rfl⟩
      have hnbl:nb≤9218868437227405312:=hnb▸pO _ _
      have hrd:=pI (nb:=nb) hlong hcut hV h5 hX (by unfold mA;rw [if_pos ⟨rfl,hz⟩];exact hnb)
      refine jA gC 6 [] [Is (.pointer (some ⟨g23,0,none⟩)),Is (.bool (aT bs)),Is (.slice A60 n60 c60),Is (.slice (some ⟨g46,0,none⟩) 1 1),Is (.float .f64 nb),Is (.float .f64 (dR (aT bs) nb))] [[],[0],[],[],[2,3],[1,4]] [[],[0],[],[],[2,3],[0,1,2,3,4],[0,1,2,3,4,5],[0,1,2,3,4,5,6]] rfl
       (bH rfl rfl (aW rfl rfl ?_) (bH rfl rfl (aW rfl rfl ?_) (bH rfl rfl (aW rfl rfl ?_) (bH rfl rfl (aW rfl rfl ?_) (bH rfl rfl (aW rfl rfl ?_) (bH rfl rfl (aW rfl rfl ?_) j0)))))) ?_
      · 
       exact fun _ _=>aY (pf g23 0 rfl (bG rfl (Ext.refl _) rfl))
      · 
       exact fun _ e64=>dk rfl rfl (aY (aQ rfl rfl (bE (fun _=>by kernel_rfl) (hb30.ext (e38.trans (e42.trans (e50.trans (e54.trans (e58.trans e64)))))) rfl) (bG rfl (Ext.refl _) rfl)))
      · 
       exact fun _ _=>aY (mv 1 rfl (bG rfl (Ext.refl _) rfl))
      · 
       exact fun _ _=>aY (mv 1 rfl (bG rfl (Ext.refl _) rfl))
      · 
       intro v74 e75
       have hw9:=hw8.trans e75
       refine dk rfl rfl (dk rfl rfl (aY (cl (vs:= [.slice A60 n60 c60,.slice (some ⟨g46,0,none⟩) 1 1]) hw9 (xS (o60.ext e75).wi (o52.ext (e54.trans (e58.trans e75))).wi (by decide) hnb) rfl (by kernel_rfl) fun xr88 v86 r88 e87 hw10=>?_)))
       obtain rfl:=r88
       exact bG rfl e87 rfl
      · 
       intro v89 e90
       have hw9:=hw8.trans e90
       refine dk rfl rfl (dk rfl rfl (aY (cl (vs:= [.bool (aT bs),.float .f64 nb]) hw9 (qX hnbl) rfl (by kernel_rfl) fun xr103 v101 r103 e102 hw10=>?_)))
       obtain rfl:=r103
       exact bG rfl e102 rfl
      · 
       intro v104 e105
       have hw9:=hw8.trans e105
       refine dk rfl rfl (dk rfl rfl (dk rfl rfl (dk rfl rfl (dk rfl rfl (dk rfl rfl (aY (mv 2 rfl (aR (j8 (aE (aJ (aI [.float .f64 (dR (aT bs) nb),I0] rfl ⟨rfl,rfl,trivial⟩ ?_))))))))))))
       have hr:=hrd
       exact⟨_,rfl,⟨_,_,rfl,(show Value.float .f64 _=_ by rw [hr]),(show bQ .i64 _=_ by rw [hr])⟩,hw9⟩
     · 
      refine bB [(0,.string (a7 bs)),(2,.float .f64 0),(3,.int .i64 0),(10,.string (a7 bs)),(11,.int .i64 ((bs.length:Nat):Int)),(12,.bool false),(14,.string (a7 bs)),(15,.tuple #[.agg #[.bool (aT bs),.string (a7 dg),.int .i64 bh,F0,.string (a7 pw)],.bool true]),(13,.tuple #[.agg #[.bool (aT bs),.string (a7 dg),.int .i64 bh,F0,.string (a7 pw)],.bool true]),(16,.agg #[.bool (aT bs),.string (a7 dg),.int .i64 bh,F0,.string (a7 pw)]),(17,.bool true),(4,.pointer (some ⟨g23,0,none⟩)),(5,.bool true),(18,.bool true),(19,.bool false),(21,.pointer (some ⟨g23,4,none⟩)),(22,.string (a7 pw)),(23,.tuple #[.int .i64 V,.bool true]),(20,.tuple #[.int .i64 V,.bool true]),(24,.int .i64 V),(25,.bool true),(6,.int .i64 (((V:Nat):Int)-((bh:Nat):Int))),(26,.bool true),(27,.bool false),(28,.pointer (some ⟨g23,3,none⟩)),(29,.bool false),(32,.int .i64 V),(33,.pointer (some ⟨g23,2,none⟩)),(34,.int .i64 bh),(35,.int .i64 (((V:Nat):Int)-((bh:Nat):Int))),(37,.pointer (some ⟨g23,1,none⟩)),(38,.string (a7 dg)),(39,.tuple #[.slice A45 n45 c45,I0]),(36,.tuple #[.slice A45 n45 c45,I0]),(40,.slice A45 n45 c45),(41,.int .i64 0),(7,.slice A45 n45 c45),(8,.int .i64 0),(42,.slice (some ⟨g46,0,none⟩) 1 1),(9,.slice (some ⟨g46,0,none⟩) 1 1)] ⟨rfl,rfl,rfl,rfl,rfl,rfl,rfl,rfl,rfl,rfl,rfl,rfl,rfl,rfl,rfl,rfl,rfl,rfl,rfl,rfl,rfl,rfl,rfl,rfl,rfl,rfl,rfl,rfl,rfl,rfl,rfl,rfl,rfl,rfl,rfl,rfl,rfl,rfl,rfl,rfl,trivial⟩ ?_
      rw [show (((V:Nat):Int)-((bh:Nat):Int))=(-((bh-V:Nat):Int)) by omega]
      have h10:(wd (10^(bh-V))).length≤(bh-V)+1:=jS
      refine a8 (mv 1 rfl (aB rfl rfl rfl false (iT) (a0 (aH rfl (a8 (mv 1 rfl (bA rfl rfl (v:= .int .i64 (IntKind.i64.wrap (0- -((bh-V:Nat):Int)))) (v':= .int .i64 ((bh-V:Nat):Int)) (nH) (cl (vs:= [.int .i64 ((bh-V:Nat):Int)]) hw6 (xV (n:=bh-V) hw6.size) rfl (by kernel_rfl) fun xr138 v136 r138 e137 hw7=>?_))))))))
      obtain⟨A139,n139,c139,rfl,j139,o139⟩:=r138
      refine mv 1 rfl (a0 (aA ?_))
      obtain⟨nb,hnb⟩:∃nb,cN (X*2^bN) (10^(bh-V))=nb:=⟨_,rfl⟩
      have hnbl:nb≤9218868437227405312:=hnb▸pO _ _
      have hrd:=pI (nb:=nb) hlong hcut hV h5 hX (by unfold mA;rw [if_neg (fun h=>hz h.2),if_neg (by decide)];exact hnb)
      refine jA gC 6 [] [Is (.pointer (some ⟨g23,0,none⟩)),Is (.bool (aT bs)),Is (.slice A45 n45 c45),Is (.slice A139 n139 c139),Is (.float .f64 nb),Is (.float .f64 (dR (aT bs) nb))] [[],[0],[],[],[2,3],[1,4]] [[],[0],[],[],[2,3],[0,1,2,3,4],[0,1,2,3,4,5],[0,1,2,3,4,5,6]] rfl
       (bH rfl rfl (aW rfl rfl ?_) (bH rfl rfl (aW rfl rfl ?_) (bH rfl rfl (aW rfl rfl ?_) (bH rfl rfl (aW rfl rfl ?_) (bH rfl rfl (aW rfl rfl ?_) (bH rfl rfl (aW rfl rfl ?_) j0)))))) ?_
      · 
       exact fun _ _=>aY (pf g23 0 rfl (bG rfl (Ext.refl _) rfl))
      · 
       exact fun _ e143=>dk rfl rfl (aY (aQ rfl rfl (bE (fun _=>by kernel_rfl) (hb30.ext (e38.trans (e42.trans (e50.trans (e137.trans e143))))) rfl) (bG rfl (Ext.refl _) rfl)))
      · 
       exact fun _ _=>aY (mv 1 rfl (bG rfl (Ext.refl _) rfl))
      · 
       exact fun _ _=>aY (mv 1 rfl (bG rfl (Ext.refl _) rfl))
      · 
       intro v153 e154
       have hw8:=hw7.trans e154
       refine dk rfl rfl (dk rfl rfl (aY (cl (vs:= [.slice A45 n45 c45,.slice A139 n139 c139]) hw8 (xS (o45.ext (e50.trans (e137.trans e154))).wi (o139.ext e154).wi (eO (by decide)) hnb) rfl (by kernel_rfl) fun xr167 v165 r167 e166 hw9=>?_)))
       obtain rfl:=r167
       exact bG rfl e166 rfl
      · 
       intro v168 e169
       have hw8:=hw7.trans e169
       refine dk rfl rfl (dk rfl rfl (aY (cl (vs:= [.bool (aT bs),.float .f64 nb]) hw8 (qX hnbl) rfl (by kernel_rfl) fun xr182 v180 r182 e181 hw9=>?_)))
       obtain rfl:=r182
       exact bG rfl e181 rfl
      · 
       intro v183 e184
       have hw8:=hw7.trans e184
       refine dk rfl rfl (dk rfl rfl (dk rfl rfl (dk rfl rfl (dk rfl rfl (dk rfl rfl (aY (mv 2 rfl (aR (j8 (aE (aJ (aI [.float .f64 (dR (aT bs) nb),I0] rfl ⟨rfl,rfl,trivial⟩ ?_))))))))))))
       have hr:=hrd
       exact⟨_,rfl,⟨_,_,rfl,(show Value.float .f64 _=_ by rw [hr]),(show bQ .i64 _=_ by rw [hr])⟩,hw8⟩
    · 
     refine a8 (pf g23 3 rfl (aQ rfl rfl (bE (fun _=>by kernel_rfl) (hb30.ext e38) rfl) (a0 (aM rfl (a8 (mv 1 rfl (bA rfl rfl (v:= .int .i64 (IntKind.i64.wrap (0-((V:Nat):Int)))) (v':= .int .i64 (-((V:Nat):Int))) (KR (by omega)) (mv 1 rfl (a0 (sr (mv 1 rfl (pf g23 2 rfl (aQ rfl rfl (bE (fun _=>by kernel_rfl) (hb30.ext e38) rfl) ?_)))))))))))))
     refine aD rfl rfl rfl ((-((V:Nat):Int))-((bh:Nat):Int)) (dE rfl) (mv 1 rfl (a0 (sr (pf g23 1 rfl (aQ rfl rfl (bE (fun _=>by kernel_rfl) (hb30.ext e38) rfl) (eA rfl rfl (vs:= [.string (a7 dg)]) (by kernel_rfl) (by decide) (by have h:=FZ (w:=v37) hdg256 (by omega) (hdg.good hdg0);rw [hX] at h;exact h.mono (Gv.imp (T2.imp (WR.imp hw4.size) Is.imp))) ?_))))))
     rintro _ v215 ⟨xr217,rfl,r217,e216⟩
     refine eC ?_
     have hw5:=hw4.trans e216
     obtain⟨_,_,rfl,⟨A219,n219,c219,rfl,j219,o219⟩,rfl⟩:=r217
     refine mv 1 rfl (pu (v:= .slice A219 n219 c219) rfl (pu (v:= .int .i64 0) rfl (mv 2 rfl (a0 (sr (dN rfl rfl (k:=1) (e:=65) [.int .u64 1] (fun _=>by kernel_rfl) fun g220 v221 nb222=>?_))))))
     have o223:=O1.mk_ (x:=1) (b:=w.heap.size) nb222 hw5.size
     have e224:=nb222.ext
     have hw6:=hw5.trans e224
     have o226:=i6 o223 (show 1≤18446744073709551615 by decide) (show 1≠0 by decide)
     have j225:=gP (show 1≤18446744073709551615 by decide) (show 1≠0 by decide)
     refine mv 1 rfl (a0 (aA (aA ?_)))
     by_cases hz:V+bh=0
     · 
      refine bB [(0,.string (a7 bs)),(2,.float .f64 0),(3,.int .i64 0),(10,.string (a7 bs)),(11,.int .i64 ((bs.length:Nat):Int)),(12,.bool false),(14,.string (a7 bs)),(15,.tuple #[.agg #[.bool (aT bs),.string (a7 dg),.int .i64 bh,.bool true,.string (a7 pw)],.bool true]),(13,.tuple #[.agg #[.bool (aT bs),.string (a7 dg),.int .i64 bh,.bool true,.string (a7 pw)],.bool true]),(16,.agg #[.bool (aT bs),.string (a7 dg),.int .i64 bh,.bool true,.string (a7 pw)]),(17,.bool true),(4,.pointer (some ⟨g23,0,none⟩)),(5,.bool true),(18,.bool true),(19,.bool false),(21,.pointer (some ⟨g23,4,none⟩)),(22,.string (a7 pw)),(23,.tuple #[.int .i64 V,.bool true]),(20,.tuple #[.int .i64 V,.bool true]),(24,.int .i64 V),(25,.bool true),(6,.int .i64 ((-((V:Nat):Int))-((bh:Nat):Int))),(26,.bool true),(27,.bool false),(28,.pointer (some ⟨g23,3,none⟩)),(29,.bool true),(30,.int .i64 V),(31,.int .i64 (-((V:Nat):Int))),(32,.int .i64 (-((V:Nat):Int))),(33,.pointer (some ⟨g23,2,none⟩)),(34,.int .i64 bh),(35,.int .i64 ((-((V:Nat):Int))-((bh:Nat):Int))),(37,.pointer (some ⟨g23,1,none⟩)),(38,.string (a7 dg)),(39,.tuple #[.slice A219 n219 c219,I0]),(36,.tuple #[.slice A219 n219 c219,I0]),(40,.slice A219 n219 c219),(41,.int .i64 0),(7,.slice A219 n219 c219),(8,.int .i64 0),(42,.slice (some ⟨g220,0,none⟩) 1 1),(9,.slice (some ⟨g220,0,none⟩) 1 1)] ⟨rfl,rfl,rfl,rfl,rfl,rfl,rfl,rfl,rfl,rfl,rfl,rfl,rfl,rfl,rfl,rfl,rfl,rfl,rfl,rfl,rfl,rfl,rfl,rfl,rfl,rfl,rfl,rfl,rfl,rfl,rfl,rfl,rfl,rfl,rfl,rfl,rfl,rfl,rfl,rfl,rfl,rfl,trivial⟩ ?_
      rw [show ((-((V:Nat):Int))-((bh:Nat):Int))=0 by omega]
      have h10:(wd (10^(0))).length≤0+1:=jS
      refine a8 (mv 1 rfl (aB rfl rfl rfl true (by decide) (a0 (aM rfl (a8 (mv 2 rfl (cl (vs:= [I0]) hw6 (xV (n:=0) hw6.size) rfl (by kernel_rfl) fun xr229 v227 r229 e228 hw7=>?_)))))))
      obtain⟨A230,n230,c230,rfl,j230,o230⟩:=r229
      refine cl (vs:= [.slice A219 n219 c219,.slice A230 n230 c230]) hw7 (wQ hw7.size (o219.ext (e224.trans e228)).wi o230.wi) rfl (by kernel_rfl) fun xr233 v231 r233 e232 hw8=>?_
      obtain⟨A234,n234,c234,rfl,j234,o234⟩:=r233
      refine mv 1 rfl (a0 (aA ?_))
      have hXM:(wd (X*10^(0))).length≤20000:=by have:=uS X (10^(0));omega
      obtain⟨nb,hnb⟩:∃nb,cN ((X*10^(0))*2^bN) 1=nb:=⟨_,rfl⟩
      have hnbl:nb≤9218868437227405312:=hnb▸pO _ _
      have hrd:=pI (nb:=nb) hlong hcut hV h5 hX (by unfold mA;rw [if_neg (by simp),if_pos rfl,hz,Nat.pow_zero];rw [Nat.pow_zero,cQ] at hnb;exact hnb)
      refine jA gC 6 [] [Is (.pointer (some ⟨g23,0,none⟩)),Is (.bool (aT bs)),Is (.slice A234 n234 c234),Is (.slice (some ⟨g220,0,none⟩) 1 1),Is (.float .f64 nb),Is (.float .f64 (dR (aT bs) nb))] [[],[0],[],[],[2,3],[1,4]] [[],[0],[],[],[2,3],[0,1,2,3,4],[0,1,2,3,4,5],[0,1,2,3,4,5,6]] rfl
       (bH rfl rfl (aW rfl rfl ?_) (bH rfl rfl (aW rfl rfl ?_) (bH rfl rfl (aW rfl rfl ?_) (bH rfl rfl (aW rfl rfl ?_) (bH rfl rfl (aW rfl rfl ?_) (bH rfl rfl (aW rfl rfl ?_) j0)))))) ?_
      · 
       exact fun _ _=>aY (pf g23 0 rfl (bG rfl (Ext.refl _) rfl))
      · 
       exact fun _ e238=>dk rfl rfl (aY (aQ rfl rfl (bE (fun _=>by kernel_rfl) (hb30.ext (e38.trans (e216.trans (e224.trans (e228.trans (e232.trans e238)))))) rfl) (bG rfl (Ext.refl _) rfl)))
      · 
       exact fun _ _=>aY (mv 1 rfl (bG rfl (Ext.refl _) rfl))
      · 
       exact fun _ _=>aY (mv 1 rfl (bG rfl (Ext.refl _) rfl))
      · 
       intro v248 e249
       have hw9:=hw8.trans e249
       refine dk rfl rfl (dk rfl rfl (aY (cl (vs:= [.slice A234 n234 c234,.slice (some ⟨g220,0,none⟩) 1 1]) hw9 (xS (o234.ext e249).wi (o226.ext (e228.trans (e232.trans e249))).wi (by decide) hnb) rfl (by kernel_rfl) fun xr262 v260 r262 e261 hw10=>?_)))
       obtain rfl:=r262
       exact bG rfl e261 rfl
      · 
       intro v263 e264
       have hw9:=hw8.trans e264
       refine dk rfl rfl (dk rfl rfl (aY (cl (vs:= [.bool (aT bs),.float .f64 nb]) hw9 (qX hnbl) rfl (by kernel_rfl) fun xr277 v275 r277 e276 hw10=>?_)))
       obtain rfl:=r277
       exact bG rfl e276 rfl
      · 
       intro v278 e279
       have hw9:=hw8.trans e279
       refine dk rfl rfl (dk rfl rfl (dk rfl rfl (dk rfl rfl (dk rfl rfl (dk rfl rfl (aY (mv 2 rfl (aR (j8 (aE (aJ (aI [.float .f64 (dR (aT bs) nb),I0] rfl ⟨rfl,rfl,trivial⟩ ?_))))))))))))
       have hr:=hrd
       exact⟨_,rfl,⟨_,_,rfl,(show Value.float .f64 _=_ by rw [hr]),(show bQ .i64 _=_ by rw [hr])⟩,hw9⟩
     · 
      refine bB [(0,.string (a7 bs)),(2,.float .f64 0),(3,.int .i64 0),(10,.string (a7 bs)),(11,.int .i64 ((bs.length:Nat):Int)),(12,.bool false),(14,.string (a7 bs)),(15,.tuple #[.agg #[.bool (aT bs),.string (a7 dg),.int .i64 bh,.bool true,.string (a7 pw)],.bool true]),(13,.tuple #[.agg #[.bool (aT bs),.string (a7 dg),.int .i64 bh,.bool true,.string (a7 pw)],.bool true]),(16,.agg #[.bool (aT bs),.string (a7 dg),.int .i64 bh,.bool true,.string (a7 pw)]),(17,.bool true),(4,.pointer (some ⟨g23,0,none⟩)),(5,.bool true),(18,.bool true),(19,.bool false),(21,.pointer (some ⟨g23,4,none⟩)),(22,.string (a7 pw)),(23,.tuple #[.int .i64 V,.bool true]),(20,.tuple #[.int .i64 V,.bool true]),(24,.int .i64 V),(25,.bool true),(6,.int .i64 ((-((V:Nat):Int))-((bh:Nat):Int))),(26,.bool true),(27,.bool false),(28,.pointer (some ⟨g23,3,none⟩)),(29,.bool true),(30,.int .i64 V),(31,.int .i64 (-((V:Nat):Int))),(32,.int .i64 (-((V:Nat):Int))),(33,.pointer (some ⟨g23,2,none⟩)),(34,.int .i64 bh),(35,.int .i64 ((-((V:Nat):Int))-((bh:Nat):Int))),(37,.pointer (some ⟨g23,1,none⟩)),(38,.string (a7 dg)),(39,.tuple #[.slice A219 n219 c219,I0]),(36,.tuple #[.slice A219 n219 c219,I0]),(40,.slice A219 n219 c219),(41,.int .i64 0),(7,.slice A219 n219 c219),(8,.int .i64 0),(42,.slice (some ⟨g220,0,none⟩) 1 1),(9,.slice (some ⟨g220,0,none⟩) 1 1)] ⟨rfl,rfl,rfl,rfl,rfl,rfl,rfl,rfl,rfl,rfl,rfl,rfl,rfl,rfl,rfl,rfl,rfl,rfl,rfl,rfl,rfl,rfl,rfl,rfl,rfl,rfl,rfl,rfl,rfl,rfl,rfl,rfl,rfl,rfl,rfl,rfl,rfl,rfl,rfl,rfl,rfl,rfl,trivial⟩ ?_
      rw [show ((-((V:Nat):Int))-((bh:Nat):Int))=(-((V+bh:Nat):Int)) by omega]
      have h10:(wd (10^(V+bh))).length≤(V+bh)+1:=jS
      refine a8 (mv 1 rfl (aB rfl rfl rfl false (iT) (a0 (aH rfl (a8 (mv 1 rfl (bA rfl rfl (v:= .int .i64 (IntKind.i64.wrap (0- -((V+bh:Nat):Int)))) (v':= .int .i64 ((V+bh:Nat):Int)) (nH) (cl (vs:= [.int .i64 ((V+bh:Nat):Int)]) hw6 (xV (n:=V+bh) hw6.size) rfl (by kernel_rfl) fun xr312 v310 r312 e311 hw7=>?_))))))))
      obtain⟨A313,n313,c313,rfl,j313,o313⟩:=r312
      refine mv 1 rfl (a0 (aA ?_))
      obtain⟨nb,hnb⟩:∃nb,cN (X*2^bN) (10^(V+bh))=nb:=⟨_,rfl⟩
      have hnbl:nb≤9218868437227405312:=hnb▸pO _ _
      have hrd:=pI (nb:=nb) hlong hcut hV h5 hX (by unfold mA;rw [if_neg (by simp),if_pos rfl];exact hnb)
      refine jA gC 6 [] [Is (.pointer (some ⟨g23,0,none⟩)),Is (.bool (aT bs)),Is (.slice A219 n219 c219),Is (.slice A313 n313 c313),Is (.float .f64 nb),Is (.float .f64 (dR (aT bs) nb))] [[],[0],[],[],[2,3],[1,4]] [[],[0],[],[],[2,3],[0,1,2,3,4],[0,1,2,3,4,5],[0,1,2,3,4,5,6]] rfl
       (bH rfl rfl (aW rfl rfl ?_) (bH rfl rfl (aW rfl rfl ?_) (bH rfl rfl (aW rfl rfl ?_) (bH rfl rfl (aW rfl rfl ?_) (bH rfl rfl (aW rfl rfl ?_) (bH rfl rfl (aW rfl rfl ?_) j0)))))) ?_
      · 
       exact fun _ _=>aY (pf g23 0 rfl (bG rfl (Ext.refl _) rfl))
      · 
       exact fun _ e317=>dk rfl rfl (aY (aQ rfl rfl (bE (fun _=>by kernel_rfl) (hb30.ext (e38.trans (e216.trans (e224.trans (e311.trans e317))))) rfl) (bG rfl (Ext.refl _) rfl)))
      · 
       exact fun _ _=>aY (mv 1 rfl (bG rfl (Ext.refl _) rfl))
      · 
       exact fun _ _=>aY (mv 1 rfl (bG rfl (Ext.refl _) rfl))
      · 
       intro v327 e328
       have hw8:=hw7.trans e328
       refine dk rfl rfl (dk rfl rfl (aY (cl (vs:= [.slice A219 n219 c219,.slice A313 n313 c313]) hw8 (xS (o219.ext (e224.trans (e311.trans e328))).wi (o313.ext e328).wi (eO (by decide)) hnb) rfl (by kernel_rfl) fun xr341 v339 r341 e340 hw9=>?_)))
       obtain rfl:=r341
       exact bG rfl e340 rfl
      · 
       intro v342 e343
       have hw8:=hw7.trans e343
       refine dk rfl rfl (dk rfl rfl (aY (cl (vs:= [.bool (aT bs),.float .f64 nb]) hw8 (qX hnbl) rfl (by kernel_rfl) fun xr356 v354 r356 e355 hw9=>?_)))
       obtain rfl:=r356
       exact bG rfl e355 rfl
      · 
       intro v357 e358
       have hw8:=hw7.trans e358
       refine dk rfl rfl (dk rfl rfl (dk rfl rfl (dk rfl rfl (dk rfl rfl (dk rfl rfl (aY (mv 2 rfl (aR (j8 (aE (aJ (aI [.float .f64 (dR (aT bs) nb),I0] rfl ⟨rfl,rfl,trivial⟩ ?_))))))))))))
       have hr:=hrd
       exact⟨_,rfl,⟨_,_,rfl,(show Value.float .f64 _=_ by rw [hr]),(show bQ .i64 _=_ by rw [hr])⟩,hw8⟩
theorem C6 {w:a6}(hb:b≤w.heap.size){x y:Nat}(hx:Wi w A n c x)(hl:n≤68719476735)(hy:Wi w B m d y)(hl':m≤68719476735):aL aF 131 #[.slice A n c,.slice B m d] w (Gv w (WR b (x*y))):=WJ hb hx hl hy hl'
theorem F2 (h:Y*10^k=10^n):Y≤10^n:=by rw [←h];exact Nat.le_mul_of_pos_right _ (eO (by decide))
theorem ON (h:Y*10^k=10^n)(hk:18≤k):Y*1000000000000000000*10^(k-18)=10^n:=by
 rw [←h,bC]
 congr 1
 rw [show (1000000000000000000:Nat)=10^18 from rfl,←bU]
 congr 1
 omega
theorem OO (h:Y*10^k=10^n)(hk:0<k):Y*10*10^(k-1)=10^n:=by
 rw [←h,bC]
 congr 1
 rw [←Nat.pow_succ']
 congr 1
 omega
set_option maxHeartbeats 4000000 in
theorem GT {w:a6}(hb:b≤w.heap.size)(hX:Wi w A n c X)(hXn:n≤2097152)(hv0:v≠0)(hv:v≤18446744073709551615):
    aL aF 250 #[.slice A n c,.int .u64 v] w (Gv w (WR b (X*v))):=by
 refine bL Tryz.func250 rfl (n:=9) rfl (bq rfl) (args:= [.slice A n c,.int .u64 v]) (bB [(0,.slice A n c),(1,.int .u64 v)] ⟨rfl,rfl,trivial⟩ (sr (mv 1 rfl (a0 (sr (mv 2 rfl (dN rfl rfl (k:=1) (e:=65) [.int .u64 v] (fun _=>by kernel_rfl) fun g1 v2 nb3=>?_)))))))
 have o4:=O1.mk_ (x:=v) (b:=w.heap.size) nb3 (Ext.refl w).size
 have e5:=nb3.ext
 have hw1:=(Ext.refl w).trans e5
 have o7:=i6 o4 hv hv0
 have j6:=gP hv hv0
 refine cl (vs:= [.slice A n c,.slice (some ⟨g1,0,none⟩) 1 1]) hw1 (C6 hw1.size (hX.ext hw1) (cC hXn rfl) o7.wi (by decide)) rfl (by kernel_rfl) fun xr10 v8 r10 e9 hw2=>?_
 obtain⟨A11,n11,c11,rfl,j11,o11⟩:=r10
 refine mv 1 rfl (a0 (aJ (aI [.slice A11 n11 c11] rfl ⟨rfl,trivial⟩ ?_)))
 exact⟨_,rfl,⟨_,_,_,rfl,j11,(o11).mono hb⟩,hw2⟩
set_option maxHeartbeats 4000000 in
theorem xB {w:a6}(hb:b≤w.heap.size)(hn:n≤100000:=by omega):
    aL aF 210 #[.int .i64 n] w (Gv w (WR b (10^n))):=by
 refine bL Tryz.func210 rfl (n:=18) rfl (bq rfl) (args:= [.int .i64 n]) (bB [(0,.int .i64 n)] ⟨rfl,trivial⟩ (sr (mv 1 rfl (a0 (sr (dN rfl rfl (k:=1) (e:=65) [.int .u64 1] (fun _=>by kernel_rfl) fun g1 v2 nb3=>?_))))))
 have o4:=O1.mk_ (x:=1) (b:=w.heap.size) nb3 (Ext.refl w).size
 have e5:=nb3.ext
 have hw1:=(Ext.refl w).trans e5
 have o7:=i6 o4 (show 1≤18446744073709551615 by decide) (show 1≠0 by decide)
 have j6:=gP (show 1≤18446744073709551615 by decide) (show 1≠0 by decide)
 refine mv 1 rfl (a0 (aA (bM ?_)))
 refine dS (T:=a6×Nat×Nat×Option aC×Nat×Nat)
  (fun⟨wr,k,Y,YA,yn,yc⟩=> [(0,.int .i64 k),(3,.slice YA yn yc)])
  (fun⟨wr,k,Y,YA,yn,yc⟩=>wr)
  (fun⟨wr,k,Y,YA,yn,yc⟩=>(Ext w wr)∧(Y*10^k=10^n)∧(k≤n)∧(yn=(wd Y).length)∧(Own wr w.heap.size 65 1 YA yn yc ((wd Y).map b8)))
  (fun⟨wr,k,Y,YA,yn,yc⟩=>k)
  (⟨v2,n,1,(some ⟨g1,0,none⟩),1,1⟩:a6×Nat×Nat×Option aC×Nat×Nat) ⟨hw1,(by rw [Nat.one_mul]),(aZ _),j6,o7⟩ rfl ⟨rfl,rfl,trivial⟩ ?_
 rintro⟨wr,k,Y,YA,yn,yc⟩ ⟨hw1,hI,hk,hYn,hYo⟩
 refine cM [(0,.int .i64 k),(3,.slice YA yn yc)] wr rfl ⟨rfl,rfl,trivial⟩ ?_
 have hYK:=aK (gN (F2 hI)) (jS (n:=n))
 refine aA (aA ?_)
 by_cases hkp:k≥18
 · 
  refine a8 (mv 1 rfl (aB rfl rfl rfl true (eI (a:=k) (b:=18) rfl rfl) (a0 (aM rfl (aN (aE (bM (sr (mv 1 rfl (cl (vs:= [.slice YA yn yc,.int .u64 1000000000000000000]) hw1 (GT (v:=1000000000000000000) hw1.size hYo.wi (by omega) (by decide) (by decide)) rfl (by kernel_rfl) fun xr10 v8 r10 e9 hw2=>?_))))))))))
  obtain⟨A11,n11,c11,rfl,j11,o11⟩:=r10
  refine mv 1 rfl (a0 (a8 (mv 1 rfl (aD rfl rfl rfl ((k-18:Nat):Int) (eT (a:=k) (b:=18) rfl rfl) (mv 1 rfl (aR (cE (cU (⟨v8,k-18,Y*1000000000000000000,A11,n11,c11⟩:a6×Nat×Nat×Option aC×Nat×Nat) ⟨hw2,(ON hI hkp),(by omega),j11,o11⟩ (show k-18<k by omega) rfl ⟨rfl,rfl,trivial⟩))))))))
 · 
  refine a8 (mv 1 rfl (aB rfl rfl rfl false (iD (a:=k) (b:=18) rfl rfl) (a0 (aH rfl (dB (d7 (d9 (dA (aE (aA (bM ?_)))))))))))
  refine dS (T:=a6×Nat×Nat×Option aC×Nat×Nat)
   (fun⟨wr,k,Y,YA,yn,yc⟩=> [(0,.int .i64 k),(3,.slice YA yn yc)])
   (fun⟨wr,k,Y,YA,yn,yc⟩=>wr)
   (fun⟨wr,k,Y,YA,yn,yc⟩=>(Ext w wr)∧(Y*10^k=10^n)∧(k≤n)∧(yn=(wd Y).length)∧(Own wr w.heap.size 65 1 YA yn yc ((wd Y).map b8))∧(k<18))
   (fun⟨wr,k,Y,YA,yn,yc⟩=>k)
   (⟨wr,k,Y,YA,yn,yc⟩:a6×Nat×Nat×Option aC×Nat×Nat) ⟨hw1,hI,hk,hYn,hYo,(by omega)⟩ rfl ⟨rfl,rfl,trivial⟩ ?_
  rintro⟨wr,k,Y,YA,yn,yc⟩ ⟨hw1,hI,hk,hYn,hYo,hk18⟩
  refine cM [(0,.int .i64 k),(3,.slice YA yn yc)] wr rfl ⟨rfl,rfl,trivial⟩ ?_
  have hYK:=aK (gN (F2 hI)) (jS (n:=n))
  refine aA (aA ?_)
  by_cases hkp:k>0
  · 
   refine a8 (mv 1 rfl (aB rfl rfl rfl true (dC (a:=k) (b:=0) rfl rfl) (a0 (aM rfl (aN (aE (bM (sr (mv 1 rfl (cl (vs:= [.slice YA yn yc,.int .u64 10]) hw1 (GT (v:=10) hw1.size hYo.wi (by omega) (by decide) (by decide)) rfl (by kernel_rfl) fun xr14 v12 r14 e13 hw2=>?_))))))))))
   obtain⟨A15,n15,c15,rfl,j15,o15⟩:=r14
   refine mv 1 rfl (a0 (a8 (mv 1 rfl (aD rfl rfl rfl ((k-1:Nat):Int) (eT (a:=k) (b:=1) rfl rfl) (mv 1 rfl (aR (cE (cU (⟨v12,k-1,Y*10,A15,n15,c15⟩:a6×Nat×Nat×Option aC×Nat×Nat) ⟨hw2,(OO hI hkp),(by omega),j15,o15,(by omega)⟩ (show k-1<k by omega) rfl ⟨rfl,rfl,trivial⟩))))))))
  · 
   refine a8 (mv 1 rfl (aB rfl rfl rfl false (cW (a:=k) (b:=0) rfl rfl) (a0 (aH rfl (dB (d7 (d9 (dA (aE (sr (mv 2 rfl (a0 (aJ ?_)))))))))))))
   refine aI [.slice YA yn yc] rfl ⟨rfl,trivial⟩ ?_
   have e0:k=0:=by omega
   subst e0
   rw [Nat.pow_zero,cQ] at hI
   subst hI
   exact⟨_,rfl,⟨_,_,_,rfl,hYn,(hYo).mono hb⟩,hw1⟩
def C0 (l:List Nat):Bool:=decide (l.getD 0 0=45∨l.getD 0 0=43)
theorem uU (h:l.getD i 0=45∨l.getD i 0=43):C0 (l.drop i)=true:=decide_eq_true (by rw [gV,dH];exact h)
theorem uV (h:¬(l.getD i 0=45∨l.getD i 0=43)):C0 (l.drop i)=false:=decide_eq_false (by rw [gV,dH];exact h)
set_option maxHeartbeats 4000000 in
theorem pJ {w:a6}{r:Nat}(hbs:∀b,b∈bs→b<256)(hlen:bs.length≤1073741824)(hr:r=rn (bs.drop i))(hi:i≤bs.length:=by omega):
    aL aF 249 #[.string (a7 bs),.int .i64 i] w (Gv w (Is (.int .i64 r))):=by
 refine bL Tryz.func249 rfl (n:=31) rfl (bq rfl) (args:= [.string (a7 bs),.int .i64 i]) (bB [(0,.string (a7 bs)),(1,.int .i64 i)] ⟨rfl,rfl,trivial⟩ (sr (mv 1 rfl (a0 (sr (mv 1 rfl (a0 (aA (bM ?_)))))))))
 refine dS (T:=a6×Nat)
  (fun⟨wr,m⟩=> [(0,.string (a7 bs)),(1,.int .i64 i),(5,.int .i64 m)])
  (fun⟨wr,m⟩=>wr)
  (fun⟨wr,m⟩=>(Ext w wr)∧(i+m≤bs.length)∧(∀j,j<m→48≤(bs.drop i).getD j 0∧(bs.drop i).getD j 0≤57))
  (fun⟨wr,m⟩=>bs.length-m)
  (⟨w,0⟩:a6×Nat) ⟨(Ext.refl w),(by omega),(fun j hj=>absurd hj (Nat.not_lt_zero _))⟩ rfl ⟨rfl,rfl,rfl,trivial⟩ ?_
 rintro⟨wr,m⟩ ⟨hw1,hm,hd⟩
 refine cM [(0,.string (a7 bs)),(1,.int .i64 i),(5,.int .i64 m)] wr rfl ⟨rfl,rfl,rfl,trivial⟩ (aA (aA ?_))
 by_cases hlt:i+m<bs.length
 · 
  have hc255:bs.getD (i+m) 0<256:=hbs _ (iS hlt)
  by_cases hc1:bs.getD (i+m) 0≥48
  · 
   by_cases hc2:bs.getD (i+m) 0≤57
   · 
    refine a8 (mv 2 rfl (aD rfl rfl rfl ((i+m:Nat):Int) (bF (a:=i) (b:=m) rfl rfl) (mv 1 rfl (bA rfl rfl (v:= .int .i64 (((a7 bs).size:Nat):Int)) (v':= .int .i64 ((bs.length:Nat):Int)) (by rw [cI]) (aB rfl rfl rfl true (dV (a:=i+m) (b:=bs.length) rfl rfl) (mv 4 rfl (aD rfl rfl rfl ((i+m:Nat):Int) (bF (a:=i) (b:=m) rfl rfl) (dD (bs:=bs) (i:=i+m) rfl rfl rfl Tryz.underlying9 hbs (aB rfl rfl rfl true (eI (a:=bs.getD (i+m) 0) (b:=48) rfl rfl) (pu (v:= .bool true) rfl (mv 4 rfl (aD rfl rfl rfl ((i+m:Nat):Int) (bF (a:=i) (b:=m) rfl rfl) (dD (bs:=bs) (i:=i+m) rfl rfl rfl Tryz.underlying9 hbs ?_)))))))))))))
    refine aB rfl rfl rfl true (lO (a:=bs.getD (i+m) 0) (b:=57) rfl rfl) (pu (v:= .bool true) rfl (a0 (aM rfl (aN (aE (bM (a8 (mv 1 rfl (aD rfl rfl rfl ((m+1:Nat):Int) (bF (a:=m) (b:=1) rfl rfl) (mv 1 rfl (aR (cE (cU (⟨wr,m+1⟩:a6×Nat) ⟨hw1,(by omega),(fun j hj=>by by_cases e:j=m;(· subst e;rw [gV];exact⟨hc1,hc2⟩);(· exact hd j (by omega)))⟩ (show bs.length-(m+1)<bs.length-m by omega) rfl ⟨rfl,rfl,rfl,trivial⟩)))))))))))))
   · 
    refine a8 (mv 2 rfl (aD rfl rfl rfl ((i+m:Nat):Int) (bF (a:=i) (b:=m) rfl rfl) (mv 1 rfl (bA rfl rfl (v:= .int .i64 (((a7 bs).size:Nat):Int)) (v':= .int .i64 ((bs.length:Nat):Int)) (by rw [cI]) (aB rfl rfl rfl true (dV (a:=i+m) (b:=bs.length) rfl rfl) (mv 4 rfl (aD rfl rfl rfl ((i+m:Nat):Int) (bF (a:=i) (b:=m) rfl rfl) (dD (bs:=bs) (i:=i+m) rfl rfl rfl Tryz.underlying9 hbs (aB rfl rfl rfl true (eI (a:=bs.getD (i+m) 0) (b:=48) rfl rfl) (pu (v:= .bool true) rfl (mv 4 rfl (aD rfl rfl rfl ((i+m:Nat):Int) (bF (a:=i) (b:=m) rfl rfl) (dD (bs:=bs) (i:=i+m) rfl rfl rfl Tryz.underlying9 hbs ?_)))))))))))))
    refine aB rfl rfl rfl false (lP (a:=bs.getD (i+m) 0) (b:=57) rfl rfl) (pu (v:= .bool false) rfl (a0 (aH rfl (dB (d7 (d9 (dA (aE (sr (mv 2 rfl (a0 (aJ (aI [.int .i64 m] rfl ⟨rfl,trivial⟩ ?_)))))))))))))
    exact⟨_,rfl,(show bQ .i64 _=_ by rw [hr,s8 hd (fun h=>hc2 (by rw [gV] at h;exact h.2))]),hw1⟩
  · 
   refine a8 (mv 2 rfl (aD rfl rfl rfl ((i+m:Nat):Int) (bF (a:=i) (b:=m) rfl rfl) (mv 1 rfl (bA rfl rfl (v:= .int .i64 (((a7 bs).size:Nat):Int)) (v':= .int .i64 ((bs.length:Nat):Int)) (by rw [cI]) (aB rfl rfl rfl true (dV (a:=i+m) (b:=bs.length) rfl rfl) (mv 4 rfl (aD rfl rfl rfl ((i+m:Nat):Int) (bF (a:=i) (b:=m) rfl rfl) (dD (bs:=bs) (i:=i+m) rfl rfl rfl Tryz.underlying9 hbs (aB rfl rfl rfl false (iD (a:=bs.getD (i+m) 0) (b:=48) rfl rfl) (pu (v:= .bool false) rfl (mv 7 rfl (pu (v:= .bool false) rfl (aR ?_)))))))))))))
   refine aE (aH rfl (dB (d7 (d9 (dA (aE (sr (mv 2 rfl (a0 (aJ (aI [.int .i64 m] rfl ⟨rfl,trivial⟩ ?_)))))))))))
   exact⟨_,rfl,(show bQ .i64 _=_ by rw [hr,s8 hd (fun h=>hc1 (by rw [gV] at h;exact h.1))]),hw1⟩
 · 
  refine a8 (mv 2 rfl (aD rfl rfl rfl ((i+m:Nat):Int) (bF (a:=i) (b:=m) rfl rfl) (mv 1 rfl (bA rfl rfl (v:= .int .i64 (((a7 bs).size:Nat):Int)) (v':= .int .i64 ((bs.length:Nat):Int)) (by rw [cI]) (aB rfl rfl rfl false (dP (a:=i+m) (b:=bs.length) rfl rfl) (mv 7 rfl (pu (v:= .bool false) rfl (mv 7 rfl (pu (v:= .bool false) rfl (a0 (aH rfl (dB (d7 ?_)))))))))))))
  refine d9 (dA (aE (sr (mv 2 rfl (a0 (aJ (aI [.int .i64 m] rfl ⟨rfl,trivial⟩ ?_)))))))
  exact⟨_,rfl,(show bQ .i64 _=_ by rw [hr,s8 hd (by rw [gV,sN];decide)]),hw1⟩
set_option maxHeartbeats 4000000 in
theorem sC {w:a6}(hbs:∀b,b∈bs→b<256)(_hlen:bs.length≤1073741824)(hs:s=C0 (bs.drop i))(hi:i≤bs.length:=by omega):
    aL aF 248 #[.string (a7 bs),.int .i64 i] w (Gv w (Is (.bool s))):=by
 refine bL Tryz.func248 rfl (n:=21) rfl (bq rfl) (args:= [.string (a7 bs),.int .i64 i]) (bB [(0,.string (a7 bs)),(1,.int .i64 i)] ⟨rfl,rfl,trivial⟩ (sr (mv 1 rfl (a0 (aA ?_)))))
 by_cases hlt:i<bs.length
 · 
  have hc255:bs.getD i 0<256:=hbs _ (iS hlt)
  by_cases h45:bs.getD i 0=45
  · 
   refine a8 (mv 2 rfl (bA rfl rfl (v:= .int .i64 (((a7 bs).size:Nat):Int)) (v':= .int .i64 ((bs.length:Nat):Int)) (by rw [cI]) (aB rfl rfl rfl true (dV (a:=i) (b:=bs.length) rfl rfl) (mv 3 rfl (dD (bs:=bs) (i:=i) rfl rfl rfl Tryz.underlying9 hbs (aB rfl rfl rfl true (cZ (a:=bs.getD i 0) (b:=45) rfl rfl) (mv 5 rfl (pu (v:= .bool true) rfl (pu (v:= .bool true) rfl (mv 1 rfl (a0 (aJ (aI [.bool true] rfl ⟨rfl,trivial⟩ ?_)))))))))))))
   exact⟨_,rfl,(show Value.bool true=_ by rw [hs,uU (cH h45)]),(Ext.refl w)⟩
  · 
   by_cases h43:bs.getD i 0=43
   · 
    refine a8 (mv 2 rfl (bA rfl rfl (v:= .int .i64 (((a7 bs).size:Nat):Int)) (v':= .int .i64 ((bs.length:Nat):Int)) (by rw [cI]) (aB rfl rfl rfl true (dV (a:=i) (b:=bs.length) rfl rfl) (mv 3 rfl (dD (bs:=bs) (i:=i) rfl rfl rfl Tryz.underlying9 hbs (aB rfl rfl rfl false (d4 (a:=bs.getD i 0) (b:=45) rfl rfl) (mv 3 rfl (dD (bs:=bs) (i:=i) rfl rfl rfl Tryz.underlying9 hbs (aB rfl rfl rfl true (cZ (a:=bs.getD i 0) (b:=43) rfl rfl) (pu (v:= .bool true) rfl (pu (v:= .bool true) rfl (mv 1 rfl (aR ?_)))))))))))))
    refine aE (aJ (aI [.bool true] rfl ⟨rfl,trivial⟩ ?_))
    exact⟨_,rfl,(show Value.bool true=_ by rw [hs,uU (bV h43)]),(Ext.refl w)⟩
   · 
    refine a8 (mv 2 rfl (bA rfl rfl (v:= .int .i64 (((a7 bs).size:Nat):Int)) (v':= .int .i64 ((bs.length:Nat):Int)) (by rw [cI]) (aB rfl rfl rfl true (dV (a:=i) (b:=bs.length) rfl rfl) (mv 3 rfl (dD (bs:=bs) (i:=i) rfl rfl rfl Tryz.underlying9 hbs (aB rfl rfl rfl false (d4 (a:=bs.getD i 0) (b:=45) rfl rfl) (mv 3 rfl (dD (bs:=bs) (i:=i) rfl rfl rfl Tryz.underlying9 hbs (aB rfl rfl rfl false (d4 (a:=bs.getD i 0) (b:=43) rfl rfl) (pu (v:= .bool false) rfl (pu (v:= .bool false) rfl (mv 1 rfl (aR ?_)))))))))))))
    refine aE (aJ (aI [F0] rfl ⟨rfl,trivial⟩ ?_))
    exact⟨_,rfl,(show Value.bool false=_ by rw [hs,uV (fun h=>h.elim h45 h43)]),(Ext.refl w)⟩
 · 
  refine a8 (mv 2 rfl (bA rfl rfl (v:= .int .i64 (((a7 bs).size:Nat):Int)) (v':= .int .i64 ((bs.length:Nat):Int)) (by rw [cI]) (aB rfl rfl rfl false (dP (a:=i) (b:=bs.length) rfl rfl) (mv 11 rfl (pu (v:= .bool false) rfl (mv 1 rfl (a0 (aJ (aI [F0] rfl ⟨rfl,trivial⟩ ?_)))))))))
  exact⟨_,rfl,(show Value.bool false=_ by rw [hs,uV (by rw [sN];decide)]),(Ext.refl w)⟩
def m8 (l:List Nat):List Nat:=if l= [] then [48] else l
def CutR7 (bs:List Nat)(v:aG)(_:a6):Prop:=match fK bs with
 | none=>∃(ng:Bool) (dg:List Nat) (bh:Nat) (dn:Bool) (ex:List Nat),v= .tuple #[.bool ng,.string (a7 dg),.int .i64 bh,.bool dn,.string (a7 ex),.bool false]
 | some x=>v= .tuple #[.bool (aT bs),.string (a7 x.1),.int .i64 ((x.2.1:Nat):Int),.bool x.2.2.1,.string (a7 (m8 x.2.2.2)),.bool true]
theorem CutR7.none_ (ng:Bool)(dg:List Nat)(bh:Nat)(dn:Bool)(ex:List Nat){w:a6}(h:fK bs=none):CutR7 bs (.tuple #[.bool ng,.string (a7 dg),.int .i64 bh,.bool dn,.string (a7 ex),.bool false]) w:=by unfold CutR7;rw [h];exact⟨_,_,_,_,_,rfl⟩
theorem CutR7.some_ {x:List Nat×Nat×Bool×List Nat}{v:aG}{w:a6}(h:fK bs=some x)(hv:v= .tuple #[.bool (aT bs),.string (a7 x.1),.int .i64 ((x.2.1:Nat):Int),.bool x.2.2.1,.string (a7 (m8 x.2.2.2)),.bool true]):CutR7 bs v w:=by unfold CutR7;rw [h];exact hv
theorem CX (h:l.getD i 0≠0:=by omega):i<l.length:=Nat.lt_of_not_le fun hc=>h (sN (h:=hc))
theorem Z9 (hrs:eP bs=bs.drop i0)(h:rn (bs.drop i0)=0):fK bs=none:=by unfold fK;rw [hrs,if_pos h]
theorem yK:(l.take (i+n)).drop i=(l.drop i).take n:=by rw [List.drop_take,Nat.add_sub_cancel_left]
theorem ZD (hrs:eP bs=bs.drop i0)(hn:n=rn (bs.drop i0))(h:n≠0):fK bs=(lC (bs.drop (i0+n))).map fun x=>((bs.take (i0+n)).drop i0++x.1,x.2.1,x.2.2.1,x.2.2.2):=by
 unfold fK;rw [hrs,←hn,if_neg h,List.drop_drop,yK]
theorem LD {dg:List Nat}(hD:fK bs=(lC (bs.drop i1)).map fun x=>(dg++x.1,x.2.1,x.2.2.1,x.2.2.2))(h:bs.getD i1 0≠46):fK bs=(jB (bs.drop i1)).map fun x=>(dg,0,x.1,x.2):=by
 rw [hD,YQ (by rw [gV,dH];exact h),CS]
theorem ZA {dg:List Nat}(hD:fK bs=(lC (bs.drop i1)).map fun x=>(dg++x.1,x.2.1,x.2.2.1,x.2.2.2))(h:bs.getD i1 0=46)(h0:rn (bs.drop (i1+1))=0):fK bs=none:=by
 rw [hD];unfold lC;rw [if_pos (by rw [gV,dH];exact h),List.drop_drop,if_pos h0];rfl
theorem ZB {dg:List Nat}(hD:fK bs=(lC (bs.drop i1)).map fun x=>(dg++x.1,x.2.1,x.2.2.1,x.2.2.2))(h:bs.getD i1 0=46)(hm:m=rn (bs.drop (i1+1)))(h0:m≠0):fK bs=(jB (bs.drop (i1+1+m))).map fun x=>(dg++(bs.take (i1+1+m)).drop (i1+1),m,x.1,x.2):=by
 rw [hD];unfold lC
 rw [if_pos (by rw [gV,dH];exact h),List.drop_drop,←hm,if_neg h0,KS,List.drop_drop,show i1+(m+1)=i1+1+m by omega,yK,List.drop_take,jZ,List.drop_drop]
def zB (bs:List Nat)(i2 i4:Nat)(dn:Bool)(ex:List Nat):Prop:=(i4=bs.length∧ex≠ []∧∃pw,jB (bs.drop i2)=some (dn,pw)∧ex=m8 pw)∨(¬(i4=bs.length∧ex≠ [])∧jB (bs.drop i2)=none)
theorem K5 (hi:i2≤bs.length)(h:¬(bs.getD i2 0=101∨bs.getD i2 0=69)):zB bs i2 i2 false [48]:=by
 have e:¬((bs.drop i2).getD 0 0=101∨(bs.drop i2).getD 0 0=69):=by rw [gV,dH];exact h
 by_cases hl:i2=bs.length
 ·refine cH ⟨hl,by decide,[],?_,rfl⟩
  unfold jB;rw [if_neg e,if_pos (List.drop_eq_nil_iff.2 (by omega))]
 ·refine bV ⟨fun h=>hl h.1,?_⟩
  unfold jB;rw [if_neg e,if_neg (fun h=>by have:=List.drop_eq_nil_iff.1 h;omega)]
theorem sQ {i3:Nat}(h:bs.getD i2 0=101∨bs.getD i2 0=69)(hr:eP (bs.drop (i2+1))=bs.drop i3)(hd:dn=aT (bs.drop (i2+1)))(hm:m=rn (bs.drop i3))(hi:i3+m≤bs.length:=by omega):zB bs i2 (i3+m) dn ((bs.take (i3+m)).drop i3):=by
 have e:(bs.drop i2).getD 0 0=101∨(bs.drop i2).getD 0 0=69:=by rw [gV,dH];exact h
 have hx:((bs.take (i3+m)).drop i3≠ [])↔m≠0:=by
  rw [yK]
  constructor
  ·intro h1 h2;exact h1 (by rw [h2,List.take_zero])
  ·intro h1 h2
   have:=congrArg List.length h2
   rw [bK,cO] at this
   simp at this;omega
 have hc:jB (bs.drop i2)=if m=0 then none else if bs.drop (i3+m)= [] then some (dn,(bs.take (i3+m)).drop i3) else none:=by
  unfold jB
  rw [if_pos e,List.drop_drop,hr,←hm,List.drop_drop,←hd,yK]
 unfold zB
 rw [hx,hc]
 by_cases h0:m=0
 ·exact bV ⟨fun h=>h.2 h0,if_pos h0⟩
 ·by_cases hl:i3+m=bs.length
  ·refine cH ⟨hl,h0,_,by rw [if_neg h0,if_pos (List.drop_eq_nil_iff.2 (by omega))],?_⟩
   unfold m8;rw [if_neg (hx.2 h0)]
  ·exact bV ⟨fun h=>hl h.1,by rw [if_neg h0,if_neg (fun h=>by have:=List.drop_eq_nil_iff.1 h;omega)]⟩
set_option maxHeartbeats 8000000 in
theorem GU {w:a6}(hbs:∀b,b∈bs→b<256)(hlen:bs.length≤1073741824):
  aL aF 209 #[.string (a7 bs)] w (Gv w (CutR7 bs)):=by
 refine bL Tryz.func209 rfl (n:=111) rfl (bq rfl) (args:= [.string (a7 bs)]) (bB [(0,.string (a7 bs))] ⟨rfl,trivial⟩ (sr (mv 6 rfl (a0 (sr (mv 1 rfl (a0 (gR (T:=a6×Bool×Nat) (fun⟨wr,ng,i0⟩=> [(0,.string (a7 bs)),(2,.bool ng),(4,.int .i64 0),(5,.bool false),(8,.int .i64 i0)]) (fun⟨wr,ng,i0⟩=>wr) (fun⟨wr,ng,i0⟩=>(Ext w wr)∧(ng=aT bs)∧(i0≤bs.length)∧(eP bs=bs.drop i0)) ?_ ?_))))))))
 ·
  refine aA ?_
  by_cases hsa:bs.getD 0 0=45∨bs.getD 0 0=43
  ·
   have hla:0<bs.length:=CX
   have hca:bs.getD 0 0<256:=hbs _ (iS hla)
   refine a8 (mv 1 rfl (cl (vs:= [.string (a7 bs),I0]) (Ext.refl w) (sC (i:=0) hbs hlen (uU hsa).symm) rfl (by kernel_rfl) fun xr3 v1 r3 e2 hw1=>?_))
   obtain rfl:=r3
   refine a0 (aM rfl (aA ?_))
   by_cases h45:bs.getD 0 0=45
   ·
    refine a8 (mv 1 rfl (dD (bs:=bs) (i:=0) rfl rfl rfl Tryz.underlying9 hbs (aB rfl rfl rfl true (cZ (a:=bs.getD 0 0) (b:=45) rfl rfl) (mv 1 rfl (a0 (a8 (mv 1 rfl (aR (d5 (⟨v1,true,1⟩:a6×Bool×Nat) ⟨hw1,(by unfold aT;rw [decide_eq_true h45]),(by omega),(by unfold eP;rw [if_pos hsa])⟩ rfl ⟨rfl,rfl,rfl,rfl,rfl,trivial⟩)))))))))
   ·
    refine a8 (mv 1 rfl (dD (bs:=bs) (i:=0) rfl rfl rfl Tryz.underlying9 hbs (aB rfl rfl rfl false (d4 (a:=bs.getD 0 0) (b:=45) rfl rfl) (mv 1 rfl (a0 (a8 (mv 1 rfl (aR (d5 (⟨v1,false,1⟩:a6×Bool×Nat) ⟨hw1,(by unfold aT;rw [decide_eq_false h45]),(by omega),(by unfold eP;rw [if_pos hsa])⟩ rfl ⟨rfl,rfl,rfl,rfl,rfl,trivial⟩)))))))))
  ·
   refine a8 (mv 1 rfl (cl (vs:= [.string (a7 bs),I0]) (Ext.refl w) (sC (i:=0) hbs hlen (uV hsa).symm) rfl (by kernel_rfl) fun xr6 v4 r6 e5 hw1=>?_))
   obtain rfl:=r6
   refine a0 (aH rfl (aN (d5 (⟨v4,false,0⟩:a6×Bool×Nat) ⟨hw1,(by unfold aT;rw [decide_eq_false (by omega)]),(bZ _),(by unfold eP;rw [if_neg hsa];rfl)⟩ rfl ⟨rfl,rfl,rfl,rfl,rfl,trivial⟩)))
 ·
  rintro⟨wr,ng,i0⟩ ⟨hw1,hng,hi0,hrs⟩
  refine cM [(0,.string (a7 bs)),(2,.bool ng),(4,.int .i64 0),(5,.bool false),(8,.int .i64 i0)] wr rfl ⟨rfl,rfl,rfl,rfl,rfl,trivial⟩ (sr (mv 2 rfl ?_))
  obtain⟨n1,hn1⟩:∃r,r=rn (bs.drop i0):=⟨_,rfl⟩
  have hn1l:i0+n1≤bs.length:=by have h:=k7 (bs.drop i0);rw [cO] at h;omega
  refine cl (vs:= [.string (a7 bs),.int .i64 i0]) hw1 (pJ (i:=i0) hbs hlen hn1) rfl (by kernel_rfl) fun xr9 v7 r9 e8 hw2=>?_
  obtain rfl:=r9
  refine mv 1 rfl (a0 (aA (aA ?_)))
  by_cases hn0:n1=0
  ·
   refine a8 (mv 1 rfl (aB rfl rfl rfl true (cZ (a:=n1) (b:=0) rfl rfl) (a0 (aM rfl (sr (mv 6 rfl (a0 (aJ (bJ (aI [F0,.string (a7 ([])),I0,F0,.string (a7 ([])),F0] rfl ⟨rfl,rfl,rfl,rfl,rfl,rfl,trivial⟩ ?_))))))))))
   exact⟨_,rfl,CutR7.none_ _ _ _ _ _ (Z9 hrs (by rw [←hn1];exact hn0)),hw2⟩
  ·
   refine a8 (mv 1 rfl (aB rfl rfl rfl false (d4 (a:=n1) (b:=0) rfl rfl) (a0 (aH rfl (aN (aE (sr (mv 4 rfl (aD rfl rfl rfl ((i0+n1:Nat):Int) (bF (a:=i0) (b:=n1) rfl rfl) (nU (bs:=bs) (i:=i0) (j:=i0+n1) rfl rfl rfl rfl Tryz.underlying9 (mv 1 rfl (a0 (aA ?_)))))))))))))
   refine a8 (mv 2 rfl (aD rfl rfl rfl ((i0+n1:Nat):Int) (bF (a:=i0) (b:=n1) rfl rfl) (mv 1 rfl (a0 (gR (T:=a6×List Nat×Nat×Nat) (fun⟨wr,dg,bh,i2⟩=> [(0,.string (a7 bs)),(2,.bool ng),(3,.string (a7 dg)),(4,.int .i64 bh),(5,.bool false),(8,.int .i64 i2)]) (fun⟨wr,dg,bh,i2⟩=>wr) (fun⟨wr,dg,bh,i2⟩=>(Ext w wr)∧(i2≤bs.length)∧(fK bs=(jB (bs.drop i2)).map fun x=>(dg,bh,x.1,x.2))) ?_ ?_)))))
   ·
    refine aA ?_
    have hD:=ZD hrs hn1 hn0
    by_cases hlt1:i0+n1<bs.length
    ·
     have hc10:bs.getD (i0+n1) 0<256:=hbs _ (iS hlt1)
     by_cases hnd:bs.getD (i0+n1) 0=46
     ·
      refine a8 (mv 2 rfl (bA rfl rfl (v:= .int .i64 (((a7 bs).size:Nat):Int)) (v':= .int .i64 ((bs.length:Nat):Int)) (by rw [cI]) (aB rfl rfl rfl true (dV (a:=i0+n1) (b:=bs.length) rfl rfl) (mv 3 rfl (dD (bs:=bs) (i:=i0+n1) rfl rfl rfl Tryz.underlying9 hbs (aB rfl rfl rfl true (cZ (a:=bs.getD (i0+n1) 0) (b:=46) rfl rfl) (pu (v:= .bool true) rfl (a0 (aM rfl (sr (mv 2 rfl (aD rfl rfl rfl (((i0+n1)+1:Nat):Int) (bF (a:=i0+n1) (b:=1) rfl rfl) ?_))))))))))))
      obtain⟨n2,hn2⟩:∃r,r=rn (bs.drop ((i0+n1)+1)):=⟨_,rfl⟩
      have hn2l:((i0+n1)+1)+n2≤bs.length:=by have h:=k7 (bs.drop ((i0+n1)+1));rw [cO] at h;omega
      refine cl (vs:= [.string (a7 bs),.int .i64 (((i0+n1)+1:Nat):Int)]) hw2 (pJ (i:=(i0+n1)+1) hbs hlen hn2) rfl (by kernel_rfl) fun xr12 v10 r12 e11 hw3=>?_
      obtain rfl:=r12
      refine mv 1 rfl (a0 (aA (aA ?_)))
      by_cases hn20:n2=0
      ·
       refine a8 (mv 1 rfl (aB rfl rfl rfl true (cZ (a:=n2) (b:=0) rfl rfl) (a0 (aM rfl (sr (mv 6 rfl (a0 (aJ (bJ (K6 (aI [F0,.string (a7 ([])),I0,F0,.string (a7 ([])),F0] rfl ⟨rfl,rfl,rfl,rfl,rfl,rfl,trivial⟩ ?_)))))))))))
       exact⟨_,rfl,CutR7.none_ _ _ _ _ _ (ZA hD hnd (by rw [←hn2];exact hn20)),hw3⟩
      ·
       refine a8 (mv 1 rfl (aB rfl rfl rfl false (d4 (a:=n2) (b:=0) rfl rfl) (a0 (aH rfl (aN (aE (sr (mv 3 rfl (aD rfl rfl rfl (((i0+n1)+1:Nat):Int) (bF (a:=i0+n1) (b:=1) rfl rfl) (mv 1 rfl (aD rfl rfl rfl (((i0+n1)+1:Nat):Int) (bF (a:=i0+n1) (b:=1) rfl rfl) (mv 1 rfl (aD rfl rfl rfl ((((i0+n1)+1)+n2:Nat):Int) (bF (a:=(i0+n1)+1) (b:=n2) rfl rfl) ?_)))))))))))))
       refine nU (bs:=bs) (i:=(i0+n1)+1) (j:=((i0+n1)+1)+n2) rfl rfl rfl rfl Tryz.underlying9 (bO rfl rfl rfl (r:= .string (a7 (((bs.take (i0+n1)).drop i0)++((bs.take (((i0+n1)+1)+n2)).drop ((i0+n1)+1))))) rfl (fun w=>cX (a:=(bs.take (i0+n1)).drop i0) (b:=(bs.take (((i0+n1)+1)+n2)).drop ((i0+n1)+1)) (by simp only [cO,bK];omega)) (mv 1 rfl (a0 (a8 (mv 1 rfl (aD rfl rfl rfl (((i0+n1)+1:Nat):Int) (bF (a:=i0+n1) (b:=1) rfl rfl) (mv 1 rfl (aD rfl rfl rfl ((((i0+n1)+1)+n2:Nat):Int) (bF (a:=(i0+n1)+1) (b:=n2) rfl rfl) (mv 1 rfl (aR (d5 (⟨v10,((bs.take (i0+n1)).drop i0)++((bs.take (((i0+n1)+1)+n2)).drop ((i0+n1)+1)),n2,((i0+n1)+1)+n2⟩:a6×List Nat×Nat×Nat) ⟨hw3,(by omega),(ZB hD hnd hn2 hn20)⟩ rfl ⟨rfl,rfl,rfl,rfl,rfl,rfl,trivial⟩)))))))))))
     ·
      refine a8 (mv 2 rfl (bA rfl rfl (v:= .int .i64 (((a7 bs).size:Nat):Int)) (v':= .int .i64 ((bs.length:Nat):Int)) (by rw [cI]) (aB rfl rfl rfl true (dV (a:=i0+n1) (b:=bs.length) rfl rfl) (mv 3 rfl (dD (bs:=bs) (i:=i0+n1) rfl rfl rfl Tryz.underlying9 hbs (aB rfl rfl rfl false (d4 (a:=bs.getD (i0+n1) 0) (b:=46) rfl rfl) (pu (v:= .bool false) rfl (a0 (aH rfl (aN (d5 (⟨v7,(bs.take (i0+n1)).drop i0,0,i0+n1⟩:a6×List Nat×Nat×Nat) ⟨hw2,(by omega),(LD hD hnd)⟩ rfl ⟨rfl,rfl,rfl,rfl,rfl,rfl,trivial⟩)))))))))))
    ·
     have hnd:bs.getD (i0+n1) 0≠46:=by rw [sN];decide
     refine a8 (mv 2 rfl (bA rfl rfl (v:= .int .i64 (((a7 bs).size:Nat):Int)) (v':= .int .i64 ((bs.length:Nat):Int)) (by rw [cI]) (aB rfl rfl rfl false (dP (a:=i0+n1) (b:=bs.length) rfl rfl) (mv 5 rfl (pu (v:= .bool false) rfl (a0 (aH rfl (aN (d5 (⟨v7,(bs.take (i0+n1)).drop i0,0,i0+n1⟩:a6×List Nat×Nat×Nat) ⟨hw2,(by omega),(LD hD hnd)⟩ rfl ⟨rfl,rfl,rfl,rfl,rfl,rfl,trivial⟩)))))))))
   ·
    rintro⟨wr,dg,bh,i2⟩ ⟨hw1,hi2,hcf⟩
    refine cM [(0,.string (a7 bs)),(2,.bool ng),(3,.string (a7 dg)),(4,.int .i64 bh),(5,.bool false),(8,.int .i64 i2)] wr rfl ⟨rfl,rfl,rfl,rfl,rfl,rfl,trivial⟩ (sr (mv 1 rfl (a0 (gR (T:=a6×Bool×List Nat×Nat) (fun⟨wr,dn,ex,i4⟩=> [(0,.string (a7 bs)),(2,.bool ng),(3,.string (a7 dg)),(4,.int .i64 bh),(5,.bool dn),(6,.string (a7 ex)),(8,.int .i64 i4)]) (fun⟨wr,dn,ex,i4⟩=>wr) (fun⟨wr,dn,ex,i4⟩=>(Ext w wr)∧(i4≤bs.length)∧(zB bs i2 i4 dn ex)∧(∀x,x∈ex→x<256)) ?_ ?_))))
    ·
     refine aA ?_
     by_cases hlt2:i2<bs.length
     ·
      have hc17:bs.getD i2 0<256:=hbs _ (iS hlt2)
      by_cases h101:bs.getD i2 0=101
      ·
       have hee:bs.getD i2 0=101∨bs.getD i2 0=69:=cH h101
       refine a8 (mv 2 rfl (bA rfl rfl (v:= .int .i64 (((a7 bs).size:Nat):Int)) (v':= .int .i64 ((bs.length:Nat):Int)) (by rw [cI]) (aB rfl rfl rfl true (dV (a:=i2) (b:=bs.length) rfl rfl) (mv 3 rfl (dD (bs:=bs) (i:=i2) rfl rfl rfl Tryz.underlying9 hbs (aB rfl rfl rfl true (cZ (a:=bs.getD i2 0) (b:=101) rfl rfl) (mv 5 rfl (pu (v:= .bool true) rfl (pu (v:= .bool true) rfl (a0 (aM rfl (sr (mv 1 rfl ?_)))))))))))))
       refine aD rfl rfl rfl ((i2+1:Nat):Int) (bF (a:=i2) (b:=1) rfl rfl) (mv 1 rfl (a0 (aA (aA ?_))))
       by_cases hsb:bs.getD (i2+1) 0=45∨bs.getD (i2+1) 0=43
       ·
        have hlb:i2+1<bs.length:=CX
        have hcb:bs.getD (i2+1) 0<256:=hbs _ (iS hlb)
        refine a8 (mv 2 rfl (cl (vs:= [.string (a7 bs),.int .i64 ((i2+1:Nat):Int)]) hw1 (sC (i:=i2+1) hbs hlen (uU hsb).symm) rfl (by kernel_rfl) fun xr15 v13 r15 e14 hw2=>?_))
        obtain rfl:=r15
        refine a0 (aM rfl (aA ?_))
        by_cases h45b:bs.getD (i2+1) 0=45
        ·
         refine a8 (mv 2 rfl (dD (bs:=bs) (i:=i2+1) rfl rfl rfl Tryz.underlying9 hbs (aB rfl rfl rfl true (cZ (a:=bs.getD (i2+1) 0) (b:=45) rfl rfl) (mv 1 rfl (a0 (a8 (mv 1 rfl (aD rfl rfl rfl (((i2+1)+1:Nat):Int) (bF (a:=i2+1) (b:=1) rfl rfl) (mv 1 rfl (a0 (sr (mv 2 rfl ?_))))))))))))
         obtain⟨n3,hn3⟩:∃r,r=rn (bs.drop ((i2+1)+1)):=⟨_,rfl⟩
         have hn3l:((i2+1)+1)+n3≤bs.length:=by have h:=k7 (bs.drop ((i2+1)+1));rw [cO] at h;omega
         refine cl (vs:= [.string (a7 bs),.int .i64 (((i2+1)+1:Nat):Int)]) hw2 (pJ (i:=(i2+1)+1) hbs hlen hn3) rfl (by kernel_rfl) fun xr18 v16 r18 e17 hw3=>?_
         obtain rfl:=r18
         refine mv 1 rfl (a0 (sr (mv 4 rfl (aD rfl rfl rfl ((((i2+1)+1)+n3:Nat):Int) (bF (a:=(i2+1)+1) (b:=n3) rfl rfl) (nU (bs:=bs) (i:=(i2+1)+1) (j:=((i2+1)+1)+n3) rfl rfl rfl rfl Tryz.underlying9 (mv 1 rfl (a0 (a8 (mv 2 rfl (aD rfl rfl rfl ((((i2+1)+1)+n3:Nat):Int) (bF (a:=(i2+1)+1) (b:=n3) rfl rfl) (mv 1 rfl (aR (d5 (⟨v16,true,(bs.take (((i2+1)+1)+n3)).drop ((i2+1)+1),((i2+1)+1)+n3⟩:a6×Bool×List Nat×Nat) ⟨hw3,(by omega),(sQ hee (by unfold eP;rw [if_pos (by rw [gV,dH];exact hsb),List.drop_drop]) (by unfold aT;rw [gV,dH,decide_eq_true h45b]) hn3),(fun x hx=>hbs x (kW (gG hx)))⟩ rfl ⟨rfl,rfl,rfl,rfl,rfl,rfl,rfl,trivial⟩)))))))))))))
        ·
         refine a8 (mv 2 rfl (dD (bs:=bs) (i:=i2+1) rfl rfl rfl Tryz.underlying9 hbs (aB rfl rfl rfl false (d4 (a:=bs.getD (i2+1) 0) (b:=45) rfl rfl) (mv 1 rfl (a0 (a8 (mv 1 rfl (aD rfl rfl rfl (((i2+1)+1:Nat):Int) (bF (a:=i2+1) (b:=1) rfl rfl) (mv 1 rfl (a0 (sr (mv 2 rfl ?_))))))))))))
         obtain⟨n3,hn3⟩:∃r,r=rn (bs.drop ((i2+1)+1)):=⟨_,rfl⟩
         have hn3l:((i2+1)+1)+n3≤bs.length:=by have h:=k7 (bs.drop ((i2+1)+1));rw [cO] at h;omega
         refine cl (vs:= [.string (a7 bs),.int .i64 (((i2+1)+1:Nat):Int)]) hw2 (pJ (i:=(i2+1)+1) hbs hlen hn3) rfl (by kernel_rfl) fun xr21 v19 r21 e20 hw3=>?_
         obtain rfl:=r21
         refine mv 1 rfl (a0 (sr (mv 4 rfl (aD rfl rfl rfl ((((i2+1)+1)+n3:Nat):Int) (bF (a:=(i2+1)+1) (b:=n3) rfl rfl) (nU (bs:=bs) (i:=(i2+1)+1) (j:=((i2+1)+1)+n3) rfl rfl rfl rfl Tryz.underlying9 (mv 1 rfl (a0 (a8 (mv 2 rfl (aD rfl rfl rfl ((((i2+1)+1)+n3:Nat):Int) (bF (a:=(i2+1)+1) (b:=n3) rfl rfl) (mv 1 rfl (aR (d5 (⟨v19,false,(bs.take (((i2+1)+1)+n3)).drop ((i2+1)+1),((i2+1)+1)+n3⟩:a6×Bool×List Nat×Nat) ⟨hw3,(by omega),(sQ hee (by unfold eP;rw [if_pos (by rw [gV,dH];exact hsb),List.drop_drop]) (by unfold aT;rw [gV,dH,decide_eq_false h45b]) hn3),(fun x hx=>hbs x (kW (gG hx)))⟩ rfl ⟨rfl,rfl,rfl,rfl,rfl,rfl,rfl,trivial⟩)))))))))))))
       ·
        refine a8 (mv 2 rfl (cl (vs:= [.string (a7 bs),.int .i64 ((i2+1:Nat):Int)]) hw1 (sC (i:=i2+1) hbs hlen (uV hsb).symm) rfl (by kernel_rfl) fun xr24 v22 r24 e23 hw2=>?_))
        obtain rfl:=r24
        refine a0 (aH rfl (aN (aE (sr (mv 2 rfl ?_)))))
        obtain⟨n3,hn3⟩:∃r,r=rn (bs.drop (i2+1)):=⟨_,rfl⟩
        have hn3l:(i2+1)+n3≤bs.length:=by have h:=k7 (bs.drop (i2+1));rw [cO] at h;omega
        refine cl (vs:= [.string (a7 bs),.int .i64 ((i2+1:Nat):Int)]) hw2 (pJ (i:=i2+1) hbs hlen hn3) rfl (by kernel_rfl) fun xr27 v25 r27 e26 hw3=>?_
        obtain rfl:=r27
        refine mv 1 rfl (a0 (sr (mv 4 rfl (aD rfl rfl rfl (((i2+1)+n3:Nat):Int) (bF (a:=i2+1) (b:=n3) rfl rfl) (nU (bs:=bs) (i:=i2+1) (j:=(i2+1)+n3) rfl rfl rfl rfl Tryz.underlying9 (mv 1 rfl (a0 (a8 (mv 2 rfl (aD rfl rfl rfl (((i2+1)+n3:Nat):Int) (bF (a:=i2+1) (b:=n3) rfl rfl) (mv 1 rfl (aR (d5 (⟨v25,false,(bs.take ((i2+1)+n3)).drop (i2+1),(i2+1)+n3⟩:a6×Bool×List Nat×Nat) ⟨hw3,(by omega),(sQ hee (by unfold eP;rw [if_neg (by rw [gV,dH];exact hsb)]) (by unfold aT;rw [gV,dH,decide_eq_false (by omega)]) hn3),(fun x hx=>hbs x (kW (gG hx)))⟩ rfl ⟨rfl,rfl,rfl,rfl,rfl,rfl,rfl,trivial⟩)))))))))))))
      ·
       by_cases h69:bs.getD i2 0=69
       ·
        have hee:bs.getD i2 0=101∨bs.getD i2 0=69:=bV h69
        refine a8 (mv 2 rfl (bA rfl rfl (v:= .int .i64 (((a7 bs).size:Nat):Int)) (v':= .int .i64 ((bs.length:Nat):Int)) (by rw [cI]) (aB rfl rfl rfl true (dV (a:=i2) (b:=bs.length) rfl rfl) (mv 3 rfl (dD (bs:=bs) (i:=i2) rfl rfl rfl Tryz.underlying9 hbs (aB rfl rfl rfl false (d4 (a:=bs.getD i2 0) (b:=101) rfl rfl) (mv 3 rfl (dD (bs:=bs) (i:=i2) rfl rfl rfl Tryz.underlying9 hbs (aB rfl rfl rfl true (cZ (a:=bs.getD i2 0) (b:=69) rfl rfl) (pu (v:= .bool true) rfl (pu (v:= .bool true) rfl (a0 (aM rfl ?_)))))))))))))
        refine sr (mv 1 rfl (aD rfl rfl rfl ((i2+1:Nat):Int) (bF (a:=i2) (b:=1) rfl rfl) (mv 1 rfl (a0 (aA (aA ?_))))))
        by_cases hsb:bs.getD (i2+1) 0=45∨bs.getD (i2+1) 0=43
        ·
         have hlb:i2+1<bs.length:=CX
         have hcb:bs.getD (i2+1) 0<256:=hbs _ (iS hlb)
         refine a8 (mv 2 rfl (cl (vs:= [.string (a7 bs),.int .i64 ((i2+1:Nat):Int)]) hw1 (sC (i:=i2+1) hbs hlen (uU hsb).symm) rfl (by kernel_rfl) fun xr30 v28 r30 e29 hw2=>?_))
         obtain rfl:=r30
         refine a0 (aM rfl (aA ?_))
         by_cases h45b:bs.getD (i2+1) 0=45
         ·
          refine a8 (mv 2 rfl (dD (bs:=bs) (i:=i2+1) rfl rfl rfl Tryz.underlying9 hbs (aB rfl rfl rfl true (cZ (a:=bs.getD (i2+1) 0) (b:=45) rfl rfl) (mv 1 rfl (a0 (a8 (mv 1 rfl (aD rfl rfl rfl (((i2+1)+1:Nat):Int) (bF (a:=i2+1) (b:=1) rfl rfl) (mv 1 rfl (a0 (sr (mv 2 rfl ?_))))))))))))
          obtain⟨n3,hn3⟩:∃r,r=rn (bs.drop ((i2+1)+1)):=⟨_,rfl⟩
          have hn3l:((i2+1)+1)+n3≤bs.length:=by have h:=k7 (bs.drop ((i2+1)+1));rw [cO] at h;omega
          refine cl (vs:= [.string (a7 bs),.int .i64 (((i2+1)+1:Nat):Int)]) hw2 (pJ (i:=(i2+1)+1) hbs hlen hn3) rfl (by kernel_rfl) fun xr33 v31 r33 e32 hw3=>?_
          obtain rfl:=r33
          refine mv 1 rfl (a0 (sr (mv 4 rfl (aD rfl rfl rfl ((((i2+1)+1)+n3:Nat):Int) (bF (a:=(i2+1)+1) (b:=n3) rfl rfl) (nU (bs:=bs) (i:=(i2+1)+1) (j:=((i2+1)+1)+n3) rfl rfl rfl rfl Tryz.underlying9 (mv 1 rfl (a0 (a8 (mv 2 rfl (aD rfl rfl rfl ((((i2+1)+1)+n3:Nat):Int) (bF (a:=(i2+1)+1) (b:=n3) rfl rfl) (mv 1 rfl (aR (d5 (⟨v31,true,(bs.take (((i2+1)+1)+n3)).drop ((i2+1)+1),((i2+1)+1)+n3⟩:a6×Bool×List Nat×Nat) ⟨hw3,(by omega),(sQ hee (by unfold eP;rw [if_pos (by rw [gV,dH];exact hsb),List.drop_drop]) (by unfold aT;rw [gV,dH,decide_eq_true h45b]) hn3),(fun x hx=>hbs x (kW (gG hx)))⟩ rfl ⟨rfl,rfl,rfl,rfl,rfl,rfl,rfl,trivial⟩)))))))))))))
         ·
          refine a8 (mv 2 rfl (dD (bs:=bs) (i:=i2+1) rfl rfl rfl Tryz.underlying9 hbs (aB rfl rfl rfl false (d4 (a:=bs.getD (i2+1) 0) (b:=45) rfl rfl) (mv 1 rfl (a0 (a8 (mv 1 rfl (aD rfl rfl rfl (((i2+1)+1:Nat):Int) (bF (a:=i2+1) (b:=1) rfl rfl) (mv 1 rfl (a0 (sr (mv 2 rfl ?_))))))))))))
          obtain⟨n3,hn3⟩:∃r,r=rn (bs.drop ((i2+1)+1)):=⟨_,rfl⟩
          have hn3l:((i2+1)+1)+n3≤bs.length:=by have h:=k7 (bs.drop ((i2+1)+1));rw [cO] at h;omega
          refine cl (vs:= [.string (a7 bs),.int .i64 (((i2+1)+1:Nat):Int)]) hw2 (pJ (i:=(i2+1)+1) hbs hlen hn3) rfl (by kernel_rfl) fun xr36 v34 r36 e35 hw3=>?_
          obtain rfl:=r36
          refine mv 1 rfl (a0 (sr (mv 4 rfl (aD rfl rfl rfl ((((i2+1)+1)+n3:Nat):Int) (bF (a:=(i2+1)+1) (b:=n3) rfl rfl) (nU (bs:=bs) (i:=(i2+1)+1) (j:=((i2+1)+1)+n3) rfl rfl rfl rfl Tryz.underlying9 (mv 1 rfl (a0 (a8 (mv 2 rfl (aD rfl rfl rfl ((((i2+1)+1)+n3:Nat):Int) (bF (a:=(i2+1)+1) (b:=n3) rfl rfl) (mv 1 rfl (aR (d5 (⟨v34,false,(bs.take (((i2+1)+1)+n3)).drop ((i2+1)+1),((i2+1)+1)+n3⟩:a6×Bool×List Nat×Nat) ⟨hw3,(by omega),(sQ hee (by unfold eP;rw [if_pos (by rw [gV,dH];exact hsb),List.drop_drop]) (by unfold aT;rw [gV,dH,decide_eq_false h45b]) hn3),(fun x hx=>hbs x (kW (gG hx)))⟩ rfl ⟨rfl,rfl,rfl,rfl,rfl,rfl,rfl,trivial⟩)))))))))))))
        ·
         refine a8 (mv 2 rfl (cl (vs:= [.string (a7 bs),.int .i64 ((i2+1:Nat):Int)]) hw1 (sC (i:=i2+1) hbs hlen (uV hsb).symm) rfl (by kernel_rfl) fun xr39 v37 r39 e38 hw2=>?_))
         obtain rfl:=r39
         refine a0 (aH rfl (aN (aE (sr (mv 2 rfl ?_)))))
         obtain⟨n3,hn3⟩:∃r,r=rn (bs.drop (i2+1)):=⟨_,rfl⟩
         have hn3l:(i2+1)+n3≤bs.length:=by have h:=k7 (bs.drop (i2+1));rw [cO] at h;omega
         refine cl (vs:= [.string (a7 bs),.int .i64 ((i2+1:Nat):Int)]) hw2 (pJ (i:=i2+1) hbs hlen hn3) rfl (by kernel_rfl) fun xr42 v40 r42 e41 hw3=>?_
         obtain rfl:=r42
         refine mv 1 rfl (a0 (sr (mv 4 rfl (aD rfl rfl rfl (((i2+1)+n3:Nat):Int) (bF (a:=i2+1) (b:=n3) rfl rfl) (nU (bs:=bs) (i:=i2+1) (j:=(i2+1)+n3) rfl rfl rfl rfl Tryz.underlying9 (mv 1 rfl (a0 (a8 (mv 2 rfl (aD rfl rfl rfl (((i2+1)+n3:Nat):Int) (bF (a:=i2+1) (b:=n3) rfl rfl) (mv 1 rfl (aR (d5 (⟨v40,false,(bs.take ((i2+1)+n3)).drop (i2+1),(i2+1)+n3⟩:a6×Bool×List Nat×Nat) ⟨hw3,(by omega),(sQ hee (by unfold eP;rw [if_neg (by rw [gV,dH];exact hsb)]) (by unfold aT;rw [gV,dH,decide_eq_false (by omega)]) hn3),(fun x hx=>hbs x (kW (gG hx)))⟩ rfl ⟨rfl,rfl,rfl,rfl,rfl,rfl,rfl,trivial⟩)))))))))))))
       ·
        have hne:¬(bs.getD i2 0=101∨bs.getD i2 0=69):=fun h=>h.elim h101 h69
        refine a8 (mv 2 rfl (bA rfl rfl (v:= .int .i64 (((a7 bs).size:Nat):Int)) (v':= .int .i64 ((bs.length:Nat):Int)) (by rw [cI]) (aB rfl rfl rfl true (dV (a:=i2) (b:=bs.length) rfl rfl) (mv 3 rfl (dD (bs:=bs) (i:=i2) rfl rfl rfl Tryz.underlying9 hbs (aB rfl rfl rfl false (d4 (a:=bs.getD i2 0) (b:=101) rfl rfl) (mv 3 rfl (dD (bs:=bs) (i:=i2) rfl rfl rfl Tryz.underlying9 hbs (aB rfl rfl rfl false (d4 (a:=bs.getD i2 0) (b:=69) rfl rfl) (pu (v:= .bool false) rfl (pu (v:= .bool false) rfl (a0 (aH rfl ?_)))))))))))))
        refine aN (d5 (⟨wr,false,[48],i2⟩:a6×Bool×List Nat×Nat) ⟨hw1,(by omega),(K5 hi2 hne),(fun x hx=>by rw [iW] at hx;omega)⟩ rfl ⟨rfl,rfl,rfl,rfl,rfl,rfl,rfl,trivial⟩)
     ·
      have hne:¬(bs.getD i2 0=101∨bs.getD i2 0=69):=by rw [sN];decide
      refine a8 (mv 2 rfl (bA rfl rfl (v:= .int .i64 (((a7 bs).size:Nat):Int)) (v':= .int .i64 ((bs.length:Nat):Int)) (by rw [cI]) (aB rfl rfl rfl false (dP (a:=i2) (b:=bs.length) rfl rfl) (mv 11 rfl (pu (v:= .bool false) rfl (a0 (aH rfl (aN (d5 (⟨wr,false,[48],i2⟩:a6×Bool×List Nat×Nat) ⟨hw1,(by omega),(K5 hi2 hne),(fun x hx=>by rw [iW] at hx;omega)⟩ rfl ⟨rfl,rfl,rfl,rfl,rfl,rfl,rfl,trivial⟩)))))))))
    ·
     rintro⟨wr,dn,ex,i4⟩ ⟨hw1,hi4,hex,hexb⟩
     refine cM [(0,.string (a7 bs)),(2,.bool ng),(3,.string (a7 dg)),(4,.int .i64 bh),(5,.bool dn),(6,.string (a7 ex)),(8,.int .i64 i4)] wr rfl ⟨rfl,rfl,rfl,rfl,rfl,rfl,rfl,trivial⟩ (aA ?_)
     by_cases hle:i4=bs.length
     ·
      by_cases hx0:ex= []
      ·
       refine a8 (mv 7 rfl (bA rfl rfl (v:= .int .i64 (((a7 bs).size:Nat):Int)) (v':= .int .i64 ((bs.length:Nat):Int)) (by rw [cI]) (aB rfl rfl rfl true (cZ (a:=i4) (b:=bs.length) rfl rfl) (mv 2 rfl (fP (a:=ex) (b:= []) rfl rfl rfl hexb false (wJ (hx0)) (pu (v:= .bool false) rfl (mv 6 rfl (a0 (aJ (aI [.bool ng,.string (a7 dg),.int .i64 bh,.bool dn,.string (a7 ex),F0] rfl ⟨rfl,rfl,rfl,rfl,rfl,rfl,trivial⟩ ?_))))))))))
       rcases hex with⟨h1,h2,_⟩ | ⟨_,h2⟩
       ·exact absurd hx0 h2
       ·exact⟨_,rfl,CutR7.none_ _ _ _ _ _ (by rw [hcf,h2];rfl),hw1⟩
      ·
       refine a8 (mv 7 rfl (bA rfl rfl (v:= .int .i64 (((a7 bs).size:Nat):Int)) (v':= .int .i64 ((bs.length:Nat):Int)) (by rw [cI]) (aB rfl rfl rfl true (cZ (a:=i4) (b:=bs.length) rfl rfl) (mv 2 rfl (fP (a:=ex) (b:= []) rfl rfl rfl hexb true (nX (hx0)) (pu (v:= .bool true) rfl (mv 6 rfl (a0 (aJ (aI [.bool ng,.string (a7 dg),.int .i64 bh,.bool dn,.string (a7 ex),.bool true] rfl ⟨rfl,rfl,rfl,rfl,rfl,rfl,trivial⟩ ?_))))))))))
       rcases hex with⟨_,_,pw,h1,h2⟩ | ⟨h1,_⟩
       ·exact⟨_,rfl,CutR7.some_ (by rw [hcf,h1];rfl) (by rw [hng,h2];rfl),hw1⟩
       ·exact absurd ⟨hle,hx0⟩ h1
     ·
      refine a8 (mv 7 rfl (bA rfl rfl (v:= .int .i64 (((a7 bs).size:Nat):Int)) (v':= .int .i64 ((bs.length:Nat):Int)) (by rw [cI]) (aB rfl rfl rfl false (d4 (a:=i4) (b:=bs.length) rfl rfl) (mv 3 rfl (pu (v:= .bool false) rfl (mv 6 rfl (a0 (aJ (aI [.bool ng,.string (a7 dg),.int .i64 bh,.bool dn,.string (a7 ex),F0] rfl ⟨rfl,rfl,rfl,rfl,rfl,rfl,trivial⟩ ?_)))))))))
      rcases hex with⟨h1,h2,_⟩ | ⟨_,h2⟩
      ·exact absurd h1 hle
      ·exact⟨_,rfl,CutR7.none_ _ _ _ _ _ (by rw [hcf,h2];rfl),hw1⟩
theorem S6 {w:a6}(hj:j=1074)(hu:1*2^j=u)(hb:b≤w.heap.size)(hX:Wi w A n c 1)(hXn:n≤2097152):aL aF 114 #[.slice A n c,.int .i64 1074] w (Gv w (WR b u)):=by
 subst hu
 have h:=nY (k:=j) hb hX hXn
 have e:((j:Nat):Int)=1074:=by omega
 rw [e] at h
 exact h
theorem S5 {w:a6}(hu:1*2^bN=u)(hb:b≤w.heap.size)(hX:Wi w A n c 1)(hXn:n≤2097152):aL aF 114 #[.slice A n c,.int .i64 1074] w (Gv w (WR b u)):=S6 iA hu hb hX hXn
theorem sF {w:a6}(hX:Wi w A n c X){nb:Nat}(hD:Wi w B n' c' D)(hD0:0<D)(h:cN (X*2^bN) D=nb)(hXn:n≤2000000:=by omega)(hDn:n'≤2000000:=by omega):
  aL aF 183 #[.slice A n c,.slice B n' c',.bool ng] w (Gv w (Is (.int .u64 ((dR ng nb:Nat):Int)))):=by
 subst h
 exact sG hX hXn hD hDn (hD0:=hD0)
theorem EV (h:P≤i*2^gE)(hi:i≤2097153):(wd P).length≤34:=sK (z:=(P:Int)) (k:=0) (n:=i) h (hn:=hi)
theorem QH (hf:fin f):pm f*2^pe f≤2^gE:=by
 have h:=xX hf
 unfold fv at h
 rw [oD,kK] at h
 exact h
theorem EX {l:Nat}(h:P≤i*2^gE)(hl:l≤2^gE):P+l≤(i+1)*2^gE:=by rw [lF];omega
theorem EW (h:P≤i*2^gE):P≤(i+1)*2^gE:=by rw [lF];exact aK h (Nat.le_add_right _ _)
theorem OH {l:Nat}(h:(P:Int)-(M:Int)=iJ (fs.take i))(hi:i<fs.length)(hf:fv (fs.getD i 0)=(l:Int)):((P+l:Nat):Int)-(M:Int)=iJ (fs.take (i+1)):=by rw [wG hi,hf];omega
theorem OJ {l:Nat}(h:(P:Int)-(M:Int)=iJ (fs.take i))(hi:i<fs.length)(hf:fv (fs.getD i 0)= -(l:Int)):(P:Int)-((M+l:Nat):Int)=iJ (fs.take (i+1)):=by rw [wG hi,hf];omega
theorem NF {w:a6}(hx:Rd w A n c xs)(i:Nat):xs.getD i 0<18446744073709551616:=by
 rw [bD]
 cases h:xs[i]? with
 | none=>decide
 | some x=>have:=hx.wf x (List.mem_of_getElem? h);rw [cF] at this;exact this
set_option maxHeartbeats 4000000 in
theorem SI {w:a6}(hx:Rd w A n cap fs)(hn:n≤2097152):
    aL aF 121 #[.slice A n cap] w (Gv w (T2 (Is (.int .u64 ((kI fs:Nat):Int))) (Is (.int .i64 (lY fs))))):=by
 have hlen:=hx.len
 refine bL Tryz.func121 rfl (n:=75) rfl (bq rfl) (args:= [.slice A n cap]) (bB [(0,.slice A n cap)] ⟨rfl,trivial⟩ (sr (mv 2 rfl (a0 (sr (mv 2 rfl (a0 (aA (sr (mv 1 rfl (a0 (bM ?_))))))))))))
 refine dS (T:=a6×Nat×Nat×Nat×Option aC×Nat×Nat×Option aC×Nat×Nat)
  (fun⟨wr,i,P,M,PA,pn,pc,MA,mn,mc⟩=> [(0,.slice A n cap),(4,.slice PA pn pc),(5,.slice MA mn mc),(6,.int .i64 i)])
  (fun⟨wr,i,P,M,PA,pn,pc,MA,mn,mc⟩=>wr)
  (fun⟨wr,i,P,M,PA,pn,pc,MA,mn,mc⟩=>(Ext w wr)∧(i≤n)∧(∀j,j<i→fin (fs.getD j 0))∧((P:Int)-(M:Int)=iJ (fs.take i))∧(P≤i*2^gE)∧(M≤i*2^gE)∧(pn=(wd P).length)∧(mn=(wd M).length)∧(Own wr w.heap.size 65 1 PA pn pc ((wd P).map b8))∧(Own wr w.heap.size 65 1 MA mn mc ((wd M).map b8))∧(Rd wr A n cap fs))
  (fun⟨wr,i,P,M,PA,pn,pc,MA,mn,mc⟩=>n-i)
  (⟨w,0,0,0,none,0,0,none,0,0⟩:a6×Nat×Nat×Nat×Option aC×Nat×Nat×Option aC×Nat×Nat) ⟨(Ext.refl w),(bZ _),(fun j hj=>absurd hj (Nat.not_lt_zero _)),rfl,(bZ _),(bZ _),rfl,rfl,(Own.nil _ _ _ _),(Own.nil _ _ _ _),hx⟩ rfl ⟨rfl,rfl,rfl,rfl,trivial⟩ ?_
 rintro⟨wr,i,P,M,PA,pn,pc,MA,mn,mc⟩ ⟨hw1,hi,hfin,hS,hPb,hMb,hPn,hMn,hPo,hMo,rl0⟩
 refine cM [(0,.slice A n cap),(4,.slice PA pn pc),(5,.slice MA mn mc),(6,.int .i64 i)] wr rfl ⟨rfl,rfl,rfl,rfl,trivial⟩ ?_
 have hPl:=EV hPb (by omega)
 have hMl:=EV hMb (by omega)
 refine aA (aA ?_)
 by_cases hin:i<n
 · 
  refine a8 (mv 2 rfl (pu (v:= .int .i64 n) rfl (aB rfl rfl rfl true (dV (a:=i) (b:=n) rfl rfl) (a0 (aM rfl (aN (aE (aA (bM (aA (aA ?_)))))))))))
  have hbx:fs.getD i 0<18446744073709551616:=NF hx i
  by_cases hfi:fin (fs.getD i 0)
  · 
   have hf:=hfi
   have hpe:=pL hf
   have hlb:=QH hf
   refine a8 (mv 2 rfl ?_)
   obtain⟨p1,hp1,hc1,hv1⟩:=(rl0).at (i:=i) (by omega)
   refine bX rfl rfl rfl cA bT i rfl p1 hp1 (aQ rfl rfl (dG d8 hc1) (cl (vs:= [.int .u64 ((fs.getD i 0:Nat):Int)]) hw1 (uG hbx hf) rfl (by kernel_rfl) fun xr4 v2 r4 e3 hw2=>?_))
   obtain rfl:=r4
   refine pu (v:= .bool false) rfl (a0 (aH rfl (aN (aE (sr (mv 2 rfl (bX rfl rfl rfl cA bT i rfl p1 hp1 (aQ rfl rfl (dG d8 (e3.cell hc1)) (cl (vs:= [.int .u64 ((fs.getD i 0:Nat):Int)]) hw2 (uF hbx) rfl (by kernel_rfl) fun xr7 v5 r7 e6 hw3=>?_)))))))))
   obtain⟨_,_,rfl,rfl,rfl⟩:=r7
   refine mv 1 rfl (pu (v:= .int .u64 ((pm (fs.getD i 0):Nat):Int)) rfl (pu (v:= .int .i64 (((pe (fs.getD i 0):Nat):Int)+ -1074)) rfl (mv 2 rfl (a0 (sr (mv 1 rfl (dN rfl rfl (k:=1) (e:=65) [.int .u64 ((pm (fs.getD i 0):Nat):Int)] (fun _=>by kernel_rfl) fun g9 v10 nb11=>?_)))))))
   have o12:=O1.mk_ (x:=pm (fs.getD i 0)) (b:=w.heap.size) nb11 hw3.size
   have e13:=nb11.ext
   have hw4:=hw3.trans e13
   refine mv 1 rfl (aD rfl rfl rfl ((pe (fs.getD i 0):Nat):Int) (kU) (cl (vs:= [.slice (some ⟨g9,0,none⟩) 1 1,.int .i64 ((pe (fs.getD i 0):Nat):Int)]) hw4 (nY (k:=pe (fs.getD i 0)) hw4.size (gF o12 (show pm (fs.getD i 0)≤18446744073709551615 by have:=iQ (fs.getD i 0);omega)) (by decide)) rfl (by kernel_rfl) fun xr18 v16 r18 e17 hw5=>?_))
   obtain⟨A19,n19,c19,rfl,j19,o19⟩:=r18
   refine mv 1 rfl (a0 (aA ?_))
   by_cases h63:9223372036854775808≤fs.getD i 0
   · 
    have hfx:fv (fs.getD i 0)= -((pm (fs.getD i 0)*2^pe (fs.getD i 0):Nat):Int):=by unfold fv;rw [lH hbx (decide_eq_true h63).symm,kK];rfl
    refine a8 (mv 2 rfl (bX rfl rfl rfl cA bT i rfl p1 hp1 (aQ rfl rfl (dG d8 ((e3.trans (e6.trans (e13.trans e17))).cell hc1)) (aB rfl rfl rfl true (eI (a:=fs.getD i 0) (b:=9223372036854775808) rfl rfl) (a0 (aM rfl (a8 (mv 2 rfl (cl (vs:= [.slice MA mn mc,.slice A19 n19 c19]) hw5 (C7 hw5.size (hMo.ext (e3.trans (e6.trans (e13.trans e17)))).wi (by rw [hMn];exact aK hMl (by decide)) o19.wi (by rw [j19];exact aK (oI (sH (fs.getD i 0))) (by decide))) rfl (by kernel_rfl) fun xr22 v20 r22 e21 hw6=>?_)))))))))
    obtain⟨A23,n23,c23,rfl,j23,o23⟩:=r22
    refine mv 1 rfl (aR (cE (aE (a8 (mv 1 rfl (aD rfl rfl rfl ((i+1:Nat):Int) (bF (a:=i) (b:=1) rfl rfl) (mv 1 rfl (aR (cU (⟨v20,i+1,P,M+((pm (fs.getD i 0))*2^(pe (fs.getD i 0))),PA,pn,pc,A23,n23,c23⟩:a6×Nat×Nat×Nat×Option aC×Nat×Nat×Option aC×Nat×Nat) ⟨hw6,(by omega),(fun j hj=>by by_cases e:j=i;(· subst e;exact hfi);(· exact hfin j (by omega))),(OJ hS (by omega) hfx),(EW hPb),(EX hMb hlb),hPn,j23,(hPo.ext (e3.trans (e6.trans (e13.trans (e17.trans e21))))),o23,(rl0.ext (e3.trans (e6.trans (e13.trans (e17.trans e21)))))⟩ (show n-(i+1)<n-i by omega) rfl ⟨rfl,rfl,rfl,rfl,trivial⟩)))))))))
   · 
    have hfx:fv (fs.getD i 0)=((pm (fs.getD i 0)*2^pe (fs.getD i 0):Nat):Int):=by unfold fv;rw [lH hbx (decide_eq_false h63).symm,kK];rfl
    refine a8 (mv 2 rfl (bX rfl rfl rfl cA bT i rfl p1 hp1 (aQ rfl rfl (dG d8 ((e3.trans (e6.trans (e13.trans e17))).cell hc1)) (aB rfl rfl rfl false (iD (a:=fs.getD i 0) (b:=9223372036854775808) rfl rfl) (a0 (aH rfl (a8 (mv 2 rfl (cl (vs:= [.slice PA pn pc,.slice A19 n19 c19]) hw5 (C7 hw5.size (hPo.ext (e3.trans (e6.trans (e13.trans e17)))).wi (by rw [hPn];exact aK hPl (by decide)) o19.wi (by rw [j19];exact aK (oI (sH (fs.getD i 0))) (by decide))) rfl (by kernel_rfl) fun xr26 v24 r26 e25 hw6=>?_)))))))))
    obtain⟨A27,n27,c27,rfl,j27,o27⟩:=r26
    refine mv 1 rfl (aR (cE (aE (a8 (mv 1 rfl (aD rfl rfl rfl ((i+1:Nat):Int) (bF (a:=i) (b:=1) rfl rfl) (mv 1 rfl (aR (cU (⟨v24,i+1,P+((pm (fs.getD i 0))*2^(pe (fs.getD i 0))),M,A27,n27,c27,MA,mn,mc⟩:a6×Nat×Nat×Nat×Option aC×Nat×Nat×Option aC×Nat×Nat) ⟨hw6,(by omega),(fun j hj=>by by_cases e:j=i;(· subst e;exact hfi);(· exact hfin j (by omega))),(OH hS (by omega) hfx),(EX hPb hlb),(EW hMb),j27,hMn,o27,(hMo.ext (e3.trans (e6.trans (e13.trans (e17.trans e25))))),(rl0.ext (e3.trans (e6.trans (e13.trans (e17.trans e25)))))⟩ (show n-(i+1)<n-i by omega) rfl ⟨rfl,rfl,rfl,rfl,trivial⟩)))))))))
  · 
   have hf:=hfi
   refine a8 (mv 2 rfl ?_)
   obtain⟨p28,hp28,hc28,hv28⟩:=(rl0).at (i:=i) (by omega)
   refine bX rfl rfl rfl cA bT i rfl p28 hp28 (aQ rfl rfl (dG d8 hc28) (cl (vs:= [.int .u64 ((fs.getD i 0:Nat):Int)]) hw1 (uH hbx hf) rfl (by kernel_rfl) fun xr31 v29 r31 e30 hw2=>?_))
   obtain rfl:=r31
   refine pu (v:= .bool true) rfl (a0 (aM rfl (sr (mv 2 rfl (a0 (aJ (bJ (dZ (bJ (mF (dZ (bJ (aI [.int .u64 0,.int .i64 3] rfl ⟨rfl,rfl,trivial⟩ ?_)))))))))))))
   have ha:=LM (by omega) hfi
   have e1:kI fs=0:=EZ ha
   have e2:lY fs=3:=EY ha
   rw [e1,e2]
   exact⟨_,rfl,⟨_,_,rfl,rfl,rfl⟩,hw2⟩
 · 
  have hie:i=n:=by omega
  have htk:fs.take i=fs:=List.take_of_length_le (by omega)
  rw [htk] at hS
  refine a8 (mv 2 rfl (pu (v:= .int .i64 n) rfl (aB rfl rfl rfl false (dP (a:=i) (b:=n) rfl rfl) (a0 (aH rfl (dB (d7 (d9 (dA (aE (aA ?_)))))))))))
  obtain⟨u,hu⟩:∃u,1*2^bN=u:=⟨_,rfl⟩
  have hu0:0<u:=hu▸ES
  have hul:(wd u).length≤66:=hu▸J8
  have hnr:∀T,cN (T*2^bN) u=cN T 1:=fun T=>by rw [←hu,IK]
  replace hu:=aU hu
  refine a8 (dN rfl rfl (k:=1) (e:=65) [.int .u64 1] (fun _=>by kernel_rfl) fun g32 v33 nb34=>?_)
  have o35:=O1.mk_ (x:=1) (b:=w.heap.size) nb34 hw1.size
  have e36:=nb34.ext
  have hw2:=hw1.trans e36
  have o38:=i6 o35 (show 1≤18446744073709551615 by decide) (show 1≠0 by decide)
  have j37:=gP (show 1≤18446744073709551615 by decide) (show 1≠0 by decide)
  refine cl (vs:= [.slice (some ⟨g32,0,none⟩) 1 1,.int .i64 1074]) hw2 (S5 (b:=w.heap.size) hu.out hw2.size o38.wi (by decide)) rfl (by kernel_rfl) fun xr41 v39 r41 e40 hw3=>?_
  obtain⟨A42,n42,c42,rfl,j42,o42⟩:=r41
  refine mv 1 rfl (a0 (aA (aA ?_)))
  by_cases hMP:M≤P
  · 
   have hc3:0≤d6 P M:=by unfold d6;rw [if_neg (by omega)];split <;> omega
   refine a8 (mv 2 rfl (cl (vs:= [.slice PA pn pc,.slice MA mn mc]) hw3 (pV (hPo.ext (e36.trans e40)).wi (by rw [hPn];exact aK hPl (by decide)) (hMo.ext (e36.trans e40)).wi (by rw [hMn];exact aK hMl (by decide))) rfl (by kernel_rfl) fun xr45 v43 r45 e44 hw4=>?_))
   obtain rfl:=r45
   refine aB rfl rfl rfl true (C5 hc3) (a0 (aM rfl (sr (mv 2 rfl (cl (vs:= [.slice PA pn pc,.slice MA mn mc]) hw4 (JT hw4.size (hPo.ext (e36.trans (e40.trans e44))).wi (by rw [hPn];exact aK hPl (by decide)) (hMo.ext (e36.trans (e40.trans e44))).wi (by rw [hMn];exact aK hMl (by decide)) (by omega)) rfl (by kernel_rfl) fun xr48 v46 r48 e47 hw5=>?_)))))
   obtain⟨_,_,rfl,⟨A50,n50,c50,rfl,j50,o50⟩,rfl⟩:=r48
   refine mv 1 rfl (pu (v:= .slice A50 n50 c50) rfl (pu (v:= .int .i64 0) rfl (mv 2 rfl (a0 (sr (mv 2 rfl (cl (vs:= [.slice A50 n50 c50,.slice A42 n42 c42,F0]) hw5 (sF (ng:=false) o50.wi (o42.ext (e44.trans e47)).wi hu0 (hnr _) (hXn:=(by rw [j50];exact aK (aK (gN (Nat.sub_le _ _)) hPl) (by decide))) (hDn:=(by rw [j42];exact aK hul (by decide)))) rfl (by kernel_rfl) fun xr53 v51 r53 e52 hw6=>?_)))))))
   obtain rfl:=r53
   refine mv 2 rfl (a0 (aJ (bJ (aI [.int .u64 ((dR false (cN (P-M) 1):Nat):Int),I0] rfl ⟨rfl,rfl,trivial⟩ ?_))))
   have ha:=D1 (fun j hj=>hfin j (by omega))
   have e2:lY fs=0:=AF ha
   have e1:dR false (cN (P-M) 1)=kI fs:=by rw [AG ha,tS,←hS,show ((P:Int)-(M:Int)).natAbs=P-M by omega,show decide ((P:Int)-(M:Int)<0)=false from decide_eq_false (by omega)]
   rw [e2]
   exact⟨_,rfl,⟨_,_,rfl,qI e1,rfl⟩,hw6⟩
  · 
   have hc3:¬0≤d6 P M:=by unfold d6;rw [if_pos (by omega)];omega
   refine a8 (mv 2 rfl (cl (vs:= [.slice PA pn pc,.slice MA mn mc]) hw3 (pV (hPo.ext (e36.trans e40)).wi (by rw [hPn];exact aK hPl (by decide)) (hMo.ext (e36.trans e40)).wi (by rw [hMn];exact aK hMl (by decide))) rfl (by kernel_rfl) fun xr56 v54 r56 e55 hw4=>?_))
   obtain rfl:=r56
   refine aB rfl rfl rfl false (iT) (a0 (aH rfl (aN (aE (sr (mv 2 rfl (cl (vs:= [.slice MA mn mc,.slice PA pn pc]) hw4 (JT hw4.size (hMo.ext (e36.trans (e40.trans e55))).wi (by rw [hMn];exact aK hMl (by decide)) (hPo.ext (e36.trans (e40.trans e55))).wi (by rw [hPn];exact aK hPl (by decide)) (by omega)) rfl (by kernel_rfl) fun xr59 v57 r59 e58 hw5=>?_)))))))
   obtain⟨_,_,rfl,⟨A61,n61,c61,rfl,j61,o61⟩,rfl⟩:=r59
   refine mv 1 rfl (pu (v:= .slice A61 n61 c61) rfl (pu (v:= .int .i64 0) rfl (mv 2 rfl (a0 (sr (mv 2 rfl (cl (vs:= [.slice A61 n61 c61,.slice A42 n42 c42,.bool true]) hw5 (sF (ng:=true) o61.wi (o42.ext (e55.trans e58)).wi hu0 (hnr _) (hXn:=(by rw [j61];exact aK (aK (gN (Nat.sub_le _ _)) hMl) (by decide))) (hDn:=(by rw [j42];exact aK hul (by decide)))) rfl (by kernel_rfl) fun xr64 v62 r64 e63 hw6=>?_)))))))
   obtain rfl:=r64
   refine mv 2 rfl (a0 (aJ (aI [.int .u64 ((dR true (cN (M-P) 1):Nat):Int),I0] rfl ⟨rfl,rfl,trivial⟩ ?_)))
   have ha:=D1 (fun j hj=>hfin j (by omega))
   have e2:lY fs=0:=AF ha
   have e1:dR true (cN (M-P) 1)=kI fs:=by rw [AG ha,tS,←hS,show ((P:Int)-(M:Int)).natAbs=M-P by omega,show decide ((P:Int)-(M:Int)<0)=true from decide_eq_true (by omega)]
   rw [e2]
   exact⟨_,rfl,⟨_,_,rfl,qI e1,rfl⟩,hw6⟩
set_option maxHeartbeats 4000000 in
theorem RG {w:a6}(ho:Own w lb 3 1 A n c (ds.map I6))(hlb:lb≤w.heap.size)(hwf:Wfb 65536 ds)(hbl:2≤base)(hbu:base≤36)(hn:n≤1099511627775)(hvb:v≤36):
    aL aF 263 #[.slice A n c,.int .i64 base,.int .i64 v] w (fun e w'=>∃A' n' c',∃es:List Nat,e= .returned (.slice A' n' c')∧Own w' lb 3 1 A' n' c' (es.map I6)∧n'≤n+1∧es.length=n'∧Wfb 65536 es∧nb 65536 es=nb 65536 ds*base+v∧UpdO A w w'):=by
 have hdl:=sI ho
 refine bL Tryz.func263 rfl (n:=37) rfl (bq rfl) (args:= [.slice A n c,.int .i64 base,.int .i64 v]) (bB [(0,.slice A n c),(1,.int .i64 base),(2,.int .i64 v)] ⟨rfl,rfl,rfl,trivial⟩ (sr (mv 1 rfl (a0 (aA (sr (mv 1 rfl (a0 (bM ?_)))))))))
 refine dS (T:=a6×Nat×Nat×List Nat)
  (fun⟨wr,i,cy,l⟩=> [(0,.slice A n c),(1,.int .i64 base),(2,.int .i64 cy),(7,.int .i64 i)])
  (fun⟨wr,i,cy,l⟩=>wr)
  (fun⟨wr,i,cy,l⟩=>(UpdO A w wr)∧(i≤n)∧(Own wr lb 3 1 A n c (l.map I6))∧(l.length=n)∧(Wfb 65536 l)∧(l.drop i=ds.drop i)∧(cy≤36)∧(nb 65536 (l.take i)+65536^i*cy=nb 65536 (ds.take i)*base+v))
  (fun⟨wr,i,cy,l⟩=>n-i)
  (⟨w,0,v,ds⟩:a6×Nat×Nat×List Nat) ⟨(UpdO.refl A w),(bZ _),ho,hdl,hwf,rfl,(by omega),(by rw [List.take_zero];simp [nb])⟩ rfl ⟨rfl,rfl,rfl,rfl,trivial⟩ ?_
 rintro⟨wr,i,cy,l⟩ ⟨hw1,hi,hO,hll,hwl,hdr,hcy,hv⟩
 refine cM [(0,.slice A n c),(1,.int .i64 base),(2,.int .i64 cy),(7,.int .i64 i)] wr rfl ⟨rfl,rfl,rfl,rfl,trivial⟩ (aA (aA ?_))
 by_cases hlt:i<n
 · 
  refine a8 (mv 2 rfl (pu (v:= .int .i64 n) rfl (aB rfl rfl rfl true (dV (a:=i) (b:=n) rfl rfl) (a0 (aM rfl (aN (aE (aA (bM (aA ?_))))))))))
  have hdb:=iL (b:=65536) hwl i
  have hmu:l.getD i 0*base≤65535*36:=Nat.mul_le_mul (by omega) hbu
  refine a8 (mv 2 rfl ?_)
  obtain⟨p2,hp2,hc2⟩:=(hO).at1 (i:=i) (by omega)
  refine bX rfl rfl rfl lX nW i rfl p2 hp2 (aQ rfl rfl (dG yR hc2) (mv 1 rfl (aD rfl rfl rfl (((l.getD i 0)*base:Nat):Int) (mI (a:=l.getD i 0) (b:=base) rfl rfl) (mv 1 rfl (aD rfl rfl rfl ((((l.getD i 0)*base)+cy:Nat):Int) (bF (a:=(l.getD i 0)*base) (b:=cy) rfl rfl) (mv 1 rfl (a0 (sr (mv 3 rfl (aD rfl rfl rfl (((((l.getD i 0)*base)+cy)%65536:Nat):Int) (f7 (a:=((l.getD i 0)*base)+cy) (b:=65536) rfl rfl) ?_))))))))))
  obtain⟨p3,hp3,hc3⟩:=(hO).at1 (i:=i) (by omega)
  refine bX rfl rfl rfl lX nW i rfl p3 hp3 ?_
  have ow4:=hO
  refine E7 (f:=I6) (u:=(((l.getD i 0)*base)+cy)%65536) (i:=i) rfl rfl rfl hp3 ow4 (by omega) rfl rfl nW fun v5 ho6 uo7=>?_
  have hw2:UpdO A w v5:=hw1.trans uo7
  refine a0 (a8 (mv 1 rfl (aD rfl rfl rfl (((((l.getD i 0)*base)+cy)/65536:Nat):Int) (iF (a:=((l.getD i 0)*base)+cy) (b:=65536) rfl rfl) (mv 1 rfl (aR (cE (aE (a8 (mv 1 rfl (aD rfl rfl rfl ((i+1:Nat):Int) (bF (a:=i) (b:=1) rfl rfl) (mv 1 rfl (aR (cU (⟨v5,i+1,(l.getD i 0*base+cy)/65536,l.set i ((((l.getD i 0)*base)+cy)%65536)⟩:a6×Nat×Nat×List Nat) ⟨hw2,(by omega),ho6,(by rw [List.length_set];exact hll),(iK hwl _ (hx:=(eL _ (by decide)))),(by rw [List.drop_set_of_lt (by omega)];have h:=congrArg (List.drop 1) hdr;rwa [List.drop_drop,List.drop_drop] at h),(by omega),(TW (by omega) (by omega) hdr hv)⟩ (show n-(i+1)<n-i by omega) rfl ⟨rfl,rfl,rfl,rfl,trivial⟩)))))))))))))
 · 
  have hin:i=n:=by omega
  rw [List.take_of_length_le (by omega),List.take_of_length_le (by omega),hin] at hv
  refine a8 (mv 2 rfl (pu (v:= .int .i64 n) rfl (aB rfl rfl rfl false (dP (a:=i) (b:=n) rfl rfl) (a0 (aH rfl (dB (d7 (d9 (dA (aE (aA (aA ?_))))))))))))
  by_cases hcy0:cy>0
  · 
   refine a8 (mv 1 rfl (aB rfl rfl rfl true (dC (a:=cy) (b:=0) rfl rfl) (a0 (aM rfl (a8 (mv 2 rfl (dN rfl rfl (k:=1) (e:=3) [.int .i64 cy] (fun _=>by kernel_rfl) fun g8 v9 nb=>?_)))))))
   have hb10:=nb.bk
   have e11:=nb.ext
   clear nb
   have hw2:UpdO A w v9:=hw1.then_ext e11
   have ow12:=(hO.ext e11)
   refine nV rfl rfl rfl lX mE rfl ow12 (aK hlb hw2.size) [.int .i64 cy] rfl (o8 _ hb10) rfl fun A13 c14 v15 ho16 uo17 kp18=>?_
   have hw3:UpdO A w v15:=hw2.trans uo17
   have ho19:Own v15 lb 3 1 A13 (n+1) c14 ((l++ [cy]).map I6):=by have h:=ho16;simp only [List.map_append,iH,iX] at h⊢;exact h
   refine mv 1 rfl (a0 (sr (mv 2 rfl (a0 (aJ (aI [.slice A13 (n+1) c14] rfl ⟨rfl,trivial⟩ ?_))))))
   exact⟨A13,(n+1),c14,l++ [cy],rfl,ho19,(aZ _),(by rw [cR,hll];rfl),(rE hwl (fun x hx=>by rw [iW] at hx;omega)),(by rw [uO,hll];exact hv),hw3⟩
  · 
   refine a8 (mv 1 rfl (aB rfl rfl rfl false (cW (a:=cy) (b:=0) rfl rfl) (a0 (aH rfl (aN (aE (sr (mv 2 rfl (a0 (aJ (aI [.slice A n c] rfl ⟨rfl,trivial⟩ ?_)))))))))))
   exact⟨A,n,c,l,rfl,hO,(Nat.le_succ _),hll,hwl,(by rw [show cy=0 by omega,Nat.mul_zero,dH] at hv;exact hv),hw1⟩
theorem WQ {w:a6}(hb:b≤w.heap.size)(h:Own w lb 3 1 A n c (ds.map I6))(hw:Wfb 65536 ds)(hl:n≤1099511627775):aL aF 179 #[.slice A n c] w (Gv w (WR b (nb 65536 ds))):=(uD ⟨h.rv,hw⟩ hl).mono (gw hb)
theorem RD {w:a6}(hc:c≤255)(h:dv c<36):aL aF 262 #[.int .u8 ((c:Nat):Int)] w (Gv w (Is (.int .i64 ((dv c:Nat):Int)))):=by
 have h1:=RE (w:=w) hc
 rw [if_pos h] at h1;exact h1
set_option maxHeartbeats 4000000 in
theorem RI {w:a6}(hbs:∀b,b∈bs→b<256)(hlen:bs.length≤17179869184)(hbl:2≤base)(hbu:base≤36)(hg:lS base bs):
    aL aF 233 #[.string (a7 bs),.int .i64 base] w (Gv w (T2 (WR w.heap.size (cB base (bs.map dv))) (Is (.int .i64 0)))):=by
 refine bL Tryz.func233 rfl (n:=36) rfl (bq rfl) (args:= [.string (a7 bs),.int .i64 base]) (bB [(0,.string (a7 bs)),(1,.int .i64 base)] ⟨rfl,rfl,trivial⟩ (sr (mv 2 rfl (a0 (aA (sr (mv 1 rfl (aB rfl rfl rfl false (dP (a:=base) (b:=2) rfl rfl) (mv 2 rfl (aB rfl rfl rfl false (cW (a:=base) (b:=36) rfl rfl) (pu (v:= .bool false) rfl (a0 (aH rfl ?_)))))))))))))
 refine aN (aE (aA (aA ?_)))
 have hne:=hg.1
 refine a8 (mv 1 rfl (fP (a:=bs) (b:= []) rfl rfl rfl hbs false (pC (hne)) (a0 (aH rfl (aN (aE (sr (mv 1 rfl (a0 (aA (sr (mv 1 rfl (aR ?_)))))))))))))
 refine aE (bM ?_)
 refine dS (T:=a6×Nat×List Nat×Option aC×Nat×Nat)
  (fun⟨wr,i,l,DA,dn,dc⟩=> [(0,.string (a7 bs)),(1,.int .i64 base),(6,.slice DA dn dc),(7,.int .i64 i)])
  (fun⟨wr,i,l,DA,dn,dc⟩=>wr)
  (fun⟨wr,i,l,DA,dn,dc⟩=>(Ext w wr)∧(i≤bs.length)∧(Own wr w.heap.size 3 1 DA dn dc (l.map I6))∧(dn≤i)∧(Wfb 65536 l)∧(nb 65536 l=cB base ((bs.take i).map dv))∧(∀c,c∈bs.take i→dv c<base))
  (fun⟨wr,i,l,DA,dn,dc⟩=>bs.length-i)
  (⟨w,0,[],none,0,0⟩:a6×Nat×List Nat×Option aC×Nat×Nat) ⟨(Ext.refl w),(bZ _),(Own.nil _ _ _ _),(bZ _),(LR _),rfl,(fun c hc=>absurd hc (by simp))⟩ rfl ⟨rfl,rfl,rfl,rfl,trivial⟩ ?_
 rintro⟨wr,i,l,DA,dn,dc⟩ ⟨hw1,hi,hD,hdn,hwl,hv,hok⟩
 refine cM [(0,.string (a7 bs)),(1,.int .i64 base),(6,.slice DA dn dc),(7,.int .i64 i)] wr rfl ⟨rfl,rfl,rfl,rfl,trivial⟩ (aA (aA ?_))
 by_cases hlt:i<bs.length
 · 
  refine a8 (mv 2 rfl (bA rfl rfl (v:= .int .i64 (((a7 bs).size:Nat):Int)) (v':= .int .i64 ((bs.length:Nat):Int)) (by rw [cI]) (aB rfl rfl rfl true (dV (a:=i) (b:=bs.length) rfl rfl) (a0 (aM rfl (aN (aE (aA (bM (aA ?_))))))))))
  have hc255:bs.getD i 0≤255:=by have:=hbs _ (C3 hlt);omega
  have hdc:=hg.2 _ (C3 hlt)
  refine a8 (mv 2 rfl (dD (bs:=bs) (i:=i) rfl rfl rfl Tryz.underlying9 hbs (cl (vs:= [.int .u8 ((bs.getD i 0:Nat):Int)]) hw1 (RD hc255 (Nat.lt_of_lt_of_le hdc hbu)) rfl (by kernel_rfl) fun xr4 v2 r4 e3 hw2=>?_)))
  obtain rfl:=r4
  refine mv 1 rfl (a0 (aA (sr (mv 2 rfl (aB rfl rfl rfl false (iD (a:=dv (bs.getD i 0)) (b:=base) rfl rfl) (a0 (aH rfl (aN (aE (a8 (mv 3 rfl ?_)))))))))))
  have ow5:=(hD.ext e3)
  refine eA rfl rfl (vs:= [.slice DA dn dc,.int .i64 base,.int .i64 ((dv (bs.getD i 0):Nat):Int)]) (by kernel_rfl) (by decide) (RG ow5 hw2.size hwl hbl hbu (by omega) (by omega)) ?_
  rintro _ v6 ⟨A8,n9,c10,es7,rfl,ho11,hle12,hl13,hwf14,hv15,uo16⟩
  refine eC ?_
  have hw3:=uo16.ext hw2 (fun p hp=>(ow5.block p hp).1)
  refine mv 1 rfl (aR (cE (aE (a8 (mv 1 rfl (aD rfl rfl rfl ((i+1:Nat):Int) (bF (a:=i) (b:=1) rfl rfl) (mv 1 rfl (aR (cU (⟨v6,i+1,es7,A8,n9,c10⟩:a6×Nat×List Nat×Option aC×Nat×Nat) ⟨hw3,(by omega),ho11,(by omega),hwf14,(by rw [hv15,hv,AH hlt,List.map_append,iH,iX,rS]),(fun c hc=>by rw [AH hlt] at hc;rcases nR.1 hc with h | h;(· exact hok c h);(· rw [iW.1 h];exact hdc))⟩ (show bs.length-(i+1)<bs.length-i by omega) rfl ⟨rfl,rfl,rfl,rfl,trivial⟩)))))))))
 · 
  have hie:i=bs.length:=by omega
  rw [hie,List.take_length] at hok hv
  refine a8 (mv 2 rfl (bA rfl rfl (v:= .int .i64 (((a7 bs).size:Nat):Int)) (v':= .int .i64 ((bs.length:Nat):Int)) (by rw [cI]) (aB rfl rfl rfl false (dP (a:=i) (b:=bs.length) rfl rfl) (a0 (aH rfl (dB (d7 (d9 (dA (aE (sr (mv 1 rfl (eA rfl rfl (vs:= [.slice DA dn dc]) (by kernel_rfl) (by decide) (by have h:=WQ hw1.size hD hwl (by omega);rw [hv] at h;exact h) ?_)))))))))))))
  rintro _ v18 ⟨xr20,rfl,r20,e19⟩
  refine eC ?_
  have hw2:=hw1.trans e19
  obtain⟨A21,n21,c21,rfl,j21,o21⟩:=r20
  refine mv 2 rfl (a0 (aJ (aI [.slice A21 n21 c21,I0] rfl ⟨rfl,rfl,trivial⟩ ?_)))
  exact⟨_,rfl,⟨_,_,rfl,⟨_,_,_,rfl,j21,o21⟩,rfl⟩,hw2⟩
set_option maxHeartbeats 4000000 in
theorem RJ {w:a6}(hbs:∀b,b∈bs→b<256)(hlen:bs.length≤17179869184)(hg:lS 10 bs):
    aL aF 192 #[.string (a7 bs)] w (Gv w (T2 (WR w.heap.size (cB 10 (bs.map dv))) (Is (.int .i64 0)))):=by
 refine bL Tryz.func192 rfl (n:=8) rfl (bq rfl) (args:= [.string (a7 bs)]) (bB [(0,.string (a7 bs))] ⟨rfl,trivial⟩ (sr (mv 2 rfl (a0 (sr (mv 1 rfl (cl (vs:= [.string (a7 bs),.int .i64 10]) (Ext.refl w) (RI hbs hlen (by decide) (by decide) hg) rfl (by kernel_rfl) fun xr3 v1 r3 e2 hw1=>?_)))))))
 obtain⟨_,_,rfl,⟨A5,n5,c5,rfl,j5,o5⟩,rfl⟩:=r3
 refine pu (v:= .slice A5 n5 c5) rfl (pu (v:= .int .i64 0) rfl (mv 2 rfl (a0 (aJ (aI [.slice A5 n5 c5,I0] rfl ⟨rfl,rfl,trivial⟩ ?_)))))
 exact⟨_,rfl,⟨_,_,rfl,⟨_,_,_,rfl,j5,o5⟩,rfl⟩,hw1⟩
end Go.Proofs.YtkepckmdjncehaaGreatDoor
