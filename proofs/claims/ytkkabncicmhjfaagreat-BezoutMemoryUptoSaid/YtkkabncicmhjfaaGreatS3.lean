/- Parts Bz, Li, BookI, BookJ, Sxg, BookK, UpT, Zk0, One, Zk1, Ref1b, Ref2, joined. -/
import Derived.Test.YtkkabncicmhjfaaGreatS2
import Derived.Deep.Slices

open Go renaming Addr → aG, Calls → aQ, Edge → fO, Exit → dQ, Oper → aZ, Operand → d7, Program → cC, TypeId → aU, Value → aI, World → a7
open Array renaming replicate → rG
open Bool renaming and_eq_true → eH, or_eq_true → m8
open Go.Instr renaming makeSlice → o2
open Int renaming natCast_mul → jR, toNat_natCast → jQ
open List renaming all_eq_true → eY, cons_append → pJ, contains_iff_mem → lI, drop_zero → i9, getD_eq_getElem?_getD → bE, getElem?_eq_getElem → cA, getElem?_eq_none → gM, getElem?_eq_some_iff → fD, getElem?_map → fY, getElem?_take → jO, getElem_of_mem → rA, length_append → fH, length_cons → gD, length_drop → mY, length_take → dK, map_cons → kH, map_nil → lH, map_toArray → pI, mem_range → fN, range → dB, replicate → dL
open Nat renaming add_assoc → iW, add_mul → dV, add_zero → eI, le_refl → aS, le_trans → a6, lt_of_lt_of_le → d4, lt_or_ge → i7, min_eq_left → gL, mod_add_div → jN, mod_lt → gB, mul_add → cS, mul_assoc → bZ, mul_comm → cM, mul_le_mul_right → eA, mul_one → eG, pow_succ → dJ, sub_add_cancel → iV, zero_add → eX, zero_le → bJ
open Ne renaming symm → lD
open Go.Next renaming value → jA
open Go.Oper renaming upon → lW
open Option renaming getD_some → lV, map_some → pD
open Option.some renaming inj → iU, injEq → eF
open Or renaming inl → bS, inr → bW
open Go.Region renaming binds → iN, wanted → qU
open Go.Result renaming andThen_ok → eW
open Go.Sem renaming run_bind → dA, run_pure → gT
open Go.Proofs.Tryz renaming prog → aM
namespace Go.Proofs.YtkkabncicmhjfaaGreat
set_option maxHeartbeats 8000000
set_option maxRecDepth 20000
variable {A A' Aa Ab B IA NA WA XA:Option aG}{K N a b b' base c ca cap cap' cb g i ic id im j k lb lw n n' na nc s s' wc:Nat}{T e t:aU}{cells cs us vs:List aI}{ds l ms st xs ys:List Nat}{dss rl:List (List Nat)}{gs ls:List Lst}{listed:Array Bool}{m:Option a7}{m0 m1 r0 x y z:Int}{o:aZ}{ol:List aZ}{p:aG}{ps:List (Nat×Nat)}{sa sb:Bool}{u0 u1 v:aI}{w w' w0 wt wt':a7}{zs:List Int}
open Go.RowKit
structure ZC where
 s:Bool
 A:Option aG
 n:Nat
 c:Nat
theorem fK (x y:Int):ln (Int.gcd x y:Int)≤max (ln x) (ln y):=by
 by_cases h:x=0
 ·subst h
  rw [Int.gcd_zero_left]
  refine a6 (iA (x:=(y.natAbs:Int)) (y:=y) (by simp)) (Nat.le_max_right _ _)
 ·refine a6 (iA (y:=x) ?_) (Nat.le_max_left _ _)
  rw [Int.natAbs_natCast]
  exact Nat.le_of_dvd (by omega) (Int.gcd_dvd_natAbs_left x y)
theorem EC (h:(Int.gcd x y:Int)≠0):(Int.natAbs (x.tdiv (Int.gcd x y:Int)*y):Int)=(Int.lcm x y:Int):=by
 have f:0<Int.gcd x y:=by omega
 have e:(Int.natAbs (x.tdiv (Int.gcd x y:Int)*y))=Int.lcm x y:=by
  rw [Int.natAbs_mul,Int.natAbs_tdiv,Int.natAbs_natCast]
  unfold Int.lcm Nat.lcm Int.gcd
  show x.natAbs/_*y.natAbs=_
  rw [cM,←Nat.mul_div_assoc _ (Nat.gcd_dvd_left _ _),cM]
 rw [e]
theorem ES (x y:Int):x.natAbs%(Int.gcd x y:Int).natAbs=0:=by
 rw [Int.natAbs_natCast]
 exact Nat.mod_eq_zero_of_dvd (Int.gcd_dvd_natAbs_left x y)
theorem FB {nb:Nat}(hb:b≤w.heap.size)(hx:Zi w sa Aa na ca x)(la:na≤17179869184)(hy:Zi w sb Ab nb cb y)(lb:nb≤17179869184):aQ aM 46 #[J sa Aa na ca,J sb Ab nb cb] w (Gv w (ZR b ((Int.lcm x y:Int)))):=by
 refine Calls.mono (R:=Gv w (ZR w.heap.size ((Int.lcm x y:Int)))) ?_ (Gv.imp (ZR.imp hb))
 have Lx:ln x≤17179869184:=a6 hx.ln la
 have Ly:ln y≤17179869184:=a6 hy.ln lb
 refine bP Tryz.func46 G (n:=25) G (bq G) (args:= [J sa Aa na ca,J sb Ab nb cb]) (bH [(0,J sa Aa na ca),(1,J sb Ab nb cb)] ⟨rfl,rfl,Fo⟩ (sr (bx (O sa Aa na ca) (Ext.refl w) G G G fun _ _ aq _ _ cx=>(d5 (O sb Ab nb cb) cx aq.lt G G G fun _ _ av _ _ e8 ct=>(bF [F0,S0] ct av.lt (fun _=>by kernel_rfl) G fun _ _ L aj _ aa Y=>(aA (sr (lo a8 (aq.ext (e8.t aa)) (O sa Aa na ca) G G G (lo a8 (av.ext aa) (O sb Ab nb cb) G G G ?_)))))))))
 have aw:ln ((Int.gcd x y:Int))≤17179869184:=a6 (fK _ _) (Nat.max_le.2 ⟨a6 Lx (by decide),a6 Ly (by decide)⟩)
 refine cl (vs:= [J sa Aa na ca,J sb Ab nb cb]) Y (yH Y.size (hx.ext Y) (aL la G) (hy.ext Y) (aL lb G)) G (by kernel_rfl) fun _ _ cn V cm=>?_
 obtain⟨h,q,p,D,rfl,I⟩:=cn
 refine bF [F0,S0] cm (L.ext V).lt (fun _=>by kernel_rfl) G fun _ _ F bo _ f dc=>(so a8 F (O h q p D) dc bo G G G G fun _ E o bu=>(aA (aH (aH ?_))))
 by_cases hg:(Int.gcd x y:Int)=0
 ·have hl:(0:Int)=(Int.lcm x y:Int):=by unfold Int.lcm Nat.lcm;have h1:Nat.gcd x.natAbs y.natAbs=0:=(by exact_mod_cast hg);rw [h1];simp
  refine aJ (lo a8 E (O h q p D) G G G (cl (vs:= [J h q p D]) bu (f6 ((I.ext f).updT F o).zi (I.le (aL aw G))) G (by kernel_rfl) fun _ cg cj cy U=>?_))
  obtain rfl:=cj
  refine aN G G G true (iY hg) (aA (bB G (sr (pu (v:= .agg #[F0,S0]) G ?_))))
  have ag:=(((L.ext (V.t f)).vN o).ext cy)
  refine so a8 ag [F0,S0] U aj G G G G fun _ bi cv ak=>(aA (bD (cT (bC [.agg #[F0,S0]] G ⟨⟨_,rfl,aW a8 bi [F0,S0] G (bq G) rfl⟩,Fo⟩ ?_))))
  exact⟨_,rfl,⟨_,_,_,_,rfl,(((Zr.zero (w:=cg) (base:=w.heap.size)).updT ag cv)).cast (hl)⟩,ak⟩
 ·refine aJ (lo a8 E (O h q p D) G G G (cl (vs:= [J h q p D]) bu (f6 ((I.ext f).updT F o).zi (I.le (aL aw G))) G (by kernel_rfl) fun _ _ dd H U=>?_))
  obtain rfl:=dd
  refine aN G G G false (fE hg) (aA (aV G (b8 (aK (sr (lo a8 (((aq.ext (e8.t (aa.t (V.t f)))).vN o).ext H) (O sa Aa na ca) G G G (lo a8 (E.ext H) (O h q p D) G G G ?_)))))))
  have bp:ln (x.tdiv (Int.gcd x y:Int))≤17179869184:=a6 (fC _ _) Lx
  refine cl (vs:= [J sa Aa na ca,J h q p D]) U (qE U.size (hx.ext U) (aL la G) (((I.ext f).updT F o).ext H).zi (I.le (aL aw G)) hg (ES x y)) G (by kernel_rfl) fun _ _ bv ba ak=>?_
  obtain⟨_,_,rfl,⟨ab,X,W,Z,rfl,bg⟩,rfl⟩:=bv
  refine mv 1 G (pu (v:= J ab X W Z) G (pu (v:= v4 0) G (bF [F0,S0] ak (E.ext (H.t ba)).lt (fun _=>by kernel_rfl) G fun _ _ ae bc _ ar cu=>(so a8 ae (O ab X W Z) cu bc G G G G fun _ bt an M=>(mv 1 G (aA (sr (lo a8 bt (O ab X W Z) G G G (lo a8 ((((av.ext (aa.t (V.t f))).vN o).ext (H.t (ba.t ar))).vN an) (O sb Ab nb cb) G G G ?_)))))))))
  have bd:ln ((x.tdiv (Int.gcd x y:Int))*y)≤34359738368:=a6 (dR bp Ly) (by decide)
  refine cl (vs:= [J ab X W Z,J sb Ab nb cb]) M (mL M.size ((bg.ext ar).updT ae an).zi (bg.le (aL bp G)) (hy.ext M) (aL lb G)) G (by kernel_rfl) fun _ _ da cz ai=>?_
  obtain⟨df,de,ci,ch,rfl,br⟩:=da
  have dh:ln ((Int.natAbs ((x.tdiv (Int.gcd x y:Int))*y):Int))≤34359738368:=(by rw [fQ];exact bd)
  refine cl (vs:= [J df de ci ch]) ai (uO ai.size br.zi (br.le (aL bd G))) G (by kernel_rfl) fun _ _ bz ck bh=>?_
  obtain⟨az,am,au,ao,rfl,cp⟩:=bz
  have ah:=(((((L.ext (V.t f)).vN o).ext (H.t (ba.t ar))).vN an).ext (cz.t ck))
  refine so a8 ah (O az am au ao) bh aj G G G G fun _ bm co bj=>(aA (bD (bC [J az am au ao] G ⟨⟨_,rfl,aW a8 bm (O az am au ao) G (bq G) rfl⟩,Fo⟩ ?_)))
  exact⟨_,rfl,⟨_,_,_,_,rfl,((cp.updT ah co)).cast (EC hg)⟩,bj⟩
structure ExtI (x y r0 r1 m0 m1:Int):Prop where
 nn0:0≤r0
 nn1:0≤r1
 gcd:Int.gcd r0 r1=Int.gcd x y
 d0:y∣r0-m0*x.natAbs
 d1:y∣r1-m1*x.natAbs
 bal:m1.natAbs*r0.natAbs+m0.natAbs*r1.natAbs=y.natAbs
 sgn:m0*m1≤0
 b0:r0.natAbs≤max x.natAbs y.natAbs
 b1:r1.natAbs≤y.natAbs
 mb0:m0.natAbs≤y.natAbs
 mb1:m1.natAbs≤y.natAbs
theorem ExtI.init (h:y≠0):ExtI x y x.natAbs y.natAbs 1 0 where
 nn0:=by omega
 nn1:=by omega
 gcd:=by simp [Int.gcd]
 d0:=by simp
 d1:=by
  rw [Int.zero_mul,Int.sub_zero]
  exact Int.dvd_natAbs.2 (Int.dvd_refl y)
 bal:=by simp
 sgn:=by decide
 b0:=by rw [Int.natAbs_natCast];exact Nat.le_max_left _ _
 b1:=by simp
 mb0:=by show 1≤_;omega
 mb1:=by simp
theorem MQ {a b c:Int}(h:a*b≤0)(hc:0≤c):(a-c*b).natAbs=a.natAbs+c.natAbs*b.natAbs:=by
 rw [←Int.natAbs_mul]
 have o:a*(c*b)≤0:=by
  have:a*(c*b)=c*(a*b):=by grind
  rw [this]
  exact Int.mul_nonpos_of_nonneg_of_nonpos hc h
 rcases Int.lt_trichotomy a 0 with f | f | f
 ·have:0≤c*b:=by
   refine Int.le_of_not_gt fun hl=>?_
   have:=Int.mul_pos_of_neg_of_neg f hl
   omega
  omega
 ·subst f;simp
 ·have:c*b≤0:=by
   refine Int.le_of_not_gt fun hl=>?_
   have:=Int.mul_pos f hl
   omega
  omega
theorem ExtI.step {r1:Int}(h:ExtI x y r0 r1 m0 m1)(hr:r1≠0):ExtI x y r1 (r0.tmod r1) m1 (m0-r0.tdiv r1*m1):=by
 have e:=Int.tdiv_mul_add_tmod r0 r1
 have nn:=Int.tmod_nonneg r1 h.nn0
 have p:0≤r0.tdiv r1:=Int.tdiv_nonneg h.nn0 h.nn1
 have I:r0.tmod r1<r1:=Int.tmod_lt_of_pos _ (by have:=h.nn1;omega)
 have q:=MQ h.sgn p
 have f:(m0-r0.tdiv r1*m1).natAbs*r1.natAbs+m1.natAbs*(r0.tmod r1).natAbs=y.natAbs:=by
  rw [q,←h.bal]
  have D:r0.natAbs=(r0.tdiv r1).natAbs*r1.natAbs+(r0.tmod r1).natAbs:=by
   rw [←Int.natAbs_mul,←Int.natAbs_add_of_nonneg (Int.mul_nonneg p h.nn1) nn,e]
  rw [D]
  grind
 refine⟨h.nn1,nn,?_,h.d1,?_,f,?_,a6 h.b1 (Nat.le_max_right _ _),?_,h.mb1,?_⟩
 ·rw [←h.gcd]
  have:Int.gcd r0 r1=Int.gcd (r0.tmod r1+r1*r0.tdiv r1) r1:=by
   congr 1
   rw [Int.mul_comm];omega
  rw [this,Int.gcd_add_mul_left_left,Int.gcd_comm]
 ·have E:r0.tmod r1-(m0-r0.tdiv r1*m1)*x.natAbs=(r0-m0*x.natAbs)-r0.tdiv r1*(r1-m1*x.natAbs):=by
   have:r0.tmod r1=r0-r0.tdiv r1*r1:=by omega
   rw [this];grind
  rw [E]
  exact Int.dvd_sub h.d0 (Int.dvd_mul_of_dvd_right h.d1)
 ·have H:m1*(m0-r0.tdiv r1*m1)=m0*m1-r0.tdiv r1*(m1*m1):=by grind
  rw [H]
  have o:0≤m1*m1:=by
   rcases Int.le_total 0 m1 with h | h
   ·exact Int.mul_nonneg h h
   ·exact Int.mul_nonneg_of_nonpos_of_nonpos h h
  have:=Int.mul_nonneg p o
  have:=h.sgn
  omega
 ·have:=h.b1
  have F:(r0.tmod r1).natAbs≤r1.natAbs:=by omega
  omega
 ·have o:1≤r1.natAbs:=by omega
  have F:(m0-r0.tdiv r1*m1).natAbs≤(m0-r0.tdiv r1*m1).natAbs*r1.natAbs:=Nat.le_mul_of_pos_right _ o
  omega
structure Bez (x y u v:Int):Prop where
 zero:y=0→u=x.sign∧v=0
 eq:x*u+y*v=Int.gcd x y
 lo:y≠0→0≤u
 hi:y≠0→u*Int.gcd x y<y.natAbs
theorem ExtI.done (h:ExtI x y r0 0 m0 m1)(hy:y≠0)(hz:z=if x<0 then-m0 else m0):r0=(Int.gcd x y:Int)∧r0≠0∧y.tdiv r0≠0∧y.natAbs%r0.natAbs=0∧(r0-x*(z%y.tdiv r0)).natAbs%y.natAbs=0∧Bez x y (z%y.tdiv r0) ((r0-x*(z%y.tdiv r0)).tdiv y):=by
 have W:=h.gcd
 rw [Int.gcd_zero_right] at W
 have H:r0=(Int.gcd x y:Int):=by have:=h.nn0;omega
 have M:0<Int.gcd x y:=Int.gcd_pos_of_ne_zero_right x hy
 have F:r0≠0:=by omega
 obtain⟨p,E⟩:=Int.gcd_dvd_right x y
 obtain⟨q,L⟩:=Int.gcd_dvd_left x y
 rw [←H] at E L
 have D:y.tdiv r0=p:=by rw [E];exact Int.mul_tdiv_cancel_left _ F
 have o:p≠0:=fun e=>hy (by rw [E,e,Int.mul_zero])
 have I:y∣r0-x*z:=by
  have Z:=h.d0
  have hx:x*z=m0*x.natAbs:=by
   rw [hz]
   by_cases hn:x<0
   ·rw [if_pos hn]
    have:(x.natAbs:Int)= -x:=by omega
    rw [this];grind
   ·rw [if_neg hn]
    have:(x.natAbs:Int)=x:=by omega
    rw [this];grind
  rw [hx];exact Z
 have hm:=Int.mul_ediv_add_emod z p
 have f:y∣r0-x*(z%p):=by
  have X:r0-x*(z%p)=(r0-x*z)+y*(q*(z/p)):=by
   have V:z%p=z-p*(z/p):=by omega
   have Y:x*(p*(z/p))=y*(q*(z/p)):=by
    calc x*(p*(z/p))=(r0*q)*(p*(z/p)):=by rw [←L]
     _=(r0*p)*(q*(z/p)):=by grind
     _=y*(q*(z/p)):=by rw [←E]
   rw [V,Int.mul_sub,Y]
   omega
  rw [X]
  exact Int.dvd_add I (Int.dvd_mul_right _ _)
 refine⟨H,F,by rw [D];exact o,?_,?_,?_⟩
 ·refine Nat.mod_eq_zero_of_dvd (Int.natAbs_dvd_natAbs.2 ⟨p,E⟩)
 ·rw [D]
  exact Nat.mod_eq_zero_of_dvd (Int.natAbs_dvd_natAbs.2 f)
 ·rw [D]
  refine⟨fun e=>absurd e hy,?_,fun _=>Int.emod_nonneg _ o,fun _=>?_⟩
  ·have:=Int.mul_tdiv_cancel' f
   rw [←H]
   omega
  ·rw [←H]
   have U:=Int.emod_lt z o
   have h2:(z%p)*r0<p.natAbs*r0:=Int.mul_lt_mul_of_pos_right U (by omega)
   have h3:(y.natAbs:Int)=p.natAbs*r0:=by
    rw [E,Int.natAbs_mul]
    have:(r0.natAbs:Int)=r0:=by omega
    rw [jR,this,Int.mul_comm]
   omega
theorem L4 (x:Int):bN x 0=x.sign:=by
 unfold bN
 rcases Int.lt_trichotomy x 0 with h | h | h
 ·rw [if_pos h,Int.sign_eq_neg_one_of_neg h]
 ·subst h;rfl
 ·rw [if_neg (by omega),if_neg (by omega),Int.sign_eq_one_of_pos h]
theorem rY (h1: -18446744073709551615≤x)(h2:x≤18446744073709551615):ln x≤1:=jY (by rw [cI,Nat.pow_one];omega)
theorem tP (x y:Int): -9223372036854775808≤bN x y∧bN x y≤9223372036854775807:=by have:=LF x y;omega
theorem NM {a b c:Int}(h:a.natAbs≤max b.natAbs c.natAbs)(hb:ln b≤N)(hc:ln c≤N):ln a≤N:=by
 rcases Nat.le_total b.natAbs c.natAbs with f | f
 ·exact a6 (iA (by omega)) hc
 ·exact a6 (iA (by omega)) hb
theorem Bez.ofZero (h:y=0):Bez x y x.sign 0:=by
 subst h
 refine⟨fun _=>⟨rfl,rfl⟩,?_,fun h=>absurd G h,fun h=>absurd G h⟩
 rw [Int.mul_zero,Int.add_zero,Int.gcd_zero_right]
 rcases Int.lt_trichotomy x 0 with h | h | h
 ·rw [Int.sign_eq_neg_one_of_neg h];omega
 ·subst h;rfl
 ·rw [Int.sign_eq_one_of_pos h];omega
theorem yI {nb:Nat}(hb:b≤w.heap.size)(hx:Zi w sa Aa na ca x)(la:na≤17179869184)(hy:Zi w sb Ab nb cb y)(lb:nb≤17179869184):aQ aM 7 #[J sa Aa na ca,J sb Ab nb cb] w (fun e w'=>∃u v,Bez x y u v∧Gv w (TE (ZR b (Int.gcd x y:Int)) (ZR b u) (ZR b v)) e w'):=by
 refine Calls.mono (R:=fun e w'=>∃u v,Bez x y u v∧Gv w (TE (ZR w.heap.size (Int.gcd x y:Int)) (ZR w.heap.size u) (ZR w.heap.size v)) e w') ?_ (fun e _ h=>(by obtain⟨u,v,h1,h2⟩:=h;exact⟨u,v,h1,Gv.imp (TE.imp (ZR.imp hb) (ZR.imp hb) (ZR.imp hb)) _ _ h2⟩))
 have Lx:ln x≤17179869184:=a6 hx.ln la
 have Ly:ln y≤17179869184:=a6 hy.ln lb
 refine bP Tryz.func7 G (n:=94) G (bq G) (args:= [J sa Aa na ca,J sb Ab nb cb]) (bH [(0,J sa Aa na ca),(1,J sb Ab nb cb)] ⟨rfl,rfl,Fo⟩ (sr (bx (O sa Aa na ca) (Ext.refl w) G G G fun g1 _ ny _ _ oc=>(d5 (O sb Ab nb cb) oc ny.lt G G G fun g6 _ lh _ _ e8 kn=>(bF [F0,S0] kn lh.lt (fun _=>by kernel_rfl) G fun ib _ mr kc _ jj mx=>(bF [F0,S0] mx mr.lt (fun _=>by kernel_rfl) G fun iw _ kt fc _ fz nt=>(bF [F0,S0] nt kt.lt (fun _=>by kernel_rfl) G fun ga _ np jr _ fa fx=>(aA (aH (aH ?_))))))))))
 by_cases h0:y=0
 ·refine aJ (lo a8 (lh.ext (jj.t (fz.t fa))) (O sb Ab nb cb) G G G (cl (vs:= [J sb Ab nb cb]) fx (f6 (hy.ext fx) (aL lb G)) G (by kernel_rfl) fun _ Ed Eh ml dd=>?_))
  obtain rfl:=Eh
  refine aN G G G true (iY h0) (aA (bB G (aH ?_)))
  have Fi:ln ((Int.natAbs x:Int))≤17179869184:=(by rw [fQ];exact Lx)
  refine qH bR 6 [5] [1,4] [Is (J sa Aa na ca),ZR w.heap.size ((Int.natAbs x:Int)),Is (J sa Aa na ca),Is (v4 (bN x 0)),ZR w.heap.size (bN x 0),Is (.agg #[F0,S0])] [[],[0],[],[2],[3],[]] [[],[0],[],[0,1,2],[0,1,2,3],[],[0,1,2,3,4],[0,1,2,3,4,6],[0,1,2,3,4,5,6,7]] G G ⟨fun _ _ h=>ZR.old h,fun _ _ h=>ZR.old h,Fo⟩
   (aF G G (aC G G ?_) (aF G G (y7 (fun _ _ h=>h) G ?_) (aF G G (aC G G ?_) (aF G G (aC G G ?_) (aF G G (y7 (fun _ _ h=>h) G ?_) (cV G G (cY G ?_) cE)))))) ?_
  ·exact fun _ Em=>aB (lo a8 (ny.ext (e8.t (jj.t (fz.t (fa.t (ml.t Em)))))) (O sa Aa na ca) G G G (aE G aD G))
  ·intro _ Ej
   have ab:=dd.trans Ej
   refine dk G G (aB ?_)
   have Fh:ln ((Int.natAbs x:Int))≤17179869184:=(by rw [fQ];exact Lx)
   refine cl (vs:= [J sa Aa na ca]) ab (uO (aS _) (hx.ext ab) (aL la G)) G (by kernel_rfl) fun _ _ Dx Eg av=>?_
   obtain⟨_,_,_,_,rfl,Ck⟩:=Dx
   exact aE G Eg ⟨⟨_,_,_,_,rfl,Ck.mono ab.size⟩,Ck.new⟩
  ·exact fun _ Dy=>aB (lo a8 (ny.ext (e8.t (jj.t (fz.t (fa.t (ml.t Dy)))))) (O sa Aa na ca) G G G (aE G aD G))
  ·intro _ Eb
   have ab:=dd.trans Eb
   refine dk G G (aB (cl (vs:= [J sa Aa na ca]) ab (f6 (hx.ext ab) (aL la G)) G (by kernel_rfl) fun _ _ Ef Ei av=>?_))
   obtain rfl:=Ef
   exact aE G Ei rfl
  ·intro _ Ea
   have ab:=dd.trans Ea
   refine dk G G (aB (cl (vs:= [v4 (bN x 0)]) ab (lS (aS _) (tP _ _).1 (tP _ _).2) G (by kernel_rfl) fun _ _ Ee Ec av=>?_))
   obtain⟨_,_,_,_,rfl,Da⟩:=Ee
   exact aE G Ec ⟨⟨_,_,_,_,rfl,Da.mono ab.size⟩,Da.new⟩
  ·exact fun _ _=>aB (⟨.agg #[F0,S0],rfl,rfl,fun _=>by kernel_rfl,rfl⟩)
  ·intro _ mo
   have ab:=dd.trans mo
   refine dk G G (aO G G fun _ _ Dz _ Ek=>?_)
   obtain⟨tn,ug,tj,tp,rfl,uk⟩:=Dz
   have uk:=uk.ext Ek
   refine dk G G (dk G G (aO G G fun _ _ xw _ Cd=>?_))
   obtain⟨mp,mg,mw,mm,rfl,lu⟩:=xw
   have lu:=lu.ext Cd
   refine dk G G (aB ?_)
   intro nj
   have tg:=nj 1 (by decide) 4 (by decide) (by decide) _ _ G G _ _ G rfl
   clear nj
   have iq:=(mr.ext (fz.t (fa.t (ml.t mo))))
   refine so a8 iq (O tn ug tj tp) ab kc G G G G fun _ tv ji av=>?_
   have ir:=((kt.ext (fa.t (ml.t mo))).vN ji)
   refine so a8 ir (O mp mg mw mm) av fc G G G G fun _ tk jl ep=>?_
   have iu:=(((np.ext (ml.t mo)).vN ji).vN jl)
   refine so a8 iu [F0,S0] ep jr G G G G fun _ uj jo eg=>(aR (cF (aK (bD (cT (bC [J tn ug tj tp,J mp mg mw mm,.agg #[F0,S0]] G ⟨⟨_,rfl,aW a8 ((tv.vN jl).vN jo) (O tn ug tj tp) G (bq G) rfl⟩,⟨_,rfl,aW a8 (tk.vN jo) (O mp mg mw mm) G (bq G) rfl⟩,⟨_,rfl,aW a8 uj [F0,S0] G (bq G) rfl⟩,Fo⟩ ?_))))))
   exact⟨_,_,Bez.ofZero h0,_,rfl,⟨_,_,_,rfl,⟨_,_,_,_,rfl,((((uk.updT iq ji).updT ir jl).updT iu jo)).cast (by subst h0;simp)⟩,⟨_,_,_,_,rfl,((((lu.updT iq ji).updT ir jl).updT iu jo)).cast (L4 x)⟩,⟨_,_,_,_,rfl,(((((Zr.zero (w:=Ed) (base:=w.heap.size)).ext mo).updT iq ji).updT ir jl).updT iu jo)⟩,tg,fun _ _ h=>lQ h,fun _ _ h=>lQ h⟩,eg⟩
 ·refine aJ (lo a8 (lh.ext (jj.t (fz.t fa))) (O sb Ab nb cb) G G G (cl (vs:= [J sb Ab nb cb]) fx (f6 (hy.ext fx) (aL lb G)) G (by kernel_rfl) fun _ wg zq ew dd=>?_))
  obtain rfl:=zq
  refine aN G G G false (fE h0) (aA (aV G (b8 (aK (aH ?_)))))
  have Ez:ln ((Int.natAbs x:Int))≤17179869184:=(by rw [fQ];exact Lx)
  have Eo:ln ((Int.natAbs y:Int))≤17179869184:=(by rw [fQ];exact Ly)
  refine cU bR 6 [] [Is (J sa Aa na ca),ZR w.heap.size ((Int.natAbs x:Int)),Is (J sb Ab nb cb),ZR w.heap.size ((Int.natAbs y:Int)),fun v' w'=>∃s0 A0 n0 c0 s1 A1 n1 c1,v'= a9 s0 A0 n0 c0 s1 A1 n1 c1∧Zr w' w.heap.size s0 A0 n0 c0 ((Int.natAbs x:Int))∧Zr w' w.heap.size s1 A1 n1 c1 ((Int.natAbs y:Int)),PR wg.heap.size 60 [F0,S0,F0,S0]] [[],[0],[],[2],[1,3],[]] [[],[0],[],[0,1,2],[0,1,2,3],[],[0,1,2,3,4,5]] rfl
   (aF G G (aC G G ?_) (aF G G (aC G G ?_) (aF G G (aC G G ?_) (aF G G (aC G G ?_) (aF G G (aC G G ?_) (aF G G (aC G G ?_) cE)))))) ?_
  ·exact fun _ Df=>aB (lo a8 (ny.ext (e8.t (jj.t (fz.t (fa.t (ew.t Df)))))) (O sa Aa na ca) G G G (aE G aD G))
  ·intro _ Cj
   have ab:=dd.trans Cj
   refine dk G G (aB ?_)
   have Ep:ln ((Int.natAbs x:Int))≤17179869184:=(by rw [fQ];exact Lx)
   refine cl (vs:= [J sa Aa na ca]) ab (uO ab.size (hx.ext ab) (aL la G)) G (by kernel_rfl) fun _ _ vr Cy av=>?_
   obtain⟨_,_,_,_,rfl,wz⟩:=vr
   exact aE G Cy ⟨_,_,_,_,rfl,wz⟩
  ·exact fun _ xl=>aB (lo a8 (lh.ext (jj.t (fz.t (fa.t (ew.t xl))))) (O sb Ab nb cb) G G G (aE G aD G))
  ·intro _ vg
   have ab:=dd.trans vg
   refine dk G G (aB ?_)
   have Ex:ln ((Int.natAbs y:Int))≤17179869184:=(by rw [fQ];exact Ly)
   refine cl (vs:= [J sb Ab nb cb]) ab (uO ab.size (hy.ext ab) (aL lb G)) G (by kernel_rfl) fun _ _ Bx yn av=>?_
   obtain⟨_,_,_,_,rfl,zz⟩:=Bx
   exact aE G yn ⟨_,_,_,_,rfl,zz⟩
  ·intro _ _
   refine aO G G fun _ _ Bj _ xb=>?_
   obtain⟨ya,Cb,vv,vd,rfl,nz⟩:=Bj
   have nz:=nz.ext xb
   refine aO G G fun _ _ vw _ yr=>?_
   obtain⟨yp,yu,zf,za,rfl,md⟩:=vw
   have md:=md.ext yr
   refine aB (pu (v:= a9 ya Cb vv vd yp yu zf za) G ?_)
   exact aE G aD ⟨_,_,_,_,_,_,_,_,rfl,nz,md⟩
  ·intro _ yb
   refine aB (dW G (z:= .agg #[F0,S0,F0,S0]) (vs:= [F0,S0,F0,S0]) (fun _=>by kernel_rfl) G fun _ _ nb=>?_)
   exact aE G nb.ext ⟨_,rfl,by rw [←nb.at_];exact yb.size,nb.bk⟩
  ·intro _ gx
   have ab:=dd.trans gx
   refine dk G G (aO G G fun _ _ zk _ we=>?_)
   obtain⟨_,_,_,_,rfl,su⟩:=zk
   have su:=su.ext we
   refine dk G G (aO G G fun _ _ yl _ yh=>?_)
   obtain⟨_,_,_,_,rfl,qj⟩:=yl
   have qj:=qj.ext yh
   refine aO G G fun _ _ Cx _ qo=>?_
   obtain⟨oh,ov,qw,sc,sn,rn,pe,re,rfl,ni,lm⟩:=Cx
   have ni:=ni.ext qo
   have lm:=lm.ext qo
   refine aO G G fun _ _ Cm _ xf=>?_
   obtain⟨E,rfl,fp,fo⟩:=Cm
   have fo:=fo.ext xf
   have Fd:ga<E:=d4 (np.ext ew).lt fp
   have fp:w.heap.size≤E:=a6 dd.size fp
   refine aB (so vJ fo [.bool oh,AT ov qw sc,.bool sn,AT rn pe re] ab fp G G G G fun _ nk fj av=>(aR (cF (aK (sr (cl (vs:= [v4 1]) av (lS av.size (by decide) (by decide)) G (by kernel_rfl) fun _ _ vn ej ep=>?_))))))
   obtain⟨ko,nh,ll,lp,rfl,va⟩:=vn
   refine cl (vs:= [I0]) ep (lS ep.size (by decide) (by decide)) G (by kernel_rfl) fun _ _ Ag dr eg=>?_
   obtain⟨nu,lv,mn,ky,rfl,An⟩:=Ag
   refine pu (v:= a9 ko nh ll lp nu lv mn ky) G (bF [F0,S0,F0,S0] eg (nk.ext (ej.t dr)).lt (fun _=>by kernel_rfl) G fun aa _ fw ng _ dm bf=>(so vJ fw [.bool ko,AT nh ll lp,.bool nu,AT lv mn ky] bf ng G G G G fun Cq sy dl au=>(aA (aH (bG ?_)))))
   refine cQ (T:=a7×Int×Int×Int×Int×ZC×ZC×ZC×ZC)
    (fun⟨wr,r0,r1,m0,m1,f,H,p,k3⟩=> [(2,no g1 0),(3,no g6 0),(4,no ib 0),(5,no iw 0),(6,no ga 0),(7,no E 0),(8,no aa 0)])
    (fun⟨wr,r0,r1,m0,m1,f,H,p,k3⟩=>wr)
    (fun⟨wr,r0,r1,m0,m1,f,H,p,k3⟩=>(Ext w wr)∧(ExtI x y r0 r1 m0 m1)∧(Bk wr g1 24 (O sa Aa na ca))∧(Bk wr g6 24 (O sb Ab nb cb))∧(Bk wr ib 24 [F0,S0])∧(Bk wr iw 24 [F0,S0])∧(Bk wr ga 24 [F0,S0])∧(Bk wr E 60 [.bool f.s,AT f.A f.n f.c,.bool H.s,AT H.A H.n H.c])∧(Bk wr aa 60 [.bool p.s,AT p.A p.n p.c,.bool k3.s,AT k3.A k3.n k3.c])∧(Zr wr w.heap.size f.s f.A f.n f.c r0)∧(Zr wr w.heap.size H.s H.A H.n H.c r1)∧(Zr wr w.heap.size p.s p.A p.n p.c m0)∧(Zr wr w.heap.size k3.s k3.A k3.n k3.c m1))
    (fun⟨wr,r0,r1,m0,m1,f,H,p,k3⟩=>r1.natAbs)
    (⟨Cq,_,_,_,_,⟨oh,ov,qw,sc⟩,⟨sn,rn,pe,re⟩,⟨ko,nh,ll,lp⟩,⟨nu,lv,mn,ky⟩⟩:a7×Int×Int×Int×Int×ZC×ZC×ZC×ZC) ⟨au,ExtI.init h0,((((ny.ext (e8.t (jj.t (fz.t (fa.t (ew.t gx)))))).vN fj).ext (ej.t (dr.t dm))).vN dl),((((lh.ext (jj.t (fz.t (fa.t (ew.t gx))))).vN fj).ext (ej.t (dr.t dm))).vN dl),((((mr.ext (fz.t (fa.t (ew.t gx)))).vN fj).ext (ej.t (dr.t dm))).vN dl),((((kt.ext (fa.t (ew.t gx))).vN fj).ext (ej.t (dr.t dm))).vN dl),((((np.ext (ew.t gx)).vN fj).ext (ej.t (dr.t dm))).vN dl),((nk.ext (ej.t (dr.t dm))).vN dl),sy,(((ni.updT fo fj).ext (ej.t (dr.t dm))).updT fw dl),(((lm.updT fo fj).ext (ej.t (dr.t dm))).updT fw dl),((va.ext (dr.t dm)).updT fw dl),((An.ext dm).updT fw dl)⟩ G ⟨rfl,rfl,rfl,rfl,rfl,rfl,rfl,Fo⟩ ?_
   rintro⟨wr,r0,r1,m0,m1,f,H,p,k3⟩ ⟨oc,hI,b_2,b_3,b_4,b_5,b_6,b_7,b_8,df,jv,kk,uq⟩
   refine cP [(2,no g1 0),(3,no g6 0),(4,no ib 0),(5,no iw 0),(6,no ga 0),(7,no E 0),(8,no aa 0)] wr G ⟨rfl,rfl,rfl,rfl,rfl,rfl,rfl,Fo⟩ ?_
   have fm:ln r0≤17179869184:=NM hI.b0 Lx Ly
   have ul:ln r1≤17179869184:=a6 (iA hI.b1) Ly
   have kj:ln m0≤17179869184:=a6 (iA hI.mb0) Ly
   have ut:ln m1≤17179869184:=a6 (iA hI.mb1) Ly
   refine aH (aH ?_)
   by_cases hr:r1=0
   ·have Cg:ExtI x y r0 0 m0 m1:=hr▸hI
    refine aJ (pf E 2 G (lo a8 b_7 (O H.s H.A H.n H.c) G G G (cl (vs:= [J H.s H.A H.n H.c]) oc (f6 jv.zi (jv.le (aL ul G))) G (by kernel_rfl) fun _ pw Ac D kn=>?_)))
    obtain rfl:=Ac
    refine aN G G G false (C1 hr) (aA (aV G (cR (cK (cN (cO (aK (aH (bH [(2,no g1 0),(3,no g6 0),(4,no ib 0),(5,no iw 0),(6,no ga 0),(7,no E 0),(8,no aa 0),(32,no E 2),(33,J H.s H.A H.n H.c),(34,v4 (bN r1 0)),(35,BY)] ⟨rfl,rfl,rfl,rfl,rfl,rfl,rfl,rfl,rfl,rfl,rfl,Fo⟩ ?_)))))))))
    obtain⟨qh,hv,q⟩:∃v,v=pw.drew∧Ext pw v:=⟨_,rfl,aD.drew⟩
    have mx:=kn.trans q
    have ak:=(b_4.ext (D.t q))
    obtain⟨xj,ti,de,F,_⟩:=eV (P:=aM) (us:= (O f.s f.A f.n f.c)) (off:=0) a8 G ak (bq G) G (O f.s f.A f.n f.c) rfl
    have nt:=F.ext mx kc
    have aj:=((b_5.ext (D.t q)).vN F)
    obtain⟨Br,um,ia,o,_⟩:=eV (P:=aM) (us:= (O p.s p.A p.n p.c)) (off:=0) a8 G aj (bq G) G (O p.s p.A p.n p.c) rfl
    have fx:=o.ext nt fc
    refine gI bR (w:=qh) [no E 0,J f.s f.A f.n f.c,no aa 0,J p.s p.A p.n p.c,undef,undef] [qh,xj,Br] [4,5] [[],[0],[],[2],[1],[3]] [[],[0],[],[2],[0,1],[0,1,2,3,4]] [(0,0),(1,0),(2,0),(2,1),(3,0),(3,1),(4,0),(5,1)] G hv ?_ ?_
    ·refine aX _ G G G G G (iE G) (aX _ G G G G G (cB G (aW a8 (b_7.ext (D.t q)) (O f.s f.A f.n f.c) G (bq G) G)) (aX _ G G G G G (iE G) (aX _ G G G G G (iE G) (aX _ G G G G G (cB G (aW a8 (b_8.ext (D.t q)) (O p.s p.A p.n p.c) G (bq G) G)) (aX _ G G G G G (cB G (aW a8 ((b_8.ext (D.t q)).vN F) (O p.s p.A p.n p.c) G (bq G) G)) (f7 _ G G G G G (eR G G ti) (f7 _ G G G G G (eR G G um) ?_)))))))
     exact gH
    clear hv
    refine fU [(2,no g1 0),(3,no g6 0),(4,no ib 0),(5,no iw 0),(6,no ga 0),(7,no E 0),(8,no aa 0),(32,no E 2),(33,J H.s H.A H.n H.c),(34,v4 (bN r1 0)),(35,BY),(60,no E 0),(61,J f.s f.A f.n f.c),(62,no aa 0),(63,J p.s p.A p.n p.c)] ⟨rfl,rfl,rfl,rfl,rfl,rfl,rfl,rfl,rfl,rfl,rfl,rfl,rfl,rfl,rfl,Fo⟩ (aK (aH (aH ?_)))
    by_cases tq:x<0
    ·have HD:=Cg.done h0 (z:= -m0) (by rw [if_pos tq])
     refine aJ (lo a8 (((b_2.ext (D.t q)).vN F).vN o) (O sa Aa na ca) G G G (cl (vs:= [J sa Aa na ca]) fx (f6 (hx.ext fx) (aL la G)) G (by kernel_rfl) fun _ _ Dh ao dd=>?_))
     obtain rfl:=Dh
     refine aN G G G true (tO tq) (aA (bB G (aJ (lo a8 (ia.ext ao) (O p.s p.A p.n p.c) G G G ?_))))
     have xx:ln (-m0)≤17179869184:=(by rw [uH];exact kj)
     refine cl (vs:= [J p.s p.A p.n p.c]) dd (OT dd.size ((((kk.ext (D.t q)).updT ak F).updT aj o).ext ao).zi (kk.le (aL kj G))) G (by kernel_rfl) fun _ _ ym ar ab=>?_
     obtain⟨ft,fb,fe,fi,rfl,sk⟩:=ym
     have dw:=(ia.ext (ao.t ar))
     refine so a8 dw (O ft fb fe fi) ab fc G G G G fun _ mq aw av=>(aA (sr (lo a8 (((((b_3.ext (D.t q)).vN F).vN o).ext (ao.t ar)).vN aw) (O sb Ab nb cb) G G G (lo a8 (((de.vN o).ext (ao.t ar)).vN aw) (O f.s f.A f.n f.c) G G G ?_))))
     have pp:ln (y.tdiv r0)≤17179869184:=a6 (fC _ _) Ly
     refine cl (vs:= [J sb Ab nb cb,J f.s f.A f.n f.c]) av (qE av.size (hy.ext av) (aL lb G) (((((df.ext (D.t q)).updT ak F).updT aj o).ext (ao.t ar)).updT dw aw).zi (df.le (aL fm G)) HD.2.1 HD.2.2.2.1) G (by kernel_rfl) fun _ _ Cf bh ep=>?_
     obtain⟨_,_,rfl,⟨ct,bt,bz,co,rfl,qq⟩,rfl⟩:=Cf
     refine mv 1 G (pu (v:= J ct bt bz co) G (pu (v:= v4 0) G (bF [F0,S0] ep ((((((b_8.ext (D.t q)).vN F).vN o).ext (ao.t ar)).vN aw).ext bh).lt (fun _=>by kernel_rfl) G fun pb _ dt ue _ bc eg=>(so a8 dt (O ct bt bz co) eg ue G G G G fun _ uc bg bf=>(mv 1 G (aA (aH ?_)))))))
     have td:=(((((((df.ext (D.t q)).updT ak F).updT aj o).ext (ao.t ar)).updT dw aw).ext (bh.t bc)).updT dt bg).old
     refine aJ (lo a8 ((mq.ext (bh.t bc)).vN bg) (O ft fb fe fi) G G G (lo a8 uc (O ct bt bz co) G G G ?_))
     have nl:ln ((-m0)%(y.tdiv r0))≤17179869184:=a6 (bO HD.2.2.1) pp
     refine cl (vs:= [J ft fb fe fi,J ct bt bz co]) bf (oP (aS _) (((sk.updT dw aw).ext (bh.t bc)).updT dt bg).zi (sk.le (aL xx G)) ((qq.ext bc).updT dt bg).zi (qq.le (aL pp G)) HD.2.2.1) G (by kernel_rfl) fun _ _ xv dg au=>?_
     obtain⟨_,_,rfl,⟨Y,X,W,U,rfl,fq⟩,r295_1⟩:=xv
     have nw_z296:=fq.new
     replace fq:=fq.mono bf.size
     obtain rfl:=r295_1
     refine mv 1 G (pu (v:= J Y X W U) G (pu (v:= v4 0) G ?_))
     have ee:=(((mq.ext (bh.t bc)).vN bg).ext dg)
     refine so a8 ee (O Y X W U) au fc G G G G fun kq ij dc bv=>(aA (aH ?_))
     have apGX:=qK td nw_z296
     have kx:=(((((((((df.ext (D.t q)).updT ak F).updT aj o).ext (ao.t ar)).updT dw aw).ext (bh.t bc)).updT dt bg).ext dg).updT ee dc).old
     have mz:=(fq.updT ee dc).old
     have mj:ln (x*((-m0)%(y.tdiv r0)))≤34359738368:=a6 (dR Lx nl) (by decide)
     have my:ln (r0-(x*((-m0)%(y.tdiv r0))))≤34359738369:=a6 (gG fm mj) (by decide)
     have Es:ln ((r0-(x*((-m0)%(y.tdiv r0)))).tdiv y)≤34359738369:=a6 (fC _ _) my
     refine cU bR 10 [8,9] [Is (J f.s f.A f.n f.c),Is (J sa Aa na ca),Is (J Y X W U),ZR w.heap.size (x*((-m0)%(y.tdiv r0))),ZR w.heap.size (r0-(x*((-m0)%(y.tdiv r0)))),Is (J sb Ab nb cb),T2 (ZR kq.heap.size ((r0-(x*((-m0)%(y.tdiv r0)))).tdiv y)) (Is (v4 0)),T2 (ZR kq.heap.size ((r0-(x*((-m0)%(y.tdiv r0)))).tdiv y)) (Is (v4 0)),ZR kq.heap.size ((r0-(x*((-m0)%(y.tdiv r0)))).tdiv y),Is (v4 0)] [[],[],[],[1,2],[0,3],[],[4,5],[6],[7],[7]] [[],[],[],[1,2],[0,1,2,3],[],[0,1,2,3,4,5],[0,1,2,3,4,5,6],[0,1,2,3,4,5,6,7],[0,1,2,3,4,5,6,7],[0,1,2,3,4,5,6,7,8]] rfl
      (aF G G (aC G G ?_) (aF G G (aC G G ?_) (aF G G (aC G G ?_) (aF G G (aC G G ?_) (aF G G (aC G G ?_) (aF G G (aC G G ?_) (aF G G (aC G G ?_) (aF G G (aC G G ?_) (cV G G (cY G ?_) (cV G G (cY G ?_) cE)))))))))) ?_
     ·exact fun _ Bw=>aB (lo a8 ((((((((de.vN o).ext (ao.t ar)).vN aw).ext (bh.t bc)).vN bg).ext dg).vN dc).ext Bw) (O f.s f.A f.n f.c) G G G (aE G aD G))
     ·exact fun _ yf=>aB (lo a8 ((((((((((b_2.ext (D.t q)).vN F).vN o).ext (ao.t ar)).vN aw).ext (bh.t bc)).vN bg).ext dg).vN dc).ext yf) (O sa Aa na ca) G G G (aE G aD G))
     ·exact fun _ yt=>aB (lo a8 (ij.ext yt) (O Y X W U) G G G (aE G aD G))
     ·intro _ ph
      have bo:=bv.trans ph
      refine dk G G (dk G G (aB ?_))
      have Eq:ln (x*((-m0)%(y.tdiv r0)))≤34359738368:=a6 (dR Lx nl) (by decide)
      refine cl (vs:= [J sa Aa na ca,J Y X W U]) bo (mL bo.size (hx.ext bo) (aL la G) ((fq.updT ee dc).ext ph).zi (fq.le (aL nl G))) G (by kernel_rfl) fun _ _ Bc yc gi=>?_
      obtain⟨_,_,_,_,rfl,Cr⟩:=Bc
      exact aE G yc ⟨_,_,_,_,rfl,Cr⟩
     ·intro _ rt
      have bo:=bv.trans rt
      refine dk G G (aO G G fun _ _ vz _ Ds=>?_)
      obtain⟨yg,zv,uy,yi,rfl,jy⟩:=vz
      have jy:=jy.ext Ds
      refine aB ?_
      have Et:ln (r0-(x*((-m0)%(y.tdiv r0))))≤34359738369:=a6 (gG fm mj) (by decide)
      refine cl (vs:= [J f.s f.A f.n f.c,J yg zv uy yi]) bo (oO bo.size ((((((((((df.ext (D.t q)).updT ak F).updT aj o).ext (ao.t ar)).updT dw aw).ext (bh.t bc)).updT dt bg).ext dg).updT ee dc).ext rt).zi (df.le (aL fm G)) jy.zi (jy.le (aL mj G))) G (by kernel_rfl) fun _ _ yd Bs gi=>?_
      obtain⟨_,_,_,_,rfl,Dp⟩:=yd
      exact aE G Bs ⟨_,_,_,_,rfl,Dp⟩
     ·exact fun _ Ch=>aB (lo a8 ((((((((((b_3.ext (D.t q)).vN F).vN o).ext (ao.t ar)).vN aw).ext (bh.t bc)).vN bg).ext dg).vN dc).ext Ch) (O sb Ab nb cb) G G G (aE G aD G))
     ·intro _ ss
      have bo:=bv.trans ss
      refine aO G G fun _ _ yx _ Ci=>?_
      obtain⟨Bm,yz,xp,vp,rfl,ki⟩:=yx
      have ki:=ki.ext Ci
      refine dk G G (aB ?_)
      have Ew:ln ((r0-(x*((-m0)%(y.tdiv r0)))).tdiv y)≤34359738369:=a6 (fC _ _) my
      refine cl (vs:= [J Bm yz xp vp,J sb Ab nb cb]) bo (qE ss.size ki.zi (ki.le (aL my G)) (hy.ext bo) (aL lb G) h0 HD.2.2.2.2.1) G (by kernel_rfl) fun _ _ vi Bh gi=>?_
      obtain⟨_,_,rfl,⟨_,_,_,_,rfl,Ah⟩,rfl⟩:=vi
      exact aE G Bh ⟨_,_,rfl,⟨_,_,_,_,rfl,Ah⟩,rfl⟩
     ·intro _ _
      refine aO G G fun _ _ xr _ ux=>?_
      obtain⟨_,_,rfl,⟨_,_,_,_,rfl,mh⟩,rfl⟩:=xr
      have mh:=mh.ext ux
      refine aB (mv 1 G ?_)
      exact aE G aD ⟨_,_,rfl,⟨_,_,_,_,rfl,mh⟩,rfl⟩
     ·intro _ _
      refine aO G G fun _ _ Db _ Bv=>?_
      obtain⟨_,_,rfl,⟨Dq,xo,Bb,Dd,rfl,kz⟩,rfl⟩:=Db
      have kz:=kz.ext Bv
      refine aB ?_
      exact⟨J Dq xo Bb Dd,rfl,rfl,fun _=>by kernel_rfl,⟨_,_,_,_,rfl,kz⟩⟩
     ·intro _ _
      refine aO G G fun _ _ xk _ xi=>?_
      obtain⟨_,_,rfl,⟨_,_,_,_,rfl,ow⟩,rfl⟩:=xk
      have ow:=ow.ext xi
      refine aB ?_
      exact⟨v4 0,rfl,rfl,fun _=>by kernel_rfl,rfl⟩
     ·intro _ eh
      have bo:=bv.trans eh
      refine dk G G (dk G G (dk G G (aO G G fun _ _ xe _ xd=>?_)))
      obtain⟨oi,oo,sq,oe,rfl,pz⟩:=xe
      have pz:=pz.ext xd
      refine aO G G fun _ _ uz _ Be=>?_
      obtain⟨om,pk,rj,ot,rfl,sm⟩:=uz
      have sm:=sm.ext Be
      refine dk G G (aO G G fun _ _ yw _ Dv=>?_)
      obtain⟨_,_,rfl,⟨px,po,ou,qp,rfl,jd⟩,rfl⟩:=yw
      have jd:=jd.ext Dv
      have nw_z441:=jd.new
      replace jd:=jd.mono bv.size
      refine aO G G fun _ _ vh _ Ap=>?_
      obtain⟨_,_,rfl,⟨qv,pm,pd,pn,rfl,jg⟩,rfl⟩:=vh
      have jg:=jg.ext Ap
      have nw_z448:=jg.new
      replace jg:=jg.mono bv.size
      refine aO G G fun _ _ zd _ zt=>?_
      obtain⟨da,ch,cx,ci,rfl,gg⟩:=zd
      have gg:=gg.ext zt
      have nw_z454:=gg.new
      replace gg:=gg.mono bv.size
      refine dk G G (aB ?_)
      have ip:=((((((((((b_6.ext (D.t q)).vN F).vN o).ext (ao.t ar)).vN aw).ext (bh.t bc)).vN bg).ext dg).vN dc).ext eh)
      refine so a8 ip (O da ch cx ci) bo jr G G G G fun pj ie ez gi=>(aR (cF (aK (aH (bH [(2,no g1 0),(3,no g6 0),(4,no ib 0),(5,no iw 0),(6,no ga 0),(7,no E 0),(8,no aa 0),(32,no E 2),(33,J H.s H.A H.n H.c),(34,v4 (bN r1 0)),(35,BY),(60,no E 0),(61,J f.s f.A f.n f.c),(62,no aa 0),(63,J p.s p.A p.n p.c),(64,J sa Aa na ca),(65,v4 (bN x 0)),(66,By),(67,J p.s p.A p.n p.c),(68,J ft fb fe fi),(70,J sb Ab nb cb),(71,J f.s f.A f.n f.c),(72,.tuple #[J ct bt bz co,I0]),(69,.tuple #[J ct bt bz co,I0]),(73,J ct bt bz co),(74,v4 0),(13,no pb 0),(14,v4 0),(76,J ft fb fe fi),(77,J ct bt bz co),(78,.tuple #[J Y X W U,I0]),(75,.tuple #[J Y X W U,I0]),(79,J Y X W U),(80,v4 0),(82,J f.s f.A f.n f.c),(83,J sa Aa na ca),(84,J Y X W U),(85,J oi oo sq oe),(86,J om pk rj ot),(87,J sb Ab nb cb),(88,.tuple #[J px po ou qp,I0]),(81,.tuple #[J qv pm pd pn,I0]),(89,J da ch cx ci),(90,v4 0)] ⟨rfl,rfl,rfl,rfl,rfl,rfl,rfl,rfl,rfl,rfl,rfl,rfl,rfl,rfl,rfl,rfl,rfl,rfl,rfl,rfl,rfl,rfl,rfl,rfl,rfl,rfl,rfl,rfl,rfl,rfl,rfl,rfl,rfl,rfl,rfl,rfl,rfl,rfl,rfl,rfl,rfl,rfl,rfl,rfl,Fo⟩ ?_)))))
      obtain⟨rm,hv,bm⟩:∃v,v=pj.drew∧Ext pj v:=⟨_,rfl,aD.drew⟩
      have mu:=gi.trans bm
      have il:=((((((((((de.vN o).ext (ao.t ar)).vN aw).ext (bh.t bc)).vN bg).ext dg).vN dc).ext eh).vN ez).ext bm)
      obtain⟨vf,tc,uf,ef,_⟩:=eV (P:=aM) (us:= (O f.s f.A f.n f.c)) (off:=0) a8 G il (bq G) G (O f.s f.A f.n f.c) rfl
      have ma:=ef.ext mu kc
      have iy:=((((ij.ext eh).vN ez).ext bm).vN ef)
      obtain⟨xh,ta,tu,fd,_⟩:=eV (P:=aM) (us:= (O Y X W U)) (off:=0) a8 G iy (bq G) G (O Y X W U) rfl
      have xa:=fd.ext ma fc
      have gy:=(((ie.ext bm).vN ef).vN fd)
      obtain⟨zy,ui,up,gj,_⟩:=eV (P:=aM) (us:= (O da ch cx ci)) (off:=0) a8 G gy (bq G) G (O da ch cx ci) rfl
      have yq:=gj.ext xa jr
      refine gI bR (w:=rm) [J f.s f.A f.n f.c,J Y X W U,J da ch cx ci,undef,undef,undef] [rm,vf,xh,zy] [3,4,5] [[],[],[],[0],[1],[2]] [[],[],[],[0],[0,1,3],[0,1,2,3,4]] [(0,0),(1,0),(1,1),(2,0),(2,1),(2,2),(3,0),(4,1),(5,2)] G hv ?_ ?_
      ·refine aX _ G G G G G (cB G (aW a8 ((((((((((de.vN o).ext (ao.t ar)).vN aw).ext (bh.t bc)).vN bg).ext dg).vN dc).ext eh).vN ez).ext bm) (O f.s f.A f.n f.c) G (bq G) G)) (aX _ G G G G G (cB G (aW a8 (((ij.ext eh).vN ez).ext bm) (O Y X W U) G (bq G) G)) (aX _ G G G G G (cB G (aW a8 ((((ij.ext eh).vN ez).ext bm).vN ef) (O Y X W U) G (bq G) G)) (aX _ G G G G G (cB G (aW a8 (ie.ext bm) (O da ch cx ci) G (bq G) G)) (aX _ G G G G G (cB G (aW a8 ((ie.ext bm).vN ef) (O da ch cx ci) G (bq G) G)) (aX _ G G G G G (cB G (aW a8 (((ie.ext bm).vN ef).vN fd) (O da ch cx ci) G (bq G) G)) (f7 _ G G G G G (eR G G tc) (f7 _ G G G G G (eR G G ta) (f7 _ G G G G G (eR G G ui) ?_))))))))
       exact gH
      clear hv
      refine fU [(2,no g1 0),(3,no g6 0),(4,no ib 0),(5,no iw 0),(6,no ga 0),(7,no E 0),(8,no aa 0),(32,no E 2),(33,J H.s H.A H.n H.c),(34,v4 (bN r1 0)),(35,BY),(60,no E 0),(61,J f.s f.A f.n f.c),(62,no aa 0),(63,J p.s p.A p.n p.c),(64,J sa Aa na ca),(65,v4 (bN x 0)),(66,By),(67,J p.s p.A p.n p.c),(68,J ft fb fe fi),(70,J sb Ab nb cb),(71,J f.s f.A f.n f.c),(72,.tuple #[J ct bt bz co,I0]),(69,.tuple #[J ct bt bz co,I0]),(73,J ct bt bz co),(74,v4 0),(13,no pb 0),(14,v4 0),(76,J ft fb fe fi),(77,J ct bt bz co),(78,.tuple #[J Y X W U,I0]),(75,.tuple #[J Y X W U,I0]),(79,J Y X W U),(80,v4 0),(82,J f.s f.A f.n f.c),(83,J sa Aa na ca),(84,J Y X W U),(85,J oi oo sq oe),(86,J om pk rj ot),(87,J sb Ab nb cb),(88,.tuple #[J px po ou qp,I0]),(81,.tuple #[J qv pm pd pn,I0]),(89,J da ch cx ci),(90,v4 0),(91,J f.s f.A f.n f.c),(92,J Y X W U),(93,J da ch cx ci)] ⟨rfl,rfl,rfl,rfl,rfl,rfl,rfl,rfl,rfl,rfl,rfl,rfl,rfl,rfl,rfl,rfl,rfl,rfl,rfl,rfl,rfl,rfl,rfl,rfl,rfl,rfl,rfl,rfl,rfl,rfl,rfl,rfl,rfl,rfl,rfl,rfl,rfl,rfl,rfl,rfl,rfl,rfl,rfl,rfl,rfl,rfl,rfl,Fo⟩ (aK (bD (bC [J f.s f.A f.n f.c,J Y X W U,J da ch cx ci] G ⟨⟨_,rfl,aW a8 ((uf.vN fd).vN gj) (O f.s f.A f.n f.c) G (bq G) rfl⟩,⟨_,rfl,aW a8 (tu.vN gj) (O Y X W U) G (bq G) rfl⟩,⟨_,rfl,aW a8 up (O da ch cx ci) G (bq G) rfl⟩,Fo⟩ ?_)))
      exact⟨_,_,HD.2.2.2.2.2,_,rfl,⟨_,_,_,rfl,⟨_,_,_,_,rfl,((((((((((((((((df.ext (D.t q)).updT ak F).updT aj o).ext (ao.t ar)).updT dw aw).ext (bh.t bc)).updT dt bg).ext dg).updT ee dc).ext eh).updT ip ez).ext bm).updT il ef).updT iy fd).updT gy gj)).cast HD.1⟩,⟨_,_,_,_,rfl,(((((((fq.updT ee dc).ext eh).updT ip ez).ext bm).updT il ef).updT iy fd).updT gy gj)⟩,⟨_,_,_,_,rfl,(((((gg.updT ip ez).ext bm).updT il ef).updT iy fd).updT gy gj)⟩,apGX,qK kx nw_z454,qK mz nw_z454⟩,yq⟩
    ·have HD:=Cg.done h0 (z:=m0) (by rw [if_neg tq])
     refine aJ (lo a8 (((b_2.ext (D.t q)).vN F).vN o) (O sa Aa na ca) G G G (cl (vs:= [J sa Aa na ca]) fx (f6 (hx.ext fx) (aL la G)) G (by kernel_rfl) fun _ _ Dt an dd=>?_))
     obtain rfl:=Dt
     refine aN G G G false (pV (by omega)) (aA (aV G (b8 (aK (sr (lo a8 ((((b_3.ext (D.t q)).vN F).vN o).ext an) (O sb Ab nb cb) G G G (lo a8 ((de.vN o).ext an) (O f.s f.A f.n f.c) G G G ?_)))))))
     have qz:ln (y.tdiv r0)≤17179869184:=a6 (fC _ _) Ly
     refine cl (vs:= [J sb Ab nb cb,J f.s f.A f.n f.c]) dd (qE dd.size (hy.ext dd) (aL lb G) ((((df.ext (D.t q)).updT ak F).updT aj o).ext an).zi (df.le (aL fm G)) HD.2.1 HD.2.2.2.1) G (by kernel_rfl) fun _ _ wk az ab=>?_
     obtain⟨_,_,rfl,⟨cz,cn,cy,cv,rfl,qf⟩,rfl⟩:=wk
     refine mv 1 G (pu (v:= J cz cn cy cv) G (pu (v:= v4 0) G (bF [F0,S0] ab ((((b_8.ext (D.t q)).vN F).vN o).ext (an.t az)).lt (fun _=>by kernel_rfl) G fun pt _ dy sx _ bj av=>(so a8 dy (O cz cn cy cv) av sx G G G G fun _ tb bd ep=>(mv 1 G (aA (aH ?_)))))))
     have td:=(((((df.ext (D.t q)).updT ak F).updT aj o).ext (an.t (az.t bj))).updT dy bd).old
     refine aJ (lo a8 ((ia.ext (an.t (az.t bj))).vN bd) (O p.s p.A p.n p.c) G G G (lo a8 tb (O cz cn cy cv) G G G ?_))
     have mb:ln (m0%(y.tdiv r0))≤17179869184:=a6 (bO HD.2.2.1) qz
     refine cl (vs:= [J p.s p.A p.n p.c,J cz cn cy cv]) ep (oP (aS _) (((((kk.ext (D.t q)).updT ak F).updT aj o).ext (an.t (az.t bj))).updT dy bd).zi (kk.le (aL kj G)) ((qf.ext bj).updT dy bd).zi (qf.le (aL qz G)) HD.2.2.1) G (by kernel_rfl) fun _ _ Cp dn eg=>?_
     obtain⟨_,_,rfl,⟨I,L,V,M,rfl,fv⟩,r509_1⟩:=Cp
     have nw_z510:=fv.new
     replace fv:=fv.mono ep.size
     obtain rfl:=r509_1
     refine mv 1 G (pu (v:= J I L V M) G (pu (v:= v4 0) G ?_))
     have dz:=(((ia.ext (an.t (az.t bj))).vN bd).ext dn)
     refine so a8 dz (O I L V M) eg fc G G G G fun kw iz cg bf=>(aA (aH ?_))
     have apGX:=qK td nw_z510
     have kx:=(((((((df.ext (D.t q)).updT ak F).updT aj o).ext (an.t (az.t bj))).updT dy bd).ext dn).updT dz cg).old
     have mz:=(fv.updT dz cg).old
     have mt:ln (x*(m0%(y.tdiv r0)))≤34359738368:=a6 (dR Lx mb) (by decide)
     have mf:ln (r0-(x*(m0%(y.tdiv r0))))≤34359738369:=a6 (gG fm mt) (by decide)
     have Er:ln ((r0-(x*(m0%(y.tdiv r0)))).tdiv y)≤34359738369:=a6 (fC _ _) mf
     refine cU bR 10 [8,9] [Is (J f.s f.A f.n f.c),Is (J sa Aa na ca),Is (J I L V M),ZR w.heap.size (x*(m0%(y.tdiv r0))),ZR w.heap.size (r0-(x*(m0%(y.tdiv r0)))),Is (J sb Ab nb cb),T2 (ZR kw.heap.size ((r0-(x*(m0%(y.tdiv r0)))).tdiv y)) (Is (v4 0)),T2 (ZR kw.heap.size ((r0-(x*(m0%(y.tdiv r0)))).tdiv y)) (Is (v4 0)),ZR kw.heap.size ((r0-(x*(m0%(y.tdiv r0)))).tdiv y),Is (v4 0)] [[],[],[],[1,2],[0,3],[],[4,5],[6],[7],[7]] [[],[],[],[1,2],[0,1,2,3],[],[0,1,2,3,4,5],[0,1,2,3,4,5,6],[0,1,2,3,4,5,6,7],[0,1,2,3,4,5,6,7],[0,1,2,3,4,5,6,7,8]] rfl
      (aF G G (aC G G ?_) (aF G G (aC G G ?_) (aF G G (aC G G ?_) (aF G G (aC G G ?_) (aF G G (aC G G ?_) (aF G G (aC G G ?_) (aF G G (aC G G ?_) (aF G G (aC G G ?_) (cV G G (cY G ?_) (cV G G (cY G ?_) cE)))))))))) ?_
     ·exact fun _ Ak=>aB (lo a8 ((((((de.vN o).ext (an.t (az.t bj))).vN bd).ext dn).vN cg).ext Ak) (O f.s f.A f.n f.c) G G G (aE G aD G))
     ·exact fun _ vl=>aB (lo a8 ((((((((b_2.ext (D.t q)).vN F).vN o).ext (an.t (az.t bj))).vN bd).ext dn).vN cg).ext vl) (O sa Aa na ca) G G G (aE G aD G))
     ·exact fun _ yv=>aB (lo a8 (iz.ext yv) (O I L V M) G G G (aE G aD G))
     ·intro _ on
      have au:=bf.trans on
      refine dk G G (dk G G (aB ?_))
      have Fa:ln (x*(m0%(y.tdiv r0)))≤34359738368:=a6 (dR Lx mb) (by decide)
      refine cl (vs:= [J sa Aa na ca,J I L V M]) au (mL au.size (hx.ext au) (aL la G) ((fv.updT dz cg).ext on).zi (fv.le (aL mb G))) G (by kernel_rfl) fun _ _ De Bd bv=>?_
      obtain⟨_,_,_,_,rfl,Ay⟩:=De
      exact aE G Bd ⟨_,_,_,_,rfl,Ay⟩
     ·intro _ qt
      have au:=bf.trans qt
      refine dk G G (aO G G fun _ _ As _ vc=>?_)
      obtain⟨xy,uw,Dg,Dn,rfl,kf⟩:=As
      have kf:=kf.ext vc
      refine aB ?_
      have Ev:ln (r0-(x*(m0%(y.tdiv r0))))≤34359738369:=a6 (gG fm mt) (by decide)
      refine cl (vs:= [J f.s f.A f.n f.c,J xy uw Dg Dn]) au (oO au.size ((((((((df.ext (D.t q)).updT ak F).updT aj o).ext (an.t (az.t bj))).updT dy bd).ext dn).updT dz cg).ext qt).zi (df.le (aL fm G)) kf.zi (kf.le (aL mt G))) G (by kernel_rfl) fun _ _ wm At bv=>?_
      obtain⟨_,_,_,_,rfl,Bf⟩:=wm
      exact aE G At ⟨_,_,_,_,rfl,Bf⟩
     ·exact fun _ xz=>aB (lo a8 ((((((((b_3.ext (D.t q)).vN F).vN o).ext (an.t (az.t bj))).vN bd).ext dn).vN cg).ext xz) (O sb Ab nb cb) G G G (aE G aD G))
     ·intro _ pr
      have au:=bf.trans pr
      refine aO G G fun _ _ vk _ Bl=>?_
      obtain⟨Cu,Aw,zo,ye,rfl,jw⟩:=vk
      have jw:=jw.ext Bl
      refine dk G G (aB ?_)
      have Fc:ln ((r0-(x*(m0%(y.tdiv r0)))).tdiv y)≤34359738369:=a6 (fC _ _) mf
      refine cl (vs:= [J Cu Aw zo ye,J sb Ab nb cb]) au (qE pr.size jw.zi (jw.le (aL mf G)) (hy.ext au) (aL lb G) h0 HD.2.2.2.2.1) G (by kernel_rfl) fun _ _ Al vt bv=>?_
      obtain⟨_,_,rfl,⟨_,_,_,_,rfl,wy⟩,rfl⟩:=Al
      exact aE G vt ⟨_,_,rfl,⟨_,_,_,_,rfl,wy⟩,rfl⟩
     ·intro _ _
      refine aO G G fun _ _ ve _ Ai=>?_
      obtain⟨_,_,rfl,⟨_,_,_,_,rfl,nw⟩,rfl⟩:=ve
      have nw:=nw.ext Ai
      refine aB (mv 1 G ?_)
      exact aE G aD ⟨_,_,rfl,⟨_,_,_,_,rfl,nw⟩,rfl⟩
     ·intro _ _
      refine aO G G fun _ _ ze _ vj=>?_
      obtain⟨_,_,rfl,⟨zu,Bi,Cv,Bg,rfl,me⟩,rfl⟩:=ze
      have me:=me.ext vj
      refine aB ?_
      exact⟨J zu Bi Cv Bg,rfl,rfl,fun _=>by kernel_rfl,⟨_,_,_,_,rfl,me⟩⟩
     ·intro _ _
      refine aO G G fun _ _ zj _ Cc=>?_
      obtain⟨_,_,rfl,⟨_,_,_,_,rfl,oq⟩,rfl⟩:=zj
      have oq:=oq.ext Cc
      refine aB ?_
      exact⟨v4 0,rfl,rfl,fun _=>by kernel_rfl,rfl⟩
     ·intro _ ei
      have au:=bf.trans ei
      refine dk G G (dk G G (dk G G (aO G G fun _ _ Bu _ xt=>?_)))
      obtain⟨qr,si,rk,qu,rfl,qk⟩:=Bu
      have qk:=qk.ext xt
      refine aO G G fun _ _ xm _ Dc=>?_
      obtain⟨qd,qy,pg,qe,rfl,qm⟩:=xm
      have qm:=qm.ext Dc
      refine dk G G (aO G G fun _ _ Ba _ yo=>?_)
      obtain⟨_,_,rfl,⟨rp,pl,qi,rc,rfl,jq⟩,rfl⟩:=Ba
      have jq:=jq.ext yo
      have nw_z655:=jq.new
      replace jq:=jq.mono bf.size
      refine aO G G fun _ _ Do _ vu=>?_
      obtain⟨_,_,rfl,⟨qx,oy,pq,qn,rfl,je⟩,rfl⟩:=Do
      have je:=je.ext vu
      have nw_z662:=je.new
      replace je:=je.mono bf.size
      refine aO G G fun _ _ Dm _ xg=>?_
      obtain⟨cu,bu,ck,cm,rfl,go⟩:=Dm
      have go:=go.ext xg
      have nw_z668:=go.new
      replace go:=go.mono bf.size
      refine dk G G (aB ?_)
      have ja:=((((((((b_6.ext (D.t q)).vN F).vN o).ext (an.t (az.t bj))).vN bd).ext dn).vN cg).ext ei)
      refine so a8 ja (O cu bu ck cm) au jr G G G G fun sj jb ey bv=>(aR (cF (aK (aH (bH [(2,no g1 0),(3,no g6 0),(4,no ib 0),(5,no iw 0),(6,no ga 0),(7,no E 0),(8,no aa 0),(32,no E 2),(33,J H.s H.A H.n H.c),(34,v4 (bN r1 0)),(35,BY),(60,no E 0),(61,J f.s f.A f.n f.c),(62,no aa 0),(63,J p.s p.A p.n p.c),(64,J sa Aa na ca),(65,v4 (bN x 0)),(66,BY),(70,J sb Ab nb cb),(71,J f.s f.A f.n f.c),(72,.tuple #[J cz cn cy cv,I0]),(69,.tuple #[J cz cn cy cv,I0]),(73,J cz cn cy cv),(74,v4 0),(13,no pt 0),(14,v4 0),(76,J p.s p.A p.n p.c),(77,J cz cn cy cv),(78,.tuple #[J I L V M,I0]),(75,.tuple #[J I L V M,I0]),(79,J I L V M),(80,v4 0),(82,J f.s f.A f.n f.c),(83,J sa Aa na ca),(84,J I L V M),(85,J qr si rk qu),(86,J qd qy pg qe),(87,J sb Ab nb cb),(88,.tuple #[J rp pl qi rc,I0]),(81,.tuple #[J qx oy pq qn,I0]),(89,J cu bu ck cm),(90,v4 0)] ⟨rfl,rfl,rfl,rfl,rfl,rfl,rfl,rfl,rfl,rfl,rfl,rfl,rfl,rfl,rfl,rfl,rfl,rfl,rfl,rfl,rfl,rfl,rfl,rfl,rfl,rfl,rfl,rfl,rfl,rfl,rfl,rfl,rfl,rfl,rfl,rfl,rfl,rfl,rfl,rfl,rfl,rfl,Fo⟩ ?_)))))
      obtain⟨rq,hv,bp⟩:∃v,v=sj.drew∧Ext sj v:=⟨_,rfl,aD.drew⟩
      have bo:=bv.trans bp
      have ik:=((((((((de.vN o).ext (an.t (az.t bj))).vN bd).ext dn).vN cg).ext ei).vN ey).ext bp)
      obtain⟨Ax,ud,sw,el,_⟩:=eV (P:=aM) (us:= (O f.s f.A f.n f.c)) (off:=0) a8 G ik (bq G) G (O f.s f.A f.n f.c) rfl
      have gi:=el.ext bo kc
      have ig:=((((iz.ext ei).vN ey).ext bp).vN el)
      obtain⟨vo,uh,tw,fk,_⟩:=eV (P:=aM) (us:= (O I L V M)) (off:=0) a8 G ig (bq G) G (O I L V M) rfl
      have mu:=fk.ext gi fc
      have io:=(((jb.ext bp).vN el).vN fk)
      obtain⟨Au,tf,tr,gb,_⟩:=eV (P:=aM) (us:= (O cu bu ck cm)) (off:=0) a8 G io (bq G) G (O cu bu ck cm) rfl
      have ma:=gb.ext mu jr
      refine gI bR (w:=rq) [J f.s f.A f.n f.c,J I L V M,J cu bu ck cm,undef,undef,undef] [rq,Ax,vo,Au] [3,4,5] [[],[],[],[0],[1],[2]] [[],[],[],[0],[0,1,3],[0,1,2,3,4]] [(0,0),(1,0),(1,1),(2,0),(2,1),(2,2),(3,0),(4,1),(5,2)] G hv ?_ ?_
      ·refine aX _ G G G G G (cB G (aW a8 ((((((((de.vN o).ext (an.t (az.t bj))).vN bd).ext dn).vN cg).ext ei).vN ey).ext bp) (O f.s f.A f.n f.c) G (bq G) G)) (aX _ G G G G G (cB G (aW a8 (((iz.ext ei).vN ey).ext bp) (O I L V M) G (bq G) G)) (aX _ G G G G G (cB G (aW a8 ((((iz.ext ei).vN ey).ext bp).vN el) (O I L V M) G (bq G) G)) (aX _ G G G G G (cB G (aW a8 (jb.ext bp) (O cu bu ck cm) G (bq G) G)) (aX _ G G G G G (cB G (aW a8 ((jb.ext bp).vN el) (O cu bu ck cm) G (bq G) G)) (aX _ G G G G G (cB G (aW a8 (((jb.ext bp).vN el).vN fk) (O cu bu ck cm) G (bq G) G)) (f7 _ G G G G G (eR G G ud) (f7 _ G G G G G (eR G G uh) (f7 _ G G G G G (eR G G tf) ?_))))))))
       exact gH
      clear hv
      refine fU [(2,no g1 0),(3,no g6 0),(4,no ib 0),(5,no iw 0),(6,no ga 0),(7,no E 0),(8,no aa 0),(32,no E 2),(33,J H.s H.A H.n H.c),(34,v4 (bN r1 0)),(35,BY),(60,no E 0),(61,J f.s f.A f.n f.c),(62,no aa 0),(63,J p.s p.A p.n p.c),(64,J sa Aa na ca),(65,v4 (bN x 0)),(66,BY),(70,J sb Ab nb cb),(71,J f.s f.A f.n f.c),(72,.tuple #[J cz cn cy cv,I0]),(69,.tuple #[J cz cn cy cv,I0]),(73,J cz cn cy cv),(74,v4 0),(13,no pt 0),(14,v4 0),(76,J p.s p.A p.n p.c),(77,J cz cn cy cv),(78,.tuple #[J I L V M,I0]),(75,.tuple #[J I L V M,I0]),(79,J I L V M),(80,v4 0),(82,J f.s f.A f.n f.c),(83,J sa Aa na ca),(84,J I L V M),(85,J qr si rk qu),(86,J qd qy pg qe),(87,J sb Ab nb cb),(88,.tuple #[J rp pl qi rc,I0]),(81,.tuple #[J qx oy pq qn,I0]),(89,J cu bu ck cm),(90,v4 0),(91,J f.s f.A f.n f.c),(92,J I L V M),(93,J cu bu ck cm)] ⟨rfl,rfl,rfl,rfl,rfl,rfl,rfl,rfl,rfl,rfl,rfl,rfl,rfl,rfl,rfl,rfl,rfl,rfl,rfl,rfl,rfl,rfl,rfl,rfl,rfl,rfl,rfl,rfl,rfl,rfl,rfl,rfl,rfl,rfl,rfl,rfl,rfl,rfl,rfl,rfl,rfl,rfl,rfl,rfl,rfl,Fo⟩ (aK (bD (bC [J f.s f.A f.n f.c,J I L V M,J cu bu ck cm] G ⟨⟨_,rfl,aW a8 ((sw.vN fk).vN gb) (O f.s f.A f.n f.c) G (bq G) rfl⟩,⟨_,rfl,aW a8 (tw.vN gb) (O I L V M) G (bq G) rfl⟩,⟨_,rfl,aW a8 tr (O cu bu ck cm) G (bq G) rfl⟩,Fo⟩ ?_)))
      exact⟨_,_,HD.2.2.2.2.2,_,rfl,⟨_,_,_,rfl,⟨_,_,_,_,rfl,((((((((((((((df.ext (D.t q)).updT ak F).updT aj o).ext (an.t (az.t bj))).updT dy bd).ext dn).updT dz cg).ext ei).updT ja ey).ext bp).updT ik el).updT ig fk).updT io gb)).cast HD.1⟩,⟨_,_,_,_,rfl,(((((((fv.updT dz cg).ext ei).updT ja ey).ext bp).updT ik el).updT ig fk).updT io gb)⟩,⟨_,_,_,_,rfl,(((((go.updT ja ey).ext bp).updT ik el).updT ig fk).updT io gb)⟩,apGX,qK kx nw_z668,qK mz nw_z668⟩,ma⟩
   ·refine aJ (pf E 2 G (lo a8 b_7 (O H.s H.A H.n H.c) G G G (cl (vs:= [J H.s H.A H.n H.c]) oc (f6 jv.zi (jv.le (aL ul G))) G (by kernel_rfl) fun _ _ wh Z kn=>?_)))
    obtain rfl:=wh
    refine aN G G G true (C0 hr) (aA (bB G (b8 (aK (bG (sr (pf E 0 G (lo a8 (b_7.ext Z) (O f.s f.A f.n f.c) G G G (pf E 2 G (lo a8 (b_7.ext Z) (O H.s H.A H.n H.c) G G G ?_))))))))))
    have nx:ln ((r0).tdiv r1)≤17179869184:=a6 (fC _ _) fm
    have Fb:ln ((r0).tmod r1)≤17179869184:=a6 (rZ _ _) fm
    refine cl (vs:= [J f.s f.A f.n f.c,J H.s H.A H.n H.c]) kn (EW kn.size (df.ext Z).zi (df.le (aL fm G)) (jv.ext Z).zi (jv.le (aL ul G)) hr) G (by kernel_rfl) fun _ _ xq aq mx=>?_
    obtain⟨_,_,_,rfl,⟨ju,jk,jt,jp,rfl,oz⟩,⟨gt,gf,gk,ge,rfl,Ao⟩,rfl⟩:=xq
    refine mv 1 G (pu (v:= J ju jk jt jp) G (pu (v:= J gt gf gk ge) G (pu (v:= v4 0) G (bF [F0,S0] mx (b_8.ext (Z.t aq)).lt (fun _=>by kernel_rfl) G fun _ _ ku tx _ am nt=>(bF [F0,S0] nt ku.lt (fun _=>by kernel_rfl) G fun Ct _ tz ub _ ah fx=>?_)))))
    have dx:=(ku.ext ah)
    refine so a8 dx (O ju jk jt jp) fx tx G G G G fun _ ur ag dd=>?_
    have dv:=(tz.vN ag)
    refine so a8 dv (O gt gf gk ge) dd ub G G G G fun Dr kv ai ab=>(mv 1 G (aA (aH ?_)))
    have lj:ln ((r0.tdiv r1)*m1)≤34359738368:=a6 (dR nx ut) (by decide)
    have Fe:ln (m0-((r0.tdiv r1)*m1))≤34359738369:=a6 (gG kj lj) (by decide)
    refine cU bR 8 [] [Is (no aa 0),Is (J p.s p.A p.n p.c),Is (J ju jk jt jp),Is (no aa 2),Is (J k3.s k3.A k3.n k3.c),ZR w.heap.size ((r0.tdiv r1)*m1),ZR w.heap.size (m0-((r0.tdiv r1)*m1)),PR Dr.heap.size 24 [F0,S0]] [[],[0],[],[],[3],[2,4],[1,5],[]] [[],[0],[],[],[3],[2,3,4],[0,1,2,3,4,5],[],[0,1,2,3,4,5,6,7]] rfl
     (aF G G (aC G G ?_) (aF G G (aC G G ?_) (aF G G (aC G G ?_) (aF G G (aC G G ?_) (aF G G (aC G G ?_) (aF G G (aC G G ?_) (aF G G (aC G G ?_) (aF G G (aC G G ?_) cE)))))))) ?_
    ·exact fun _ _=>aB (pf aa 0 G (aE G aD G))
    ·exact fun _ ww=>dk G G (aB (lo a8 ((((b_8.ext (Z.t (aq.t (am.t ah)))).vN ag).vN ai).ext ww) (O p.s p.A p.n p.c) G G G (aE G aD G)))
    ·exact fun _ Bn=>aB (lo a8 ((ur.vN ai).ext Bn) (O ju jk jt jp) G G G (aE G aD G))
    ·exact fun _ _=>aB (pf aa 2 G (aE G aD G))
    ·exact fun _ Dl=>dk G G (aB (lo a8 ((((b_8.ext (Z.t (aq.t (am.t ah)))).vN ag).vN ai).ext Dl) (O k3.s k3.A k3.n k3.c) G G G (aE G aD G)))
    ·intro _ lg
     have av:=ab.trans lg
     refine dk G G (dk G G (aB ?_))
     have En:ln ((r0.tdiv r1)*m1)≤34359738368:=a6 (dR nx ut) (by decide)
     refine cl (vs:= [J ju jk jt jp,J k3.s k3.A k3.n k3.c]) av (mL av.size ((((oz.ext (am.t ah)).updT dx ag).updT dv ai).ext lg).zi (oz.le (aL nx G)) ((((uq.ext (Z.t (aq.t (am.t ah)))).updT dx ag).updT dv ai).ext lg).zi (uq.le (aL ut G))) G (by kernel_rfl) fun _ _ wu Cl ep=>?_
     obtain⟨_,_,_,_,rfl,zx⟩:=wu
     exact aE G Cl ⟨_,_,_,_,rfl,zx⟩
    ·intro _ qc
     have av:=ab.trans qc
     refine dk G G (aO G G fun _ _ vm _ Az=>?_)
     obtain⟨Di,Dj,Dk,uv,rfl,jx⟩:=vm
     have jx:=jx.ext Az
     refine aB ?_
     have Eu:ln (m0-((r0.tdiv r1)*m1))≤34359738369:=a6 (gG kj lj) (by decide)
     refine cl (vs:= [J p.s p.A p.n p.c,J Di Dj Dk uv]) av (oO av.size ((((kk.ext (Z.t (aq.t (am.t ah)))).updT dx ag).updT dv ai).ext qc).zi (kk.le (aL kj G)) jx.zi (jx.le (aL lj G))) G (by kernel_rfl) fun _ _ Co Av ep=>?_
     obtain⟨_,_,_,_,rfl,yj⟩:=Co
     exact aE G Av ⟨_,_,_,_,rfl,yj⟩
    ·intro _ vq
     refine aB (dW G (z:= .agg #[F0,S0]) (vs:= [F0,S0]) (fun _=>by kernel_rfl) G fun _ _ nb=>?_)
     exact aE G nb.ext ⟨_,rfl,by rw [←nb.at_];exact vq.size,nb.bk⟩
    ·intro _ bi
     have av:=ab.trans bi
     refine dk G G (dk G G (dk G G (dk G G (dk G G (aO G G fun _ _ xu _ Du=>?_)))))
     obtain⟨_,_,_,_,rfl,ro⟩:=xu
     have ro:=ro.ext Du
     refine aO G G fun _ _ Am _ Bt=>?_
     obtain⟨jc,jm,jh,jf,rfl,mi⟩:=Am
     have mi:=mi.ext Bt
     refine aO G G fun _ _ Aj _ wp=>?_
     obtain⟨qg,rfl,ix,du⟩:=Aj
     have du:=du.ext wp
     have Ey:Ct<qg:=d4 kv.lt ix
     have ix:w.heap.size≤qg:=a6 ab.size ix
     refine aB (so a8 du (O jc jm jh jf) av ix G G G G fun _ te ba ep=>(aR (cF (aK (sr (pf E 2 G (lo a8 (((((b_7.ext (Z.t (aq.t (am.t ah)))).vN ag).vN ai).ext bi).vN ba) (O H.s H.A H.n H.c) G G G (lo a8 ((kv.ext bi).vN ba) (O gt gf gk ge) G G G (pu (v:= a9 H.s H.A H.n H.c gt gf gk ge) G ?_)))))))))
     have fy:=(((((b_7.ext (Z.t (aq.t (am.t ah)))).vN ag).vN ai).ext bi).vN ba)
     refine so vJ fy [.bool H.s,AT H.A H.n H.c,.bool gt,AT gf gk ge] ep fp G G G G fun _ sz cj eg=>(aA (aJ (pf aa 2 G (lo a8 ((((((b_8.ext (Z.t (aq.t (am.t ah)))).vN ag).vN ai).ext bi).vN ba).vN cj) (O k3.s k3.A k3.n k3.c) G G G (lo a8 (te.vN cj) (O jc jm jh jf) G G G (pu (v:= a9 k3.s k3.A k3.n k3.c jc jm jh jf) G ?_))))))
     have fg:=((((((b_8.ext (Z.t (aq.t (am.t ah)))).vN ag).vN ai).ext bi).vN ba).vN cj)
     refine so vJ fg [.bool k3.s,AT k3.A k3.n k3.c,.bool jc,AT jm jh jf] eg ng G G G G fun yk ua dh bf=>(aR (bM (bX (⟨yk,_,_,_,_,⟨H.s,H.A,H.n,H.c⟩,⟨gt,gf,gk,ge⟩,⟨k3.s,k3.A,k3.n,k3.c⟩,⟨jc,jm,jh,jf⟩⟩:a7×Int×Int×Int×Int×ZC×ZC×ZC×ZC) ⟨bf,hI.step hr,(((((((b_2.ext (Z.t (aq.t (am.t ah)))).vN ag).vN ai).ext bi).vN ba).vN cj).vN dh),(((((((b_3.ext (Z.t (aq.t (am.t ah)))).vN ag).vN ai).ext bi).vN ba).vN cj).vN dh),(((((((b_4.ext (Z.t (aq.t (am.t ah)))).vN ag).vN ai).ext bi).vN ba).vN cj).vN dh),(((((((b_5.ext (Z.t (aq.t (am.t ah)))).vN ag).vN ai).ext bi).vN ba).vN cj).vN dh),(((((((b_6.ext (Z.t (aq.t (am.t ah)))).vN ag).vN ai).ext bi).vN ba).vN cj).vN dh),(sz.vN dh),ua,(((((((jv.ext (Z.t (aq.t (am.t ah)))).updT dx ag).updT dv ai).ext bi).updT du ba).updT fy cj).updT fg dh),(((((((Ao.ext (am.t ah)).updT dx ag).updT dv ai).ext bi).updT du ba).updT fy cj).updT fg dh),(((((((uq.ext (Z.t (aq.t (am.t ah)))).updT dx ag).updT dv ai).ext bi).updT du ba).updT fy cj).updT fg dh),(((mi.updT du ba).updT fy cj).updT fg dh)⟩ (pQ hr) G ⟨rfl,rfl,rfl,rfl,rfl,rfl,rfl,Fo⟩)))
theorem sG {nb:Nat}(hb:b≤w.heap.size)(hx:Zi w sa Aa na ca x)(la:na≤17179869184)(hy:Zi w sb Ab nb cb y)(lb:nb≤17179869184):aQ aM 7 #[J sa Aa na ca,J sb Ab nb cb] w (fun e w'=>∃u v,Bez x y u v∧Gv w (T3 (ZR b (Int.gcd x y:Int)) (ZR b u) (ZR b v)) e w'):=(yI hb hx la hy lb).mono fun e _ h=>(by obtain⟨u,v,f,o⟩:=h;exact⟨u,v,f,Gv.imp TE.t3 _ _ o⟩)
theorem d9:Tryz.prog.underlying 26=some (.slice 24):=by kernel_rfl
theorem mJ:(Tryz.prog.info? 24).map (fun i=>(i.zero,i.size,i.bytes))=some (some (J false none 0 0),2,32):=by kernel_rfl
def ZC.zero:ZC:=⟨false,none,0,0⟩
def iX (e:ZC):List aI:= (O e.s e.A e.n e.c)
def gE:List ZC→List aI
 | []=> []
 | e::r=> .bool e.s:: .slice e.A e.n e.c::gE r
theorem wL:∀es:List ZC,(gE es).length=es.length*2
 | []=>rfl
 | e::r=>by simp only [gE,gD,wL r];omega
theorem wM:∀(es fs:List ZC),gE (es++fs)=gE es++gE fs
 | [],fs=>rfl
 | e::r,fs=>by simp only [gE,pJ,wM r fs]
theorem tE:∀(es:List ZC) (i:Nat),i<es.length→(gE es)[i*2]?=some (.bool (es.getD i ZC.zero).s)
 | [],i,h=>by simp at h
 | e::r,0,h=>rfl
 | e::r,i+1,h=>by
  have:=tE r i (by simpa using h)
  simpa [gE,dV] using this
theorem tD:∀(es:List ZC) (i:Nat),i<es.length→(gE es)[i*2+1]?=some (.slice (es.getD i ZC.zero).A (es.getD i ZC.zero).n (es.getD i ZC.zero).c)
 | [],i,h=>by simp at h
 | e::r,0,h=>rfl
 | e::r,i+1,h=>by
  have:=tD r i (by simpa using h)
  simpa [gE,dV] using this
theorem wK:∀(es:List ZC) (i:Nat) (e:ZC),i<es.length→gF (gE es) (i*2) (iX e)=gE (es.set i e)
 | [],i,e,h=>by simp at h
 | a::r,0,e,h=>by simp [gE,gF,iX]
 | a::r,i+1,e,h=>by
  have:=wK r i e (by simpa using h)
  simp only [gF,iX,gD,List.length_nil] at this⊢
  rw [show (i+1)*2=i*2+1+1 by omega,show i*2+1+1+(0+1+1)=i*2+(0+1+1)+1+1 by omega]
  simp only [gE,List.take_succ_cons,List.drop_succ_cons,pJ,List.set_cons_succ,this]
theorem Zl.at (h:Zl w A n cap zs ms)(hi:i<n):∃p s B c,A.map (·.add (i*2))=some p∧(∀w',Ext w w'→∀(P:cC) (T:aU),AggT P T 2→(loadVar T p).run P w'= .ok (.agg #[.bool s,AT B (ms.getD i 0) c]) w')∧Zi w s B (ms.getD i 0) c (zs.getD i 0):=by
 obtain⟨a,s,B,c,rfl,f,D,o⟩:=h.get i hi
 refine⟨a.add (i*2),s,B,c,rfl,fun w' e P T q=>q8 q [.bool s,AT B (ms.getD i 0) c] G (fun j hj=>?_),o⟩
 rw [kY]
 match j,hj with
 | 0,_=>exact e.cell f
 | 1,_=>exact e.cell D
theorem Zr.updOT {s:Bool}{m:Nat}(h:Zr w b s A n cap z)(ho:Own w b' T s' B m c us)(x:UpdO B w w')(hT:36≠T:=by decide):Zr w' b s A n cap z:=
 ⟨h.sgn,h.len,h.own.updOT ho hT x⟩
def Zo (w:a7)(b:Nat)(s:Bool)(A:Option aG)(n cap:Nat)(z:Int):Prop:=∃xs,Own w b 36 1 A n cap (xs.map aY)∧Wf xs∧sg s (nv xs)=z
section
variable {w w':a7}{b:Nat}{s:Bool}{A:Option aG}{n cap:Nat}{z:Int}
theorem Zo.zi (h:Zo w b s A n cap z):Zi w s A n cap z:=by obtain⟨xs,f,p,o⟩:=h;exact⟨xs,f.rd p,o⟩
theorem Zo.ext (h:Zo w b s A n cap z)(x:Ext w w'):Zo w' b s A n cap z:=by obtain⟨xs,f,o⟩:=h;exact⟨xs,f.ext x,o⟩
theorem Zo.mono (h:Zo w b s A n cap z)(x:b'≤b):Zo w b' s A n cap z:=by obtain⟨xs,f,o⟩:=h;exact⟨xs,f.mono x,o⟩
theorem Zo.updT (h:Zo w b s A n cap z)(hb:Bk w g T us)(x:Upd g w w')(hT:36≠T:=by decide):Zo w' b s A n cap z:=by obtain⟨xs,f,o⟩:=h;exact⟨xs,f.updT hb hT x,o⟩
theorem Zo.updOT {m:Nat}(h:Zo w b s A n cap z)(ho:Own w b' T s' B m c us)(x:UpdO B w w')(hT:36≠T:=by decide):Zo w' b s A n cap z:=by obtain⟨xs,f,o⟩:=h;exact⟨xs,f.updOT ho hT x,o⟩
end
def El (m:Option a7)(b:Nat)(w:a7)(e:ZC)(z:Int):Prop:=Zr w b e.s e.A e.n e.c z∨∃w0,m=some w0∧(Zi w0 e.s e.A e.n e.c z∨Zo w b e.s e.A e.n e.c z)
theorem El.ext {e:ZC}(h:El m b w e z)(x:Ext w w'):El m b w' e z:=h.imp (·.ext x) (fun⟨w0,o,f⟩=>⟨w0,o,f.imp id (·.ext x)⟩)
theorem El.updT {e:ZC}(h:El m b w e z)(hb:Bk w g T us)(x:Upd g w w')(hT:36≠T:=by decide):El m b w' e z:=h.imp (·.updT hb x hT) (fun⟨w0,o,f⟩=>⟨w0,o,f.imp id (·.updT hb x hT)⟩)
theorem El.mono {e:ZC}(h:El m b w e z)(x:b'≤b):El m b' w e z:=h.imp (·.mono x) (fun⟨w0,o,f⟩=>⟨w0,o,f.imp id (·.mono x)⟩)
theorem El.updOT {e:ZC}(h:El m b w e z)(ho:Own w b' T s' B n c us)(x:UpdO B w w')(hT:36≠T:=by decide):El m b w' e z:=h.imp (·.updOT ho x hT) (fun⟨w0,o,f⟩=>⟨w0,o,f.imp id (·.updOT ho x hT)⟩)
theorem El.zi {e:ZC}(h:El (some w0) b w e z)(x:Ext w0 w):Zi w e.s e.A e.n e.c z:=by
 rcases h with h | ⟨_,f,o⟩
 ·exact h.zi
 ·cases f;exact o.elim (·.ext x) (·.zi)
theorem El.zr {e:ZC}(h:El none b w e z):Zr w b e.s e.A e.n e.c z:=by
 rcases h with h | ⟨_,f,_⟩
 ·exact h
 ·cases f
def Lz (m:Option a7)(K b:Nat)(w:a7)(lb:Nat)(A:Option aG)(n cap:Nat)(zs:List Int):Prop:=
 ∃es,Own w lb 24 2 A n cap (gE es)∧es.length=n∧zs.length=n∧∀i,i<n→(es.getD i ZC.zero).n≤K∧El m b w (es.getD i ZC.zero) (zs.getD i 0)
section
variable {m:Option a7}{K b lb:Nat}{w w':a7}{A:Option aG}{n cap:Nat}{zs:List Int}
theorem Lz.own (h:Lz m K b w lb A n cap zs):∃vs,Own w lb 24 2 A n cap vs:=by obtain⟨es,f,_⟩:=h;exact⟨_,f⟩
theorem Lz.block (h:Lz m K b w lb A n cap zs):∀a,A=some a→lb≤a.block∧a.block<w.heap.size:=by obtain⟨vs,h⟩:=h.own;exact h.block
theorem Lz.ext (h:Lz m K b w lb A n cap zs)(x:Ext w w'):Lz m K b w' lb A n cap zs:=by
 obtain⟨es,o,q,p,f⟩:=h
 exact⟨es,o.ext x,q,p,fun i hi=>⟨(f i hi).1,(f i hi).2.ext x⟩⟩
theorem Lz.updT (h:Lz m K b w lb A n cap zs)(hb:Bk w g T us)(x:Upd g w w')(hne:∀p,A=some p→p.block≠g)(hT:36≠T:=by decide):Lz m K b w' lb A n cap zs:=by
 obtain⟨es,o,D,q,f⟩:=h
 exact⟨es,o.upd x hne,D,q,fun i hi=>⟨(f i hi).1,(f i hi).2.updT hb x hT⟩⟩
theorem Lz.nil (m:Option a7)(K b:Nat)(w:a7)(lb:Nat):Lz m K b w lb none 0 0 []:=⟨[],Own.nil _ _ _ _,rfl,rfl,fun i hi=>by omega⟩
theorem Lz.mono {K' lb':Nat}(h:Lz m K b w lb A n cap zs)(hK:K≤K')(hb:b'≤b)(hl:lb'≤lb):Lz m K' b' w lb' A n cap zs:=by
 obtain⟨es,o,q,p,f⟩:=h
 exact⟨es,o.mono hl,q,p,fun i hi=>⟨a6 (f i hi).1 hK,(f i hi).2.mono hb⟩⟩
theorem Lz.at (h:Lz m K b w lb A n cap zs)(hi:i<n):∃p s B k c,A.map (·.add (i*2))=some p∧(∀w',Ext w w'→∀(P:cC) (T:aU),AggT P T 2→(loadVar T p).run P w'= .ok (J s B k c) w')∧k≤K∧El m b w ⟨s,B,k,c⟩ (zs.getD i 0):=by
 obtain⟨es,f,_,_,D⟩:=h
 obtain⟨a,o,q⟩:=f.rv.get (i*2) (by omega)
 obtain⟨a',ha',hc'⟩:=f.rv.get (i*2+1) (by omega)
 rw [o] at ha';cases ha'
 have E:=tE es i (by omega)
 have F:=tD es i (by omega)
 rw [bE,E] at q
 rw [bE,F] at hc'
 refine⟨a.add (i*2),_,_,_,_,by rw [o];rfl,fun w' e P T H=>q8 H [.bool (es.getD i ZC.zero).s,.slice (es.getD i ZC.zero).A (es.getD i ZC.zero).n (es.getD i ZC.zero).c] G (fun j hj=>?_),(D i hi).1,(D i hi).2⟩
 rw [kY]
 match j,hj with
 | 0,_=>exact e.cell q
 | 1,_=>exact e.cell hc'
theorem Lz.zl (h:Lz (some w0) K b w lb A n cap zs)(x:Ext w0 w):∃ms,Zl w A n cap zs ms∧∀i,ms.getD i 0≤K:=by
 obtain⟨es,o,I,H,q⟩:=h
 have f:∀i,i<n→(es.map (·.n)).getD i 0=(es.getD i ZC.zero).n:=fun i hi=>by
  simp [bE,fY,cA (show i<es.length by omega)]
 refine⟨es.map (·.n),⟨H,by rw [List.length_map,I],o.rv.le,o.rv.max,fun i hi=>?_⟩,fun i=>?_⟩
 ·obtain⟨a,p,D⟩:=o.rv.get (i*2) (by omega)
  obtain⟨a',ha',hc'⟩:=o.rv.get (i*2+1) (by omega)
  rw [p] at ha';cases ha'
  have E:=tE es i (by omega)
  have F:=tD es i (by omega)
  rw [bE,E] at D
  rw [bE,F] at hc'
  rw [f i hi]
  exact⟨a,_,_,_,p,D,hc',(q i hi).2.zi x⟩
 ·by_cases hi:i<n
  ·rw [f i hi];exact (q i hi).1
  ·rw [bE,gM (by rw [List.length_map];omega)];exact bJ _
theorem sA {α:Type}{l r:List α}{d:α}(h:i<l.length:=by omega):(l++r).getD i d=l.getD i d:=by
 rw [bE,bE,List.getElem?_append_left h]
theorem s9 {α:Type}{l r:List α}{a d:α}:(l++a::r).getD l.length d=a:=by
 rw [bE,List.getElem?_append_right (aS _),Nat.sub_self];rfl
end
theorem lP (h:sV w A A')(hg:g<w.heap.size)(hne:∀p,A=some p→p.block≠g):∀p,A'=some p→p.block≠g:=fun p o=>by
 rcases h p o with⟨a,f,e⟩ | e
 ·rw [e];exact hne a f
 ·omega
section
variable {Q:dQ→Act→a7→Prop}{N:Nat}{l:Fr}{w:a7}{ops:Array aZ}{rest:List aZ}{d:Nat}{ty:aU}{pos:String}{af:Array fO}{gd:Option (Nat×Bool)}
theorem AY {x y:d7}{e:ZC}(hw:dG ops l gd=some true)(hx:bY l x=some (AT A n cap))(hy:bY l y=some (AT (some ⟨g,0,none⟩) 1 c))(h:Lz m K b w lb A n cap zs)(hlb:lb≤w.heap.size)(hb:Bk w g 24 (iX e))(he:El m b w e z)(hK:e.n≤K)(hm:n≤1099511627775)(hd:d<N)(k:∀A' cap' w',Lz m K b w' lb A' (n+1) cap' (zs++ [z])→UpdO A w w'→sV w A A'→wl aM ops Q N rest ((d,AT A' (n+1) cap')::l) w'):wl aM ops Q N (⟨some d,.call {callee:= .builtin .append,args:= #[x,y],argTypes:= #[26,26]},ty,pos,af,gd⟩::rest) l w:=by
 obtain⟨es,p,E,D,F⟩:=h
 refine mC hw hx hy d9 mJ G p hlb (iX e) G (fun j u hj=>?_) G (hn:=hd) fun A' cap' w' M q U=>k A' cap' w' ?_ q U
 ·have o:j<(iX e).length:=(fD.1 hj).1
  rw [fL,eX,hb.cell o,bE,hj];rfl
 ·refine⟨es++ [e],by rw [wM];exact M,by simp [E],by simp [D],fun i hi=>?_⟩
  by_cases f:i<n
  ·rw [sA,sA]
   exact⟨(F i f).1,(F i f).2.updOT p q⟩
  ·have I:i=n:=by omega
   subst I
   have H:(es++ [e]).getD i ZC.zero=e:=by rw [←E];exact s9
   have L:(zs++ [z]).getD i 0=z:=by rw [←D];exact s9
   rw [H,L]
   exact⟨hK,he.updOT p q⟩
theorem wQ {x y:d7}(m:Option a7)(K b:Nat)(hw:dG ops l gd=some true)(hx:bY l x=some (v4 0))(hy:bY l y=some (v4 (k:Int)))(h:∀g w',w.heap.size=g→Lz m K b w' g (some ⟨g,0,none⟩) 0 k []→Ext w w'→wl aM ops Q N rest ((d,AT (some ⟨g,0,none⟩) 0 k)::l) w')(hk:k≤1099511627776:=by omega)(hd:d<N:=by decide):wl aM ops Q N (⟨some d,.makeSlice 26 x y,ty,pos,af,gd⟩::rest) l w:=by
 obtain⟨i,hi,D,p,o⟩:=info_parts mJ
 have hr:=run_make (P:=aM) w 26 24 i _ d9 hi D .i64 .i64 0 (k:Int) (by omega) (by omega) (by rw [o];omega) (by omega)
 rw [jQ,show (0:Int).toNat=0 from rfl,p] at hr
 obtain⟨cs,f,q⟩:∃cs:List aI,madeCells (Value.agg #[.bool false,.slice none 0 0]).cells (k*2)=cs.toArray∧cs.length=k*2:=⟨(madeCells (Value.agg #[BY,AT none 0 0]).cells (k*2)).toList,Array.toArray_toList.symm,by rw [Array.length_toList,size_madeCells]⟩
 rw [f] at hr
 refine gU hw hd (fun a' E=>?_) (h _ (w.alloc (.cells cs.toArray 24)) G ⟨[],bW ⟨w.heap.size,cs,rfl,aS _,Bk.new _ _ _,bJ _,by rw [eB];omega,q,rfl⟩,rfl,rfl,fun i hi=>by omega⟩ ((Ext.refl w).alloc _))
 have e':(o2 26 (a'.eval x) (a'.eval y)).run aM w= .ok (AT (some ⟨w.heap.size,0,none⟩) 0 k) (w.alloc (.cells cs.toArray 24)):=by rw [E.ev hx,E.ev hy];exact hr
 show ((o2 26 (a'.eval x) (a'.eval y)>>=fun r=>pure (jA r):Sem Next)).run aM w=_
 rw [dA,e'];rfl
theorem J5 {x y:d7}{e:ZC}(hw:dG ops l gd=some true)(hx:bY l x=some (.pointer (some p)))(hy:bY l y=some (J e.s e.A e.n e.c))(hp:A.map (·.add (i*2))=some p)(hi:i<n)(h:Lz m K b w lb A n cap zs)(he:El m b w e z)(hK:e.n≤K)(k:∀w',Lz m K b w' lb A n cap (zs.set i z)→UpdO A w w'→wl aM ops Q N rest l w'):wl aM ops Q N (⟨none,.store 24 x y,ty,pos,af,gd⟩::rest) l w:=by
 obtain⟨es,I,M,L,U⟩:=h
 have h1':=I
 rcases I with⟨rfl,_⟩ | ⟨g,cs,rfl,V,Y,hn,F,_,Z⟩
 ·cases hp
 ·have hp':p=⟨g,i*2,none⟩:=by
   injection hp with hp
   rw [←hp]
   show (⟨g,0,none⟩:aG).add (i*2)=_
   rw [fL,eX]
  subst hp'
  have X:=eA 2 hn
  refine tG hw hx (us:=iX e) hy a8 G Y (by omega) G _ G fun w' o H hs=>k w' ⟨es.set i e,bW ⟨g,_,rfl,V,o,hn,F,?_,?_⟩,by simp [M],by simp [L],fun j hj=>?_⟩ H.updO
  ·unfold gF
   simp only [fH,dK,mY,iX,gD,List.length_nil]
   omega
  ·rw [←wK es i e (by omega),←Z]
   have W:i*2+2≤n*2:=by omega
   have q:(iX e).length=2:=rfl
   unfold gF
   rw [q,List.take_append,List.take_append,List.take_take,List.take_take,fH,dK,gL (by omega:i*2≤cs.length),q,Nat.min_eq_right (by omega),gL (by omega)]
   congr 1
   ·congr 1
    exact List.take_of_length_le (by rw [q];omega)
   ·rw [List.drop_take]
  ·by_cases f:j=i
   ·subst f
    have E:(es.set j e).getD j ZC.zero=e:=by simp [bE,M,hj]
    have D:(zs.set j z).getD j 0=z:=by simp [bE,L,hj]
    rw [E,D]
    exact⟨hK,he.updOT h1' H.updO⟩
   ·have E:(es.set i e).getD j ZC.zero=es.getD j ZC.zero:=by simp [bE,lD f]
    have D:(zs.set i z).getD j 0=zs.getD j 0:=by simp [bE,lD f]
    rw [E,D]
    exact⟨(U j hj).1,(U j hj).2.updOT h1' H.updO⟩
end
structure UpI (lb:Nat)(w w':a7):Prop where
 os:w'.os=w.os
 tape:w'.tape=w.tape
 output:w'.output=w.output
 size:w.heap.size≤w'.heap.size
 low:∀k,k<lb→k<w.heap.size→w'.heap[k]?=w.heap[k]?
 typ:∀(k:Nat) (cs:Array aI) (t:aU) (fr:Nat×Nat),w.heap[k]?=some (.cells cs t fr)→t≠24→w'.heap[k]?=some (.cells cs t fr)
section
variable {lb:Nat}{a b c w w':a7}
theorem UpI.refl (lb:Nat)(w:a7):UpI lb w w:=⟨rfl,rfl,rfl,aS _,fun _ _ _=>rfl,fun _ _ _ _ h _=>h⟩
theorem UpI.trans (h:UpI lb a b)(e:UpI lb b c):UpI lb a c:=
 ⟨e.os.trans h.os,e.tape.trans h.tape,e.output.trans h.output,a6 h.size e.size,fun k o hs=>(e.low k o (d4 hs h.size)).trans (h.low k o hs),fun k cs t fr p f=>e.typ k cs t fr (h.typ k cs t fr p f) f⟩
theorem UpI.of_ext (lb:Nat)(e:Ext w w'):UpI lb w w':=⟨e.below.os,e.below.tape,e.below.output,e.size,fun k _ hs=>e.below.block k hs,fun _ _ _ _ f _=>e.heap f⟩
theorem UpI.then_ext (h:UpI lb a b)(e:Ext b c):UpI lb a c:=h.trans (UpI.of_ext lb e)
theorem UpI.ext (h:UpI lb w w')(e:Ext a w)(hl:a.heap.size≤lb):Ext a w':=
 ⟨⟨h.os.trans e.below.os,h.tape.trans e.below.tape,h.output.trans e.below.output,a6 e.size h.size,fun k f=>(h.low k (d4 f hl) (d4 f e.size)).trans (e.below.block k f)⟩⟩
theorem UpI.bk (h:UpI lb w w')(hb:Bk w g t vs)(h1:t≠24):Bk w' g t vs:=h.typ g _ _ _ hb h1
theorem UpI.own (h:UpI lb w w')(ho:Own w base t s A n cap vs)(h1:t≠24):Own w' base t s A n cap vs:=by
 rcases ho with ho | ⟨g,cs,f,hb,o,r⟩
 ·exact bS ho
 ·exact bW ⟨g,cs,f,hb,h.bk o h1,r⟩
theorem UpI.ofO (ho:Own w lb 24 s A n cap vs)(u:UpdO A w w'):UpI lb w w':=by
 refine⟨u.by_.os,u.by_.tape,u.by_.output,u.size,fun k q hs=>?_,fun k cs t fr f E=>?_⟩
 ·refine u.by_.block k hs fun e=>?_
  cases A with
  | none=>cases e
  | some p=>
   have e':k=p.block:=iU e
   have:=(ho.block p G).1
   omega
 ·refine u.heap f fun p o e=>E ?_
  rcases ho with⟨h,_⟩ | ⟨g,cs',D,_,q,_⟩
  ·rw [h] at o;cases o
  ·rw [D] at o;cases o
   simp only at e
   subst e
   unfold Bk at q
   rw [q] at f
   injection f with f
   injection f with _ f
   exact f.symm
end
section
variable {lb g:Nat}{T:aU}{us:List aI}
theorem UpI.upd_new {a b c:a7}(h:UpI lb a b)(u:Upd g b c)(hg:a.heap.size≤g)(hlb:lb≤a.heap.size):UpI lb a c:=
 ⟨u.by_.os.trans h.os,u.by_.tape.trans h.tape,u.by_.output.trans h.output,a6 h.size u.size,fun k p hs=>(u.by_.block k (d4 hs h.size) (fun e=>by injection e with e;omega)).trans (h.low k p hs),
  fun k cs t fr f o=>by
   have q:k<a.heap.size:=(Array.getElem?_eq_some_iff.1 f).1
   exact u.heap (h.typ k cs t fr f o) (by omega)⟩
end
theorem rR {t T:Nat}(h:Own w b t s A n c us)(hb:Bk w g T vs)(hT:t≠T):∀p,A=some p→p.block≠g:=fun p f e=>by
 rcases h with⟨h,_⟩ | ⟨g',cs,q,_,o,_⟩
 ·rw [h] at f;cases f
 ·rw [q] at f;cases f
  simp only at e
  subst e
  unfold Bk at o hb
  rw [o] at hb
  injection hb with hb
  injection hb with _ hb
  exact hT hb
theorem MB (h:i+2≤cs.length):gF cs i [u0,u1]=(cs.set i u0).set (i+1) u1:=by
 induction i generalizing cs with
 | zero=>match cs,h with
  | a::b::r,_=>rfl
 | succ i ih=>match cs,h with
  | a::r,h=>exact congrArg (a:: ·) (ih (cs:=r) (by simp at h;omega))
def Mk (w:a7)(a:Nat)(vs:List aI)(j:Nat):Prop:=∀q,q<j→∃g,vs[q*2]?=some (BY)∧vs[q*2+1]?=some (AT (some ⟨g,0,none⟩) 1 1)∧Bk w g 36 [aY (dX a q)]
section
variable {w w':a7}{a j k lb i n c:Nat}{vs:List aI}
theorem Mk.ext (h:Mk w a vs j)(e:Ext w w'):Mk w' a vs j:=fun q o=>by
 obtain⟨g,f,D,p⟩:=h q o
 exact⟨g,f,D,p.ext e⟩
theorem Mk.mono (h:Mk w a vs j)(hk:k≤j):Mk w a vs k:=fun q _=>h q (by omega)
theorem Mk.zero (w:a7)(a:Nat)(vs:List aI):Mk w a vs 0:=fun _ h=>absurd h (Nat.not_lt_zero _)
theorem Mk.updO (h:Mk w a vs j)(ho:Own w lb 24 2 A n c us)(u:UpdO A w w'):Mk w' a vs j:=fun q p=>by
 obtain⟨g,o,D,f⟩:=h q p
 exact⟨g,o,D,f.updO u (rR ho f (by decide))⟩
theorem Mk.take (h:Mk w a vs j)(hk:j*2≤k):Mk w a (vs.take k) j:=fun q o=>by
 obtain⟨g,f,D,p⟩:=h q o
 exact⟨g,by rw [jO,if_pos (by omega)];exact f,by rw [jO,if_pos (by omega)];exact D,p⟩
theorem Mk.append (h:Mk w a vs j)(us:List aI):Mk w a (vs++us) j:=fun q p=>by
 obtain⟨g,f,o,D⟩:=h q p
 exact⟨g,by rw [List.getElem?_append_left (fD.1 f).1];exact f,by rw [List.getElem?_append_left (fD.1 o).1];exact o,D⟩
theorem Mk.snoc (h:Mk w a vs j)(hl:vs.length=j*2)(hb:Bk w g 36 [aY (dX a j)]):Mk w a (vs++ [BY,AT (some ⟨g,0,none⟩) 1 1]) (j+1):=fun q _=>by
 by_cases e:q=j
 ·subst e
  exact⟨g,by rw [List.getElem?_append_right (by omega),show q*2-vs.length=0 by omega];rfl,by rw [List.getElem?_append_right (by omega),show q*2+1-vs.length=1 by omega];rfl,hb⟩
 ·exact h.append _ q (by omega)
theorem Mk.set (h:Mk w a vs j)(hl:j*2+1<vs.length)(hb:Bk w g 36 [aY (dX a j)]):Mk w a ((vs.set (j*2) (BY)).set (j*2+1) (AT (some ⟨g,0,none⟩) 1 1)) (j+1):=fun q _=>by
 by_cases e:q=j
 ·subst e
  exact⟨g,by rw [List.getElem?_set_ne (by omega),List.getElem?_set_self (by omega)],by rw [List.getElem?_set_self (by rw [List.length_set];exact hl)],hb⟩
 ·obtain⟨o,f,D,p⟩:=h q (by omega)
  exact⟨o,by rw [List.getElem?_set_ne (by omega),List.getElem?_set_ne (by omega)];exact f,by rw [List.getElem?_set_ne (by omega),List.getElem?_set_ne (by omega)];exact D,p⟩
theorem jE (h:Own w lb 24 2 A n c vs):vs.length=n*2:=h.rv.len
theorem CU (h:Own w lb 24 2 A n c vs)(hi:i<n)(h0:u0.oneCell'=true)(h1:u1.oneCell'=true)(hp:A.map (·.add (i*2))=some p):∃w',(storeVar 24 p (.agg #[u0,u1])).run aM w= .ok () w'∧Own w' lb 24 2 A n c ((vs.set (i*2) u0).set (i*2+1) u1)∧UpdO A w w':=by
 rcases h with⟨_,rfl,_,_⟩ | ⟨g,cs,rfl,hb,E,hn,hm,hl,F⟩
 ·omega
 ·rw [pD,eF,fL,eX] at hp
  subst hp
  have D:i*2+2≤n*2:=by omega
  have o:n*2≤c*2:=eA 2 hn
  have e:gF cs (i*2) [u0,u1]=(cs.set (i*2) u0).set (i*2+1) u1:=MB (by omega)
  obtain⟨w',hr,f,q,_⟩:=eV (P:=aM) (us:= [u0,u1]) (off:=i*2) a8 G E (by omega) (by simp [h0,h1]) _ e
  refine⟨w',hr,bW ⟨g,_,rfl,hb,f,hn,hm,by rw [List.length_set,List.length_set,hl],?_⟩,q.updO⟩
  rw [List.take_set,List.take_set,F]
end
structure Ai1 (w:a7)(lb:Nat)(ls:List Lst)(i j:Nat):Prop where
 dis:∀a b,a<ls.length→b<ls.length→a≠b→∀p q,(ls.getD a Lst.z).A=some p→(ls.getD b Lst.z).A=some q→p.block≠q.block
 own:∀a,a<ls.length→∃vs:List aI,Own w lb 24 2 (ls.getD a Lst.z).A (ls.getD a Lst.z).n (ls.getD a Lst.z).c vs∧(a<i→Mk w a vs (ls.getD a Lst.z).n)∧(a=i→Mk w a vs j)
section
variable {w w':a7}{lb i j:Nat}{ls:List Lst}
theorem Ai1.ext (h:Ai1 w lb ls i j)(e:Ext w w'):Ai1 w' lb ls i j:=⟨h.dis,fun a q=>by
 obtain⟨vs,f,p,o⟩:=h.own a q
 exact⟨vs,f.ext e,fun hl=>(p hl).ext e,fun he=>(o he).ext e⟩⟩
theorem Ai1.next (h:Ai1 w lb ls i j)(hj:(ls.getD i Lst.z).n≤j):Ai1 w lb ls (i+1) 0:=⟨h.dis,fun a q=>by
 obtain⟨vs,f,p,o⟩:=h.own a q
 refine⟨vs,f,fun _=>?_,fun _=>Mk.zero _ _ _⟩
 by_cases e:a=i
 ·subst e;exact (o G).mono hj
 ·exact p (by omega)⟩
theorem Ai1.addr (h:Ai1 w lb ls i j)(hi:i<ls.length)(hk:k<(ls.getD i Lst.z).n):∃p,(ls.getD i Lst.z).A.map (·.add (k*2))=some p:=by
 obtain⟨vs,f,_⟩:=h.own i hi
 have hl:=jE f
 obtain⟨a,o,_⟩:=f.rv.get (k*2) (by omega)
 rw [o];exact⟨_,rfl⟩
theorem Ai1.set (h:Ai1 w lb ls i j)(hi:i<ls.length)(hj:j<(ls.getD i Lst.z).n)(hb:Bk w g 36 [aY (dX i j)])(hp:(ls.getD i Lst.z).A.map (·.add (j*2))=some p):∃w',(storeVar 24 p (.agg #[BY,AT (some ⟨g,0,none⟩) 1 1])).run aM w= .ok () w'∧Ai1 w' lb ls i (j+1)∧UpI lb w w':=by
 obtain⟨vs,f,_,F⟩:=h.own i hi
 obtain⟨w',hr,L,o⟩:=CU (u0:= BY) (u1:= AT (some ⟨g,0,none⟩) 1 1) f hj G G hp
 refine⟨w',hr,⟨h.dis,fun a D=>?_⟩,UpI.ofO f o⟩
 by_cases e:a=i
 ·subst e
  have hl:=jE f
  exact⟨_,L,fun h=>absurd h (Nat.lt_irrefl _),fun _=>((F G).updO f o).set (by omega) (hb.updO o (rR f hb (by decide)))⟩
 ·obtain⟨ys,E,I,_⟩:=h.own a D
  exact⟨ys,E.updO o (fun p q hp H=>h.dis i a hi D (fun e'=>e e'.symm) p q hp H),fun hl=>(I hl).updO f o,fun e'=>absurd e' e⟩
end
structure Gi (w:a7)(lb:Nat)(x g:Lst)(i:Nat):Prop where
 ox:∃vs:List aI,Own w lb 24 2 x.A x.n x.c vs∧Mk w i vs x.n
 og:∃vs:List aI,Own w lb 24 2 g.A g.n g.c vs∧Mk w i vs g.n
 le:x.n≤g.n
 rel:(g.A=x.A∧g.c=x.c)∨(∀p q,x.A=some p→g.A=some q→p.block≠q.block)
structure Ai2 (w:a7)(lb:Nat)(ls gs:List Lst):Prop where
 len:gs.length=ls.length
 dis:∀a b,a<ls.length→b<ls.length→a≠b→∀k,lR (ls.getD a Lst.z) (gs.getD a Lst.z) k→¬lR (ls.getD b Lst.z) (gs.getD b Lst.z) k
 gr:∀a,a<ls.length→Gi w lb (ls.getD a Lst.z) (gs.getD a Lst.z) a
section
variable {w w':a7}{lb i:Nat}{ls gs:List Lst}
theorem Ai2.start (h:Ai1 w lb ls ls.length 0):Ai2 w lb ls ls:=by
 refine⟨rfl,fun a b f hb H k o F=>?_,fun a f=>?_⟩
 ·obtain⟨p,E,rfl⟩:=o
  obtain⟨q,D,I⟩:=F
  exact h.dis a b f hb H p q (by rcases E with E | E <;> exact E) (by rcases D with D | D <;> exact D) I.symm
 ·obtain⟨vs,o,F,_⟩:=h.own a f
  exact⟨⟨vs,o,F f⟩,⟨vs,o,F f⟩,aS _,bS ⟨rfl,rfl⟩⟩
theorem Gi.ext {x g:Lst}(h:Gi w lb x g i)(e:Ext w w'):Gi w' lb x g i:=by
 obtain⟨⟨vs,f,p⟩,⟨us,o,D⟩,q,E⟩:=h
 exact⟨⟨vs,f.ext e,p.ext e⟩,⟨us,o.ext e,D.ext e⟩,q,E⟩
theorem Ai2.ext (h:Ai2 w lb ls gs)(e:Ext w w'):Ai2 w' lb ls gs:=⟨h.len,h.dis,fun a f=>(h.gr a f).ext e⟩
theorem Ai2.app (h:Ai2 w lb ls gs)(hi:i<ls.length){c':Nat}(hn:(gs.getD i Lst.z).n+1=n')(hw:Own w lb 24 2 (gs.getD i Lst.z).A (gs.getD i Lst.z).n (gs.getD i Lst.z).c us)(ho:Own w' lb 24 2 A' n' c' vs)(hm:Mk w' i vs n')(hc:(A'=(gs.getD i Lst.z).A∧c'=(gs.getD i Lst.z).c∧UpdO (gs.getD i Lst.z).A w w')∨(Ext w w'∧∀a',A'=some a'→w.heap.size≤a'.block)):Ai2 w' lb ls (gs.set i ⟨A',n',c'⟩):=by
 have F:i<gs.length:=by rw [h.len];exact hi
 have D:=h.gr i hi
 have M:(ls.getD i Lst.z).n≤n':=by have:=D.le;omega
 rcases hc with⟨rfl,rfl,X⟩ | ⟨he,U⟩
 ·refine⟨by rw [List.length_set];exact h.len,fun a b o hb H k E I=>?_,fun a o=>?_⟩
  ·refine h.dis a b o hb H k ?_ ?_
   ·by_cases e:a=i
    ·subst e;rwa [jI F] at E
    ·rwa [jJ e] at E
   ·by_cases e:b=i
    ·subst e;rwa [jI F] at I
    ·rwa [jJ e] at I
  ·by_cases e:a=i
   ·subst e
    rw [jI F]
    refine⟨?_,⟨vs,ho,hm⟩,M,D.rel⟩
    rcases D.rel with⟨e1,e2⟩ | hd
    ·have L:=ho.take (k:=(ls.getD a Lst.z).n) M
     rw [←e1,←e2];exact⟨_,L,(hm.mono M).take (aS _)⟩
    ·obtain⟨xs,h7,h8⟩:=D.ox
     exact⟨xs,h7.updO X (fun p q f W e=>hd q p W f e.symm),h8.updO hw X⟩
   ·rw [jJ e]
    obtain⟨⟨xs,E,I⟩,⟨ys,V,L⟩,h5,h6⟩:=h.gr a o
    refine⟨⟨xs,E.updO X (fun p q f W e'=>?_),I.updO hw X⟩,⟨ys,V.updO X (fun p q f W e'=>?_),L.updO hw X⟩,h5,h6⟩
    ·exact h.dis i a hi o (fun e''=>e e''.symm) p.block ⟨p,bW f,rfl⟩ ⟨q,bS W,e'.symm⟩
    ·exact h.dis i a hi o (fun e''=>e e''.symm) p.block ⟨p,bW f,rfl⟩ ⟨q,bW W,e'.symm⟩
 ·have old:∀a,a<ls.length→∀k,lR (ls.getD a Lst.z) (gs.getD a Lst.z) k→k<w.heap.size:=fun a o k Y=>by
   obtain⟨p,f,rfl⟩:=Y
   obtain⟨⟨xs,E,_⟩,⟨ys,V,_⟩,_⟩:=h.gr a o
   rcases f with f | f
   ·exact (E.block p f).2
   ·exact (V.block p f).2
  have part:∀a,a<ls.length→∀k,lR (ls.getD a Lst.z) ((gs.set i ⟨A',n',c'⟩).getD a Lst.z) k→lR (ls.getD a Lst.z) (gs.getD a Lst.z) k∨(a=i∧w.heap.size≤k):=fun a o k Y=>by
   by_cases e:a=i
   ·subst e
    rw [jI F] at Y
    obtain⟨p,f,rfl⟩:=Y
    rcases f with f | f
    ·exact bS ⟨p,bS f,rfl⟩
    ·exact bW ⟨rfl,U p f⟩
   ·rw [jJ e] at Y;exact bS Y
  refine⟨by rw [List.length_set];exact h.len,fun a b o hb H k E I=>?_,fun a o=>?_⟩
  ·rcases part a o k E with V | ⟨e3,V⟩
   ·rcases part b hb k I with L | ⟨Z,L⟩
    ·exact h.dis a b o hb H k V L
    ·have:=old a o k V;omega
   ·rcases part b hb k I with L | ⟨Z,L⟩
    ·have:=old b hb k L;omega
    ·exact H (e3.trans Z.symm)
  ·by_cases e:a=i
   ·subst e
    rw [jI F]
    obtain⟨⟨xs,E,I⟩,_⟩:=D
    refine⟨⟨xs,E.ext he,I.ext he⟩,⟨vs,ho,hm⟩,M,bW fun p q f W e=>?_⟩
    have:=(E.block p f).2
    have:=U q W
    omega
   ·rw [jJ e]
    exact (h.gr a o).ext he
theorem Gi.at_ {x y:Lst}(h1:Own w lb 24 2 A n c vs)(h2:Mk w i vs n)(hj:j<n):∃p g,A.map (·.add (j*2))=some p∧w.cell? p=some (BY)∧w.cell? (p.add 1)=some (AT (some ⟨g,0,none⟩) 1 1)∧Bk w g 36 [aY (dX i j)]:=by
 obtain⟨g,h,q,o⟩:=h2 j hj
 have hl:=jE h1
 obtain⟨a,f,D⟩:=h1.rv.get (j*2) (by omega)
 obtain⟨a',ha',hc'⟩:=h1.rv.get (j*2+1) (by omega)
 rw [f] at ha'
 injection ha' with ha'
 subst ha'
 subst f
 refine⟨_,g,rfl,?_,?_,o⟩
 ·rw [D,bE,h];rfl
 ·rw [Go.Deep.add_add,hc',bE,q];rfl
theorem Ai2.atx (h:Ai2 w lb ls gs)(hi:i<ls.length)(hj:j<(ls.getD i Lst.z).n):∃p g,(ls.getD i Lst.z).A.map (·.add (j*2))=some p∧w.cell? p=some (BY)∧w.cell? (p.add 1)=some (AT (some ⟨g,0,none⟩) 1 1)∧Bk w g 36 [aY (dX i j)]:=by
 obtain⟨vs,f,o⟩:=(h.gr i hi).ox
 exact Gi.at_ (x:=Lst.z) (y:=Lst.z) f o hj
theorem Ai2.atg (h:Ai2 w lb ls gs)(hi:i<ls.length)(hj:j<(gs.getD i Lst.z).n):∃p g,(gs.getD i Lst.z).A.map (·.add (j*2))=some p∧w.cell? p=some (BY)∧w.cell? (p.add 1)=some (AT (some ⟨g,0,none⟩) 1 1)∧Bk w g 36 [aY (dX i j)]:=by
 obtain⟨vs,f,o⟩:=(h.gr i hi).og
 exact Gi.at_ (x:=Lst.z) (y:=Lst.z) f o hj
end
section
variable {Q:dQ→Act→a7→Prop}{N:Nat}{l:Fr}{w:a7}{ops:Array aZ}{rest:List aZ}{d:Nat}{ty:aU}{pos:String}{af:Array fO}{gd:Option (Nat×Bool)}
theorem o7:Tryz.prog.underlying 51=some (.slice 26):=by kernel_rfl
theorem rO (w:a7):(sizeOf 26).run aM w= .ok 1 w:=by kernel_rfl
theorem vK (w:a7):(isAgg 26).run aM w= .ok false w:=by kernel_rfl
theorem EI:(Tryz.prog.info? 26).map (fun i=>(i.zero,i.size,i.bytes))=some (some (AT none 0 0),1,24):=by kernel_rfl
theorem JA {x y:d7}(hw:dG ops l gd=some true)(hx:bY l x=some (.pointer (some p)))(hy:bY l y=some (.agg #[BY,AT (some ⟨g,0,none⟩) 1 1]))(h:Ai1 w lb ls i j)(hi:i<ls.length)(hj:j<(ls.getD i Lst.z).n)(hb:Bk w g 36 [aY (dX i j)])(hp:(ls.getD i Lst.z).A.map (·.add (j*2))=some p)(k:∀w',Ai1 w' lb ls i (j+1)→UpI lb w w'→wl aM ops Q N rest l w'):wl aM ops Q N (⟨none,.store 24 x y,ty,pos,af,gd⟩::rest) l w:=by
 obtain⟨w',hr,o,f⟩:=h.set hi hj hb hp
 exact rI hw hx hy hr (k w' o f)
theorem JD {x y:d7}{g2:Nat}(hw:dG ops l gd=some true)(hx:bY l x=some (.slice (gs.getD i Lst.z).A (gs.getD i Lst.z).n (gs.getD i Lst.z).c))(hy:bY l y=some (AT (some ⟨g2,0,none⟩) 1 c))(h:Ai2 w lb ls gs)(hlb:lb≤w.heap.size)(hi:i<ls.length)(hb:Bk w g 36 [aY (dX i (gs.getD i Lst.z).n)])(hb2:Bk w g2 24 [BY,AT (some ⟨g,0,none⟩) 1 1])(hm:(gs.getD i Lst.z).n+1≤1099511627776)(hd:d<N)(k:∀A' c' w',Ai2 w' lb ls (gs.set i ⟨A',(gs.getD i Lst.z).n+1,c'⟩)→UpI lb w w'→wl aM ops Q N rest ((d,AT A' ((gs.getD i Lst.z).n+1) c')::l) w'):wl aM ops Q N (⟨some d,.call {callee:= .builtin .append,args:= #[x,y],argTypes:= #[26,26]},ty,pos,af,gd⟩::rest) l w:=by
 obtain⟨vs,f,p⟩:=(h.gr i hi).og
 obtain⟨A',cap',w',hr,I,E⟩:=CB (P:=aM) (ty:=ty) d9 mJ G (by decide) (by decide) f hlb (m:=1) (c:=c) (news:= [BY,AT (some ⟨g,0,none⟩) 1 1]) G (fun j u hj=>by
  have D:=(fD.1 hj).1
  rw [fL,eX,hb2.cell D,bE,hj];rfl) G hm
 have o:=jE f
 have M:Mk w' i (vs++ [BY,AT (some ⟨g,0,none⟩) 1 1]) ((gs.getD i Lst.z).n+1):=by
  rcases E with⟨_,_,q⟩ | ⟨he,_⟩
  ·exact (p.updO f q).snoc o (hb.updO q (rR f hb (by decide)))
  ·exact (p.ext he).snoc o (hb.ext he)
 have L:=h.app hi G f I M E
 have H:UpI lb w w':=by
  rcases E with⟨_,_,q⟩ | ⟨he,_⟩
  ·exact UpI.ofO f q
  ·exact UpI.of_ext lb he
 refine gU hw hd (fun a' F=>?_) (k A' cap' w' L H)
 unfold execOp
 simp only [resolve,invoke,builtin,dA,gT,eW,pI,kH,lH,F.ev hx,F.ev hy]
 rw [hr]
 rfl
end
section
variable {w w':a7}{lb i g j:Nat}{ls gs:List Lst}{T:aU}{us:List aI}
theorem Mk.updT (h:Mk w i vs j)(hb:Bk w g T us)(hT:36≠T)(u:Upd g w w'):Mk w' i vs j:=fun q p=>by
 obtain⟨D,o,E,f⟩:=h q p
 refine⟨D,o,E,f.updN u fun e=>?_⟩
 subst e
 unfold Bk at f hb
 rw [f] at hb
 injection hb with hb
 injection hb with _ hb
 exact hT hb
theorem Gi.updT {x y:Lst}(h:Gi w lb x y i)(hb:Bk w g T us)(hT:36≠T)(hT2:24≠T)(u:Upd g w w'):Gi w' lb x y i:=by
 obtain⟨⟨vs,f,p⟩,⟨ws,o,D⟩,q,E⟩:=h
 exact⟨⟨vs,f.updT hb hT2 u,p.updT hb hT u⟩,⟨ws,o.updT hb hT2 u,D.updT hb hT u⟩,q,E⟩
theorem Ai2.updT (h:Ai2 w lb ls gs)(hb:Bk w g T us)(hT:36≠T)(hT2:24≠T)(u:Upd g w w'):Ai2 w' lb ls gs:=⟨h.len,h.dis,fun a f=>(h.gr a f).updT hb hT hT2 u⟩
end
theorem NJ (h0:w.cell? p=some (BY))(h1:w.cell? (p.add 1)=some (AT (some ⟨g,0,none⟩) 1 1)):(loadVar 24 p).run aM w= .ok (.agg #[BY,AT (some ⟨g,0,none⟩) 1 1]) w:=
 q8 a8 [BY,AT (some ⟨g,0,none⟩) 1 1] G (fun j hj=>by
  match j,hj with
  | 0,_=>exact h0
  | 1,_=>exact h1)
def UpW (lb:Nat)(w w':a7):Prop:=∀a,Ext a w→a.heap.size≤lb→Ext a w'
section
variable {a b c w w':a7}{lb:Nat}{ms:List Lst}
theorem UpW.refl (lb:Nat)(w:a7):UpW lb w w:=fun _ e _=>e
theorem UpW.trans (h:UpW lb a b)(k:UpW lb b c):UpW lb a c:=fun x e hl=>k x (h x e hl) hl
theorem UpW.then_ext (h:UpW lb a b)(e:Ext b c):UpW lb a c:=fun x k hl=>(h x k hl).trans e
theorem UpU.upw (h:UpU lb w w'):UpW lb w w':=fun _ e hl=>h.ext e hl
theorem UpI.upw (h:UpI lb w w'):UpW lb w w':=fun _ e hl=>h.ext e hl
theorem Ai1.upU (h:Ai1 w lb ms 0 0)(u:UpU lb w w'):Ai1 w' lb ms 0 0:=⟨h.dis,fun a o=>by
 obtain⟨vs,f,_,_⟩:=h.own a o
 exact⟨vs,u.own f (by decide),fun h=>absurd h (Nat.not_lt_zero _),fun _=>Mk.zero _ _ _⟩⟩
end
theorem Q8 {xn xc nn:Nat}(hB:Bk w g 54 [AT XA xn xc,AT WA ls.length wc,AT NA nn nc])(hW:Own w lw 26 1 WA ls.length wc (ls.map Lst.v))(hal:Ai1 w lb ls 0 0)(hlb:lb≤w.heap.size)(hN:ls.length≤4194304)(hln:∀a,(ls.getD a Lst.z).n≤1099511620000):aQ aM 54 #[no g 0] w (fun e w'=>e= .returned (By)∧UpI lb w w'):=by
 refine bP Tryz.func54 G (n:=154) G (bq G) (args:= [no g 0]) (bH [(0,no g 0)] ⟨rfl,Fo⟩ (sr (mv 1 G (aA (aH (sr (mv 1 G (aA (bG ?_)))))))))
 refine cQ (T:=a7×Nat)
  (fun⟨wr,i⟩=> [(0,no g 0),(3,v4 i)])
  (fun⟨wr,i⟩=>wr)
  (fun⟨wr,i⟩=>(UpI lb w wr)∧(Bk wr g 54 [AT XA xn xc,AT WA ls.length wc,AT NA nn nc])∧(Own wr lw 26 1 WA ls.length wc (ls.map Lst.v))∧(Ai1 wr lb ls i 0)∧(i≤ls.length))
  (fun⟨wr,i⟩=>ls.length-i)
  (⟨w,0⟩:a7×Nat) ⟨(UpI.refl lb w),hB,hW,hal,(bJ _)⟩ G ⟨rfl,rfl,Fo⟩ ?_
 rintro⟨wr,i⟩ ⟨E,hB,hW,hal,hi⟩
 refine cP [(0,no g 0),(3,v4 i)] wr G ⟨rfl,rfl,Fo⟩ (aH (aH ?_))
 by_cases am:i<ls.length
 ·refine aJ (mv 2 G (pf g 0 G (pf g 1 G (aP G G (bA (fun _=>by kernel_rfl) hB G) (pu (v:= v4 ((ls.length:Nat):Int)) G (aN G G G true (cG (a:=i) (b:=ls.length) G G) (aA (bB G (b8 (aK (aH (bG (aH ?_)))))))))))))
  have dn:=hln i
  refine aJ (mv 1 G (pf g 0 G (pf g 1 G (aP G G (bA (fun _=>by kernel_rfl) hB G) (mv 1 G ?_)))))
  obtain⟨p1,ng,mq⟩:=(hW).atL (i:=i) (by omega)
  refine bI G G G o7 rO i G p1 ng (aP G G (dC vK mq) (mv 1 G (aA (sr (mv 1 G (aA (bG ?_)))))))
  refine cQ (T:=a7×Nat)
   (fun⟨wr,j⟩=> [(0,no g 0),(3,v4 i),(4,AT ((ls.getD i Lst.z).A) ((ls.getD i Lst.z).n) ((ls.getD i Lst.z).c)),(5,v4 j)])
   (fun⟨wr,j⟩=>wr)
   (fun⟨wr,j⟩=>(UpI lb w wr)∧(Bk wr g 54 [AT XA xn xc,AT WA ls.length wc,AT NA nn nc])∧(Own wr lw 26 1 WA ls.length wc (ls.map Lst.v))∧(Ai1 wr lb ls i j)∧(j≤(ls.getD i Lst.z).n))
   (fun⟨wr,j⟩=>(ls.getD i Lst.z).n-j)
   (⟨wr,0⟩:a7×Nat) ⟨E,hB,hW,hal,(bJ _)⟩ G ⟨rfl,rfl,rfl,rfl,Fo⟩ ?_
  rintro⟨wr,j⟩ ⟨E,hB,hW,hal,hj⟩
  refine cP [(0,no g 0),(3,v4 i),(4,AT ((ls.getD i Lst.z).A) ((ls.getD i Lst.z).n) ((ls.getD i Lst.z).c)),(5,v4 j)] wr G ⟨rfl,rfl,rfl,rfl,Fo⟩ (aH (aH ?_))
  by_cases fx:j<(ls.getD i Lst.z).n
  ·refine aJ (mv 2 G (pu (v:= v4 (((ls.getD i Lst.z).n:Nat):Int)) G (aN G G G true (cG (a:=j) (b:=(ls.getD i Lst.z).n) G G) (aA (bB G (b8 (aK (aH (bG (aJ (mv 4 G (eL G G (vs:= [v4 i,v4 j]) (by kernel_rfl) (by decide) (nN) ?_))))))))))))
   rintro _ v2 ⟨_,rfl,r4,e3⟩
   refine eM ?_
   have W:UpI lb w v2:=E.then_ext e3
   obtain rfl:=r4
   refine fA G G (k:=1) (e:=36) [AI ((dX i j:Nat):Int)] (fun _=>by kernel_rfl) fun g5 v6 nb=>?_
   have od:=nb.bk
   have e8:=nb.ext
   clear nb
   have F:UpI lb w v6:=W.then_ext e8
   refine pu (v:= .agg #[F0,AT (some ⟨g5,0,none⟩) 1 1]) G ?_
   obtain⟨p9,ct⟩:=((hal.ext (e3.t e8))).addr am (k:=j) (by omega)
   refine bI G G G d9 a8.size j G p9 ct (JA G G G (hal.ext (e3.t e8)) am (by omega) od ct fun kx iu aq=>?_)
   have f:UpI lb w kx:=F.trans aq
   refine aR (bM (aK (aJ (mv 1 G (aT G G G ((j+1:Nat):Int) (bK (a:=j) (b:=1) G G) (mv 1 G (aR (bX (⟨kx,j+1⟩:a7×Nat) ⟨f,(aq.bk (hB.ext (e3.t e8)) (by decide)),(aq.own (hW.ext (e3.t e8)) (by decide)),iu,(by omega)⟩ (show (ls.getD i Lst.z).n-(j+1)<(ls.getD i Lst.z).n-j by omega) G ⟨rfl,rfl,rfl,rfl,Fo⟩))))))))
  ·refine aJ (mv 2 G (pu (v:= v4 (((ls.getD i Lst.z).n:Nat):Int)) G (aN G G G false (cL (a:=j) (b:=(ls.getD i Lst.z).n) G G) (aA (aV G (cR (cK (cN (cO (bM (aK (aJ (mv 1 G ?_)))))))))))))
   refine aT G G G ((i+1:Nat):Int) (bK (a:=i) (b:=1) G G) (mv 1 G (aR (bX (⟨wr,i+1⟩:a7×Nat) ⟨E,hB,hW,((hal).next (by omega)),(by omega)⟩ (show ls.length-(i+1)<ls.length-i by omega) G ⟨rfl,rfl,Fo⟩)))
 ·have bz:i=ls.length:=by omega
  rw [bz] at hal
  have ep:=Ai2.start hal
  refine aJ (mv 2 G (pf g 0 G (pf g 1 G (aP G G (bA (fun _=>by kernel_rfl) hB G) (pu (v:= v4 ((ls.length:Nat):Int)) G (aN G G G false (cL (a:=i) (b:=ls.length) G G) (aA (aV G (cR (cK (cN (cO (aK ?_)))))))))))))
  refine sr (mv 1 G (pf g 0 G (pf g 1 G (aP G G (bA (fun _=>by kernel_rfl) hB G) (pu (v:= v4 ((ls.length:Nat):Int)) G (mA G (k:=ls.length) G G G o7 EI G fun D gi an fh az=>?_))))))
  have dh:w.heap.size≤D:=by rw [←an];exact E.size
  have bv:∀p,WA=some p→p.block≠D:=fun p hp=>by have:=((hW).block p hp).2;omega
  have oo:g<D:=by rw [←an];exact hB.lt
  clear an
  have W:UpI lb w gi:=E.then_ext az
  refine mv 1 G (aA (aH (sr (mv 1 G (aA (bG ?_))))))
  refine cQ (T:=a7×Nat×List Lst×List aI)
   (fun⟨wr,i,gs,gv⟩=> [(0,no g 0),(6,AT (some ⟨D,0,none⟩) ls.length ls.length),(7,v4 i)])
   (fun⟨wr,i,gs,gv⟩=>wr)
   (fun⟨wr,i,gs,gv⟩=>(UpI lb w wr)∧(Bk wr g 54 [AT XA xn xc,AT WA ls.length wc,AT NA nn nc])∧(Own wr lw 26 1 WA ls.length wc (ls.map Lst.v))∧(Bk wr D 26 gv)∧(gv.length=ls.length)∧(Ai2 wr lb ls gs)∧(i≤ls.length)∧(∀a,i≤a→gs.getD a Lst.z=ls.getD a Lst.z)∧(∀a,a<i→(gs.getD a Lst.z).n=(ls.getD a Lst.z).n+80)∧(∀a,a<i→a<ls.length→gv.getD a undef= .slice (gs.getD a Lst.z).A (gs.getD a Lst.z).n (gs.getD a Lst.z).c))
   (fun⟨wr,i,gs,gv⟩=>ls.length-i)
   (⟨gi,0,ls,_⟩:a7×Nat×List Lst×List aI) ⟨W,(hB.ext az),(hW.ext az),fh,(List.length_replicate),(ep.ext az),(bJ _),(fun _ _=>rfl),(fun a ha=>absurd ha (Nat.not_lt_zero _)),(fun a ha=>absurd ha (Nat.not_lt_zero _))⟩ G ⟨rfl,rfl,rfl,Fo⟩ ?_
  rintro⟨wr,i,gs,gv⟩ ⟨E,hB,hW,hG,nh,hal,hi,cm,ch,cg⟩
  refine cP [(0,no g 0),(6,AT (some ⟨D,0,none⟩) ls.length ls.length),(7,v4 i)] wr G ⟨rfl,rfl,rfl,Fo⟩ (aH (aH ?_))
  by_cases am:i<ls.length
  ·refine aJ (mv 2 G (pf g 0 G (pf g 1 G (aP G G (bA (fun _=>by kernel_rfl) hB G) (pu (v:= v4 ((ls.length:Nat):Int)) G (aN G G G true (cG (a:=i) (b:=ls.length) G G) (aA (bB G (b8 (aK (aH (bG (aH ?_)))))))))))))
   have dn:=hln i
   refine aJ (mv 1 G (pf g 0 G (pf g 1 G (aP G G (bA (fun _=>by kernel_rfl) hB G) (mv 1 G ?_)))))
   obtain⟨jp,kj,mm⟩:=(hW).atL (i:=i) (by omega)
   refine bI G G G o7 rO i G jp kj (aP G G (dC vK mm) (mv 1 G (aA (aH (aH ?_)))))
   have mn:=(cm i (aS _)).symm
   refine bH [(0,no g 0),(6,AT (some ⟨D,0,none⟩) ls.length ls.length),(7,v4 i),(51,v4 i),(52,no g 0),(53,no g 0),(61,no g 0),(62,no g 1),(63,AT WA ls.length wc),(64,v4 i),(65,.pointer (some jp)),(66,AT ((ls.getD i Lst.z).A) ((ls.getD i Lst.z).n) ((ls.getD i Lst.z).c)),(8,AT ((ls.getD i Lst.z).A) ((ls.getD i Lst.z).n) ((ls.getD i Lst.z).c))] ⟨rfl,rfl,rfl,rfl,rfl,rfl,rfl,rfl,rfl,rfl,rfl,rfl,rfl,Fo⟩ ?_
   rw [mn]
   refine aJ (mv 1 G (aA (bG ?_)))
   refine cQ (T:=a7×Nat×List Lst)
    (fun⟨wr,j,q⟩=> [(0,no g 0),(6,AT (some ⟨D,0,none⟩) ls.length ls.length),(7,v4 i),(8,AT ((q.getD i Lst.z).A) ((q.getD i Lst.z).n) ((q.getD i Lst.z).c)),(9,v4 j)])
    (fun⟨wr,j,q⟩=>wr)
    (fun⟨wr,j,q⟩=>(UpI lb w wr)∧(Bk wr g 54 [AT XA xn xc,AT WA ls.length wc,AT NA nn nc])∧(Own wr lw 26 1 WA ls.length wc (ls.map Lst.v))∧(Bk wr D 26 gv)∧(Ai2 wr lb ls q)∧(j≤80)∧(∀a,a≠i→q.getD a Lst.z=gs.getD a Lst.z)∧((q.getD i Lst.z).n=(ls.getD i Lst.z).n+j))
    (fun⟨wr,j,q⟩=>80-j)
    (⟨wr,0,gs⟩:a7×Nat×List Lst) ⟨E,hB,hW,hG,hal,(bJ _),(fun _ _=>rfl),(by rw [mn];rfl)⟩ G ⟨rfl,rfl,rfl,rfl,rfl,Fo⟩ ?_
   rintro⟨wr,j,q⟩ ⟨E,hB,hW,hG,hal,hj,ba,ny⟩
   refine cP [(0,no g 0),(6,AT (some ⟨D,0,none⟩) ls.length ls.length),(7,v4 i),(8,AT ((q.getD i Lst.z).A) ((q.getD i Lst.z).n) ((q.getD i Lst.z).c)),(9,v4 j)] wr G ⟨rfl,rfl,rfl,rfl,rfl,Fo⟩ (aH (aH ?_))
   by_cases fx:j<80
   ·refine aJ (mv 1 G (aN G G G true (cG (a:=j) (b:=80) G G) (aA (bB G (b8 (aK (aH (bG (aJ (mv 3 G (pu (v:= v4 (((q.getD i Lst.z).n:Nat):Int)) G (eL G G (vs:= [v4 i,v4 (((q.getD i Lst.z).n:Nat):Int)]) (by kernel_rfl) (by decide) (nN) ?_))))))))))))
    rintro _ mx ⟨_,rfl,nt,ao⟩
    refine eM ?_
    have W:UpI lb w mx:=E.then_ext ao
    obtain rfl:=nt
    refine fA G G (k:=1) (e:=36) [AI ((dX i ((q.getD i Lst.z).n):Nat):Int)] (fun _=>by kernel_rfl) fun aw mp nb=>?_
    have mb:=nb.bk
    have ar:=nb.ext
    clear nb
    have F:UpI lb w mp:=W.then_ext ar
    refine pu (v:= .agg #[F0,AT (some ⟨aw,0,none⟩) 1 1]) G (fA G G (k:=1) (e:=24) [F0,AT (some ⟨aw,0,none⟩) 1 1] (fun _=>by kernel_rfl) fun mw nz nb=>?_)
    have jk:=nb.bk
    have ag:=nb.ext
    clear nb
    have f:UpI lb w nz:=F.then_ext ag
    refine JD G G G (hal.ext (ao.t (ar.t ag))) (a6 hlb f.size) am (mb.ext ag) jk (by omega) (by decide) fun aa ab cn fo ae=>?_
    have o:UpI lb w cn:=f.trans ae
    refine mv 1 G (aR (bM (aK ?_)))
    have bm:(q.set i ⟨aa,(q.getD i Lst.z).n+1,ab⟩).getD i Lst.z=(⟨aa,(q.getD i Lst.z).n+1,ab⟩:Lst):=jI (by rw [hal.len];exact am)
    refine bH [(0,no g 0),(6,AT (some ⟨D,0,none⟩) ls.length ls.length),(7,v4 i),(8,AT ((⟨aa,(q.getD i Lst.z).n+1,ab⟩:Lst).A) ((⟨aa,(q.getD i Lst.z).n+1,ab⟩:Lst).n) ((⟨aa,(q.getD i Lst.z).n+1,ab⟩:Lst).c)),(9,v4 j),(72,v4 i),(73,AT ((q.getD i Lst.z).A) ((q.getD i Lst.z).n) ((q.getD i Lst.z).c)),(74,v4 (((q.getD i Lst.z).n:Nat):Int)),(75,AI ((dX i ((q.getD i Lst.z).n):Nat):Int)),(76,AT (some ⟨aw,0,none⟩) 1 1),(77,.agg #[F0,AT (some ⟨aw,0,none⟩) 1 1]),(78,AT (some ⟨mw,0,none⟩) 1 1),(79,AT aa ((q.getD i Lst.z).n+1) ab)] ⟨rfl,rfl,rfl,rfl,rfl,rfl,rfl,rfl,rfl,rfl,rfl,rfl,rfl,Fo⟩ ?_
    rw [←bm]
    refine aJ (mv 1 G (aT G G G ((j+1:Nat):Int) (bK (a:=j) (b:=1) G G) (mv 1 G (aR (bX (⟨cn,j+1,q.set i ⟨aa,(q.getD i Lst.z).n+1,ab⟩⟩:a7×Nat×List Lst) ⟨o,(ae.bk (hB.ext (ao.t (ar.t ag))) (by decide)),(ae.own (hW.ext (ao.t (ar.t ag))) (by decide)),(ae.bk (hG.ext (ao.t (ar.t ag))) (by decide)),fo,(by omega),(fun a ha=>(jJ ha).trans (ba a ha)),(by rw [bm];show (q.getD i Lst.z).n+1=_;omega)⟩ (show 80-(j+1)<80-j by omega) G ⟨rfl,rfl,rfl,rfl,rfl,Fo⟩)))))
   ·have oi:j=80:=by omega
    refine aJ (mv 1 G (aN G G G false (cL (a:=j) (b:=80) G G) (aA (aV G (cR (cK (cN (cO (aK (aJ (mv 3 G (bI G G G o7 rO i G ⟨D,i,none⟩ (dN _ _) ?_))))))))))))
    have bg:=hG
    refine eJ G G G lL G bg (by omega) G (gv.set i (AT ((q.getD i Lst.z).A) ((q.getD i Lst.z).n) ((q.getD i Lst.z).c))) G fun df cz av _=>?_
    have W:UpI lb w df:=E.upd_new av dh hlb
    refine aR (bM (aK (aJ (mv 1 G (aT G G G ((i+1:Nat):Int) (bK (a:=i) (b:=1) G G) (mv 1 G (aR (bX (⟨df,i+1,q,gv.set i (AT ((q.getD i Lst.z).A) ((q.getD i Lst.z).n) ((q.getD i Lst.z).c))⟩:a7×Nat×List Lst×List aI) ⟨W,(hB.vN av),(hW.upd av bv),cz,(by rw [List.length_set];exact nh),(hal.updT bg (by decide) (by decide) av),(by omega),(fun a ha=>(ba a (by omega)).trans (cm a (by omega))),(fun a ha=>by by_cases e:a=i;(· subst e;rw [ny];omega);(· rw [ba a e];exact ch a (by omega))),(fun a ha hl=>by by_cases e:a=i;(· subst e;rw [jI (by omega)]);(· rw [jJ e,ba a e];exact cg a (by omega) hl))⟩ (show ls.length-(i+1)<ls.length-i by omega) G ⟨rfl,rfl,rfl,Fo⟩))))))))
  ·have bz:i=ls.length:=by omega
   rw [bz] at ch cg
   refine aJ (mv 2 G (pf g 0 G (pf g 1 G (aP G G (bA (fun _=>by kernel_rfl) hB G) (pu (v:= v4 ((ls.length:Nat):Int)) G (aN G G G false (cL (a:=i) (b:=ls.length) G G) (aA (aV G (cR (cK (cN (cO (aK ?_)))))))))))))
   refine aH (sr (mv 1 G (aA (bG ?_))))
   refine cQ (T:=a7×Nat)
    (fun⟨wr,k⟩=> [(0,no g 0),(6,AT (some ⟨D,0,none⟩) ls.length ls.length),(10,v4 k)])
    (fun⟨wr,k⟩=>wr)
    (fun⟨wr,k⟩=>(UpI lb w wr)∧(Bk wr g 54 [AT XA xn xc,AT WA ls.length wc,AT NA nn nc])∧(Own wr lw 26 1 WA ls.length wc (ls.map Lst.v))∧(Bk wr D 26 gv)∧(Ai2 wr lb ls gs)∧(k≤ls.length))
    (fun⟨wr,k⟩=>ls.length-k)
    (⟨wr,0⟩:a7×Nat) ⟨E,hB,hW,hG,hal,(bJ _)⟩ G ⟨rfl,rfl,rfl,Fo⟩ ?_
   rintro⟨wr,k⟩ ⟨E,hB,hW,hG,hal,_⟩
   refine cP [(0,no g 0),(6,AT (some ⟨D,0,none⟩) ls.length ls.length),(10,v4 k)] wr G ⟨rfl,rfl,rfl,Fo⟩ (aH (aH ?_))
   by_cases bu:k<ls.length
   ·refine aJ (mv 2 G (pf g 0 G (pf g 1 G (aP G G (bA (fun _=>by kernel_rfl) hB G) (pu (v:= v4 ((ls.length:Nat):Int)) G (aN G G G true (cG (a:=k) (b:=ls.length) G G) (aA (bB G (b8 (aK (aH (bG (aH ?_)))))))))))))
    have oh:=hln k
    have oe:=ch k bu
    refine aJ (mv 1 G (pf g 0 G (pf g 1 G (aP G G (bA (fun _=>by kernel_rfl) hB G) (mv 1 G ?_)))))
    obtain⟨np,fv,gg⟩:=(hW).atL (i:=k) (by omega)
    refine bI G G G o7 rO k G np fv (aP G G (dC vK gg) (mv 1 G (aA (sr (mv 2 G (bI G G G o7 rO k G ⟨D,k,none⟩ (dN _ _) (aP G G (dC vK (by have h:=(hG).cell (i:=k) (by omega);rw [cg k (by omega) (by omega)] at h;exact h)) (mv 1 G (aA (sr (mv 1 G (aA (bG ?_)))))))))))))
    refine cQ (T:=a7×Nat)
     (fun⟨wr,j⟩=> [(0,no g 0),(6,AT (some ⟨D,0,none⟩) ls.length ls.length),(10,v4 k),(11,AT ((ls.getD k Lst.z).A) ((ls.getD k Lst.z).n) ((ls.getD k Lst.z).c)),(12,AT ((gs.getD k Lst.z).A) ((gs.getD k Lst.z).n) ((gs.getD k Lst.z).c)),(13,v4 j)])
     (fun⟨wr,j⟩=>wr)
     (fun⟨wr,j⟩=>(UpI lb w wr)∧(Bk wr g 54 [AT XA xn xc,AT WA ls.length wc,AT NA nn nc])∧(Own wr lw 26 1 WA ls.length wc (ls.map Lst.v))∧(Bk wr D 26 gv)∧(Ai2 wr lb ls gs)∧(j≤(gs.getD k Lst.z).n))
     (fun⟨wr,j⟩=>(gs.getD k Lst.z).n-j)
     (⟨wr,0⟩:a7×Nat) ⟨E,hB,hW,hG,hal,(bJ _)⟩ G ⟨rfl,rfl,rfl,rfl,rfl,rfl,Fo⟩ ?_
    rintro⟨wr,j⟩ ⟨E,hB,hW,hG,hal,hj⟩
    refine cP [(0,no g 0),(6,AT (some ⟨D,0,none⟩) ls.length ls.length),(10,v4 k),(11,AT ((ls.getD k Lst.z).A) ((ls.getD k Lst.z).n) ((ls.getD k Lst.z).c)),(12,AT ((gs.getD k Lst.z).A) ((gs.getD k Lst.z).n) ((gs.getD k Lst.z).c)),(13,v4 j)] wr G ⟨rfl,rfl,rfl,rfl,rfl,rfl,Fo⟩ (aH (aH ?_))
    by_cases fx:j<(gs.getD k Lst.z).n
    ·refine aJ (mv 2 G (pu (v:= v4 (((gs.getD k Lst.z).n:Nat):Int)) G (aN G G G true (cG (a:=j) (b:=(gs.getD k Lst.z).n) G G) (aA (bB G (b8 (aK (aH (bG (sr (mv 2 G ?_)))))))))))
     obtain⟨nx,U,il,de,go,br⟩:=(hal).atg bu (j:=j) (by omega)
     refine bI G G G d9 a8.size j G nx il (aP G G (NJ (aD.cell de) (aD.cell go)) (dW G (z:= .agg #[F0,S0]) (vs:= [F0,S0]) (fun _=>by kernel_rfl) G fun X nw nb=>?_))
     have gx_g44:wr.heap.size≤X:=by rw [←nb.at_];exact aS _
     have oy:U<X:=by rw [←nb.at_];exact br.lt
     have ov:D<X:=by rw [←nb.at_];exact (hG).lt
     have ak:=nb.bk
     have fw:w.heap.size≤X:=by rw [←nb.at_];exact E.size
     have M:=nb.ext
     clear nb
     have W:UpI lb w nw:=E.then_ext M
     refine tG G G G a8 G ak (bq G) G [F0,AT (some ⟨U,0,none⟩) 1 1] G fun ob bi L _=>?_
     have F:UpI lb w ob:=W.upd_new L fw hlb
     refine aA (aH (aH ?_))
     refine cU bR 14 [] [Is (no X 1),Is (AT (some ⟨U,0,none⟩) 1 1),Is (v4 1),Is (BY),Is (BY),Is (no X 1),Is (AT (some ⟨U,0,none⟩) 1 1),Is (.pointer (some (⟨U,0,none⟩))),Is (AI ((dX k j:Nat):Int)),Is (v4 k),Is (v4 j),Is (AI ((dX k j:Nat):Int)),Is (BY),Is (BY)] [[],[0],[1],[2],[3],[4],[4,5],[4,6],[4,7],[4],[4],[4,9,10],[4,8,11],[4,12]] [[],[0],[0,1],[0,1,2],[0,1,2,3],[0,1,2,3,4],[0,1,2,3,4,5],[0,1,2,3,4,5,6],[0,1,2,3,4,5,6,7],[0,1,2,3,4],[0,1,2,3,4],[0,1,2,3,4,9,10],[0,1,2,3,4,5,6,7,8,9,10,11],[0,1,2,3,4,5,6,7,8,9,10,11,12]] rfl
      (aF G G (aC G G ?_) (aF G G (aC G G ?_) (aF G G (aC G G ?_) (aF G G (aC G G ?_) (aF G G (aC G G ?_) (aF G G (aC G G ?_) (aF G G (aC G G ?_) (aF G G (aC G G ?_) (aF G G (aC G G ?_) (aF G G (aC G G ?_) (aF G G (aC G G ?_) (aF G G (aC G G ?_) (aF G G (aC G G ?_) (aF G G (aC G G ?_) cE)))))))))))))) ?_
     ·intro nl nj
      have f:UpI lb w nl:=F.then_ext nj
      refine aB (pf X 1 G ?_)
      exact aE G aD rfl
     ·intro mz kw
      have f:UpI lb w mz:=F.then_ext kw
      refine dk G G (aB (aP G G (bA (fun _=>by kernel_rfl) (bi.ext kw) G) ?_))
      exact aE G aD rfl
     ·intro mr oa
      have f:UpI lb w mr:=F.then_ext oa
      refine dk G G (aB (pu (v:= v4 1) G ?_))
      exact aE G aD rfl
     ·intro mt my
      have f:UpI lb w mt:=F.then_ext my
      refine dk G G (aB (aN G G G false (by decide) ?_))
      exact aE G aD rfl
     ·intro ni nu
      have f:UpI lb w ni:=F.then_ext nu
      refine dk G G (aB (mv 1 G ?_))
      exact aE G aD rfl
     ·intro mu oc
      have f:UpI lb w mu:=F.then_ext oc
      refine dk G G (aB (pf X 1 G ?_))
      exact aE G aD rfl
     ·intro nk jg
      have f:UpI lb w nk:=F.then_ext jg
      refine dk G G (dk G G (aB (aP G G (bA (fun _=>by kernel_rfl) (bi.ext jg) G) ?_)))
      exact aE G aD rfl
     ·intro du dm
      have f:UpI lb w du:=F.then_ext dm
      refine dk G G (dk G G (aB (bI G G G bT bL 0 G ⟨U,0,none⟩ (dN _ _) ?_ (hj:=(by decide)))))
      exact aE G aD rfl
     ·intro me bj
      have f:UpI lb w me:=F.then_ext bj
      refine dk G G (dk G G (aB (aP G G (bA d6 (((br.ext M).vN L).ext bj) G) ?_)))
      exact aE G aD rfl
     ·intro ir mi
      have f:UpI lb w ir:=F.then_ext mi
      refine dk G G (aB (mv 1 G ?_))
      exact aE G aD rfl
     ·intro jw dc
      have f:UpI lb w jw:=F.then_ext dc
      refine dk G G (aB (mv 1 G ?_))
      exact aE G aD rfl
     ·intro cy ib
      have f:UpI lb w cy:=F.then_ext ib
      refine dk G G (dk G G (dk G G (aB (eL G G (vs:= [v4 k,v4 j]) (by kernel_rfl) (by decide) (nN) ?_))))
      rintro _ eg ⟨_,rfl,ku,bo⟩
      refine eM ?_
      have o:UpI lb w eg:=f.then_ext bo
      obtain rfl:=ku
      exact aE G bo rfl
     ·intro cx dy
      have f:UpI lb w cx:=F.then_ext dy
      refine dk G G (dk G G (dk G G (aB (aN G G G false (iI (a:=dX k j) (b:=dX k j) G G) ?_))))
      exact aE G aD rfl
     ·intro jb fj
      have f:UpI lb w jb:=F.then_ext fj
      refine dk G G (dk G G (aB (pu (v:= BY) G ?_)))
      exact aE G aD rfl
     ·intro mh H
      have f:UpI lb w mh:=F.then_ext H
      refine dk G G (dk G G (dk G G (dk G G (dk G G (dk G G (dk G G (dk G G (dk G G (dk G G (dk G G (dk G G (dk G G (dk G G ?_)))))))))))))
      refine aB (aR (cF (aK (aV G (b8 (aK (aH ?_)))))))
      by_cases om:j<(ls.getD k Lst.z).n
      ·obtain⟨I,V,ai,_,aj,ci⟩:=((hal.ext ((L.ext M gx_g44).trans H))).atx bu (j:=j) (by omega)
       refine cU bR 26 [] [Is (v4 j),Is (AT ((ls.getD k Lst.z).A) ((ls.getD k Lst.z).n) ((ls.getD k Lst.z).c)),Is (v4 (((ls.getD k Lst.z).n:Nat):Int)),Is (By),Is (By),Is (AT ((ls.getD k Lst.z).A) ((ls.getD k Lst.z).n) ((ls.getD k Lst.z).c)),Is (v4 j),Is (.pointer (some I)),Is (.pointer (some (I.add 1))),Is (AT (some ⟨V,0,none⟩) 1 1),Is (v4 1),Is (BY),Is (BY),Is (AT ((ls.getD k Lst.z).A) ((ls.getD k Lst.z).n) ((ls.getD k Lst.z).c)),Is (v4 j),Is (.pointer (some I)),Is (.pointer (some (I.add 1))),Is (AT (some ⟨V,0,none⟩) 1 1),Is (.pointer (some (⟨V,0,none⟩))),Is (AI ((dX k j:Nat):Int)),Is (v4 k),Is (v4 j),Is (AI ((dX k j:Nat):Int)),Is (BY),Is (BY),Is (BY)] [[],[],[1],[0,2],[3],[4],[4],[4,5,6],[4,7],[4,8],[4,9],[4,10],[4,11],[12],[12],[12,13,14],[12,15],[12,16],[12,17],[12,18],[12],[12],[12,20,21],[12,19,22],[4,12,23],[4,24]] [[],[],[1],[0,1,2],[0,1,2,3],[0,1,2,3,4],[0,1,2,3,4],[0,1,2,3,4,5,6],[0,1,2,3,4,5,6,7],[0,1,2,3,4,5,6,7,8],[0,1,2,3,4,5,6,7,8,9],[0,1,2,3,4,5,6,7,8,9,10],[0,1,2,3,4,5,6,7,8,9,10,11],[0,1,2,3,4,5,6,7,8,9,10,11,12],[0,1,2,3,4,5,6,7,8,9,10,11,12],[0,1,2,3,4,5,6,7,8,9,10,11,12,13,14],[0,1,2,3,4,5,6,7,8,9,10,11,12,13,14,15],[0,1,2,3,4,5,6,7,8,9,10,11,12,13,14,15,16],[0,1,2,3,4,5,6,7,8,9,10,11,12,13,14,15,16,17],[0,1,2,3,4,5,6,7,8,9,10,11,12,13,14,15,16,17,18],[0,1,2,3,4,5,6,7,8,9,10,11,12],[0,1,2,3,4,5,6,7,8,9,10,11,12],[0,1,2,3,4,5,6,7,8,9,10,11,12,20,21],[0,1,2,3,4,5,6,7,8,9,10,11,12,13,14,15,16,17,18,19,20,21,22],[0,1,2,3,4,5,6,7,8,9,10,11,12,13,14,15,16,17,18,19,20,21,22,23],[0,1,2,3,4,5,6,7,8,9,10,11,12,13,14,15,16,17,18,19,20,21,22,23,24]] rfl
        (aF G G (aC G G ?_) (aF G G (aC G G ?_) (aF G G (aC G G ?_) (aF G G (aC G G ?_) (aF G G (aC G G ?_) (aF G G (aC G G ?_) (aF G G (aC G G ?_) (aF G G (aC G G ?_) (aF G G (aC G G ?_) (aF G G (aC G G ?_) (aF G G (aC G G ?_) (aF G G (aC G G ?_) (aF G G (aC G G ?_) (aF G G (aC G G ?_) (aF G G (aC G G ?_) (aF G G (aC G G ?_) (aF G G (aC G G ?_) (aF G G (aC G G ?_) (aF G G (aC G G ?_) (aF G G (aC G G ?_) (aF G G (aC G G ?_) (aF G G (aC G G ?_) (aF G G (aC G G ?_) (aF G G (aC G G ?_) (aF G G (aC G G ?_) (aF G G (aC G G ?_) cE)))))))))))))))))))))))))) ?_
       ·intro kq jy
        have o:UpI lb w kq:=f.then_ext jy
        refine aB (mv 1 G ?_)
        exact aE G aD rfl
       ·intro md lp
        have o:UpI lb w md:=f.then_ext lp
        refine aB (mv 1 G ?_)
        exact aE G aD rfl
       ·intro gb jx
        have o:UpI lb w gb:=f.then_ext jx
        refine dk G G (aB (pu (v:= v4 (((ls.getD k Lst.z).n:Nat):Int)) G ?_))
        exact aE G aD rfl
       ·intro jl gj
        have o:UpI lb w jl:=f.then_ext gj
        refine dk G G (dk G G (aB (aN G G G true (cG (a:=j) (b:=(ls.getD k Lst.z).n) G G) ?_)))
        exact aE G aD rfl
       ·intro fy kk
        have o:UpI lb w fy:=f.then_ext kk
        refine dk G G (aB (mv 1 G ?_))
        exact aE G aD rfl
       ·intro co cp
        have o:UpI lb w co:=f.then_ext cp
        refine dk G G (aB (mv 1 G ?_))
        exact aE G aD rfl
       ·intro kv dd
        have o:UpI lb w kv:=f.then_ext dd
        refine dk G G (aB (mv 1 G ?_))
        exact aE G aD rfl
       ·intro lm ll
        have o:UpI lb w lm:=f.then_ext ll
        refine dk G G (dk G G (dk G G (aB (bI G G G d9 a8.size j G I ai ?_))))
        exact aE G aD rfl
       ·intro dt ew
        have o:UpI lb w dt:=f.then_ext ew
        refine dk G G (dk G G (aB (pu (v:= .pointer (some (I.add 1))) G ?_)))
        exact aE G aD rfl
       ·intro io bf
        have o:UpI lb w io:=f.then_ext bf
        refine dk G G (dk G G (aB (aP G G (dC (fun _=>by kernel_rfl) (bf.cell aj)) ?_)))
        exact aE G aD rfl
       ·intro jc jq
        have o:UpI lb w jc:=f.then_ext jq
        refine dk G G (dk G G (aB (pu (v:= v4 1) G ?_)))
        exact aE G aD rfl
       ·intro cv ky
        have o:UpI lb w cv:=f.then_ext ky
        refine dk G G (dk G G (aB (aN G G G false (by decide) ?_)))
        exact aE G aD rfl
       ·intro jt dv
        have o:UpI lb w jt:=f.then_ext dv
        refine dk G G (dk G G (aB (mv 1 G ?_)))
        exact aE G aD rfl
       ·intro gt fi
        have o:UpI lb w gt:=f.then_ext fi
        refine dk G G (aB (mv 1 G ?_))
        exact aE G aD rfl
       ·intro ia ez
        have o:UpI lb w ia:=f.then_ext ez
        refine dk G G (aB (mv 1 G ?_))
        exact aE G aD rfl
       ·intro fc gf
        have o:UpI lb w fc:=f.then_ext gf
        refine dk G G (dk G G (dk G G (aB (bI G G G d9 a8.size j G I ai ?_))))
        exact aE G aD rfl
       ·intro kz ju
        have o:UpI lb w kz:=f.then_ext ju
        refine dk G G (dk G G (aB (pu (v:= .pointer (some (I.add 1))) G ?_)))
        exact aE G aD rfl
       ·intro lj bt
        have o:UpI lb w lj:=f.then_ext bt
        refine dk G G (dk G G (aB (aP G G (dC (fun _=>by kernel_rfl) (bt.cell aj)) ?_)))
        exact aE G aD rfl
       ·intro jr dx
        have o:UpI lb w jr:=f.then_ext dx
        refine dk G G (dk G G (aB (bI G G G bT bL 0 G ⟨V,0,none⟩ (dN _ _) ?_ (hj:=(by decide)))))
        exact aE G aD rfl
       ·intro ix bc
        have o:UpI lb w ix:=f.then_ext bc
        refine dk G G (dk G G (aB (aP G G (bA d6 (ci.ext bc) G) ?_)))
        exact aE G aD rfl
       ·intro eh iq
        have o:UpI lb w eh:=f.then_ext iq
        refine dk G G (aB (mv 1 G ?_))
        exact aE G aD rfl
       ·intro fe ki
        have o:UpI lb w fe:=f.then_ext ki
        refine dk G G (aB (mv 1 G ?_))
        exact aE G aD rfl
       ·intro lv lu
        have o:UpI lb w lv:=f.then_ext lu
        refine dk G G (dk G G (dk G G (aB (eL G G (vs:= [v4 k,v4 j]) (by kernel_rfl) (by decide) (nN) ?_))))
        rintro _ iy ⟨_,rfl,jd,bp⟩
        refine eM ?_
        have oz:UpI lb w iy:=o.then_ext bp
        obtain rfl:=jd
        exact aE G bp rfl
       ·intro ml je
        have o:UpI lb w ml:=f.then_ext je
        refine dk G G (dk G G (dk G G (aB (aN G G G false (iI (a:=dX k j) (b:=dX k j) G G) ?_))))
        exact aE G aD rfl
       ·intro mf fp
        have o:UpI lb w mf:=f.then_ext fp
        refine dk G G (dk G G (dk G G (aB (pu (v:= BY) G ?_))))
        exact aE G aD rfl
       ·intro iw dl
        have o:UpI lb w iw:=f.then_ext dl
        refine dk G G (dk G G (aB (pu (v:= BY) G ?_)))
        exact aE G aD rfl
       ·intro bh Z
        have o:UpI lb w bh:=f.then_ext Z
        refine dk G G (dk G G (dk G G (dk G G (dk G G (dk G G (dk G G (dk G G (dk G G (dk G G (dk G G (dk G G (dk G G (dk G G ?_)))))))))))))
        refine dk G G (dk G G (dk G G (dk G G (dk G G (dk G G (dk G G (dk G G (dk G G (dk G G (dk G G (dk G G (aB (aR ?_)))))))))))))
        refine cF (aK (aV G (b8 (bM (aK (aJ (mv 1 G (aT G G G ((j+1:Nat):Int) (bK (a:=j) (b:=1) G G) (mv 1 G (aR (bX (⟨bh,j+1⟩:a7×Nat) ⟨o,(((hB.ext M).vN L).ext (H.t Z)),(((hW.ext M).updT ak (by decide) L).ext (H.t Z)),(((hG.ext M).vN L).ext (H.t Z)),(hal.ext (((L.ext M gx_g44).trans H).trans Z)),(by omega)⟩ (show (gs.getD k Lst.z).n-(j+1)<(gs.getD k Lst.z).n-j by omega) G ⟨rfl,rfl,rfl,rfl,rfl,rfl,Fo⟩)))))))))))
      ·refine cU bR 26 [] [Is (v4 j),Is (AT ((ls.getD k Lst.z).A) ((ls.getD k Lst.z).n) ((ls.getD k Lst.z).c)),Is (v4 (((ls.getD k Lst.z).n:Nat):Int)),Is (BY),Is (BY),Is (undef),Is (undef),Is (undef),Is (undef),Is (undef),Is (undef),Is (undef),Is (undef),Is (undef),Is (undef),Is (undef),Is (undef),Is (undef),Is (undef),Is (undef),Is (undef),Is (undef),Is (undef),Is (undef),Is (undef),Is (BY)] [[],[],[1],[0,2],[3],[4],[4],[4,5,6],[4,7],[4,8],[4,9],[4,10],[4,11],[12],[12],[12,13,14],[12,15],[12,16],[12,17],[12,18],[12],[12],[12,20,21],[12,19,22],[4,12,23],[4,24]] [[],[],[1],[0,1,2],[0,1,2,3],[0,1,2,3,4],[0,1,2,3,4],[0,1,2,3,4,5,6],[0,1,2,3,4,5,6,7],[0,1,2,3,4,5,6,7,8],[0,1,2,3,4,5,6,7,8,9],[0,1,2,3,4,5,6,7,8,9,10],[0,1,2,3,4,5,6,7,8,9,10,11],[0,1,2,3,4,5,6,7,8,9,10,11,12],[0,1,2,3,4,5,6,7,8,9,10,11,12],[0,1,2,3,4,5,6,7,8,9,10,11,12,13,14],[0,1,2,3,4,5,6,7,8,9,10,11,12,13,14,15],[0,1,2,3,4,5,6,7,8,9,10,11,12,13,14,15,16],[0,1,2,3,4,5,6,7,8,9,10,11,12,13,14,15,16,17],[0,1,2,3,4,5,6,7,8,9,10,11,12,13,14,15,16,17,18],[0,1,2,3,4,5,6,7,8,9,10,11,12],[0,1,2,3,4,5,6,7,8,9,10,11,12],[0,1,2,3,4,5,6,7,8,9,10,11,12,20,21],[0,1,2,3,4,5,6,7,8,9,10,11,12,13,14,15,16,17,18,19,20,21,22],[0,1,2,3,4,5,6,7,8,9,10,11,12,13,14,15,16,17,18,19,20,21,22,23],[0,1,2,3,4,5,6,7,8,9,10,11,12,13,14,15,16,17,18,19,20,21,22,23,24]] rfl
        (aF G G (aC G G ?_) (aF G G (aC G G ?_) (aF G G (aC G G ?_) (aF G G (aC G G ?_) (aF G G (aC G G ?_) (aF G G (aC G G ?_) (aF G G (aC G G ?_) (aF G G (aC G G ?_) (aF G G (aC G G ?_) (aF G G (aC G G ?_) (aF G G (aC G G ?_) (aF G G (aC G G ?_) (aF G G (aC G G ?_) (aF G G (aC G G ?_) (aF G G (aC G G ?_) (aF G G (aC G G ?_) (aF G G (aC G G ?_) (aF G G (aC G G ?_) (aF G G (aC G G ?_) (aF G G (aC G G ?_) (aF G G (aC G G ?_) (aF G G (aC G G ?_) (aF G G (aC G G ?_) (aF G G (aC G G ?_) (aF G G (aC G G ?_) (aF G G (aC G G ?_) cE)))))))))))))))))))))))))) ?_
       ·intro fk fz
        have o:UpI lb w fk:=f.then_ext fz
        refine aB (mv 1 G ?_)
        exact aE G aD rfl
       ·intro ie jj
        have o:UpI lb w ie:=f.then_ext jj
        refine aB (mv 1 G ?_)
        exact aE G aD rfl
       ·intro gk ja
        have o:UpI lb w gk:=f.then_ext ja
        refine dk G G (aB (pu (v:= v4 (((ls.getD k Lst.z).n:Nat):Int)) G ?_))
        exact aE G aD rfl
       ·intro jm ji
        have o:UpI lb w jm:=f.then_ext ji
        refine dk G G (dk G G (aB (aN G G G false (cL (a:=j) (b:=(ls.getD k Lst.z).n) G G) ?_)))
        exact aE G aD rfl
       ·intro lg dr
        have o:UpI lb w lg:=f.then_ext dr
        refine dk G G (aB (mv 1 G ?_))
        exact aE G aD rfl
       ·intro mo cu
        have o:UpI lb w mo:=f.then_ext cu
        refine dk G G (aB (mv 1 G ?_))
        exact aE G aD rfl
       ·intro dw kn
        have o:UpI lb w dw:=f.then_ext kn
        refine dk G G (aB (mv 1 G ?_))
        exact aE G aD rfl
       ·intro ft cj
        have o:UpI lb w ft:=f.then_ext cj
        refine dk G G (dk G G (dk G G (aB (mv 1 G ?_))))
        exact aE G aD rfl
       ·intro da jh
        have o:UpI lb w da:=f.then_ext jh
        refine dk G G (dk G G (aB (mv 1 G ?_)))
        exact aE G aD rfl
       ·intro ge mg
        have o:UpI lb w ge:=f.then_ext mg
        refine dk G G (dk G G (aB (mv 1 G ?_)))
        exact aE G aD rfl
       ·intro jv fd
        have o:UpI lb w jv:=f.then_ext fd
        refine dk G G (dk G G (aB (mv 1 G ?_)))
        exact aE G aD rfl
       ·intro ei ma
        have o:UpI lb w ei:=f.then_ext ma
        refine dk G G (dk G G (aB (mv 1 G ?_)))
        exact aE G aD rfl
       ·intro ej ig
        have o:UpI lb w ej:=f.then_ext ig
        refine dk G G (dk G G (aB (mv 1 G ?_)))
        exact aE G aD rfl
       ·intro lh ef
        have o:UpI lb w lh:=f.then_ext ef
        refine dk G G (aB (mv 1 G ?_))
        exact aE G aD rfl
       ·intro dz kc
        have o:UpI lb w dz:=f.then_ext kc
        refine dk G G (aB (mv 1 G ?_))
        exact aE G aD rfl
       ·intro fq gx
        have o:UpI lb w fq:=f.then_ext gx
        refine dk G G (dk G G (dk G G (aB (mv 1 G ?_))))
        exact aE G aD rfl
       ·intro mj dg
        have o:UpI lb w mj:=f.then_ext dg
        refine dk G G (dk G G (aB (mv 1 G ?_)))
        exact aE G aD rfl
       ·intro jo fb
        have o:UpI lb w jo:=f.then_ext fb
        refine dk G G (dk G G (aB (mv 1 G ?_)))
        exact aE G aD rfl
       ·intro fa ip
        have o:UpI lb w fa:=f.then_ext ip
        refine dk G G (dk G G (aB (mv 1 G ?_)))
        exact aE G aD rfl
       ·intro ey jz
        have o:UpI lb w ey:=f.then_ext jz
        refine dk G G (dk G G (aB (mv 1 G ?_)))
        exact aE G aD rfl
       ·intro jf ck
        have o:UpI lb w jf:=f.then_ext ck
        refine dk G G (aB (mv 1 G ?_))
        exact aE G aD rfl
       ·intro el ik
        have o:UpI lb w el:=f.then_ext ik
        refine dk G G (aB (mv 1 G ?_))
        exact aE G aD rfl
       ·intro gy kf
        have o:UpI lb w gy:=f.then_ext kf
        refine dk G G (dk G G (dk G G (aB (mv 1 G ?_))))
        exact aE G aD rfl
       ·intro ee ko
        have o:UpI lb w ee:=f.then_ext ko
        refine dk G G (dk G G (dk G G (aB (mv 1 G ?_))))
        exact aE G aD rfl
       ·intro ij fg
        have o:UpI lb w ij:=f.then_ext fg
        refine dk G G (dk G G (dk G G (aB (mv 1 G ?_))))
        exact aE G aD rfl
       ·intro fm kt
        have o:UpI lb w fm:=f.then_ext kt
        refine dk G G (dk G G (aB (pu (v:= BY) G ?_)))
        exact aE G aD rfl
       ·intro bd Y
        have o:UpI lb w bd:=f.then_ext Y
        refine dk G G (dk G G (dk G G (dk G G (dk G G (dk G G (dk G G (dk G G (dk G G (dk G G (dk G G (dk G G (dk G G (dk G G ?_)))))))))))))
        refine dk G G (dk G G (dk G G (dk G G (dk G G (dk G G (dk G G (dk G G (dk G G (dk G G (dk G G (dk G G (aB (aR ?_)))))))))))))
        refine cF (aK (aV G (b8 (bM (aK (aJ (mv 1 G (aT G G G ((j+1:Nat):Int) (bK (a:=j) (b:=1) G G) (mv 1 G (aR (bX (⟨bd,j+1⟩:a7×Nat) ⟨o,(((hB.ext M).vN L).ext (H.t Y)),(((hW.ext M).updT ak (by decide) L).ext (H.t Y)),(((hG.ext M).vN L).ext (H.t Y)),(hal.ext (((L.ext M gx_g44).trans H).trans Y)),(by omega)⟩ (show (gs.getD k Lst.z).n-(j+1)<(gs.getD k Lst.z).n-j by omega) G ⟨rfl,rfl,rfl,rfl,rfl,rfl,Fo⟩)))))))))))
    ·refine aJ (mv 2 G (pu (v:= v4 (((gs.getD k Lst.z).n:Nat):Int)) G (aN G G G false (cL (a:=j) (b:=(gs.getD k Lst.z).n) G G) (aA (aV G (cR (cK (cN (cO (bM (aK (aJ (mv 1 G ?_)))))))))))))
     refine aT G G G ((k+1:Nat):Int) (bK (a:=k) (b:=1) G G) (mv 1 G (aR (bX (⟨wr,k+1⟩:a7×Nat) ⟨E,hB,hW,hG,hal,(by omega)⟩ (show ls.length-(k+1)<ls.length-k by omega) G ⟨rfl,rfl,rfl,Fo⟩)))
   ·refine aJ (mv 2 G (pf g 0 G (pf g 1 G (aP G G (bA (fun _=>by kernel_rfl) hB G) (pu (v:= v4 ((ls.length:Nat):Int)) G (aN G G G false (cL (a:=k) (b:=ls.length) G G) (aA (aV G (cR (cK (cN (cO (aK ?_)))))))))))))
    refine sr (mv 1 G (aA (bD (bC [By] G ⟨rfl,Fo⟩ ?_))))
    exact⟨rfl,E⟩
theorem P0 {nm:Nat}(hB:Bk w g 54 [AT WA ls.length wc,AT IA im ic,AT NA nm nc])(hW:Own w lw 22 1 WA ls.length wc (ls.map Lst.v))(hal:Al0 w lb ls)(hlb:lb≤w.heap.size)(hN:ls.length≤4194304)(hln:∀a,(ls.getD a Lst.z).n≤1099511620000):aQ aM 53 #[no g 0] w (fun e w'=>e= .returned (By)∧UpU lb w w'):=by
 refine bP Tryz.func53 G (n:=99) G (bq G) (args:= [no g 0]) (bH [(0,no g 0)] ⟨rfl,Fo⟩ (sr (mv 1 G (aA (aH (sr (mv 1 G (aA (bG ?_)))))))))
 refine cQ (T:=a7×Nat)
  (fun⟨wr,i⟩=> [(0,no g 0),(3,v4 i)])
  (fun⟨wr,i⟩=>wr)
  (fun⟨wr,i⟩=>(UpU lb w wr)∧(Bk wr g 54 [AT WA ls.length wc,AT IA im ic,AT NA nm nc])∧(Own wr lw 22 1 WA ls.length wc (ls.map Lst.v))∧(Al1 wr lb ls i 0)∧(i≤ls.length))
  (fun⟨wr,i⟩=>ls.length-i)
  (⟨w,0⟩:a7×Nat) ⟨(UpU.refl lb w),hB,hW,hal,(bJ _)⟩ G ⟨rfl,rfl,Fo⟩ ?_
 rintro⟨wr,i⟩ ⟨o,hB,hW,hal,hi⟩
 refine cP [(0,no g 0),(3,v4 i)] wr G ⟨rfl,rfl,Fo⟩ (aH (aH ?_))
 by_cases X:i<ls.length
 ·refine aJ (mv 2 G (pf g 0 G (pf g 0 G (aP G G (bA (fun _=>by kernel_rfl) hB G) (pu (v:= v4 ((ls.length:Nat):Int)) G (aN G G G true (cG (a:=i) (b:=ls.length) G G) (aA (bB G (b8 (aK (aH (bG (aH ?_)))))))))))))
  have bj:=hln i
  refine aJ (mv 1 G (pf g 0 G (pf g 0 G (aP G G (bA (fun _=>by kernel_rfl) hB G) (mv 1 G ?_)))))
  obtain⟨p1,co,cz⟩:=(hW).atL (i:=i) (by omega)
  refine bI G G G jT lL i G p1 co (aP G G (dC oX cz) (mv 1 G (aA (sr (mv 1 G (aA (bG ?_)))))))
  refine cQ (T:=a7×Nat)
   (fun⟨wr,j⟩=> [(0,no g 0),(3,v4 i),(4,AT ((ls.getD i Lst.z).A) ((ls.getD i Lst.z).n) ((ls.getD i Lst.z).c)),(5,v4 j)])
   (fun⟨wr,j⟩=>wr)
   (fun⟨wr,j⟩=>(UpU lb w wr)∧(Bk wr g 54 [AT WA ls.length wc,AT IA im ic,AT NA nm nc])∧(Own wr lw 22 1 WA ls.length wc (ls.map Lst.v))∧(Al1 wr lb ls i j)∧(j≤(ls.getD i Lst.z).n))
   (fun⟨wr,j⟩=>(ls.getD i Lst.z).n-j)
   (⟨wr,0⟩:a7×Nat) ⟨o,hB,hW,hal,(bJ _)⟩ G ⟨rfl,rfl,rfl,rfl,Fo⟩ ?_
  rintro⟨wr,j⟩ ⟨o,hB,hW,hal,hj⟩
  refine cP [(0,no g 0),(3,v4 i),(4,AT ((ls.getD i Lst.z).A) ((ls.getD i Lst.z).n) ((ls.getD i Lst.z).c)),(5,v4 j)] wr G ⟨rfl,rfl,rfl,rfl,Fo⟩ (aH (aH ?_))
  by_cases dn:j<(ls.getD i Lst.z).n
  ·refine aJ (mv 2 G (pu (v:= v4 (((ls.getD i Lst.z).n:Nat):Int)) G (aN G G G true (cG (a:=j) (b:=(ls.getD i Lst.z).n) G G) (aA (bB G (b8 (aK (aH (bG (aJ (mv 4 G (eL G G (vs:= [v4 i,v4 j]) (by kernel_rfl) (by decide) (nN) ?_))))))))))))
   rintro _ v2 ⟨_,rfl,r4,e3⟩
   refine eM ?_
   have q:UpU lb w v2:=o.then_ext e3
   obtain rfl:=r4
   obtain⟨p5,bi⟩:=((hal.ext e3)).addr X (k:=j) (by omega)
   refine bI G G G bT bL j G p5 bi (JB G G G (hal.ext e3) X (by omega) bi fun v6 cv an=>?_)
   have M:UpU lb w v6:=q.trans an
   refine aR (bM (aK (aJ (mv 1 G (aT G G G ((j+1:Nat):Int) (bK (a:=j) (b:=1) G G) (mv 1 G (aR (bX (⟨v6,j+1⟩:a7×Nat) ⟨M,(an.bk (hB.ext e3) (by decide)),(an.own (hW.ext e3) (by decide)),cv,(by omega)⟩ (show (ls.getD i Lst.z).n-(j+1)<(ls.getD i Lst.z).n-j by omega) G ⟨rfl,rfl,rfl,rfl,Fo⟩))))))))
  ·refine aJ (mv 2 G (pu (v:= v4 (((ls.getD i Lst.z).n:Nat):Int)) G (aN G G G false (cL (a:=j) (b:=(ls.getD i Lst.z).n) G G) (aA (aV G (cR (cK (cN (cO (bM (aK (aJ (mv 1 G ?_)))))))))))))
   refine aT G G G ((i+1:Nat):Int) (bK (a:=i) (b:=1) G G) (mv 1 G (aR (bX (⟨wr,i+1⟩:a7×Nat) ⟨o,hB,hW,((hal).next (by omega)),(by omega)⟩ (show ls.length-(i+1)<ls.length-i by omega) G ⟨rfl,rfl,Fo⟩)))
 ·have ao:i=ls.length:=by omega
  rw [ao] at hal
  have bp:=Al2.start hal
  refine aJ (mv 2 G (pf g 0 G (pf g 0 G (aP G G (bA (fun _=>by kernel_rfl) hB G) (pu (v:= v4 ((ls.length:Nat):Int)) G (aN G G G false (cL (a:=i) (b:=ls.length) G G) (aA (aV G (cR (cK (cN (cO (aK ?_)))))))))))))
  refine sr (mv 1 G (pf g 0 G (pf g 0 G (aP G G (bA (fun _=>by kernel_rfl) hB G) (pu (v:= v4 ((ls.length:Nat):Int)) G (mA G (k:=ls.length) G G G Tryz.underlying39 qB G fun D cj L cg Y=>?_))))))
  have bm:w.heap.size≤D:=by rw [←L];exact o.size
  have am:∀p,WA=some p→p.block≠D:=fun p hp=>by have:=((hW).block p hp).2;omega
  have fa:g<D:=by rw [←L];exact hB.lt
  clear L
  have q:UpU lb w cj:=o.then_ext Y
  refine mv 1 G (aA (aH (sr (mv 1 G (aA (bG ?_))))))
  refine cQ (T:=a7×Nat×List Lst×List aI)
   (fun⟨wr,i,gs,gv⟩=> [(0,no g 0),(6,AT (some ⟨D,0,none⟩) ls.length ls.length),(7,v4 i)])
   (fun⟨wr,i,gs,gv⟩=>wr)
   (fun⟨wr,i,gs,gv⟩=>(UpU lb w wr)∧(Bk wr g 54 [AT WA ls.length wc,AT IA im ic,AT NA nm nc])∧(Own wr lw 22 1 WA ls.length wc (ls.map Lst.v))∧(Bk wr D 22 gv)∧(gv.length=ls.length)∧(Al2 wr lb ls gs)∧(i≤ls.length)∧(∀a,i≤a→gs.getD a Lst.z=ls.getD a Lst.z)∧(∀a,a<i→(gs.getD a Lst.z).n=(ls.getD a Lst.z).n+80)∧(∀a,a<i→a<ls.length→gv.getD a undef= .slice (gs.getD a Lst.z).A (gs.getD a Lst.z).n (gs.getD a Lst.z).c))
   (fun⟨wr,i,gs,gv⟩=>ls.length-i)
   (⟨cj,0,ls,_⟩:a7×Nat×List Lst×List aI) ⟨q,(hB.ext Y),(hW.ext Y),cg,(List.length_replicate),(bp.ext Y),(bJ _),(fun _ _=>rfl),(fun a Z=>absurd Z (Nat.not_lt_zero _)),(fun a Z=>absurd Z (Nat.not_lt_zero _))⟩ G ⟨rfl,rfl,rfl,Fo⟩ ?_
  rintro⟨wr,i,gs,gv⟩ ⟨o,hB,hW,hG,cp,hal,hi,av,ar,aq⟩
  refine cP [(0,no g 0),(6,AT (some ⟨D,0,none⟩) ls.length ls.length),(7,v4 i)] wr G ⟨rfl,rfl,rfl,Fo⟩ (aH (aH ?_))
  by_cases X:i<ls.length
  ·refine aJ (mv 2 G (pf g 0 G (pf g 0 G (aP G G (bA (fun _=>by kernel_rfl) hB G) (pu (v:= v4 ((ls.length:Nat):Int)) G (aN G G G true (cG (a:=i) (b:=ls.length) G G) (aA (bB G (b8 (aK (aH (bG (aH ?_)))))))))))))
   have bj:=hln i
   refine aJ (mv 1 G (pf g 0 G (pf g 0 G (aP G G (bA (fun _=>by kernel_rfl) hB G) (mv 1 G ?_)))))
   obtain⟨ef,bf,bu⟩:=(hW).atL (i:=i) (by omega)
   refine bI G G G jT lL i G ef bf (aP G G (dC oX bu) (mv 1 G (aA (aH (aH ?_)))))
   have cn:=(av i (aS _)).symm
   refine bH [(0,no g 0),(6,AT (some ⟨D,0,none⟩) ls.length ls.length),(7,v4 i),(45,v4 i),(46,no g 0),(47,no g 0),(48,no g 0),(49,AT WA ls.length wc),(50,v4 ((ls.length:Nat):Int)),(51,By),(8,AT ((ls.getD i Lst.z).A) ((ls.getD i Lst.z).n) ((ls.getD i Lst.z).c))] ⟨rfl,rfl,rfl,rfl,rfl,rfl,rfl,rfl,rfl,rfl,rfl,Fo⟩ ?_
   rw [cn]
   refine aJ (mv 1 G (aA (bG ?_)))
   refine cQ (T:=a7×Nat×List Lst)
    (fun⟨wr,j,f⟩=> [(0,no g 0),(6,AT (some ⟨D,0,none⟩) ls.length ls.length),(7,v4 i),(8,AT ((f.getD i Lst.z).A) ((f.getD i Lst.z).n) ((f.getD i Lst.z).c)),(9,v4 j)])
    (fun⟨wr,j,f⟩=>wr)
    (fun⟨wr,j,f⟩=>(UpU lb w wr)∧(Bk wr g 54 [AT WA ls.length wc,AT IA im ic,AT NA nm nc])∧(Own wr lw 22 1 WA ls.length wc (ls.map Lst.v))∧(Bk wr D 22 gv)∧(Al2 wr lb ls f)∧(j≤80)∧(∀a,a≠i→f.getD a Lst.z=gs.getD a Lst.z)∧((f.getD i Lst.z).n=(ls.getD i Lst.z).n+j))
    (fun⟨wr,j,f⟩=>80-j)
    (⟨wr,0,gs⟩:a7×Nat×List Lst) ⟨o,hB,hW,hG,hal,(bJ _),(fun _ _=>rfl),(by rw [cn];rfl)⟩ G ⟨rfl,rfl,rfl,rfl,rfl,Fo⟩ ?_
   rintro⟨wr,j,f⟩ ⟨o,hB,hW,hG,hal,hj,aa,dr⟩
   refine cP [(0,no g 0),(6,AT (some ⟨D,0,none⟩) ls.length ls.length),(7,v4 i),(8,AT ((f.getD i Lst.z).A) ((f.getD i Lst.z).n) ((f.getD i Lst.z).c)),(9,v4 j)] wr G ⟨rfl,rfl,rfl,rfl,rfl,Fo⟩ (aH (aH ?_))
   by_cases dn:j<80
   ·refine aJ (mv 1 G (aN G G G true (cG (a:=j) (b:=80) G G) (aA (bB G (b8 (aK (aH (bG (aJ (mv 3 G (pu (v:= v4 (((f.getD i Lst.z).n:Nat):Int)) G (eL G G (vs:= [v4 i,v4 (((f.getD i Lst.z).n:Nat):Int)]) (by kernel_rfl) (by decide) (nN) ?_))))))))))))
    rintro _ dh ⟨_,rfl,dz,W⟩
    refine eM ?_
    have q:UpU lb w dh:=o.then_ext W
    obtain rfl:=dz
    refine fA G G (k:=1) (e:=36) [AI ((dX i ((f.getD i Lst.z).n):Nat):Int)] (fun _=>by kernel_rfl) fun _ dv nb=>?_
    have bo:=nb.bk
    have U:=nb.ext
    clear nb
    have M:UpU lb w dv:=q.then_ext U
    refine JE G G G (hal.ext (W.t U)) (a6 hlb M.size) X bo (by omega) (by decide) fun H I bg ch F=>?_
    have dm:UpU lb w bg:=M.trans F
    refine mv 1 G (aR (bM (aK ?_)))
    have aj:(f.set i ⟨H,(f.getD i Lst.z).n+1,I⟩).getD i Lst.z=(⟨H,(f.getD i Lst.z).n+1,I⟩:Lst):=jI (by rw [hal.len];exact X)
    refine bH [(0,no g 0),(6,AT (some ⟨D,0,none⟩) ls.length ls.length),(7,v4 i),(8,AT ((⟨H,(f.getD i Lst.z).n+1,I⟩:Lst).A) ((⟨H,(f.getD i Lst.z).n+1,I⟩:Lst).n) ((⟨H,(f.getD i Lst.z).n+1,I⟩:Lst).c)),(9,v4 j),(61,v4 j),(62,By)] ⟨rfl,rfl,rfl,rfl,rfl,rfl,rfl,Fo⟩ ?_
    rw [←aj]
    refine aJ (mv 1 G (aT G G G ((j+1:Nat):Int) (bK (a:=j) (b:=1) G G) (mv 1 G (aR (bX (⟨bg,j+1,f.set i ⟨H,(f.getD i Lst.z).n+1,I⟩⟩:a7×Nat×List Lst) ⟨dm,(F.bk (hB.ext (W.t U)) (by decide)),(F.own (hW.ext (W.t U)) (by decide)),(F.bk (hG.ext (W.t U)) (by decide)),ch,(by omega),(fun a Z=>(jJ Z).trans (aa a Z)),(by rw [aj];show (f.getD i Lst.z).n+1=_;omega)⟩ (show 80-(j+1)<80-j by omega) G ⟨rfl,rfl,rfl,rfl,rfl,Fo⟩)))))
   ·have ey:j=80:=by omega
    refine aJ (mv 1 G (aN G G G false (cL (a:=j) (b:=80) G G) (aA (aV G (cR (cK (cN (cO (aK (aJ (mv 3 G (bI G G G jT lL i G ⟨D,i,none⟩ (dN _ _) ?_))))))))))))
    have ah:=hG
    refine eJ G G G lL G ah (by omega) G (gv.set i (AT ((f.getD i Lst.z).A) ((f.getD i Lst.z).n) ((f.getD i Lst.z).c))) G fun bt bh ab _=>?_
    have q:UpU lb w bt:=o.upd_new ab bm hlb
    refine aR (bM (aK (aJ (mv 1 G (aT G G G ((i+1:Nat):Int) (bK (a:=i) (b:=1) G G) (mv 1 G (aR (bX (⟨bt,i+1,f,gv.set i (AT ((f.getD i Lst.z).A) ((f.getD i Lst.z).n) ((f.getD i Lst.z).c))⟩:a7×Nat×List Lst×List aI) ⟨q,(hB.vN ab),(hW.upd ab am),bh,(by rw [List.length_set];exact cp),(hal.updT ah (by decide) ab),(by omega),(fun a Z=>(aa a (by omega)).trans (av a (by omega))),(fun a Z=>by by_cases e:a=i;(· subst e;rw [dr];omega);(· rw [aa a e];exact ar a (by omega))),(fun a Z hl=>by by_cases e:a=i;(· subst e;rw [jI (by omega)]);(· rw [jJ e,aa a e];exact aq a (by omega) hl))⟩ (show ls.length-(i+1)<ls.length-i by omega) G ⟨rfl,rfl,rfl,Fo⟩))))))))
  ·have ao:i=ls.length:=by omega
   rw [ao] at ar aq
   refine aJ (mv 2 G (pf g 0 G (pf g 0 G (aP G G (bA (fun _=>by kernel_rfl) hB G) (pu (v:= v4 ((ls.length:Nat):Int)) G (aN G G G false (cL (a:=i) (b:=ls.length) G G) (aA (aV G (cR (cK (cN (cO (aK ?_)))))))))))))
   refine aH (sr (mv 1 G (aA (bG ?_))))
   refine cQ (T:=a7×Nat)
    (fun⟨wr,k⟩=> [(0,no g 0),(6,AT (some ⟨D,0,none⟩) ls.length ls.length),(10,v4 k)])
    (fun⟨wr,k⟩=>wr)
    (fun⟨wr,k⟩=>(UpU lb w wr)∧(Bk wr g 54 [AT WA ls.length wc,AT IA im ic,AT NA nm nc])∧(Own wr lw 22 1 WA ls.length wc (ls.map Lst.v))∧(Bk wr D 22 gv)∧(Al2 wr lb ls gs)∧(k≤ls.length))
    (fun⟨wr,k⟩=>ls.length-k)
    (⟨wr,0⟩:a7×Nat) ⟨o,hB,hW,hG,hal,(bJ _)⟩ G ⟨rfl,rfl,rfl,Fo⟩ ?_
   rintro⟨wr,k⟩ ⟨o,hB,hW,hG,hal,_⟩
   refine cP [(0,no g 0),(6,AT (some ⟨D,0,none⟩) ls.length ls.length),(10,v4 k)] wr G ⟨rfl,rfl,rfl,Fo⟩ (aH (aH ?_))
   by_cases ak:k<ls.length
   ·refine aJ (mv 2 G (pf g 0 G (pf g 0 G (aP G G (bA (fun _=>by kernel_rfl) hB G) (pu (v:= v4 ((ls.length:Nat):Int)) G (aN G G G true (cG (a:=k) (b:=ls.length) G G) (aA (bB G (b8 (aK (aH (bG (aH ?_)))))))))))))
    have ew:=hln k
    have el:=ar k ak
    obtain⟨ci,ba,ck⟩:=(hW).atL (i:=k) (by omega)
    refine cU bR 14 [] [Is (v4 k),Is (no g 0),Is (no g 0),Is (no g 0),Is (AT WA ls.length wc),Is (v4 k),Is (.pointer (some ci)),Is (AT ((ls.getD k Lst.z).A) ((ls.getD k Lst.z).n) ((ls.getD k Lst.z).c)),Is (AT (some ⟨D,0,none⟩) ls.length ls.length),Is (v4 k),Is (.pointer (some (⟨D,k,none⟩))),Is (AT ((gs.getD k Lst.z).A) ((gs.getD k Lst.z).n) ((gs.getD k Lst.z).c)),Is (By),Is (BY)] [[],[],[1],[2],[3],[],[4,5],[6],[],[],[8,9],[10],[0,7,11],[12]] [[],[],[1],[1,2],[1,2,3],[],[1,2,3,4,5],[1,2,3,4,5,6],[],[],[8,9],[8,9,10],[0,1,2,3,4,5,6,7,8,9,10,11],[0,1,2,3,4,5,6,7,8,9,10,11,12]] rfl
     (aF G G (aC G G ?_) (aF G G (aC G G ?_) (aF G G (aC G G ?_) (aF G G (aC G G ?_) (aF G G (aC G G ?_) (aF G G (aC G G ?_) (aF G G (aC G G ?_) (aF G G (aC G G ?_) (aF G G (aC G G ?_) (aF G G (aC G G ?_) (aF G G (aC G G ?_) (aF G G (aC G G ?_) (aF G G (aC G G ?_) (aF G G (aC G G ?_) cE)))))))))))))) ?_
    ·intro dl cy
     have q:UpU lb w dl:=o.then_ext cy
     refine aB (mv 1 G ?_)
     exact aE G aD rfl
    ·intro de dy
     have q:UpU lb w de:=o.then_ext dy
     refine aB (mv 1 G ?_)
     exact aE G aD rfl
    ·intro du dw
     have q:UpU lb w du:=o.then_ext dw
     refine dk G G (aB (pf g 0 G ?_))
     exact aE G aD rfl
    ·intro dg ei
     have q:UpU lb w dg:=o.then_ext ei
     refine dk G G (aB (pf g 0 G ?_))
     exact aE G aD rfl
    ·intro ct br
     have q:UpU lb w ct:=o.then_ext br
     refine dk G G (aB (aP G G (bA (fun _=>by kernel_rfl) (hB.ext br) G) ?_))
     exact aE G aD rfl
    ·intro eh dd
     have q:UpU lb w eh:=o.then_ext dd
     refine aB (mv 1 G ?_)
     exact aE G aD rfl
    ·intro eg df
     have q:UpU lb w eg:=o.then_ext df
     refine dk G G (dk G G (aB (bI G G G jT lL k G ci ba ?_)))
     exact aE G aD rfl
    ·intro cx aw
     have q:UpU lb w cx:=o.then_ext aw
     refine dk G G (aB (aP G G (dC oX (aw.cell ck)) ?_))
     exact aE G aD rfl
    ·intro dc cu
     have q:UpU lb w dc:=o.then_ext cu
     refine aB (mv 1 G ?_)
     exact aE G aD rfl
    ·intro dx da
     have q:UpU lb w dx:=o.then_ext da
     refine aB (mv 1 G ?_)
     exact aE G aD rfl
    ·intro dt ee
     have q:UpU lb w dt:=o.then_ext ee
     refine dk G G (dk G G (aB (bI G G G jT lL k G ⟨D,k,none⟩ (dN _ _) ?_)))
     exact aE G aD rfl
    ·intro ej bv
     have q:UpU lb w ej:=o.then_ext bv
     refine dk G G (aB (aP G G (dC oX (by have h:=((hG.ext bv)).cell (i:=k) (by omega);rw [aq k (by omega) (by omega)] at h;exact h)) ?_))
     exact aE G aD rfl
    ·intro bd V
     have q:UpU lb w bd:=o.then_ext V
     refine dk G G (dk G G (dk G G (aB (eL G G (vs:= [v4 k,AT ((ls.getD k Lst.z).A) ((ls.getD k Lst.z).n) ((ls.getD k Lst.z).c),AT ((gs.getD k Lst.z).A) ((gs.getD k Lst.z).n) ((gs.getD k Lst.z).c)]) (by kernel_rfl) (by decide) (Q9 (by omega) ((hal.ext V).rd1 ak hN (by omega)) ((hal.ext V).rd2 ak hN (by omega)) (by omega) (by omega)) ?_))))
     rintro _ cm ⟨_,rfl,bz,ag⟩
     refine eM ?_
     have M:UpU lb w cm:=q.then_ext ag
     obtain rfl:=bz
     exact aE G ag rfl
    ·intro az au
     have q:UpU lb w az:=o.then_ext au
     refine dk G G (aB (pu (v:= BY) G ?_))
     exact aE G aD rfl
    ·intro ae E
     have q:UpU lb w ae:=o.then_ext E
     refine dk G G (dk G G (dk G G (dk G G (dk G G (dk G G (dk G G (dk G G (dk G G (dk G G (dk G G (dk G G (dk G G (dk G G ?_)))))))))))))
     refine aB (aR (cF (aK (aV G (b8 (bM (aK (aJ (mv 1 G (aT G G G ((k+1:Nat):Int) (bK (a:=k) (b:=1) G G) (mv 1 G (aR (bX (⟨ae,k+1⟩:a7×Nat) ⟨q,(hB.ext E),(hW.ext E),(hG.ext E),(hal.ext E),(by omega)⟩ (show ls.length-(k+1)<ls.length-k by omega) G ⟨rfl,rfl,rfl,Fo⟩)))))))))))))
   ·refine aJ (mv 2 G (pf g 0 G (pf g 0 G (aP G G (bA (fun _=>by kernel_rfl) hB G) (pu (v:= v4 ((ls.length:Nat):Int)) G (aN G G G false (cL (a:=k) (b:=ls.length) G G) (aA (aV G (cR (cK (cN (cO (aK ?_)))))))))))))
    refine sr (mv 1 G (aA (bD (bC [By] G ⟨rfl,Fo⟩ ?_))))
    exact⟨rfl,o⟩
theorem PY {wn:Nat}(hB:Bk w g 54 [AT WA wn wc,AT IA im ic,AT NA 0 nc]):aQ aM 55 #[no g 0] w (Gv w (Is (By))):=by
 refine bP Tryz.func55 G (n:=133) G (bq G) (args:= [no g 0]) (bH [(0,no g 0)] ⟨rfl,Fo⟩ (sr (mv 1 G (aA (aH (sr (mv 1 G (aA (bG ?_)))))))))
 refine cQ (T:=a7×Nat)
  (fun⟨wr,i⟩=> [(0,no g 0),(3,v4 i)])
  (fun⟨wr,i⟩=>wr)
  (fun⟨wr,i⟩=>(Ext w wr)∧(Bk wr g 54 [AT WA wn wc,AT IA im ic,AT NA 0 nc]))
  (fun⟨wr,i⟩=>i)
  (⟨w,0⟩:a7×Nat) ⟨(Ext.refl w),hB⟩ G ⟨rfl,rfl,Fo⟩ ?_
 rintro⟨wr,i⟩ ⟨f,hB⟩
 refine cP [(0,no g 0),(3,v4 i)] wr G ⟨rfl,rfl,Fo⟩ (aH (sr (mv 2 G (pf g 0 G (pf g 2 G (aP G G (bA (fun _=>by kernel_rfl) hB G) (pu (v:= v4 0) G (aN G G G false (cL (a:=i) (b:=0) G G) (aA (aV G (cR (cK (cN ?_)))))))))))))
 refine cO (aK (sr (mv 1 G (pf g 0 G (pf g 2 G (aP G G (bA (fun _=>by kernel_rfl) hB G) (pu (v:= v4 0) G (mA G (k:=0) G G G Tryz.underlying52 O9 G fun o E h _ q=>?_))))))))
 have D:w.heap.size≤o:=by rw [←h];exact f.size
 clear h
 have p:=f.trans q
 refine mv 1 G (aA (aH (sr (mv 1 G (aA (bG ?_))))))
 refine cQ (T:=a7×Nat)
  (fun⟨wr,i⟩=> [(0,no g 0),(6,AT (some ⟨o,0,none⟩) 0 0),(7,v4 i)])
  (fun⟨wr,i⟩=>wr)
  (fun⟨wr,i⟩=>(Ext w wr)∧(Bk wr g 54 [AT WA wn wc,AT IA im ic,AT NA 0 nc]))
  (fun⟨wr,i⟩=>i)
  (⟨E,0⟩:a7×Nat) ⟨p,(hB.ext q)⟩ G ⟨rfl,rfl,rfl,Fo⟩ ?_
 rintro⟨wr,i⟩ ⟨f,hB⟩
 refine cP [(0,no g 0),(6,AT (some ⟨o,0,none⟩) 0 0),(7,v4 i)] wr G ⟨rfl,rfl,rfl,Fo⟩ (aH (sr (mv 2 G (pf g 0 G (pf g 2 G (aP G G (bA (fun _=>by kernel_rfl) hB G) (pu (v:= v4 0) G (aN G G G false (cL (a:=i) (b:=0) G G) (aA (aV G (cR (cK (cN ?_)))))))))))))
 refine cO (aK (aH (sr (mv 1 G (aA (bG ?_))))))
 refine cQ (T:=a7×Nat)
  (fun⟨wr,i⟩=> [(0,no g 0),(6,AT (some ⟨o,0,none⟩) 0 0),(10,v4 i)])
  (fun⟨wr,i⟩=>wr)
  (fun⟨wr,i⟩=>(Ext w wr)∧(Bk wr g 54 [AT WA wn wc,AT IA im ic,AT NA 0 nc]))
  (fun⟨wr,i⟩=>i)
  (⟨wr,0⟩:a7×Nat) ⟨f,hB⟩ G ⟨rfl,rfl,rfl,Fo⟩ ?_
 rintro⟨wr,i⟩ ⟨f,hB⟩
 refine cP [(0,no g 0),(6,AT (some ⟨o,0,none⟩) 0 0),(10,v4 i)] wr G ⟨rfl,rfl,rfl,Fo⟩ (aH (sr (mv 2 G (pf g 0 G (pf g 2 G (aP G G (bA (fun _=>by kernel_rfl) hB G) (pu (v:= v4 0) G (aN G G G false (cL (a:=i) (b:=0) G G) (aA (aV G (cR (cK (cN ?_)))))))))))))
 refine cO (aK (sr (mv 1 G (aA (bD (bC [By] G ⟨rfl,Fo⟩ ?_))))))
 exact⟨_,rfl,rfl,f⟩
theorem R0 {li:Nat}{ms:List Lst}(hB:Bk w g 54 [AT WA ls.length wc,AT IA ms.length ic,AT NA 0 nc])(hW:Own w lw 22 1 WA ls.length wc (ls.map Lst.v))(hI:Own w li 26 1 IA ms.length ic (ms.map Lst.v))(hal:Al0 w lb ls)(hai:Ai1 w lb ms 0 0)(hlb:lb≤w.heap.size)(hN:ls.length≤4194304)(hln:∀a,(ls.getD a Lst.z).n≤1099511620000)(hM:ms.length≤4194304)(hlm:∀a,(ms.getD a Lst.z).n≤1099511620000):aQ aM 22 #[no g 0] w (fun e w'=>e= .returned (By)∧UpW lb w w'):=by
 refine bP Tryz.func22 G (n:=19) G (bq G) (args:= [no g 0]) (bH [(0,no g 0)] ⟨rfl,Fo⟩ (sr (mv 1 G (aA (sr (mv 1 G (eL G G (vs:= [no g 0]) (by kernel_rfl) (by decide) (P0 hB hW hal hlb hN hln) ?_)))))))
 rintro _ F ⟨rfl,f⟩
 refine eM ?_
 have o:UpW lb w F:=(UpW.refl lb w).trans f.upw
 refine mv 1 G (aA (sr (mv 1 G (eL G G (vs:= [no g 0]) (by kernel_rfl) (by decide) (Q8 (f.bk hB (by decide)) (f.own hI (by decide)) (hai.upU f) (a6 hlb f.size) hM hlm) ?_))))
 rintro _ H ⟨rfl,h⟩
 refine eM ?_
 have q:UpW lb w H:=o.trans h.upw
 refine mv 1 G (aA (sr (mv 1 G (eL G G (vs:= [no g 0]) (by kernel_rfl) (by decide) (PY (h.bk (f.bk hB (by decide)) (by decide))) ?_))))
 rintro _ I ⟨_,rfl,D,E⟩
 obtain rfl:=D
 refine eM ?_
 have p:UpW lb w I:=q.then_ext E
 refine mv 1 G (aA (sr (mv 3 G (pu (v:= By) G (mv 2 G (pu (v:= By) G (mv 1 G (aA (bD (bC [By] G ⟨rfl,Fo⟩ ?_))))))))))
 exact⟨rfl,p⟩
section
variable (P:cC) (n:Nat) (ol:List aZ) (vs:List aI) (ws:List a7) (w:a7) (dss:List (List Nat)) (l:Fr) (st:List Nat)
def qO (i t:Nat):Prop:=
 match ol[i]? with
 | some o=>if st.contains i then i5 P n (dfr ol vs l (cD dss i)) o (wv ws w t) (match o.dst with | none=> .skip | some _=> .value ((vs[i]?).getD undef)) (wv ws w (t+1)) else i5 P n (dfr ol vs l (cD dss i)) o (wv ws w t) (.value ((vs[i]?).getD undef)) (wv ws w t)
 | none=>True
def lB:List (Nat×Nat)→Prop
 | []=>True
 | (i,t)::r=>qO P n ol vs ws w dss l st i t∧lB r
end
def yR (n : Nat)(ol : List aZ)(st : List Nat)(l : Fr)(dss rl : List (List Nat))(ps : List (Nat × Nat)): Bool :=
  (ol.zipIdx.all fun (o, i) => (match o.guard with | none => true | some _ => false) && (o.after.toList.all fun e => !Region.binds .any e || decide (e.on < i)) &&
    ((cD rl i).all fun j => decide (j < i) && o.after.toList.any fun e => iN .any e && (e.on == j || (cD rl e.on).contains j)) &&
    ((cD dss i).all fun j => (cD rl i).contains j) &&
    (match o.dst with
     | some d => decide (d < n) && l.all (fun p => p.1 != d) && ol.zipIdx.all (fun (o', j) => j == i || o'.dst != some d)
     | none => st.contains i) &&
    (dB (st.length + 1)).all (fun t => decide (t < iQ st (cD rl i)) || (t != 0 && (cD rl (st.getD (t - 1) 0)).contains i) || (st.contains i && t != iQ st (cD rl i)) || ps.contains (i, t))) &&
  (dB st.length).all (fun t => decide (st.getD t 0 < ol.length) && (dB t).all fun u => (cD rl (st.getD t 0)).contains (st.getD u 0))
structure DetOkG (n:Nat)(ol:List aZ)(st:List Nat)(l:Fr)(dss rl:List (List Nat))(ps:List (Nat×Nat)):Prop where
 guard:∀(i:Nat) (o:aZ),ol[i]?=some o→o.guard=none
 back:∀(i:Nat) (o:aZ),ol[i]?=some o→∀e∈o.after,iN .any e=true→e.on<i
 reach:∀(i:Nat) (o:aZ),ol[i]?=some o→∀j∈cD rl i,j<i∧∃e∈o.after,iN .any e=true∧(e.on=j∨j∈cD rl e.on)
 deps:∀(i:Nat) (o:aZ),ol[i]?=some o→∀j∈cD dss i,j∈cD rl i
 val:∀(i:Nat) (o:aZ),ol[i]?=some o→∀d,o.dst=some d→d<n∧(∀p∈l,p.1≠d)∧∀(j:Nat) (o':aZ),ol[j]?=some o'→j≠i→o'.dst≠some d
 sto:∀(i:Nat) (o:aZ),ol[i]?=some o→o.dst=none→i∈st
 pair:∀(i:Nat) (o:aZ),ol[i]?=some o→∀t,t≤st.length→iQ st (cD rl i)≤t→(t=0∨i ∉ cD rl (st.getD (t-1) 0))→(i∈st→t=iQ st (cD rl i))→(i,t)∈ps
 inN:∀t,t<st.length→st.getD t 0<ol.length
 ord:∀t,t<st.length→∀u,u<t→st.getD u 0∈cD rl (st.getD t 0)
theorem RV {l:Fr}(h:yR n ol st l dss rl ps=true):DetOkG n ol st l dss rl ps:=by
 simp only [yR,eH] at h
 obtain⟨W,L⟩:=h
 have key:=fun (i:Nat) (o:aZ) (f:ol[i]?=some o)=>oV W i o f
 simp only [eH] at key
 have q:∀t,t<st.length→st.getD t 0<ol.length∧∀u,u<t→st.getD u 0∈cD rl (st.getD t 0):=by
  intro t D
  rw [eY] at L
  have:=L t (fN.2 D)
  simp only [eH,decide_eq_true_eq,eY,fN,lI] at this
  exact this
 refine⟨fun i o f=>?_,fun i o f e he hb=>?_,fun i o f j hj=>?_,fun i o f j hj=>?_,fun i o f d I=>?_,fun i o f I=>?_,fun i o f t D _ V hs=>?_,fun t D=>(q t D).1,fun t D=>(q t D).2⟩
 ·have:=(key i o f).1.1.1.1.1
  cases hg:o.guard with
  | none=>rfl
  | some g=>rw [hg] at this;cases this
 ·have:=(key i o f).1.1.1.1.2
  rw [eY] at this
  have:=this e (by simpa using he)
  simpa [hb] using this
 ·have:=(key i o f).1.1.1.2
  rw [eY] at this
  have:=this j hj
  simp only [eH,decide_eq_true_eq,List.any_eq_true,m8,beq_iff_eq,lI] at this
  obtain⟨U,e,he,hb,F⟩:=this
  exact⟨U,e,by simpa using he,hb,F⟩
 ·have:=(key i o f).1.1.2
  rw [eY] at this
  simpa using this j hj
 ·have:=(key i o f).1.2
  rw [I] at this
  simp only [eH,decide_eq_true_eq] at this
  obtain⟨⟨F,M⟩,X⟩:=this
  refine⟨F,fun p Y=>?_,fun j o' ho' E e=>?_⟩
  ·rw [eY] at M
   simpa using M p Y
  ·have:=oV X j o' ho'
   simp only [m8,beq_iff_eq,bne_iff_ne] at this
   rcases this with h | h
   ·exact E h
   ·exact h e
 ·have:=(key i o f).1.2
  rw [I] at this
  exact lI.1 this
 ·have:=(key i o f).2
  rw [eY] at this
  have:=this t (fN.2 (by omega))
  simp only [m8,eH,decide_eq_true_eq,bne_iff_ne,ne_eq,lI] at this
  rcases this with ((h | h) | h) | h
  ·omega
  ·rcases V with H | H
   ·exact absurd H h.1
   ·exact absurd h.2 H
  ·exact absurd (hs h.1) h.2
  ·exact h
section
variable {P:cC}{Q:dQ→Act→a7→Prop}{n:Nat}{ol:List aZ}{vs:List aI}{ws:List a7}{w:a7}{dss rl:List (List Nat)}{l:Fr}{st:List Nat}{ps:List (Nat×Nat)}
theorem FV:∀{ps:List (Nat×Nat)},lB P n ol vs ws w dss l st ps→∀i t,(i,t)∈ps→qO P n ol vs ws w dss l st i t
 | [],_,i,t,h=>by cases h
 | (j,u)::r,h,i,t,hm=>by
  rcases List.mem_cons.1 hm with e | e
  ·cases e;exact h.1
  ·exact FV h.2 i t e
theorem GI (hk:DetOkG n ol st l dss rl ps)(h:Closed ol listed):∀(i:Nat) (o:aZ),ol[i]?=some o→(∀e∈o.after,iN .any e=true→listed.getD e.on false=true)→∀j∈cD rl i,listed.getD j false=true:=by
 intro i
 induction i using Nat.strongRecOn with
 | ind i ih=>
  intro o ho hall j hj
  obtain⟨_,e,he,hb,h1⟩:=hk.reach i o ho j hj
  have hlt:=hk.back i o ho e he hb
  rcases h1 with h1 | h1
  ·rw [←h1];exact hall e he hb
  ·have hN:e.on<ol.length:=Nat.lt_trans hlt (fD.1 ho).1
   exact ih e.on hlt _ (cA hN) (h e.on _ (cA hN) (hall e he hb)) j h1
theorem RT (hk:DetOkG n ol st l dss rl ps)(ho:lB P n ol vs ws w dss l st ps)(hfin:eo Q .normal n (vH ol vs l) (wv ws w st.length)):∀(fuel:Nat) (listed:Array Bool) (a:Act) (t:Nat),pO ol.length listed≤fuel→listed.size=ol.length→Closed ol listed→t≤st.length→(∀u,u<st.length→listed.getD (st.getD u 0) false=decide (u<t))→Rp n l a→
   (∀i,i<ol.length→listed.getD i false=true→∀d,dF ol i=some d→a.tmps.getD d undef=(vs[i]?).getD undef)→wpAny P .any ol.toArray Q fuel listed a (wv ws w t):=by
 have fin:∀(listed:Array Bool) (a:Act) (t:Nat),(∀i,i<ol.length→listed.getD i false=true)→t≤st.length→(∀u,u<st.length→listed.getD (st.getD u 0) false=decide (u<t))→Rp n l a→
   (∀i,i<ol.length→listed.getD i false=true→∀d,dF ol i=some d→a.tmps.getD d undef=(vs[i]?).getD undef)→Q .normal a (wv ws w t):=by
  intro listed a t hall ht hst hr hv
  have e:t=st.length:=by
   rcases i7 t st.length with h | h
   ·have h1:=hst t h
    rw [hall _ (hk.inN t h)] at h1
    simp at h1
   ·omega
  subst e
  exact hfin a (hr.dfr _ fun j hj d hd=>hv j (fN.1 hj) (hall j (fN.1 hj)) d hd)
 intro fuel
 induction fuel with
 | zero=>
  intro listed a t hf hs hcl ht hst hr hv
  have hall:∀i,i<ol.length→listed.getD i false=true:=by
   intro i hi
   cases h:listed.getD i false with
   | true=>rfl
   | false=>have:=kI hi hs h;omega
  refine⟨?_,fin listed a t hall ht hst hr hv⟩
  refine List.eq_nil_iff_forall_not_mem.2 fun j hj=>?_
  obtain⟨h1,o,hoj,_⟩:=jD.1 hj
  have hjl:j<ol.length:=(fD.1 hoj).1
  rw [jH,hall j hjl] at h1
  cases h1
 | succ fuel ih=>
  intro listed a t hf hs hcl ht hst hr hv
  refine⟨fun h0=>?_,fun i hir=>?_⟩
  ·refine fin listed a t (fun i hi=>?_) ht hst hr hv
   have key:∀k,k≤ol.length→∀i,i<k→listed.getD i false=true:=by
    intro k
    induction k with
    | zero=>intro _ i hi;omega
    | succ k ihk=>
     intro hk' i hi
     have ih':=ihk (by omega)
     rcases i7 i k with h | h
     ·exact ih' i h
     ·have e:i=k:=by omega
      subst e
      cases hb:listed.getD i false with
      | true=>rfl
      | false=>
       have hrdy:i∈Region.ready .any ol.toArray listed:=jD.2 ⟨by rw [jH];exact hb,_,cA (by omega),fun e he hbb=>ih' _ (hk.back i _ (cA (by omega)) e he hbb)⟩
       rw [h0] at hrdy;cases hrdy
   exact key ol.length (aS _) i hi
  ·obtain⟨hun,o,hoi,hall⟩:=jD.1 hir
   have hil:i<ol.length:=(fD.1 hoi).1
   have hun':listed.getD i false=false:=by rw [←jH];exact hun
   have hrch:=GI hk hcl i o hoi hall
   have hcnt:iQ st (cD rl i)≤t:=GD fun u hu1 hu2 hm=>by
    have h1:=hrch _ hm
    rw [hst u hu2] at h1
    simp at h1;omega
   have hzero:t=0∨i ∉ cD rl (st.getD (t-1) 0):=by
    rcases Nat.eq_zero_or_pos t with h | h
    ·exact bS h
    ·refine bW fun hm=>?_
     have h1:=hst (t-1) (by omega)
     rw [decide_eq_true (by omega)] at h1
     have hN:=hk.inN (t-1) (by omega)
     have h2:=GI hk hcl _ _ (cA hN) (fun e he hb=>hcl _ _ (cA hN) h1 e he hb) i hm
     rw [hun'] at h2;cases h2
   have hstore:i∈st→t<st.length∧st.getD t 0=i∧t=iQ st (cD rl i):=by
    intro hm
    obtain⟨u,hu,heq⟩:=rA hm
    have hg:st.getD u 0=i:=by rw [bE,cA hu];exact heq
    have h1:=hst u hu
    rw [hg,hun'] at h1
    have h2:¬u<t:=by intro h;rw [decide_eq_true h] at h1;cases h1
    have h3:u=t:=by
     rcases i7 t u with h | h
     ·have h4:=hk.ord u hu t h
      rw [hg] at h4
      have h5:=hrch _ h4
      rw [hst t (by omega)] at h5
      simp at h5
     ·omega
    subst h3
    refine⟨hu,hg,?_⟩
    have h4:=EB (st:=st) (js:=cD rl i) (t:=u) (by omega) (fun v hv'=>by rw [←hg];exact hk.ord u hu v hv')
    omega
   have aC:=FV ho i t (hk.pair i o hoi t ht hcnt hzero (fun hm=>(hstore hm).2.2))
   unfold qO at aC
   rw [hoi] at aC
   simp only at aC
   have hacc:Rp n (dfr ol vs l (cD dss i)) a:=hr.dfr _ fun j hj d hd=>by
    have h1:=hrch j (hk.deps i o hoi j hj)
    have h2:=(hk.reach i o hoi j (hk.deps i o hoi j hj)).1
    exact hv j (by omega) h1 d hd
   have hwant:qU o (yielded ol.toArray a.tmps)=true:=by simp [qU,hk.guard i o hoi]
   unfold wpOp
   rw [mT,hoi]
   simp only
   rw [if_pos hwant]
   refine bS ?_
   unfold Oper.wp
   cases hd:o.dst with
   | some d=>
    obtain⟨hdn,hfar,hoth⟩:=hk.val i o hoi d hd
    have hvals:∀v,v=(vs[i]?).getD undef→∀j,j<ol.length→(listed.setIfInBounds i true).getD j false=true→∀e,dF ol j=some e→(a.put d v).tmps.getD e undef=(vs[j]?).getD undef:=fun v hve j hj hlj e he=>by
     subst hve
     by_cases hij:i=j
     ·subst hij
      have e1:dF ol i=some d:=by unfold dF;rw [hoi];exact hd
      rw [e1] at he
      cases he
      exact pS hr.size hdn _
     ·rw [Go.getD_set_ne false hij] at hlj
      have hne:e≠d:=by
       intro hed
       subst hed
       obtain⟨oj,hoj⟩:∃oj,ol[j]?=some oj:=⟨_,cA hj⟩
       refine hoth j oj hoj (lD hij) ?_
       unfold dF at he
       rw [hoj] at he
       exact he
      have:=tL (a:=a) (d:=d) (e:=some e) (fun h=>hne (iU h)) ((vs[i]?).getD undef)
      exact this.trans (hv j hj hlj e he)
    by_cases hnst:i∈st
    ·obtain⟨htl,hgt,_⟩:=hstore hnst
     rw [if_pos (by simpa using hnst)] at aC
     simp only [hd] at aC
     rw [aC a hacc]
     simp only [lW,hd]
     refine ih _ _ (t+1) (by have:=kI hil hs hun';omega) (by simpa using hs) (hcl.set hoi hall) (by omega) (fun u hu=>?_) (hr.put_far hfar _) (hvals _ G)
     by_cases hut:u=t
     ·subst hut
      rw [hgt]
      simp [hs,hil]
     ·have hne:i≠st.getD u 0:=by
       intro e
       rcases i7 u t with h | h
       ·have h1:=hst u hu
        rw [←e,hun',decide_eq_true h] at h1;cases h1
       ·have h4:=hk.ord u hu t (by omega)
        rw [hgt,←e] at h4
        have:=(hk.reach i o hoi i h4).1
        omega
      rw [Go.getD_set_ne false hne,hst u hu]
      congr 1
      simp only [eq_iff_iff]
      omega
    ·rw [if_neg (by simpa using hnst)] at aC
     rw [aC a hacc]
     simp only [lW,hd]
     refine ih _ _ t (by have:=kI hil hs hun';omega) (by simpa using hs) (hcl.set hoi hall) ht (fun u hu=>?_) (hr.put_far hfar _) (hvals _ G)
     rw [Go.getD_set_ne false (fun e=>hnst (by rw [e,bE,cA hu];exact List.getElem_mem hu))]
     exact hst u hu
   | none=>
    have hm:=hk.sto i o hoi hd
    obtain⟨htl,hgt,_⟩:=hstore hm
    rw [if_pos (by simpa using hm)] at aC
    simp only [hd] at aC
    rw [aC a hacc]
    simp only [lW,hd]
    refine ih _ _ (t+1) (by have:=kI hil hs hun';omega) (by simpa using hs) (hcl.set hoi hall) (by omega) (fun u hu=>?_) hr (fun j hj hlj e he=>?_)
    ·by_cases hut:u=t
     ·subst hut
      rw [hgt]
      simp [hs,hil]
     ·have hne:i≠st.getD u 0:=by
       intro e
       rcases i7 u t with h | h
       ·have h1:=hst u hu
        rw [←e,hun',decide_eq_true h] at h1;cases h1
       ·have h4:=hk.ord u hu t (by omega)
        rw [hgt,←e] at h4
        have:=(hk.reach i o hoi i h4).1
        omega
      rw [Go.getD_set_ne false hne,hst u hu]
      congr 1
      simp only [eq_iff_iff]
      omega
    ·by_cases hij:i=j
     ·subst hij
      have e1:dF ol i=none:=by unfold dF;rw [hoi];exact hd
      rw [e1] at he;cases he
     ·rw [Go.getD_set_ne false hij] at hlj
      exact hv j hj hlj e he
theorem G4 (hmix:P.follows .mixedOrders=true)(vs:List aI)(ws:List a7)(st:List Nat)(dss rl:List (List Nat))(ps:List (Nat×Nat))(hk:yR n ol st l dss rl ps=true)(hw:wv ws w 0=w0.drew)(ho:lB P n ol vs ws w dss l st ps)(hfin:eo Q .normal n (vH ol vs l) (wv ws w st.length)):cw P Q n (.region id ol.toArray true) l w0:=fun a q=>by
 refine wp_region_any hmix ?_
 have p:(rG ol.toArray.size false).size=ol.length:=by simp
 have f:∀i,(rG ol.toArray.size false).getD i false=false:=by
  intro i
  simp only [Array.getD_eq_getD_getElem?,Array.getElem?_replicate]
  split <;> rfl
 have:=RT (RV hk) ho hfin ol.toArray.size _ a 0 (by
  refine a6 List.countP_le_length ?_
  simp) p (fun i o _ h=>by rw [f] at h;cases h) (bJ _) (fun u _=>by rw [f];simp) q (fun i _ h=>by rw [f] at h;cases h)
 rw [hw] at this
 exact this
theorem eK {t:Nat}(acc:Fr)(ho:ol[i]?=some o)(hs:st.contains i=false)(hv:(vs[i]?).getD undef=v)(hw:wv ws w t=wt)(hacc:dfr ol vs l (cD dss i)=acc)(h:i5 P n acc o wt (.value v) wt)(h':lB P n ol vs ws w dss l st ps):lB P n ol vs ws w dss l st ((i,t)::ps):=⟨by unfold qO;rw [ho];simp only;rw [hs,if_neg (by simp),hv,hw,hacc];exact h,h'⟩
theorem FT {t:Nat}(acc:Fr)(ho:ol[i]?=some o)(hs:st.contains i=true)(hd:o.dst=none)(hw:wv ws w t=wt)(hw':wv ws w (t+1)=wt')(hacc:dfr ol vs l (cD dss i)=acc)(h:i5 P n acc o wt .skip wt')(h':lB P n ol vs ws w dss l st ps):lB P n ol vs ws w dss l st ((i,t)::ps):=⟨by unfold qO;rw [ho];simp only;rw [hs,if_pos rfl,hw,hw',hacc,hd];exact h,h'⟩
theorem uU {t:Nat}(acc:Fr)(ho:ol[i]?=some o)(hs:st.contains i=true)(hv:(vs[i]?).getD undef=v)(hw:wv ws w t=wt)(hw':wv ws w (t+1)=wt')(hacc:dfr ol vs l (cD dss i)=acc)(h:i5 P n acc o wt (.value v) wt')(h':lB P n ol vs ws w dss l st ps)(hd:o.dst≠none:=by decide):lB P n ol vs ws w dss l st ((i,t)::ps):=⟨by unfold qO;rw [ho];simp only;rw [hs,if_pos rfl,hw,hw',hacc,hv];cases hx:o.dst with | none=>exact absurd hx hd | some d=>exact h,h'⟩
theorem FU:lB P n ol vs ws w dss l st []:=trivial
end
structure UpK (lb:Nat)(w w':a7):Prop where
 os:w'.os=w.os
 tape:w'.tape=w.tape
 output:w'.output=w.output
 size:w.heap.size≤w'.heap.size
 low:∀k,k<lb→k<w.heap.size→w'.heap[k]?=w.heap[k]?
 typ:∀(k:Nat) (cs:Array aI) (t:aU) (fr:Nat×Nat),w.heap[k]?=some (.cells cs t fr)→t≠22→t≠54→t≠26→w'.heap[k]?=some (.cells cs t fr)
section
variable {lb:Nat}{a b c w w':a7}
theorem UpK.trans (h:UpK lb a b)(e:UpK lb b c):UpK lb a c:=
 ⟨e.os.trans h.os,e.tape.trans h.tape,e.output.trans h.output,a6 h.size e.size,fun k o hs=>(e.low k o (d4 hs h.size)).trans (h.low k o hs),fun k cs t fr D f q p=>e.typ k cs t fr (h.typ k cs t fr D f q p) f q p⟩
theorem UpK.of_ext (lb:Nat)(e:Ext w w'):UpK lb w w':=⟨e.below.os,e.below.tape,e.below.output,e.size,fun k _ hs=>e.below.block k hs,fun _ _ _ _ f _ _ _=>e.heap f⟩
theorem UpK.ext (h:UpK lb w w')(e:Ext a w)(hl:a.heap.size≤lb):Ext a w':=
 ⟨⟨h.os.trans e.below.os,h.tape.trans e.below.tape,h.output.trans e.below.output,a6 e.size h.size,fun k f=>(h.low k (d4 f hl) (d4 f e.size)).trans (e.below.block k f)⟩⟩
theorem UpK.bk (h:UpK lb w w')(hb:Bk w g t vs)(h1:t≠22)(h2:t≠54)(h3:t≠26):Bk w' g t vs:=h.typ g _ _ _ hb h1 h2 h3
theorem UpK.own (h:UpK lb w w')(ho:Own w base t s A n cap vs)(h1:t≠22)(h2:t≠54)(h3:t≠26):Own w' base t s A n cap vs:=by
 rcases ho with ho | ⟨g,cs,f,hb,o,r⟩
 ·exact bS ho
 ·exact bW ⟨g,cs,f,hb,h.bk o h1 h2 h3,r⟩
theorem UpK.ofO (hT:T=22∨T=26)(ho:Own w lb T s A n cap vs)(u:UpdO A w w'):UpK lb w w':=by
 refine⟨u.by_.os,u.by_.tape,u.by_.output,u.size,fun k q hs=>?_,fun k cs t fr f F _ H=>?_⟩
 ·refine u.by_.block k hs fun e=>?_
  cases A with
  | none=>cases e
  | some p=>
   have e':k=p.block:=iU e
   have:=(ho.block p G).1
   omega
 ·refine u.heap f fun p o e=>?_
  have D:t=T:=by
   rcases ho with⟨h,_⟩ | ⟨g,cs',E,_,q,_⟩
   ·rw [h] at o;cases o
   ·rw [E] at o;cases o
    simp only at e
    subst e
    unfold Bk at q
    rw [q] at f
    injection f with f
    injection f with _ f
    exact f.symm
  rcases hT with h | h
  ·exact F (D.trans h)
  ·exact H (D.trans h)
theorem UpK.ofU (hb:Bk w g 54 vs)(hg:lb≤g)(u:Upd g w w'):UpK lb w w':=by
 have u':UpdO (some ⟨g,0,none⟩) w w':=u.updO
 refine⟨u'.by_.os,u'.by_.tape,u'.by_.output,u'.size,fun k _ hs=>?_,fun k cs t fr f _ o _=>?_⟩
 ·refine u'.by_.block k hs fun e=>?_
  have e':k=g:=iU e
  omega
 ·refine u'.heap f fun p h e=>o ?_
  cases h
  simp only at e
  subst e
  unfold Bk at hb
  rw [hb] at f
  injection f with f
  injection f with _ f
  exact f.symm
end
theorem DS (w:a7)(e:aU)(cells:List aI):∃g w',NewBk w w' g e cells∧w.heap.size=g∧w.alloc (.cells cells.toArray e)=w':=⟨_,_,NewBk.mk' w e cells,rfl,rfl⟩
section
variable {P:cC}{n:Nat}{l:Fr}{w w':a7}{d:Nat}{op:Op}{ty:aU}{pos:String}{af:Array fO}{gd:Option (Nat×Bool)}
theorem CN (hk:jZ l op=true)(hr:∀w,(execOp (rho l) ⟨some d,op,ty,pos,af,gd⟩).run P w= .ok (.value (AT (some ⟨w.heap.size,0,none⟩) k k)) (w.alloc (.cells cells.toArray e)))(hg:w.heap.size=g)(hw:w.alloc (.cells cells.toArray e)=w'):i5 P n l ⟨some d,op,ty,pos,af,gd⟩ w (.value (AT (some ⟨g,0,none⟩) k k)) w':=fun a f=>by
 subst hg;subst hw;rw [oS hk f];exact hr w
theorem CO {x y:d7}{u r:aI}(hx:bY l x=some u)(hy:bY l y=some v)(hr:(Builtin.append_ #[t,t] ty #[u,v]).run P w= .ok r w'):i5 P n l ⟨some d,.call {callee:= .builtin .append,args:= #[x,y],argTypes:= #[t,t]},ty,pos,af,gd⟩ w (.value r) w':=fun a f=>by
 unfold execOp
 simp only [resolve,invoke,builtin,dA,gT,eW,pI,kH,lH,f.ev hx,f.ev hy]
 rw [hr]
 rfl
end
theorem Bk.byOK (h:Bk w g t vs)(ho:Own w lb T 1 A n c us)(hne:T≠t)(u:UpdO A w w'):Bk w' g t vs:=h.updO u (rR ho h hne)
theorem u3 (h:Bk w g t [v]):∀j u,([v]:List aI)[j]?=some u→w.cell? ((⟨g,0,none⟩:aG).add j)=some u:=by
 intro j u hj
 rw [fL,eX]
 obtain⟨f,_⟩:=fD.1 hj
 rw [h.cell f,bE,hj];rfl
theorem uE (ls:List Lst)(A:Option aG)(n c:Nat):ls.map Lst.v++ [Value.slice A n c]=(ls++ [(⟨A,n,c⟩:Lst)]).map Lst.v:=by simp [Lst.v]
theorem UpK.refl (lb:Nat)(w:a7):UpK lb w w:=UpK.of_ext lb (Ext.refl w)
theorem CX (h:Own w b 24 2 A n c us)(hi:i<n):∃p,A.map (·.add (i*2))=some p:=by
 have hl:=jE h
 obtain⟨a,f,_⟩:=h.rv.get (i*2) (by omega)
 rw [f];exact⟨_,rfl⟩
theorem CW (h:Own w b 24 2 A n c us)(hp:A.map (·.add (i*2))=some p)(hi:i<n)(hv:us[i*2+1]?=some v):w.cell? (p.add 1)=some v:=by
 have hl:=jE h
 obtain⟨a,f,o⟩:=h.rv.get (i*2+1) (by omega)
 subst f
 have e:=iU hp
 subst e
 rw [Go.Deep.add_add,o,bE,hv];rfl
theorem CC (ls xs:List Lst)(h:i<xs.length):(ls++xs.take i)++ [⟨(xs.getD i Lst.z).A,(xs.getD i Lst.z).n,(xs.getD i Lst.z).c⟩]=ls++xs.take (i+1):=by
 rw [List.append_assoc,List.take_add_one,bE,cA h];rfl
def TN (w:a7)(lb g n k:Nat)(ls ms xs:List Lst)(x:Lst)(v:aI)(e:Ending)(w':a7):Prop:=
 e= .returned (.tuple #[])∧UpK lb w w'∧∃WA c IA d,Bk w' g 54 [AT WA (n+x.n) c,AT IA (k+1) d,v]∧Own w' lb 22 1 WA (n+x.n) c ((ls++xs).map Lst.v)∧Own w' lb 26 1 IA (k+1) d ((ms++ [x]).map Lst.v)
theorem QZ {nv:aI}{ms xs:List Lst}(hB:Bk w g 54 [AT WA n wc,AT IA k ic,nv])(hW:Own w lb 22 1 WA n wc (ls.map Lst.v))(hI:Own w lb 26 1 IA k ic (ms.map Lst.v))(hlb:lb≤w.heap.size)(hg:lb≤g){m:Nat}(hL:Own w b 24 2 A m c us)(hlx:xs.length=m)(hxs:∀i,i<m→us[i*2+1]?=some (xs.getD i Lst.z).v)(hn:n+m≤1099511600000)(hk:k≤1099511600000):aQ aM 20 #[no g 0,AT A m c] w (TN w lb g n k ls ms xs ⟨A,m,c⟩ nv):=by
 refine bP Tryz.func20 G (n:=35) G (bq G) (args:= [no g 0,AT A m c]) (bH [(0,no g 0),(1,AT A m c)] ⟨rfl,rfl,Fo⟩ (sr (mv 2 G (pf g 0 G (pf g 1 G (aP G G (bA (fun _=>by kernel_rfl) hB G) (mv 1 G (fA G G (k:=1) (e:=26) [AT A m c] (fun _=>by kernel_rfl) fun _ v2 ch=>?_))))))))
 have cm:=ch.bk
 have e7:=ch.ext
 have L:UpK lb w v2:=(UpK.refl lb w).trans (UpK.of_ext lb e7)
 have q:=(hI.ext e7)
 refine mC G G G o7 EI G q (a6 hlb L.size) [AT A m c] G (u3 cm) G fun A8 c9 am ah H _=>?_
 have p:=(hB.ext e7).byOK q (by decide) H
 rw [uE] at ah
 have bc:UpK lb v2 am:=UpK.ofO (by simp) q H
 have bz:=((hW.ext e7)).updOT q (by decide) H
 have aj:UpK lb w am:=L.trans bc
 refine pf g 0 G (pf g 1 G (eJ G G G (fun _=>by kernel_rfl) G p (show 1<3 by decide) G [AT WA n wc,AT A8 (k+1) c9,nv] G fun aq bh ar _=>?_))
 have ba:UpK lb am aq:=UpK.ofU p hg ar
 have bu:=(bz).updT p (by decide) ar
 have av:=(ah).updT p (by decide) ar
 have X:UpK lb w aq:=aj.trans ba
 refine aA (sr (mv 1 G (aA (bG ?_))))
 refine cQ (T:=a7×Nat×Option aG×Nat)
  (fun⟨wr,i,WB,o⟩=> [(0,no g 0),(1,AT A m c),(4,v4 i)])
  (fun⟨wr,i,WB,o⟩=>wr)
  (fun⟨wr,i,WB,o⟩=>(UpK lb w wr)∧(Bk wr g 54 [AT WB (n+i) o,AT A8 (k+1) c9,nv])∧(Own wr lb 22 1 WB (n+i) o ((ls++xs.take i).map Lst.v))∧(Own wr lb 26 1 A8 (k+1) c9 ((ms++ [(⟨A,m,c⟩:Lst)]).map Lst.v))∧(Own wr b 24 2 A m c us)∧(i≤m))
  (fun⟨wr,i,WB,o⟩=>m-i)
  (⟨aq,0,_,_⟩:a7×Nat×Option aG×Nat) ⟨X,bh,(by rw [List.take_zero,List.append_nil];exact bu),av,(ba.own (bc.own (hL.ext e7) (by decide) (by decide) (by decide)) (by decide) (by decide) (by decide)),(bJ _)⟩ G ⟨rfl,rfl,rfl,Fo⟩ ?_
 rintro⟨wr,i,WB,o⟩ ⟨L,W,ak,az,ai,hi⟩
 refine cP [(0,no g 0),(1,AT A m c),(4,v4 i)] wr G ⟨rfl,rfl,rfl,Fo⟩ (aH (aH ?_))
 by_cases ct:i<m
 ·refine aJ (mv 2 G (pu (v:= v4 m) G (aN G G G true (cG (a:=i) (b:=m) G G) (aA (bB G (b8 (aK (aH (bG (bH [(0,no g 0),(1,AT A m c),(4,v4 i),(15,v4 i),(16,AT A m c),(17,v4 m),(18,By)] ⟨rfl,rfl,rfl,rfl,rfl,rfl,rfl,Fo⟩ ?_))))))))))
  obtain⟨U,hv,f⟩:∃v,v=wr.drew∧Ext wr v:=⟨_,rfl,aD.drew⟩
  have aj:UpK lb w U:=L.trans (UpK.of_ext lb f)
  obtain⟨M,ab⟩:=CX (ai.ext f) (i:=i) (by omega)
  obtain⟨bo,an,ag,bm,bi⟩:=DS U 22 [AT ((xs.getD i Lst.z).A) ((xs.getD i Lst.z).n) ((xs.getD i Lst.z).c)]
  have bt:=ag.bk
  have F:=ag.ext
  have X:UpK lb w an:=aj.trans (UpK.of_ext lb F)
  have E:=(ak.ext (f.t F))
  obtain⟨Y,aa,V,bv,ae,I,_⟩:=xD (P:=aM) (ty:=39) jT qB G (by decide) (by decide) E (a6 hlb X.size) (m:=1) (c:=1) (news:= [AT ((xs.getD i Lst.z).A) ((xs.getD i Lst.z).n) ((xs.getD i Lst.z).c)]) G (u3 bt) G (by omega)
  have D:=(W.ext (f.t F)).byOK E (by decide) I
  rw [uE] at ae
  have bd:UpK lb an V:=UpK.ofO (by simp) E I
  have br:=((az.ext (f.t F))).updOT E (by decide) I
  have ck:UpK lb w V:=X.trans bd
  obtain⟨Z,bp,aw,ao,_⟩:=tQ (P:=aM) (v:= AT Y (n+i+1) aa) (T:=39) (fun _=>by kernel_rfl) G D (show 0<3 by decide) G [AT Y (n+i+1) aa,AT A8 (k+1) c9,nv] rfl
  have bg:UpK lb V Z:=UpK.ofU D hg ao
  have bj:=(ae).updT D (by decide) ao
  have bf:=(br).updT D (by decide) ao
  have cn:UpK lb w Z:=ck.trans bg
  refine G4 bR (w:=U) [no g 0,no g 0,no g 0,no g 0,AT WB (n+i) o,AT A m c,v4 i,.pointer (some M),.pointer (some (M.add 1)),AT ((xs.getD i Lst.z).A) ((xs.getD i Lst.z).n) ((xs.getD i Lst.z).c),AT (some ⟨bo,0,none⟩) 1 1,AT Y (n+i+1) aa,no g 0,no g 0,undef] [U,an,V,Z] [10,11,14] [[],[],[1],[2],[3],[],[],[5,6],[7],[8],[9],[4,10],[0],[12],[11,13]] [[],[],[1],[1,2],[1,2,3],[],[],[5,6],[5,6,7],[5,6,7,8],[5,6,7,8,9],[1,2,3,4,5,6,7,8,9,10],[0,1,2,3,4,5,6,7,8,9,10,11],[0,1,2,3,4,5,6,7,8,9,10,11,12],[0,1,2,3,4,5,6,7,8,9,10,11,12,13]] [(0,0),(0,1),(0,2),(1,0),(1,1),(2,0),(2,1),(3,0),(3,1),(4,0),(4,1),(5,0),(6,0),(7,0),(8,0),(9,0),(10,0),(11,1),(12,2),(13,2),(14,2)] G hv ?_ ?_
  ·refine eK _ G G G G G (cJ G) (eK _ G G G G G (cJ G) (eK _ G G G G G (cJ G) (eK _ G G G G G (cJ G) (eK _ G G G G G (cJ G) (eK _ G G G G G (iE G) (eK _ G G G G G (iE G) (eK _ G G G G G (iE G) (eK _ G G G G G (iE G) (eK _ G G G G G (cB G (bA (fun _=>by kernel_rfl) (W.ext f) G)) (eK _ G G G G G (cB G (bA (fun _=>by kernel_rfl) (W.ext (f.t F)) G)) (eK _ G G G G G (cJ G) (eK _ G G G G G (cJ G) (eK _ G G G G G (gN G G d9 a8.size i G M ab) ?_)))))))))))))
   refine eK _ G G G G G (iE G) (eK _ G G G G G (cB G (dC (fun _=>by kernel_rfl) (CW (ai.ext f) ab (by omega) (hxs i (by omega))))) (uU _ G G G G G G (CN G (fun _=>by kernel_rfl) bm bi) (uU _ G G G G G G (CO G G bv) (eK _ G G G G G (iE G) (eK _ G G G G G (iE G) (FT _ G G G G G G (eR G G bp) ?_))))))
   exact FU
  clear hv
  refine fU [(0,no g 0),(1,AT A m c),(4,v4 i),(15,v4 i),(16,AT A m c),(17,v4 m),(18,By),(21,no g 0),(22,no g 0),(23,no g 0),(24,no g 0),(25,AT WB (n+i) o),(26,AT A m c),(27,v4 i),(28,.pointer (some M)),(29,.pointer (some (M.add 1))),(30,AT ((xs.getD i Lst.z).A) ((xs.getD i Lst.z).n) ((xs.getD i Lst.z).c)),(31,AT (some ⟨bo,0,none⟩) 1 1),(32,AT Y (n+i+1) aa),(33,no g 0),(34,no g 0)] ⟨rfl,rfl,rfl,rfl,rfl,rfl,rfl,rfl,rfl,rfl,rfl,rfl,rfl,rfl,rfl,rfl,rfl,rfl,rfl,rfl,rfl,Fo⟩ (bM (aK (aJ (mv 1 G (aT G G G ((i+1:Nat):Int) (bK (a:=i) (b:=1) G G) (mv 1 G (aR (bX (⟨Z,i+1,_,_⟩:a7×Nat×Option aG×Nat) ⟨cn,aw,(by have h:=bj;rwa [CC ls xs (by omega)] at h),bf,(bg.own (bd.own (ai.ext (f.t F)) (by decide) (by decide) (by decide)) (by decide) (by decide) (by decide)),(by omega)⟩ (show m-(i+1)<m-i by omega) G ⟨rfl,rfl,rfl,Fo⟩))))))))
 ·refine aJ (mv 2 G (pu (v:= v4 m) G (aN G G G false (cL (a:=i) (b:=m) G G) (aA (aV G (cR (cK (cN (cO (qG [] G Fo ?_))))))))))
  have cj:i=m:=by omega
  subst cj
  rw [List.take_of_length_le (by omega)] at ak
  exact⟨rfl,L,WB,o,A8,c9,W,ak,az⟩
def B8 (x j:Nat):Nat:=((3*x%18446744073709551616+j)%18446744073709551616+1)%18446744073709551616
def eQ (i:Nat)(xs:List Nat):List Nat:=(dB i).map (fun j=>B8 (xs.getD j 0) j)++xs.drop i
theorem JQ (xs:List Nat):eQ 0 xs=xs:=by unfold eQ;simp
theorem rM (h:i≤xs.length):(eQ i xs).length=xs.length:=by unfold eQ;rw [fH,List.length_map,List.length_range,mY];omega
theorem JT (h:i<xs.length):(eQ i xs).getD i 0=xs.getD i 0:=by
 unfold eQ
 rw [bE,List.getElem?_append_right (by rw [List.length_map,List.length_range];exact aS _),List.length_map,List.length_range,Nat.sub_self,List.getElem?_drop,eI,←bE]
theorem JS (h:i<xs.length):(eQ i xs).set i (B8 (xs.getD i 0) i)=eQ (i+1) xs:=by
 unfold eQ
 have f:xs.drop i=xs.getD i 0::xs.drop (i+1):=RB h
 rw [List.set_append_right _ _ (by rw [List.length_map,List.length_range];exact aS _),List.length_map,List.length_range,Nat.sub_self,f,List.set_cons_zero,List.range_succ,List.map_append,List.append_assoc]
 rfl
theorem JR (h:Wf xs):Wf (eQ i xs):=by
 intro x hx
 unfold eQ at hx
 rcases List.mem_append.1 hx with hx | hx
 ·obtain⟨j,_,rfl⟩:=List.mem_map.1 hx
  exact gB _ (by decide)
 ·exact h x (List.mem_of_mem_drop hx)
theorem GU {A B:Int}(ha:A=(a:Int))(hb:B=(b:Int)):eT .add .u64 A B=some (((a+b)%18446744073709551616:Nat):Int):=by
 subst ha hb;simp only [eT,eF];rw [←Int.natCast_add];exact lK _
theorem SY {A B:Int}(ha:A=(a:Int))(hb:B=(b:Int)):eT .mul .u64 A B=some ((a*b%18446744073709551616:Nat):Int):=by
 subst ha hb;simp only [eT,eF];rw [←jR];exact lK _
theorem JP (h:i<xs.length):(eQ i xs++ms).set i ((((3*(eQ i xs++ms).getD i 0)%18446744073709551616+i)%18446744073709551616+1)%18446744073709551616)=eQ (i+1) xs++ms:=by
 have f:i<(eQ i xs).length:=by rw [rM (by omega)];exact h
 have e:(eQ i xs++ms).getD i 0=xs.getD i 0:=by
  rw [bE,List.getElem?_append_left f,←bE,JT h]
 rw [e,List.set_append_left _ _ f]
 exact congrArg (· ++ms) (JS h)
structure UpT (lo hi:Nat)(w w':a7):Prop where
 os:w'.os=w.os
 tape:w'.tape=w.tape
 output:w'.output=w.output
 size:w.heap.size≤w'.heap.size
 out:∀k,k<w.heap.size→(k<lo∨hi≤k)→w'.heap[k]?=w.heap[k]?
 typ:∀(k:Nat) (cs:Array aI) (t:aU) (fr:Nat×Nat),w.heap[k]?=some (.cells cs t fr)→t≠36→w'.heap[k]?=some (.cells cs t fr)
section
variable {lo hi:Nat}{a b c w w':a7}
theorem UpT.trans (h:UpT lo hi a b)(e:UpT lo hi b c):UpT lo hi a c:=
 ⟨e.os.trans h.os,e.tape.trans h.tape,e.output.trans h.output,a6 h.size e.size,fun k o hs=>(e.out k (d4 o h.size) hs).trans (h.out k o hs),fun k cs t fr p f=>e.typ k cs t fr (h.typ k cs t fr p f) f⟩
theorem UpT.of_ext (lo hi:Nat)(e:Ext w w'):UpT lo hi w w':=⟨e.below.os,e.below.tape,e.below.output,e.size,fun k hs _=>e.below.block k hs,fun _ _ _ _ f _=>e.heap f⟩
theorem UpT.of_upd (hb:Bk w g 36 vs)(h1:lo≤g)(h2:g<hi)(u:Upd g w w'):UpT lo hi w w':=by
 refine⟨u.by_.os,u.by_.tape,u.by_.output,u.by_.size,fun k h hs=>u.by_.block k h (fun e=>by injection e with e;omega),fun k cs t fr f o=>u.heap f fun e=>o ?_⟩
 subst e
 unfold Bk at hb
 rw [hb] at f
 injection f with f
 injection f with _ f
 exact f.symm
theorem UpT.ext (h:UpT lo hi w w')(e:Ext a w)(hl:a.heap.size≤lo):Ext a w':=
 ⟨⟨h.os.trans e.below.os,h.tape.trans e.below.tape,h.output.trans e.below.output,a6 e.size h.size,fun k f=>(h.out k (d4 f e.size) (bS (d4 f hl))).trans (e.below.block k f)⟩⟩
theorem UpT.bk (h:UpT lo hi w w')(hb:Bk w g t vs)(h1:t≠36):Bk w' g t vs:=h.typ g _ _ _ hb h1
theorem UpT.ownT (h:UpT lo hi w w')(ho:Own w base t s A n cap vs)(h1:t≠36):Own w' base t s A n cap vs:=by
 rcases ho with ho | ⟨g,cs,f,hb,o,r⟩
 ·exact bS ho
 ·exact bW ⟨g,cs,f,hb,h.bk o h1,r⟩
end
section
variable {w w':a7}{lo n:Nat}{γ:Nat→Nat}{ω:Nat→List Nat}
theorem Bk.updOT {m:Nat}(h:Bk w g t vs)(ho:Own w lb T s A m c us)(hT:T≠t)(u:UpdO A w w'):Bk w' g t vs:=h.updO u (rR ho h hT)
theorem Bk.updTT (h:Bk w g t vs)(hb:Bk w k T us)(hT:t≠T)(u:Upd k w w'):Bk w' g t vs:=h.updN u fun e=>by
 subst e
 unfold Bk at h hb
 rw [h] at hb
 injection hb with hb
 injection hb with _ hb
 exact hT hb
def Fam (w:a7)(lo n:Nat)(γ:Nat→Nat)(ω:Nat→List Nat):Prop:=
 (∀j,j<n→lo≤γ j∧Wf (ω j)∧Bk w (γ j) 36 ((ω j++fZ (ω j).length).map aY))∧∀i j,i<j→j<n→γ i<γ j
theorem Fam.ext (h:Fam w lo n γ ω)(e:Ext w w'):Fam w' lo n γ ω:=⟨fun j hj=>⟨(h.1 j hj).1,(h.1 j hj).2.1,(h.1 j hj).2.2.ext e⟩,h.2⟩
theorem Fam.updT (h:Fam w lo n γ ω)(hb:Bk w g T us)(hT:36≠T)(u:Upd g w w'):Fam w' lo n γ ω:=⟨fun j hj=>⟨(h.1 j hj).1,(h.1 j hj).2.1,(h.1 j hj).2.2.updTT hb hT u⟩,h.2⟩
theorem Fam.updOT {m:Nat}(h:Fam w lo n γ ω)(ho:Own w b T s A m c us)(hT:T≠36)(u:UpdO A w w'):Fam w' lo n γ ω:=⟨fun j hj=>⟨(h.1 j hj).1,(h.1 j hj).2.1,(h.1 j hj).2.2.updOT ho hT u⟩,h.2⟩
theorem Fam.lt (h:Fam w lo n γ ω)(hj:j<n):γ j<w.heap.size:=(h.1 j hj).2.2.lt
theorem Fam.zero:Fam w lo 0 γ ω:=⟨fun _ h=>absurd h (Nat.not_lt_zero _),fun _ _ _ h=>absurd h (Nat.not_lt_zero _)⟩
theorem Fam.snoc (h:Fam w lo n γ ω)(hw:Wf (ω n))(hb:Bk w g 36 ((ω n++fZ (ω n).length).map aY))(hlo:lo≤g)(hg:∀j,j<n→γ j<g):Fam w lo (n+1) (fun j=>if j=n then g else γ j) ω:=by
 refine⟨fun j hj=>?_,fun i j f hj=>?_⟩
 ·by_cases e:j=n
  ·subst e;simp only [if_true];exact⟨hlo,hw,hb⟩
  ·simp only [if_neg e];exact h.1 j (by omega)
 ·by_cases e:j=n
  ·subst e;simp only [if_true];rw [if_neg (by omega)];exact hg i f
  ·simp only [if_neg e];rw [if_neg (by omega)];exact h.2 i j f (by omega)
theorem Fam.inj (h:Fam w lo n γ ω)(hi:i<n)(hj:j<n)(e:γ i=γ j):i=j:=by
 rcases Nat.lt_trichotomy i j with f | f | f
 ·have:=h.2 i j f hj;omega
 ·exact f
 ·have:=h.2 j i f hi;omega
def tU (k:Nat)(ω:Nat→List Nat)(j:Nat):List Nat:=if j<k then eQ (ω j).length (ω j) else ω j
theorem oB (k j:Nat):(tU k ω j).length=(ω j).length:=by
 unfold tU
 split
 ·exact rM (aS _)
 ·rfl
theorem K0:tU 0 ω=ω:=by funext j;unfold tU;rw [if_neg (Nat.not_lt_zero _)]
theorem BD (k:Nat):tU k ω k=ω k:=by unfold tU;rw [if_neg (Nat.lt_irrefl _)]
theorem Fam.turn (h:Fam w lo n γ (tU k ω))(hk:k<n)(u:Upd (γ k) w w')(hb:Bk w' (γ k) 36 ((eQ (ω k).length (ω k)++fZ (ω k).length).map aY)):Fam w' lo n γ (tU (k+1) ω):=by
 refine⟨fun j hj=>?_,h.2⟩
 obtain⟨q,p,D⟩:=h.1 j hj
 by_cases e:j=k
 ·subst e
  rw [BD] at p
  have o:tU (j+1) ω j=eQ (ω j).length (ω j):=by unfold tU;rw [if_pos (by omega)]
  rw [o,rM (aS _)]
  exact⟨q,JR p,hb⟩
 ·have o:tU (k+1) ω j=tU k ω j:=by
   unfold tU
   by_cases f:j<k
   ·rw [if_pos f,if_pos (by omega)]
   ·rw [if_neg f,if_neg (by omega)]
  rw [o]
  exact⟨q,p,D.updN u fun E=>e (h.inj hj hk E)⟩
end
def Cz (us:List aI)(n:Nat)(σ:Nat→Bool)(γ:Nat→Nat)(ω:Nat→List Nat):Prop:=∀j,j<n→us[j*2]?=some (.bool (σ j))∧us[j*2+1]?=some (.slice (some ⟨γ j,0,none⟩) (ω j).length ((ω j).length+80))
def Cw (us:List aI)(n:Nat)(γ:Nat→Nat)(ω:Nat→List Nat):Prop:=∀j,j<n→us[j]?=some (AT (some ⟨γ j,0,none⟩) ((ω j).length+80) ((ω j).length+80))
def Zw (w:a7)(A:Option aG)(n cap:Nat)(σ:Nat→Bool)(ω:Nat→List Nat):Prop:=n≤cap∧cap≤maxLen∧∀i,i<n→∃a B c,A=some a∧w.cell? (a.add (i*2))=some (.bool (σ i))∧w.cell? (a.add (i*2+1))=some (.slice B (ω i).length c)∧Rd w B (ω i).length c (ω i)
def f9 (n:Nat)(σ:Nat→Bool)(ω:Nat→List Nat):List Int:=(dB n).map fun i=>sg (σ i) (nv (ω i))
def fJ (n:Nat)(ω:Nat→List Nat):List Nat:=(dB n).map fun i=>(ω i).length
theorem IJ {σ:Nat→Bool}{ω:Nat→List Nat}(hi:i<n):(f9 n σ ω).getD i 0=sg (σ i) (nv (ω i)):=by
 unfold f9;rw [bE,fY,List.getElem?_range hi];rfl
theorem DN {ω:Nat→List Nat}(hi:i<n):(fJ n ω).getD i 0=(ω i).length:=by
 unfold fJ;rw [bE,fY,List.getElem?_range hi];rfl
section
variable {w w':a7}{A:Option aG}{n cap:Nat}{σ:Nat→Bool}{ω:Nat→List Nat}
theorem Zw.ext (h:Zw w A n cap σ ω)(e:Ext w w'):Zw w' A n cap σ ω:=⟨h.1,h.2.1,fun i hi=>by
 obtain⟨a,B,c,f,p,o,q⟩:=h.2.2 i hi
 exact⟨a,B,c,f,e.cell p,e.cell o,q.ext e⟩⟩
theorem Zw.zl (h:Zw w A n cap σ ω):Zl w A n cap (f9 n σ ω) (fJ n ω):=by
 refine⟨by unfold f9;rw [List.length_map,List.length_range],by unfold fJ;rw [List.length_map,List.length_range],h.1,h.2.1,fun i hi=>?_⟩
 obtain⟨a,B,c,f,p,o,q⟩:=h.2.2 i hi
 rw [DN hi,IJ hi]
 exact⟨a,σ i,B,c,f,p,o,ω i,q,rfl⟩
theorem Zl.zw (h:Zl w A n cap zs ms):∃σ ω,Zw w A n cap σ ω∧zs=f9 n σ ω∧∀i,i<n→(ω i).length=ms.getD i 0:=by
 have key:∀i,∃s xs,i<n→∃a B c,A=some a∧w.cell? (a.add (i*2))=some (.bool s)∧w.cell? (a.add (i*2+1))=some (AT B (ms.getD i 0) c)∧Rd w B (ms.getD i 0) c xs∧sg s (nv xs)=zs.getD i 0:=fun i=>by
  by_cases hi:i<n
  ·obtain⟨a,s,B,c,p,D,q,xs,f,o⟩:=h.get i hi
   exact⟨s,xs,fun _=>⟨a,B,c,p,D,q,f,o⟩⟩
  ·exact⟨false,[],fun h=>absurd h hi⟩
 obtain⟨σ,key⟩:=Classical.axiomOfChoice key
 obtain⟨ω,key⟩:=Classical.axiomOfChoice key
 have hl:∀i,i<n→(ω i).length=ms.getD i 0:=fun i hi=>by
  obtain⟨_,_,_,_,_,_,f,_⟩:=key i hi
  exact f.len
 refine⟨σ,ω,⟨h.le,h.max,fun i hi=>?_⟩,?_,hl⟩
 ·obtain⟨a,B,c,p,D,q,f,_⟩:=key i hi
  rw [hl i hi]
  exact⟨a,B,c,p,D,q,f⟩
 ·apply List.ext_getElem?
  intro i
  unfold f9
  by_cases hi:i<n
  ·obtain⟨_,_,_,_,_,_,_,o⟩:=key i hi
   rw [fY,List.getElem?_range hi,cA (by rw [h.len];exact hi)]
   rw [bE,cA (by rw [h.len];exact hi)] at o
   simp only [pD,o,lV]
  ·rw [gM (by rw [h.len];omega),gM (by rw [List.length_map,List.length_range];omega)]
theorem Zw.at_ (h:Zw w A n cap σ ω)(hi:i<n):∃p B c,A.map (·.add (i*2))=some p∧(∀w',Ext w w'→∀(P:cC) (T:aU),AggT P T 2→(loadVar T p).run P w'= .ok (.agg #[.bool (σ i),.slice B (ω i).length c]) w')∧(∀w',Ext w w'→w'.cell? (p.add 1)=some (.slice B (ω i).length c))∧Rd w B (ω i).length c (ω i):=by
 obtain⟨a,B,c,rfl,o,f,q⟩:=h.2.2 i hi
 refine⟨a.add (i*2),B,c,rfl,fun w' e P T D=>q8 D [.bool (σ i),.slice B (ω i).length c] G (fun j hj=>?_),fun w' e=>?_,q⟩
 ·rw [kY]
  match j,hj with
  | 0,_=>exact e.cell o
  | 1,_=>exact e.cell f
 ·rw [kY];exact e.cell f
theorem II {lo lo' m:Nat}{γ:Nat→Nat}{ω0:Nat→List Nat}(ho:Own w lo 24 2 A m cap us)(hc:Cz us n σ γ ω0)(hf:Fam w lo' n γ ω)(hl:∀j,(ω j).length=(ω0 j).length)(hn:n≤m)(hK:∀j,j<n→(ω j).length≤1048576):Zw w A n cap σ ω:=by
 refine⟨a6 hn ho.rv.le,ho.rv.max,fun i hi=>?_⟩
 obtain⟨c1,E⟩:=hc i hi
 have D:=jE ho
 obtain⟨a,o,f⟩:=ho.rv.get (i*2) (by omega)
 obtain⟨a',ha',h⟩:=ho.rv.get (i*2+1) (by omega)
 rw [o] at ha';cases ha'
 rw [bE,c1] at f
 rw [bE,E,←hl i] at h
 obtain⟨_,q,p⟩:=hf.1 i hi
 exact⟨a,_,_,o,f,h,rQ p G q (a6 (hK i hi) (by decide))⟩
end
theorem oF (h:Own w b 24 2 A n c us)(hi:i<n)(h0:us[i*2]?=some u0)(h1:us[i*2+1]?=some u1):∃p,A.map (·.add (i*2))=some p∧(∀w',Ext w w'→∀(P:cC) (T:aU),AggT P T 2→(loadVar T p).run P w'= .ok (.agg #[u0,u1]) w'):=by
 have E:=jE h
 obtain⟨a,q,f⟩:=h.rv.get (i*2) (by omega)
 obtain⟨a',ha',o⟩:=h.rv.get (i*2+1) (by omega)
 rw [q] at ha';cases ha'
 rw [bE,h0] at f
 rw [bE,h1] at o
 refine⟨a.add (i*2),by rw [q];rfl,fun w' e P T D=>q8 D [u0,u1] G (fun j hj=>?_)⟩
 rw [kY]
 match j,hj with
 | 0,_=>exact e.cell f
 | 1,_=>exact e.cell o
theorem xK (h:Own w b 22 1 A n c us)(h0:us[i]?=some u0)(hi:i<n:=by omega):∃p,A.map (·.add (i*1))=some p∧w.cell? p=some u0:=by
 have q:us.length=n:=by have:=h.rv.len;omega
 obtain⟨a,o,f⟩:=h.rv.get i (by omega)
 rw [bE,h0] at f
 exact⟨a.add (i*1),by rw [o];rfl,by rw [eG];exact f⟩
section
variable {Q:dQ→Act→a7→Prop}{N:Nat}{l:Fr}{w:a7}{ops:Array aZ}{rest:List aZ}{ty:aU}{pos:String}{af:Array fO}{gd:Option (Nat×Bool)}
theorem J7 {x y:d7}(hw:dG ops l gd=some true)(hx:bY l x=some (.pointer (some p)))(hy:bY l y=some (.agg #[u0,u1]))(h:Own w lb 24 2 A n c vs)(hi:i<n)(h0:u0.oneCell'=true)(h1:u1.oneCell'=true)(hp:A.map (·.add (i*2))=some p)(k:∀w',Own w' lb 24 2 A n c ((vs.set (i*2) u0).set (i*2+1) u1)→UpdO A w w'→wl aM ops Q N rest l w'):wl aM ops Q N (⟨none,.store 24 x y,ty,pos,af,gd⟩::rest) l w:=by
 obtain⟨w',hr,o,f⟩:=CU h hi h0 h1 hp
 exact rI hw hx hy hr (k w' o f)
end
section
variable {P:cC}
variable {Q:dQ→Act→a7→Prop}{n:Nat}{l:Fr}{w:a7}{ops:Array aZ}{rest:List aZ}{d:Nat}{ty:aU}{pos:String}{af:Array fO}{gd:Option (Nat×Bool)}
end
theorem ND (k:Nat):(madeCells (Value.agg #[BY,AT none 0 0]).cells (k*2)).toList=gE (dL k ZC.zero):=by
 refine List.ext_getElem ?_ fun j D q=>?_
 ·rw [Array.length_toList,size_madeCells,wL,List.length_replicate]
 ·have hj:j<k*2:=by simpa [size_madeCells] using D
  have E:(madeCells (Value.agg #[BY,AT none 0 0]).cells (k*2)).toList[j]= #[Value.bool false,AT none 0 0][j%2]!:=by
   simp [madeCells,Value.cells]
  rw [E]
  have o:j/2<(dL k ZC.zero).length:=by rw [List.length_replicate];omega
  have p:(dL k ZC.zero).getD (j/2) ZC.zero=ZC.zero:=by
   rw [bE,List.getElem?_replicate];split <;> rfl
  rcases Nat.mod_two_eq_zero_or_one j with h | h
  ·have f:=tE (dL k ZC.zero) (j/2) o
   rw [show j/2*2=j by omega,cA q,p] at f
   injection f with f
   rw [f,h];rfl
  ·have f:=tD (dL k ZC.zero) (j/2) o
   rw [show j/2*2+1=j by omega,cA q,p] at f
   injection f with f
   rw [f,h];rfl
section
variable {Q:dQ→Act→a7→Prop}{N:Nat}{l:Fr}{w:a7}{ops:Array aZ}{rest:List aZ}{d:Nat}{ty:aU}{pos:String}{af:Array fO}{gd:Option (Nat×Bool)}
theorem JC {x y:d7}(m:Option a7)(K b:Nat)(hw:dG ops l gd=some true)(hx:bY l x=some (v4 (k:Int)))(hy:bY l y=some (v4 (k:Int)))(hk:k≤1099511627776)(hd:d<N)(h:∀g w',w.heap.size=g→Lz m K b w' g (some ⟨g,0,none⟩) k k (dL k 0)→Ext w w'→wl aM ops Q N rest ((d,AT (some ⟨g,0,none⟩) k k)::l) w'):wl aM ops Q N (⟨some d,.makeSlice 26 x y,ty,pos,af,gd⟩::rest) l w:=by
 obtain⟨i,hi,E,D,q⟩:=info_parts mJ
 have hr:=run_make (P:=aM) w 26 24 i _ d9 hi E .i64 .i64 (k:Int) (k:Int) (by omega) (by omega) (by rw [q];omega) (by omega)
 rw [jQ,D] at hr
 obtain⟨cs,p,f⟩:∃cs:List aI,madeCells (Value.agg #[.bool false,.slice none 0 0]).cells (k*2)=cs.toArray∧cs=gE (dL k ZC.zero):=⟨(madeCells (Value.agg #[BY,AT none 0 0]).cells (k*2)).toList,Array.toArray_toList.symm,ND k⟩
 rw [p] at hr
 have o:cs.length=k*2:=by rw [f,wL,List.length_replicate]
 refine gU hw hd (fun a' F=>?_) (h _ (w.alloc (.cells cs.toArray 24)) G ⟨dL k ZC.zero,bW ⟨w.heap.size,cs,rfl,aS _,Bk.new _ _ _,aS _,by rw [eB];omega,o,by rw [List.take_of_length_le (by omega)];exact f⟩,List.length_replicate ..,List.length_replicate ..,fun i hi=>?_⟩ ((Ext.refl w).alloc _))
 ·have e':(o2 26 (a'.eval x) (a'.eval y)).run aM w= .ok (AT (some ⟨w.heap.size,0,none⟩) k k) (w.alloc (.cells cs.toArray 24)):=by rw [F.ev hx,F.ev hy];exact hr
  show ((o2 26 (a'.eval x) (a'.eval y)>>=fun r=>pure (jA r):Sem Next)).run aM w=_
  rw [dA,e'];rfl
 ·have I:(dL k ZC.zero).getD i ZC.zero=ZC.zero:=by rw [bE,List.getElem?_replicate];split <;> rfl
  have H:(dL k (0:Int)).getD i 0=0:=by rw [bE,List.getElem?_replicate];split <;> rfl
  rw [I,H]
  exact⟨bJ _,bS Zr.zero⟩
end
theorem tZ {x:Nat}(h:Bk w g 36 [AI (x:Int)])(hx:x<18446744073709551616:=by omega):Rd w (some ⟨g,0,none⟩) 1 1 [x]:=by
 have p:=Bk.rd (xs:= [x]) h (fun y f=>by rw [List.mem_singleton] at f;subst f;rw [cI];exact hx) (o:=0) (n:=1) (cap:=1) (by decide) (aS _) (by rw [eB];decide)
 exact p
theorem zY {σ:Nat→Bool}{ω:Nat→List Nat}(h:Zw w A n cap σ ω)(hi:i<n):∃p,A.map (·.add (i*2))=some p∧∃B c,(∀w',Ext w w'→∀(P:cC) (T:aU),AggT P T 2→(loadVar T p).run P w'= .ok (.agg #[.bool (σ i),.slice B (ω i).length c]) w')∧(∀w',Ext w w'→w'.cell? (p.add 1)=some (.slice B (ω i).length c))∧Rd w B (ω i).length c (ω i):=by
 obtain⟨p,B,c,f,o⟩:=h.at_ hi
 exact⟨p,f,B,c,o⟩
theorem CL {x y:Nat}(hx:Ri 65536 w A n cap (db 65536 x))(hl:n≤1099511627776)(hy:Ri 65536 w B n' cap' (db 65536 y))(hl':n'≤1099511627776):aQ aM 125 #[AT A n cap,AT B n' cap'] w (sZ x y w):=by
 have hlx:=Lib.hid hx.len
 have hly:=Lib.hid hy.len
 rcases Nat.lt_trichotomy n n' with hlt | rfl | hgt
 ·have h1:((n:Int) != (n':Int))=true:=by simp;omega
  go_enter Tryz.func125,Tryz.ntmps125
  go_wp2_with fail
  go_ret
  exact lU (uZ (DV gA (by rw [hlx.out,hly.out];exact hlt))) (Ext.refl w)
 ·have h1:((n:Int) != (n:Int))=false:=by simp
  obtain⟨ds,hds⟩:∃ds,ds=db 65536 x:=⟨_,rfl⟩
  obtain⟨es,hes⟩:∃es,es=db 65536 y:=⟨_,rfl⟩
  have hvx:=Lib.hid (show nb 65536 ds=x by rw [hds,j1 gA])
  have hvy:=Lib.hid (show nb 65536 es=y by rw [hes,j1 gA])
  rw [←hds] at hx hlx
  rw [←hes] at hy hly
  clear hds hes
  go_enter Tryz.func125,Tryz.ntmps125
  go_wp2_with fail
  go_loopw [5] (fun u wr=>∃i:Nat,i≤n∧u= v4 ((i:Int)-1)∧Hid (dY (nb 65536 (ds.take i)) (nb 65536 (es.take i))=dY x y)∧Ext w wr) (fun u wr=>(intOf u+1).toNat)
  case atStart=>exact⟨n,aS _,rfl,(show _=_ by rw [List.take_of_length_le (by rw [hlx.out];omega),List.take_of_length_le (by rw [hly.out];omega),hvx.out,hvy.out]),Ext.refl w⟩
  case round=>
   obtain⟨i,hi,rfl,hv,hext⟩:=hrel
   by_cases h0:0<i
   ·obtain⟨a,p,rfl,hxk,hxb,hc⟩:=(hx.ext hext).get (by omega) (i:=i-1) (by omega)
    obtain⟨b,q,rfl,hyk,hyb,hd⟩:=(hy.ext hext).get (by omega) (i:=i-1) (by omega)
    have hi':i-1+1=i:=by omega
    have hcast:((i-1:Nat):Int)=(i:Int)-1:=by omega
    have b1:(0:Int)≤(i:Int)-1:=by omega
    rcases Nat.lt_trichotomy p q with hlt | rfl | hgt
    ·go_wp2_with fail
     go_quiet (fail)
     go_wp2_with fail
     go_ret
     refine lU ?_ (by repeat (first | exact Ext.refl _ | assumption | apply Ext.drewN | apply Ext.drew | apply Ext.alloc))
     rw [←hv.out,←hi']
     exact uZ (D8 (by omega) hx.wf (by rw [hlx.out];omega) (by rw [hly.out];omega) (by rw [hxk.out,hyk.out];exact hlt))
    ·go_wp2_with fail
     go_quiet (fail)
     go_wp2_with fail
     go_quiet (fail)
     go_wp2_with fail
     go_roundw
     case rel=>
      refine⟨i-1,by omega,by congr 1;omega,?_,(by repeat (first | exact Ext.refl _ | assumption | apply Ext.drewN | apply Ext.drew | apply Ext.alloc))⟩
      show _=_
      rw [←hv.out,←S7 (k:=i-1) (by rw [hlx.out];omega) (by rw [hly.out];omega) (by rw [hxk.out,hyk.out]),hi']
     case measure=>simp [intOf];omega
    ·go_wp2_with fail
     go_quiet (fail)
     go_wp2_with fail
     go_quiet (fail)
     go_wp2_with fail
     go_ret
     refine lU ?_ (by repeat (first | exact Ext.refl _ | assumption | apply Ext.drewN | apply Ext.drew | apply Ext.alloc))
     rw [←hv.out,←hi']
     exact v8 (D8 (by omega) hy.wf (by rw [hly.out];omega) (by rw [hlx.out];omega) (by rw [hxk.out,hyk.out];exact hgt))
   ·go_wp2_with fail
    go_ret
    refine lU ?_ hext
    rw [←hv.out,show i=0 from by omega]
    simp [GG]
 ·have h1:((n:Int) != (n':Int))=true:=by simp;omega
  go_enter Tryz.func125,Tryz.ntmps125
  go_wp2_with fail
  go_ret
  exact lU (v8 (DV gA (by rw [hlx.out,hly.out];exact hgt))) (Ext.refl w)
theorem nL (hw:Wf xs):(db 65536 (nv xs)).length≤4*xs.length:=by
 refine uM gA ?_
 have:=gW hw
 rwa [qM,←Nat.pow_mul] at this
theorem LW (hx:Rd w A n cap xs)(hl:n≤274877906943):aQ aM 33 #[AT A n cap] w (j9 w (nv xs)):=by
 go_enter Tryz.func33,Tryz.ntmps33
 go_wp2_with fail
 refine (pX hx hl).mono ?_
 rintro e w1 ⟨A1,n1,c1,rfl,hn1,hr1,_,hx1⟩
 have hb:n1≤1099511627775:=by have:=nL hx.wf;rw [hn1.out];rw [hx.len] at this;omega
 go_wp2_with fail
 refine (xI hr1 hb).mono ?_
 rintro e w2 ⟨A2,n2,c2,rfl,hn2,hr2,ho2,hx2⟩
 go_wp2_with fail
 go_ret
 rw [j1 gA] at hn2 hr2 ho2
 exact⟨A2,n2,c2,rfl,hn2,hr2,ho2.mono hx1.size,hx1.trans hx2⟩
theorem LX (hx:Rd w A n cap xs)(hl:n≤274877906943)(hy:Rd w B n' cap' ys)(hl':n'≤274877906943):aQ aM 101 #[AT A n cap,AT B n' cap'] w (sZ (nv xs) (nv ys) w):=by
 go_enter Tryz.func101,Tryz.ntmps101
 go_wp2_with fail
 refine (pX hx hl).mono ?_
 rintro e w1 ⟨A1,n1,c1,rfl,hn1,hr1,_,hx1⟩
 have hb1:n1≤1099511627775:=by have:=nL hx.wf;rw [hn1.out];rw [hx.len] at this;omega
 go_wp2_with fail
 refine (pX (hy.ext hx1) hl').mono ?_
 rintro e w2 ⟨A2,n2,c2,rfl,hn2,hr2,_,hx2⟩
 have hb2:n2≤1099511627775:=by have:=nL hy.wf;rw [hn2.out];rw [hy.len] at this;omega
 go_wp2_with fail
 refine (CL (hr1.ext hx2) (by omega) hr2 (by omega)).mono ?_
 rintro e w3 ⟨c,hc,hc1,hc2,rfl,hx3⟩
 go_wp2_with fail
 go_ret
 exact⟨c,hc,hc1,hc2,rfl,(hx1.trans hx2).trans hx3⟩
theorem xH (hx:Ri 65536 w A n cap ds)(hl:n≤1099511627776){i:Int}(h0:0≤i:=by omega)(hi:i≤4398046511104:=by omega):aQ aM 124 #[AT A n cap,v4 i] w fun e w'=>∃x:Nat,Hid (x=ds.getD i.toNat 0)∧x≤65535∧e= .returned (v4 (x:Int))∧w=w':=by
 obtain⟨k,rfl⟩:=Int.eq_ofNat_of_zero_le h0
 rw [jQ]
 have hlx:=Lib.hid hx.len
 by_cases hk:k<n
 ·obtain⟨a,x,rfl,hxk,hxb,hc⟩:=hx.get (by omega) (i:=k) hk
  go_enter Tryz.func124,Tryz.ntmps124
  go_wp2_with fail
  go_ret
  exact⟨x,hxk.out.symm,by omega,rfl,rfl⟩
 ·go_enter Tryz.func124,Tryz.ntmps124
  go_wp2_with fail
  go_ret
  refine⟨0,?_,by omega,rfl,rfl⟩
  show _=_
  rw [bE,gM (by rw [hlx.out];omega)];rfl
theorem D9 (b:Nat)(xs:List Nat)(k:Nat):nb b (xs.take (k+1))=nb b (xs.take k)+b^k*xs.getD k 0:=by
 by_cases h:k<xs.length
 ·exact gX b xs k h
 ·rw [List.take_of_length_le (by omega),List.take_of_length_le (by omega),bE,gM (by omega)];simp
theorem T8 {x y d:Nat}(hli:i<l.length)(h:nb b (l.take i)+b^i*c=nb b (xs.take i)+nb b (ys.take i))(hx:x=xs.getD i 0)(hy:y=ys.getD i 0)(hs:s+b*d=x+y+c):nb b ((l.set i s).take (i+1))+b^(i+1)*d=nb b (xs.take (i+1))+nb b (ys.take (i+1)):=by
 have p:(l.set i s).getD i 0=s:=by simp [bE,hli]
 have o:(l.set i s).take i=l.take i:=by rw [List.take_set_of_le (aS i)]
 rw [gX b _ i (by rw [List.length_set];exact hli),p,o,D9 b xs i,D9 b ys i,←hx,←hy,dJ,bZ]
 have f:b^i*(s+b*d)=b^i*(x+y+c):=by rw [hs]
 simp only [cS] at f
 omega
theorem LY (hx:Rd w A n cap xs)(hl:n≤137438953471)(hy:Rd w B n' cap' ys)(hl':n'≤137438953471):aQ aM 100 #[AT A n cap,AT B n' cap'] w (j9 w (nv xs+nv ys)):=by
 go_enter Tryz.func100,Tryz.ntmps100
 go_wp2_with fail
 refine (pX hx (by omega)).mono ?_
 rintro e w1 ⟨A1,p,c1,rfl,hp,hr1,_,hx1⟩
 have hb1:p≤549755813888:=by have:=nL hx.wf;rw [hp.out];rw [hx.len] at this;omega
 go_wp2_with fail
 refine (pX (hy.ext hx1) (by omega)).mono ?_
 rintro e w2 ⟨A2,q,c2,rfl,hq,hr2,_,hx2⟩
 have hb2:q≤549755813888:=by have:=nL hy.wf;rw [hq.out];rw [hy.len] at this;omega
 have hr1':=hr1.ext hx2
 have hx12:=hx1.trans hx2
 clear hr1 hx1 hx2
 obtain⟨ds,hds⟩:∃ds,ds=db 65536 (nv xs):=⟨_,rfl⟩
 obtain⟨es,hes⟩:∃es,es=db 65536 (nv ys):=⟨_,rfl⟩
 have hvx:=Lib.hid (show nb 65536 ds=nv xs by rw [hds,j1 gA])
 have hvy:=Lib.hid (show nb 65536 es=nv ys by rw [hes,j1 gA])
 have hdl:=Lib.hid hr1'.len
 have hel:=Lib.hid hr2.len
 rw [←hds] at hr1' hdl
 rw [←hes] at hr2 hel
 clear hds hes hp hq hx hy
 go_upto_if 21 with (fail)
 go_cut [7] (fun u wc=>∃m:Nat,u= v4 (m:Int)∧p≤m∧q≤m∧m≤549755813888∧w2=wc)
 case first=>
  by_cases hlt:p<q
  ·go_wp2_with fail
   go_meet
   case rel=>exact⟨q,rfl,by omega,by omega,hb2,rfl⟩
  ·go_wp2_with fail
   go_meet
   case rel=>exact⟨p,rfl,by omega,by omega,hb1,rfl⟩
 case rest=>
  obtain⟨m,rfl,hpm,hqm,hmb,rfl⟩:=hcut
  have hmk:=jV (P:=aM) Tryz.underlying81 qC G (by decide) ((m:Int)+1) (by omega) (by omega)
  have et:((m:Int)+1).toNat=m+1:=by omega
  rw [et] at hmk
  clear et
  go_wp2_with fail
  clear hmk
  obtain⟨g,hg⟩:∃g,w2.heap.size=g:=⟨_,rfl⟩
  rw [hg]
  obtain⟨wa,hwa⟩:∃wa,w2.alloc (.cells (zc (.int .i64 0) (m+1)) 3)=wa:=⟨_,rfl⟩
  rw [hwa]
  have hbk:Bk wa g 3 ((dL (m+1) 0).map I6):=by
   rw [←hwa,←hg,←tS];exact Bk.new' _ _ _
  have hea:Ext w2 wa:=by rw [←hwa];exact (Ext.refl w2).alloc _
  have hgs:w.heap.size≤g:=by rw [←hg];exact hx12.size
  have hgc:w2.heap.size≤g:=by rw [hg];exact aS _
  clear hg hwa
  go_loopw [10,9] (fun u v wr=>∃(i c:Nat) (l:List Nat),i≤m∧c≤1∧u= v4 (i:Int)∧v= v4 (c:Int)∧Hid (l.length=m+1)∧Wfb 65536 l∧Bk wr g 3 (l.map I6)∧
   Hid (nb 65536 (l.take i)+65536^i*c=nb 65536 (ds.take i)+nb 65536 (es.take i))∧Ext w2 wr) (fun u v wr=>m-(intOf u).toNat)
  case atStart=>exact⟨0,0,_,bJ _,bJ _,rfl,rfl,List.length_replicate,oY (by omega) _,hbk,by simp [Hid,nb],hea⟩
  case round=>
   obtain⟨i,c,l,hi,hc,rfl,rfl,hll,hwl,hb,hv,hr⟩:=hrel
   clear hbk hea
   by_cases him:i<m
   ·obtain⟨o,ho,_,hco⟩:=hb.digit (by omega) hwl (i:=i) (by rw [hll.out];omega)
    have hfr:=hb.frozen i
    go_wp2_with fail
    refine (xH (hr1'.ext hr) (by omega) (i:=(i:Int))).mono ?_
    rintro e w' ⟨x,hx,hxb,rfl,rfl⟩
    go_wp2_with fail
    refine (xH (hr2.ext hr) (by omega) (i:=(i:Int))).mono ?_
    rintro e w' ⟨y,hy,hyb,rfl,rfl⟩
    rw [jQ] at hx hy
    go_wp2_with fail
    go_roundw
    case rel=>
     have ec:((x:Int)+(y:Int)+(c:Int))%65536=(((x+y+c)%65536:Nat):Int):=by omega
     refine⟨i+1,(x+y+c)/65536,l.set i ((x+y+c)%65536),by omega,by omega,by go_num,eP,by show _=_;rw [List.length_set];exact hll.out,iM hwl i,?_,
      T8 (by rw [hll.out];omega) hv.out hx.out hy.out (jN _ _),hr.setCell hgc _⟩
     rw [←oK,ec];exact hb.set i _
    case measure=>simp [intOf];omega
   ·obtain rfl:i=m:=by omega
    obtain⟨o,ho,_,hco⟩:=hb.digit (by omega) hwl (i:=i) (by rw [hll.out];omega)
    have hfr:=hb.frozen i
    have hb2:=hb.set i (v4 (c:Int))
    rw [oK] at hb2
    have hll2:Hid ((l.set i c).length=i+1):=by show _=_;rw [List.length_set];exact hll.out
    have hwl2:Wfb 65536 (l.set i c):=iM hwl i
    have hr3:Ri 65536 (wr.setCell ⟨g,i,none⟩ (v4 (c:Int))) (some ⟨g,0,none⟩) (i+1) (i+1) (l.set i c):=by
     have:=hb2.ri hwl2 (o:=0) (n:=i+1) (cap:=i+1) (aS _) (by rw [hll2.out];omega) (by rw [eB];omega)
     rwa [i9,List.take_of_length_le (by rw [hll2.out];omega)] at this
    have hval:Hid (nb 65536 (l.set i c)=nv xs+nv ys):=by
     show _=_
     have e1:(l.set i c).getD i 0=c:=by
      have:=hll.out
      simp [bE,this]
     have e2:(l.set i c).take i=l.take i:=by rw [List.take_set_of_le (aS i)]
     have e3:=gX 65536 (l.set i c) i (by rw [hll2.out];omega)
     rw [e1,e2,List.take_of_length_le (by rw [hll2.out];omega),hv.out,List.take_of_length_le (by rw [hdl.out];omega),List.take_of_length_le (by rw [hel.out];omega)] at e3
     rw [e3,hvx.out,hvy.out]
    go_wp2_with fail
    refine (xI hr3 (by omega)).mono ?_
    rintro e w3 ⟨A3,n3,c3,rfl,hn3,hr4,ho4,hx3⟩
    go_wp2_with fail
    go_ret
    rw [hval.out] at hn3 hr4 ho4
    exact⟨A3,n3,c3,rfl,hn3,hr4,ho4.mono (by have:=hx12.size;have:=hr.size;simp;omega),((hx12.trans hr).setCell hgs _).trans hx3⟩
theorem RS {x q:Nat}(hl:n<l.length)(h:nb 65536 (l.take n)+65536^n*q=x):nb 65536 ((l.set n (q%65536)).take (n+1))+65536^(n+1)*(q/65536)=x:=by
 rw [oI 65536 hl,dJ,bZ,iW,←cS,jN]
 exact h
theorem CJ (hx:Rd w A n cap xs)(hl:n≤274877906943):aQ aM 121 #[AT A n cap] w (zH w (nv xs)):=by
 have hlx:=Lib.hid hx.len
 have hmk:=jV (P:=aM) Tryz.underlying81 qC G (by decide) (4*(n:Int)) (by omega) (by omega)
 have et:(4*(n:Int)).toNat=4*n:=by omega
 rw [et] at hmk
 clear et
 go_enter Tryz.func121,Tryz.ntmps121
 go_wp2_with fail
 clear hmk
 obtain⟨g,hg⟩:∃g,w.heap.size=g:=⟨_,rfl⟩
 rw [hg]
 obtain⟨wa,hwa⟩:∃wa,w.alloc (.cells (zc (.int .i64 0) (4*n)) 3)=wa:=⟨_,rfl⟩
 rw [hwa]
 have hbk:Bk wa g 3 ((dL (4*n) 0).map I6):=by
  rw [←hwa,←hg,←tS];exact Bk.new' _ _ _
 have hea:Ext w wa:=by rw [←hwa];exact (Ext.refl w).alloc _
 have hgs:w.heap.size≤g:=by rw [hg];exact aS _
 clear hg hwa
 go_loopw [4] (fun u wr=>∃(i:Nat) (l:List Nat),i≤n∧u= v4 (i:Int)∧Bk wr g 3 (l.map I6)∧Wfb 65536 l∧Hid (l.length=4*n)∧Hid (nb 65536 (l.take (4*i))=nv (xs.take i))∧Ext w wr) (fun u wr=>n-(intOf u).toNat)
 case atStart=>exact⟨0,_,bJ _,rfl,hbk,oY (by omega) _,List.length_replicate,rfl,hea⟩
 case round=>
  obtain⟨i,l,hi,rfl,hb,hw,hll,hv,hr⟩:=hrel
  clear hbk hea
  by_cases him:i<n
  ·obtain⟨a,x,rfl,hxk,hxb,hcx⟩:=(hx.ext hr).get (i:=i) (by omega)
   go_wp2_with fail
   obtain⟨wo,rfl⟩:∃wo:a7,wo=wr:=⟨_,rfl⟩
   go_loopw [6,5] (fun u y wr=>∃(k:Nat) (l:List Nat) (q:Nat),k≤4∧u= v4 (k:Int)∧y= AI (q:Int)∧q≤18446744073709551615∧Bk wr g 3 (l.map I6)∧Wfb 65536 l∧
    Hid (l.length=4*n)∧Hid (nb 65536 (l.take (4*i+k))+65536^(4*i+k)*q=nv (xs.take (i+1)))∧Hid (q*65536^k<WB)∧Ext w wr) (fun u y wr=>4-(intOf u).toNat)
   case atStart=>
    refine⟨0,l,x,bJ _,rfl,rfl,hxb,hb,hw,hll,?_,?_,hr⟩
    ·show _=_
     rw [show 4*i+0=4*i from rfl,hv.out,eE xs i (by rw [hlx.out];omega),hxk.out,qM,←Nat.pow_mul]
    ·show _<_
     rw [cI];omega
   case round=>
    obtain⟨k,l2,q,hk,rfl,rfl,hqb,hb2,hw2,hl2,hev,hq,hr2⟩:=hrel
    clear hb hw hll hv
    by_cases hk4:k<4
    ·obtain⟨o,ho,_,hco⟩:=hb2.digit (by omega) hw2 (i:=4*i+k) (by rw [hl2.out];omega)
     have hfr:=hb2.frozen (4*i+k)
     go_wp2_with fail
     go_roundw
     case rel=>
      refine⟨k+1,l2.set (4*i+k) (q%65536),q/65536,by omega,by go_num,by go_num,by omega,?_,iM hw2 _ (hx:=(gB q (by omega))),by show _=_;rw [List.length_set];exact hl2.out,RS (n:=4*i+k) (by rw [hl2.out];omega) hev.out,?_,hr2.setCell hgs _⟩
      ·have e:((q:Int)%65536)=((q%65536:Nat):Int):=by omega
       rw [←oK,e];exact hb2.set _ _
      ·show _<_
       have h2:q/65536*65536≤q:=Nat.div_mul_le_self q 65536
       calc q/65536*65536^(k+1)=(q/65536*65536)*65536^k:=by rw [dJ,cM (65536^k),bZ]
        _≤q*65536^k:=eA _ h2
        _<WB:=hq.out
     case measure=>simp [intOf];omega
    ·obtain rfl:k=4:=by omega
     have hq0:q=0:=by
      have h:=hq.out
      rw [cI] at h
      omega
     go_wp2_with fail
     go_roundw
     case rel=>
      refine⟨i+1,l2,by omega,by go_num,hb2,hw2,hl2.out,?_,hr2⟩
      show _=_
      have h:=hev.out
      rw [hq0,Nat.mul_zero,eI] at h
      exact h
     case measure=>simp [intOf];omega
  ·obtain rfl:i=n:=by omega
   have hval:Hid (nb 65536 l=nv xs):=by
    show _=_
    have h:=hv.out
    rwa [List.take_of_length_le (by rw [hll.out];omega),List.take_of_length_le (by rw [hlx.out];omega)] at h
   clear hv
   go_wp2_with fail
   go_loop [7] (fun u=>∃k:Nat,k≤4*i∧u= v4 (k:Int)∧Hid (nb 65536 (l.take k)=nb 65536 l)) (fun u=>(intOf u).toNat)
   case atStart=>exact⟨4*i,aS _,by go_num,(show _=_ by rw [List.take_of_length_le (by rw [hll.out];omega)])⟩
   case round=>
    obtain⟨k,hk,rfl,hv⟩:=hrel
    have fin:k=0∨l.getD (k-1) 0≠0→zH w (nv xs) (.returned (AT (some ⟨g,0,none⟩) k (4*i))) wr:=by
     intro h
     have e:=uW gA (k:=k) hw (by rw [hll.out];exact hk) hv.out h
     rw [hval.out] at e
     have ho:Own wr w.heap.size 3 1 (some ⟨g,0,none⟩) k (4*i) ((db 65536 (nv xs)).map I6):=
      Own.mk_ hgs hb hk (by rw [eB];omega) (by rw [List.length_map,hll.out,eG]) (by rw [eG,←List.map_take,e])
     refine⟨_,_,_,rfl,?_,⟨ho.rv,qL gA _⟩,ho,hr⟩
     show _=_
     rw [e,dK,hll.out];omega
    have FIN:=Lib.hid fin
    clear fin
    by_cases h0:0<k
    ·obtain⟨x,hxk,hxb,hc⟩:=hb.digit (by omega) hw (i:=k-1) (by rw [hll.out];omega)
     by_cases hz:x=0
     ·subst hz
      go_wp2_with fail
      go_round
      case rel=>
       refine⟨k-1,by omega,eP,?_⟩
       show _=_
       rw [←hv.out,←xS 65536 l (k-1) (by rw [hll.out];omega) hxk.out,iV h0]
      case measure=>simp [intOf];omega
     ·have hzb:((x:Int)==0)=false:=by simp;omega
      go_wp2_with fail
      go_ret
      exact FIN.out (bW (by rw [hxk.out];exact hz))
    ·go_wp2_with fail
     go_ret
     exact FIN.out (bS (by omega))
theorem LT (hx:Ri 65536 w A n cap ds)(hl:n≤1099511627775):aQ aM 122 #[AT A n cap] w (j9 w (nb 65536 ds)):=by
 have hlx:=Lib.hid hx.len
 obtain⟨m,hm⟩:∃m,m=(n+3)/4:=⟨_,rfl⟩
 have hm1:n≤4*m:=by omega
 have hm2:4*m<n+4:=by omega
 have hmk:=jV (P:=aM) Tryz.underlying22 iG G (by decide) (((n:Int)+3)/4) (by omega) (by omega)
 have et:(((n:Int)+3)/4).toNat=m:=by omega
 rw [et] at hmk
 clear et hm
 go_enter Tryz.func122,Tryz.ntmps122
 go_wp2_with fail
 clear hmk
 obtain⟨g,hg⟩:∃g,w.heap.size=g:=⟨_,rfl⟩
 rw [hg]
 obtain⟨wa,hwa⟩:∃wa,w.alloc (.cells (zc (.int .u64 0) m) 36)=wa:=⟨_,rfl⟩
 rw [hwa]
 have hbk:Bk wa g 36 ((dL m 0).map aY):=by
  rw [←hwa,←hg,←jC];exact Bk.new' _ _ _
 have hea:Ext w wa:=by rw [←hwa];exact (Ext.refl w).alloc _
 have hgs:w.heap.size≤g:=by rw [hg];exact aS _
 clear hg hwa
 go_loopw [4] (fun u wr=>∃(i:Nat) (l:List Nat),i≤n∧u= v4 ((i:Int)-1)∧Bk wr g 36 (l.map aY)∧Hid (l.length=m)∧Hid (∀t,t<m→l.getD t 0=jS ds i t)∧Ext w wr) (fun u wr=>(intOf u+1).toNat)
 case atStart=>
  refine⟨n,_,aS _,rfl,hbk,List.length_replicate,?_,hea⟩
  intro t ht
  have e1:(dL m 0).getD t 0=0:=by simp [bE,ht]
  unfold jS
  rw [e1,List.drop_eq_nil_of_le (by rw [hlx.out];omega)];simp [nb]
 case round=>
  obtain⟨i,l,hi,rfl,hb,hll,hv,hr⟩:=hrel
  clear hbk hea
  have hwl:Wf l:=by
   intro x hx'
   obtain⟨t,ht,rfl⟩:=rA hx'
   have:=hv.out t (by rw [←hll.out];exact ht)
   rw [bE,cA ht,lV] at this
   rw [this];exact AE hx.wf _ _
  by_cases h0:0<i
  ·obtain⟨j,rfl⟩:∃j,i=j+1:=⟨i-1,by omega⟩
   obtain⟨a,d,rfl,hdk,hdb,hcd⟩:=(hx.ext hr).get (by omega) (i:=j) (by omega)
   obtain⟨x,hxk,hxb,hcx⟩:=hb.word hwl (i:=j/4) (by rw [hll.out];omega)
   have hfr:=hb.frozen (j/4)
   have hval:Hid (d+65536*x=jS ds j (j/4)):=by
    show _=_
    rw [IZ,hdk.out,←hv.out (j/4) (by omega),hxk.out]
   have hbd:d+65536*x≤18446744073709551615:=by
    rw [hval.out]
    have:=AE hx.wf j (j/4)
    rw [cI] at this;omega
   have hj:((j+1:Nat):Int)-1=(j:Int):=by omega
   rw [hj]
   clear hj h0
   have c1:(j:Int)/4<(m:Int):=by omega
   have c2:(0:Int)≤(j:Int)/4:=by omega
   go_wp2_with fail
   go_region
   go_wp2_with fail
   go_roundw
   case rel=>
    have ev:(x:Int)*65536+(d:Int)=((d+65536*x:Nat):Int):=by omega
    refine⟨j,l.set (j/4) (d+65536*x),by omega,eP,?_,by show _=_;rw [List.length_set];exact hll.out,?_,(hr.setCell hgs _).drew⟩
    ·rw [←dO,ev];exact (hb.set _ _).drew
    ·intro t ht
     by_cases htj:t=j/4
     ·subst htj
      rw [qD (by rw [hll.out];omega),hval.out]
     ·rw [getD_set_ne (fun e=>htj e.symm),hv.out t ht,J0 htj]
   case measure=>simp [intOf]
  ·obtain rfl:i=0:=by omega
   have hval:Hid (nv l=nb 65536 ds):=J1 (fun t ht=>hv.out t (by rw [←hll.out];exact ht)) (by rw [hll.out,hlx.out];exact hm1) (by rw [hll.out,hlx.out];exact hm2)
   clear hv
   go_wp2_with fail
   go_loop [5] (fun u=>∃k:Nat,k≤m∧u= v4 (k:Int)∧Hid (nv (l.take k)=nv l)) (fun u=>(intOf u).toNat)
   case atStart=>exact⟨m,aS _,rfl,(show _=_ by rw [List.take_of_length_le (by rw [hll.out];omega)])⟩
   case round=>
    obtain⟨k,hk,rfl,hv⟩:=hrel
    have fin:k=0∨l.getD (k-1) 0≠0→j9 w (nb 65536 ds) (.returned (AT (some ⟨g,0,none⟩) k m)) wr:=by
     intro h
     have e:=rJ (k:=k) hwl (by rw [hll.out];exact hk) hv.out h
     rw [←hval.out]
     exact pA (ys:=l) hgs hb hll.out hk (by rw [eB];omega) e.symm hr
    have FIN:=Lib.hid fin
    clear fin
    by_cases h0:0<k
    ·obtain⟨x,hxk,hxb,hc⟩:=hb.word hwl (i:=k-1) (by rw [hll.out];omega)
     by_cases hz:x=0
     ·subst hz
      go_wp2_with fail
      go_round
      case rel=>
       refine⟨k-1,by omega,eP,?_⟩
       show _=_
       rw [←hv.out,←oH l (k-1) (by rw [hll.out];omega) hxk.out,iV h0]
      case measure=>simp [intOf];omega
     ·have hzb:((x:Int)==0)=false:=by simp;omega
      go_wp2_with fail
      go_ret
      exact FIN.out (bW (by rw [hxk.out];exact hz))
    ·go_wp2_with fail
     go_ret
     exact FIN.out (bS (by omega))
theorem MV {m o x y P d:Nat}(hk:k=i+j)(hkm:k<m)(hml:m≤l.length)(h:nb b (l.take m)+b^k*c=P+x*(b^i*nb b (ys.take j)))(ho:l.getD k 0=o)(hj:j<ys.length)(hy:ys.getD j 0=y)(hs:s+b*d=o+x*y+c):nb b ((l.set k s).take m)+b^(k+1)*d=P+x*(b^i*nb b (ys.take (j+1))):=by
 have p:=rT b (l:=l.take m) (k:=k) (by rw [dK];omega) s
 rw [yA hkm,ho] at p
 rw [List.take_set,gX b ys j hj,hy,cS (b^i),cS x,←iW,←h,←bZ (b^i),←Nat.pow_add,←hk,dJ,bZ (b^k)]
 have f:b^k*(s+b*d)=b^k*(o+x*y+c):=by rw [hs]
 simp only [cS] at f
 have q:b^k*(x*y)=x*(b^k*y):=by rw [←bZ,cM (b^k) x,bZ]
 rw [q] at f
 omega
theorem MZ {x y B:Nat}(hx:x≤B)(hy:y≤B):((x:Int)*(y:Int))≤((B*B:Nat):Int)∧0≤((x:Int)*(y:Int))∧((x:Int)*(y:Int))=((x*y:Nat):Int):=by
 have h:x*y≤B*B:=Nat.mul_le_mul hx hy
 rw [←jR]
 omega
theorem LU (hx:Rd w A n cap xs)(hl:n≤68719476735)(hy:Rd w B n' cap' ys)(hl':n'≤68719476735):aQ aM 96 #[AT A n cap,AT B n' cap'] w (j9 w (nv xs*nv ys)):=by
 go_enter Tryz.func96,Tryz.ntmps96
 go_wp2_with fail
 refine (CJ hx (by omega)).mono ?_
 rintro e w1 ⟨A1,p,c1,rfl,hp,hr1,_,hx1⟩
 have hbp:p≤274877906944:=by have:=nL hx.wf;rw [hp.out];rw [hx.len] at this;omega
 go_wp2_with fail
 refine (CJ (hy.ext hx1) (by omega)).mono ?_
 rintro e w2 ⟨A2,q,c2,rfl,hq,hr2,_,hx2⟩
 have hbq:q≤274877906944:=by have:=nL hy.wf;rw [hq.out];rw [hy.len] at this;omega
 have hr1':=hr1.ext hx2
 have hx12:=hx1.trans hx2
 clear hr1 hx1 hx2
 obtain⟨ds,hds⟩:∃ds,ds=db 65536 (nv xs):=⟨_,rfl⟩
 obtain⟨es,hes⟩:∃es,es=db 65536 (nv ys):=⟨_,rfl⟩
 have hvx:=Lib.hid (show nb 65536 ds=nv xs by rw [hds,j1 gA])
 have hvy:=Lib.hid (show nb 65536 es=nv ys by rw [hes,j1 gA])
 have hdl:=Lib.hid hr1'.len
 have hel:=Lib.hid hr2.len
 rw [←hds] at hr1' hdl
 rw [←hes] at hr2 hel
 clear hds hes hp hq hx hy
 have hmk:=jV (P:=aM) Tryz.underlying81 qC G (by decide) ((p:Int)+(q:Int)) (by omega) (by omega)
 have et:((p:Int)+(q:Int)).toNat=p+q:=by omega
 rw [et] at hmk
 clear et
 go_wp2_with fail
 clear hmk
 obtain⟨g,hg⟩:∃g,w2.heap.size=g:=⟨_,rfl⟩
 rw [hg]
 obtain⟨wa,hwa⟩:∃wa,w2.alloc (.cells (zc (.int .i64 0) (p+q)) 3)=wa:=⟨_,rfl⟩
 rw [hwa]
 have hbk:Bk wa g 3 ((dL (p+q) 0).map I6):=by
  rw [←hwa,←hg,←tS];exact Bk.new' _ _ _
 have hea:Ext w2 wa:=by rw [←hwa];exact (Ext.refl w2).alloc _
 have hgs:w.heap.size≤g:=by rw [←hg];exact hx12.size
 have hgc:w2.heap.size≤g:=by rw [hg];exact aS _
 clear hg hwa
 go_loopw [8] (fun u wr=>∃(i:Nat) (l:List Nat),i≤p∧u= v4 (i:Int)∧Hid (l.length=p+q)∧Wfb 65536 l∧Bk wr g 3 (l.map I6)∧
  Hid (nb 65536 (l.take (i+q))=nb 65536 (ds.take i)*nb 65536 es)∧Ext w2 wr) (fun u wr=>p-(intOf u).toNat)
 case atStart=>
  refine⟨0,_,bJ _,rfl,List.length_replicate,oY (by omega) _,hbk,?_,hea⟩
  show _=_
  rw [List.take_replicate,xR];simp [nb]
 case round=>
  obtain⟨i,l,hi,rfl,hll,hwl,hb,hv,hr⟩:=hrel
  clear hbk hea
  by_cases hip:i<p
  ·obtain⟨a,x,rfl,hxk,hxb,hcx⟩:=(hr1'.ext hr).get (by omega) (i:=i) (by omega)
   go_wp2_with fail
   obtain⟨wo,rfl⟩:∃wo:a7,wo=wr:=⟨_,rfl⟩
   go_loopw [10,9] (fun u v wr=>∃(j c:Nat) (l:List Nat),j≤q∧c≤65535∧u= v4 (j:Int)∧v= v4 (c:Int)∧Hid (l.length=p+q)∧Wfb 65536 l∧Bk wr g 3 (l.map I6)∧
    Hid (nb 65536 (l.take (i+q))+65536^(i+j)*c=nb 65536 (ds.take i)*nb 65536 es+x*(65536^i*nb 65536 (es.take j)))∧Ext w2 wr) (fun u v wr=>q-(intOf u).toNat)
   case atStart=>exact⟨0,0,l,bJ _,bJ _,rfl,rfl,hll.out,hwl,hb,(show _=_ by rw [hv.out];simp [nb]),hr⟩
   case round=>
    obtain⟨j,c,l2,hj,hc,rfl,rfl,hl2,hw2,hb2,hv2,hr2'⟩:=hrel
    clear hll hwl hb hv
    by_cases hjq:j<q
    ·have hcx2:=(hr1'.ext hr2').get (by omega) (i:=i) (by omega)
     obtain⟨a',x',ha',hxk',_,hcx'⟩:=hcx2
     cases ha'
     obtain rfl:x'=x:=by rw [←hxk'.out,hxk.out]
     obtain⟨b,y,rfl,hyk,hyb,hcy⟩:=(hr2.ext hr2').get (by omega) (i:=j) (by omega)
     obtain⟨o,hok,aC,hco⟩:=hb2.digit (by omega) hw2 (i:=i+j) (by rw [hl2.out];omega)
     have hfr:=hb2.frozen (i+j)
     obtain⟨m1,m2,m3⟩:=MZ (B:=65535) (x:=x') (y:=y) (by omega) (by omega)
     have M3:=Lib.hid m3
     clear m3 hcx hxk'
     have m1':(x':Int)*(y:Int)≤4294836225:=by simpa using m1
     clear m1
     go_wp2_with fail
     go_quiet (fail)
     go_wp2_with fail
     go_roundw
     case rel=>
      have hs:o+x'*y+c≤4294967295:=by
       have h:=M3.out
       have:x'*y≤4294836225:=by omega
       omega
      have ev:((o:Int)+(x':Int)*(y:Int)+(c:Int))=((o+x'*y+c:Nat):Int):=by rw [M3.out];omega
      refine⟨j+1,(o+x'*y+c)/65536,l2.set (i+j) ((o+x'*y+c)%65536),by omega,by omega,by go_num,by rw [ev];exact eP,by show _=_;rw [List.length_set];exact hl2.out,iM hw2 _ (hx:=(gB _ (by omega))),?_,
       MV (k:=i+j) (m:=i+q) G (by omega) (by rw [hl2.out];omega) hv2.out hok.out (by rw [hel.out];omega) hyk.out (jN _ _),(by first | exact (hr2'.drewN _).setCell hgc _ | exact (hr2'.setCell hgc _).drewN _)⟩
      have ev2:((o:Int)+(x':Int)*(y:Int)+(c:Int))%65536=(((o+x'*y+c)%65536:Nat):Int):=by rw [ev];omega
      rw [←oK,←ev2];exact (hb2.drewN _).set _ _
     case measure=>simp [intOf];omega
    ·obtain rfl:j=q:=by omega
     obtain⟨o,hok,aC,hco⟩:=hb2.digit (by omega) hw2 (i:=i+j) (by rw [hl2.out];omega)
     have hfr:=hb2.frozen (i+j)
     go_wp2_with fail
     go_roundw
     case rel=>
      refine⟨i+1,l2.set (i+j) c,by omega,by go_num,by show _=_;rw [List.length_set];exact hl2.out,iM hw2 _,by rw [←oK];exact hb2.set _ _,?_,hr2'.setCell hgc _⟩
      show _=_
      rw [show i+1+j=i+j+1 from by omega,oI 65536 (by rw [hl2.out];omega),hv2.out,List.take_of_length_le (l:=es) (i:=j) (by rw [hel.out];omega),gX 65536 ds i (by rw [hdl.out];omega),hxk.out,dV,←bZ,cM x]
     case measure=>simp [intOf];omega
  ·obtain rfl:i=p:=by omega
   have hr3:Ri 65536 wr (some ⟨g,0,none⟩) (i+q) (i+q) l:=by
    have:=hb.ri hwl (o:=0) (n:=i+q) (cap:=i+q) (aS _) (by rw [hll.out];omega) (by rw [eB];omega)
    rwa [i9,List.take_of_length_le (by rw [hll.out];omega)] at this
   have hval:Hid (nb 65536 l=nv xs*nv ys):=by
    show _=_
    have h:=hv.out
    rwa [List.take_of_length_le (by rw [hll.out];omega),List.take_of_length_le (by rw [hdl.out];omega),hvx.out,hvy.out] at h
   go_wp2_with fail
   refine (LT hr3 (by omega)).mono ?_
   rintro e w3 ⟨A3,n3,c3,rfl,hn3,hr4,ho4,hx3⟩
   go_wp2_with fail
   go_ret
   rw [hval.out] at hn3 hr4 ho4
   exact⟨A3,n3,c3,rfl,hn3,hr4,ho4.mono (hx12.trans hr).size,(hx12.trans hr).trans hx3⟩
end Go.Proofs.YtkkabncicmhjfaaGreat
