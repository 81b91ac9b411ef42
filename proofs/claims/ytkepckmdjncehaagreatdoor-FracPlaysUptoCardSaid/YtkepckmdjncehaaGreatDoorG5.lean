/- Parts Rf8b, Rxd, Rt, Ru, Rxe, Rv, Rw, Atx, Law4, Law4t, Grp2, Strc, Law5s, Atr, Lg8, Fbt, Ref5b, Pj, Own0, Own, Ref4, Ref4t, Ref4r, Ref5d, joined. -/
import Derived.Test.YtkepckmdjncehaaGreatDoorG4
import Derived.Laws.Slices

open Go renaming Addr → aB, Calls → aP, Edge → fP, Exit → dI, Next → fI, Oper → bD, Operand → cN, Program → bW, TypeId → aS, Value → aM, World → a6
open Go.Instr renaming makeSlice → qJ
open Int renaming toNat_natCast → gZ
open List renaming append_nil → mF, drop_zero → gP, getD_eq_getElem?_getD → bK, getElem?_drop → oZ, getElem?_eq_getElem → cC, getElem?_eq_none → k8, getElem?_map → mE, getElem?_take → kY, getElem_mem → mD, length_append → fU, length_cons → eN, length_drop → gO, length_eq_zero_iff → sM, length_take → dH, map_cons → jZ, map_nil → kX, map_take → kW, mem_append → nV, mem_map → qI, mem_of_mem_drop → qH, mem_of_mem_take → qG, mem_singleton → oY, replicate → cJ, take_append_drop → sK
open Nat renaming add_mul → dK, add_zero → fC, div_le_self → fH, div_lt_self → kI, le_refl → aZ, le_trans → a8, lt_of_le_of_lt → jY, lt_of_lt_of_le → dJ, min_eq_left → gD, mod_lt → f7, mul_add → cI, mul_assoc → bX, mul_le_mul → jP, mul_le_mul_left → fJ, mul_le_mul_right → eI, mul_one → dV, mul_pos → iL, pow_add → dU, pow_le_pow_right → eS, pow_pos → gB, pow_succ → cW, zero_add → eJ, zero_le → bJ
open Go.Next renaming value → fZ
open Option renaming getD_some → oU, map_some → wH
open Option.some renaming injEq → eB
open Or renaming inl → cH, inr → cO
open Go.Sem renaming run_bind → cE
open Go.Proofs.Tryz renaming prog → aN
open Go.Value renaming int → dP
open Go.World renaming block_lt_of_cell? → u6
open Go.World.grownBy renaming refl → EF
namespace Go.Proofs.YtkepckmdjncehaaGreatDoor
set_option maxHeartbeats 4000000
variable {A Aa Ab Ad Ae B C PA:Option aB}{L a bs ds hi l pre ps tl xs ys zs:List Nat}{N X ac an b base base' c c' ca cap cap' cb cd ce d g i ip j k lb m m' n n' na ne p pb pn r unit width z:Nat}{P:bW}{T T' e t ty:aS}{af:Array fP}{dst:Option Tmp}{gd:Option (Nat×Bool)}{high low:Option aM}{o:BinOp}{ops:Array bD}{q u v x y:Int}{rest:List bD}{s sa sb sd se:Bool}{us:List aM}{w w':a6}
section
open Go.RowKit
theorem CB (h:y=0):bP x y=0:=if_pos h
theorem IQ (h:y=0):bS x y=0:=if_pos h
theorem oI (h:y=0):bI y=4:=if_pos h
theorem nE (h:y≠0):bI y=0:=if_neg h
theorem oH (h:y≠0):Low (bP x y) (bS x y) x y:=by
 have hg:=uX (x:=x) h
 have hN:bP x y*jS x y=x:=by
  unfold bP;rw [if_neg h]
  exact Int.tdiv_mul_cancel (Int.natAbs_dvd_natAbs.1 (Nat.dvd_of_mod_eq_zero (CD x y)))
 have r:bS x y*jS x y=y:=by
  unfold bS;rw [if_neg h]
  exact Int.tdiv_mul_cancel (Int.natAbs_dvd_natAbs.1 (Nat.dvd_of_mod_eq_zero (CC x y)))
 have e:0<Int.gcd x y:=Int.gcd_pos_of_ne_zero_right x h
 generalize bP x y=p at hN
 generalize bS x y=q at r
 have f:=xS x y
 have hs:(0<jS x y↔0<y):=by unfold jS;split <;> omega
 generalize jS x y=g at*
 have F:0<q:=by
  rcases Int.lt_or_gt_of_ne h with E | E
  ·have o:g<0:=by omega
   rcases Int.lt_trichotomy 0 q with h1 | h1 | h1
   ·exact h1
   ·rw [←h1,Int.zero_mul] at r;omega
   ·have:=Int.mul_pos_of_neg_of_neg h1 o;omega
  ·have o:0<g:=hs.2 E
   rcases Int.lt_trichotomy 0 q with h1 | h1 | h1
   ·exact h1
   ·rw [←h1,Int.zero_mul] at r;omega
   ·have:=Int.mul_neg_of_neg_of_pos h1 o;omega
 refine⟨F,?_,?_,?_,?_⟩
 ·have D:Int.gcd (p*g) (q*g)=Int.gcd p q*g.natAbs:=Int.gcd_mul_right p g q
  rw [hN,r,f] at D
  have G:Int.gcd p q*Int.gcd x y=1*Int.gcd x y:=by rw [Nat.one_mul];exact D.symm
  exact Nat.eq_of_mul_eq_mul_right e G
 ·rw [←hN,←r];grind
 ·rw [←hN,Int.natAbs_mul,f];exact Nat.le_mul_of_pos_right _ e
 ·rw [←r,Int.natAbs_mul,f];exact Nat.le_mul_of_pos_right _ e
theorem yB {p:Int}(h:Low p q x y):y≠0∧p=bP x y∧q=bS x y:=by
 have f:y≠0:=fun e=>by have:=h.nq;have:=h.pos;subst e;simp at*;omega
 exact⟨f,h.uniq (oH f) f f rfl⟩
def jE (x y u v:Int):Int:=if v=0 then 0 else bP (x*v) (y*u)
def jG (x y u v:Int):Int:=if v=0 then 0 else bS (x*v) (y*u)
def jF (y u v:Int):Int:=if v=0 then 4 else bI (y*u)
theorem QU (h:y=0):bE (bP x y) 0=0:=by rw [CB h];rfl
theorem I7 {nb:Nat}{nd:Nat}(hb:b≤w.heap.size)(hx:Zi w sa Aa na ca x)(la:na≤268435456)(hy:Zi w sb Ab nb cb y)(lb:nb≤268435456)(hu:Zi w sd Ad nd cd u)(ld:nd≤268435456)(hv:Zi w se Ae ne ce v)(le:ne≤268435456):aP aN 84 #[a9 sa Aa na ca sb Ab nb cb,a9 sd Ad nd cd se Ae ne ce] w (Gv w (T2 (FR b (bP (x*v+ -u*y) (y*v)) (bS (x*v+ -u*y) (y*v))) (Is (no (bI (y*v)))))):=by
 refine Calls.mono (R:=Gv w (T2 (FR w.heap.size (bP (x*v+ -u*y) (y*v)) (bS (x*v+ -u*y) (y*v))) (Is (no (bI (y*v)))))) ?_ (Gv.imp (T2.imp (FR.imp hb) Is.imp))
 have Lx:ln x≤268435456:=a8 hx.ln la
 have Ly:ln y≤268435456:=a8 hy.ln lb
 have Lu:ln u≤268435456:=a8 hu.ln ld
 have Lv:ln v≤268435456:=a8 hv.ln le
 refine bN Tryz.func84 J (n:=16) J (bq J) (args:= [a9 sa Aa na ca sb Ab nb cb,a9 sd Ad nd cd se Ae ne ce]) (bG [(0,a9 sa Aa na ca sb Ab nb cb),(1,a9 sd Ad nd cd se Ae ne ce)] ⟨rfl,rfl,AT⟩ (sr (bx [.bool sa,we Aa na ca,.bool sb,we Ab nb cb] (Ext.refl w) J J J fun _ _ ar _ _ da=>(fG [.bool sd,we Ad nd cd,.bool se,we Ae ne ce] da ar.lt J J J fun g6 _ aj _ _ e8 eg=>(bL [F0,S0,F0,S0] eg aj.lt (fun _=>by kernel_rfl) J fun _ _ ch bi _ ak ai=>(mv 1 J (a7 (aD ?_))))))))
 have ao:ln (-u)≤268435456:=by rw [g0];exact Lu
 have ey:ln (bP (x*v+(-u)*y) (y*v))≤536870913:=fR (a8 (dN (cK Lx Lv) (cK ao Ly)) (by decide))
 have ew:ln (bS (x*v+(-u)*y) (y*v))≤536870912:=fY (cK Ly Lv)
 refine dG bY 10 [8,9] [Is (a9 sa Aa na ca sb Ab nb cb),Is (i5 g6 0),Is (O sd Ad nd cd),ZR w.heap.size (-u),Is (i5 g6 2),Is (O se Ae ne ce),fun v' w'=>∃s0 A0 n0 c0,v'= a9 s0 A0 n0 c0 se Ae ne ce∧Zr w' w.heap.size s0 A0 n0 c0 (-u),T2 (FR w.heap.size (bP (x*v+(-u)*y) (y*v)) (bS (x*v+(-u)*y) (y*v))) (Is (no (bI (y*v)))),fun v' w'=>∃s0 A0 n0 c0 s1 A1 n1 c1,v'= a9 s0 A0 n0 c0 s1 A1 n1 c1∧Zr w' w.heap.size s0 A0 n0 c0 (bP (x*v+(-u)*y) (y*v))∧Zr w' w.heap.size s1 A1 n1 c1 (bS (x*v+(-u)*y) (y*v)),Is (no (bI (y*v)))] [[],[],[1],[2],[],[4],[3,5],[0,6],[7],[7]] [[],[],[1],[1,2],[],[4],[1,2,3,4,5],[0,1,2,3,4,5,6],[0,1,2,3,4,5,6,7],[0,1,2,3,4,5,6,7],[0,1,2,3,4,5,6,7,8,9],[0,1,2,3,4,5,6,7,8,9,10]] rfl
  (aH J J (aE J J ?_) (aH J J (aE J J ?_) (aH J J (aE J J ?_) (aH J J (aE J J ?_) (aH J J (aE J J ?_) (aH J J (aE J J ?_) (aH J J (aE J J ?_) (aH J J (aE J J ?_) (fD J J (fE J ?_) (fD J J (fE J ?_) d9)))))))))) ?_
 ·exact fun _ dm=>aC (lo bC (ar.ext (e8.t (ak.t dm))) [.bool sa,we Aa na ca,.bool sb,we Ab nb cb] J J J (aG J aL J))
 ·exact fun _ _=>aC (pf g6 0 J (aG J aL J))
 ·exact fun _ cv=>dk J J (aC (lo aA (aj.ext (ak.t cv)) (a5 sd Ad nd cd) J J J (aG J aL J)))
 ·intro _ ct
  have e:=ai.trans ct
  refine dk J J (aC ?_)
  have ez:ln (-u)≤268435456:=by rw [g0];exact Lu
  refine cl (vs:= [O sd Ad nd cd]) e (JW e.size (hu.ext e) (aK ld J)) J (by kernel_rfl) fun _ _ df ck ap=>?_
  obtain⟨_,_,_,_,rfl,de⟩:=df
  exact aG J ck ⟨_,_,_,_,rfl,de⟩
 ·exact fun _ _=>aC (pf g6 2 J (aG J aL J))
 ·exact fun _ cu=>dk J J (aC (lo aA (aj.ext (ak.t cu)) (a5 se Ae ne ce) J J J (aG J aL J)))
 ·intro _ _
  refine aT J J fun _ _ cp _ ei=>?_
  obtain⟨el,dw,ej,du,rfl,aq⟩:=cp
  have aq:=aq.ext ei
  refine dk J J (aC (pu (v:= a9 el dw ej du se Ae ne ce) J ?_))
  exact aG J aL ⟨_,_,_,_,rfl,aq⟩
 ·intro _ dh
  have e:=ai.trans dh
  refine dk J J (aT J J fun _ _ dx _ cz=>?_)
  obtain⟨ef,dz,dl,eh,rfl,M⟩:=dx
  have M:=M.ext cz
  refine aC ?_
  have en:ln (bP (x*v+(-u)*y) (y*v))≤536870913:=fR (a8 (dN (cK Lx Lv) (cK ao Ly)) (by decide))
  have em:ln (bS (x*v+(-u)*y) (y*v))≤536870912:=fY (cK Ly Lv)
  refine cl (vs:= [a9 sa Aa na ca sb Ab nb cb,a9 ef dz dl eh se Ae ne ce]) e (I9 e.size (hx.ext e) (aK la J) (hy.ext e) (aK lb J) M.zi (M.le (aK ao J)) (hv.ext e) (aK le J)) J (by kernel_rfl) fun _ _ dg dy ap=>?_
  obtain⟨_,_,rfl,⟨_,_,_,_,_,_,_,_,rfl,dt,cm⟩,rfl⟩:=dg
  exact aG J dy ⟨_,_,rfl,⟨_,_,_,_,_,_,_,_,rfl,dt,cm⟩,rfl⟩
 ·intro _ _
  refine aT J J fun _ _ dr _ ci=>?_
  obtain⟨_,_,rfl,⟨aw,bd,bp,bm,bw,ba,bg,bj,rfl,q,I⟩,rfl⟩:=dr
  have q:=q.ext ci
  have I:=I.ext ci
  refine aC ?_
  exact⟨a9 aw bd bp bm bw ba bg bj,rfl,rfl,fun _=>by kernel_rfl,⟨_,_,_,_,_,_,_,_,rfl,q,I⟩⟩
 ·intro _ _
  refine aT J J fun _ _ bo _ V=>?_
  obtain⟨_,_,rfl,⟨_,_,_,_,_,_,_,_,rfl,ae,ah⟩,rfl⟩:=bo
  have ae:=ae.ext V
  have ah:=ah.ext V
  refine aC ?_
  exact⟨no (bI (y*v)),rfl,rfl,fun _=>by kernel_rfl,rfl⟩
 ·intro _ ag
  have e:=ai.trans ag
  refine dk J J (dk J J (dk J J (aT J J fun _ _ bh _ au=>?_)))
  obtain⟨_,_,_,_,rfl,ab⟩:=bh
  have ab:=ab.ext au
  refine dk J J (dk J J (aT J J fun _ _ az _ bf=>?_))
  obtain⟨_,_,_,_,rfl,X⟩:=az
  have X:=X.ext bf
  refine aT J J fun _ _ av _ Z=>?_
  obtain⟨_,_,rfl,⟨_,_,_,_,_,_,_,_,rfl,aa,Y⟩,rfl⟩:=av
  have aa:=aa.ext Z
  have Y:=Y.ext Z
  refine aT J J fun _ _ bu _ U=>?_
  obtain⟨G,h,p,r,D,o,H,F,rfl,L,E⟩:=bu
  have L:=L.ext U
  have E:=E.ext U
  refine dk J J (aC ?_)
  have f:=(ch.ext ag)
  refine so bC f [.bool G,we h p r,.bool D,we o H F] e bi J J J J fun _ am W ap=>(mv 1 J (aX (dC (aO (aV (aU [a9 G h p r D o H F,no (bI (y*v))] J ⟨⟨_,rfl,bH bC am [.bool G,we h p r,.bool D,we o H F] J (bq J) rfl⟩,rfl,AT⟩ ?_))))))
  exact⟨_,rfl,⟨_,_,rfl,⟨_,_,_,_,_,_,_,_,rfl,((L.updT f W)).cast (J),((E.updT f W)).cast (J)⟩,rfl⟩,ap⟩
theorem T8 {nb:Nat}{nd:Nat}(hx:Zi w sa Aa na ca x)(la:na≤268435456)(hy:Zi w sb Ab nb cb y)(lb:nb≤268435456)(hu:Zi w sd Ad nd cd u)(ld:nd≤268435456)(hv:Zi w se Ae ne ce v)(le:ne≤268435456):aP aN 87 #[a9 sa Aa na ca sb Ab nb cb,a9 sd Ad nd cd se Ae ne ce] w (Gv w (T2 (Is (no (bE (bP (x*v+ -u*y) (y*v)) 0))) (Is (no (bI (y*v)))))):=by
 have Lx:ln x≤268435456:=a8 hx.ln la
 have Ly:ln y≤268435456:=a8 hy.ln lb
 have Lu:ln u≤268435456:=a8 hu.ln ld
 have Lv:ln v≤268435456:=a8 hv.ln le
 refine bN Tryz.func87 J (n:=20) J (bq J) (args:= [a9 sa Aa na ca sb Ab nb cb,a9 sd Ad nd cd se Ae ne ce]) (bG [(0,a9 sa Aa na ca sb Ab nb cb),(1,a9 sd Ad nd cd se Ae ne ce)] ⟨rfl,rfl,AT⟩ (sr (bx [.bool sa,we Aa na ca,.bool sb,we Ab nb cb] (Ext.refl w) J J J fun _ _ E _ _ aj=>(fG [.bool sd,we Ad nd cd,.bool se,we Ae ne ce] aj E.lt J J J fun _ _ M _ _ e8 e=>(mv 2 J (a7 (sr (lo bC (E.ext e8) [.bool sa,we Aa na ca,.bool sb,we Ab nb cb] J J J (lo bC M [.bool sd,we Ad nd cd,.bool se,we Ae ne ce] J J J ?_)))))))))
 have X:ln (bP (x*v+ -u*y) (y*v))≤536870913:=fR (a8 (dN (cK Lx Lv) (cK (by rw [g0];exact Lu) Ly)) (by decide))
 have am:ln (bS (x*v+ -u*y) (y*v))≤536870912:=fY (cK Ly Lv)
 refine cl (vs:= [a9 sa Aa na ca sb Ab nb cb,a9 sd Ad nd cd se Ae ne ce]) e (I7 e.size (hx.ext e) (aK la J) (hy.ext e) (aK lb J) (hu.ext e) (aK ld J) (hv.ext e) (aK le J)) J (by kernel_rfl) fun _ _ ak ae aa=>?_
 obtain⟨_,_,rfl,⟨q,p,o,f,F,L,H,G,rfl,I,_⟩,rfl⟩:=ak
 refine mv 1 J (pu (v:= a9 q p o f F L H G) J (pu (v:= no (bI (y*v))) J (bL [F0,S0,F0,S0] aa (M.ext ae).lt (fun _=>by kernel_rfl) J fun ai _ r U _ Y ab=>(so bC r [.bool q,we p o f,.bool F,we L H G] ab U J J J J fun _ V ag D=>(mv 1 J (a7 (aD (aD ?_))))))))
 by_cases W:y*v=0
 ·refine aF (mv 1 J (aI J J J true (nF (h:=(by rw [oI W];decide))) (a7 (aW J (sr (mv 3 J (a7 (aV (bR (aU [I0,no (bI (y*v))] J ⟨rfl,rfl,AT⟩ ?_))))))))))
  exact⟨_,rfl,⟨_,_,rfl,(show (no 0:aM)=_ by rw [QU W]),rfl⟩,D⟩
 ·refine aF (mv 1 J (aI J J J false (lI (nE W)) (a7 (aQ J (aY (aO (sr (pf ai 0 J (lo aA V (a5 q p o f) J J J (cl (vs:= [O q p o f]) D (eV ((I.ext Y).updT r ag).zi (I.le (aK X J))) J (by kernel_rfl) fun _ _ Z _ ah=>?_))))))))))
  obtain rfl:=Z
  refine mv 2 J (a7 (aV (aU [no (bE (bP (x*v+ -u*y) (y*v)) 0),I0] J ⟨rfl,rfl,AT⟩ ?_)))
  exact⟨_,rfl,⟨_,_,rfl,rfl,(show (no 0:aM)=_ by rw [nE W])⟩,ah⟩
theorem T7 {nb:Nat}{nd:Nat}(hb:b≤w.heap.size)(hx:Zi w sa Aa na ca x)(la:na≤268435456)(hy:Zi w sb Ab nb cb y)(lb:nb≤268435456)(hu:Zi w sd Ad nd cd u)(ld:nd≤268435456)(hv:Zi w se Ae ne ce v)(le:ne≤268435456):aP aN 86 #[a9 sa Aa na ca sb Ab nb cb,a9 sd Ad nd cd se Ae ne ce] w (Gv w (T2 (FR b (jE x y u v) (jG x y u v)) (Is (no (jF y u v))))):=by
 refine Calls.mono (R:=Gv w (T2 (FR w.heap.size (jE x y u v) (jG x y u v)) (Is (no (jF y u v))))) ?_ (Gv.imp (T2.imp (FR.imp hb) Is.imp))
 have Lx:ln x≤268435456:=a8 hx.ln la
 have Ly:ln y≤268435456:=a8 hy.ln lb
 have Lu:ln u≤268435456:=a8 hu.ln ld
 have Lv:ln v≤268435456:=a8 hv.ln le
 refine bN Tryz.func86 J (n:=24) J (bq J) (args:= [a9 sa Aa na ca sb Ab nb cb,a9 sd Ad nd cd se Ae ne ce]) (bG [(0,a9 sa Aa na ca sb Ab nb cb),(1,a9 sd Ad nd cd se Ae ne ce)] ⟨rfl,rfl,AT⟩ (sr (bx [.bool sa,we Aa na ca,.bool sb,we Ab nb cb] (Ext.refl w) J J J fun g1 _ E _ _ fk=>(fG [.bool sd,we Ad nd cd,.bool se,we Ae ne ce] fk E.lt J J J fun g6 _ F _ _ e8 fv=>(bL [F0,S0,F0,S0] fv F.lt (fun _=>by kernel_rfl) J fun _ _ ae U _ o f=>(mv 1 J (a7 (aD (aD ?_)))))))))
 by_cases h:v=0
 ·have h0:y=0∨v=0:=cO h
  refine aF (lo bC (E.ext (e8.t o)) [.bool sa,we Aa na ca,.bool sb,we Ab nb cb] J J J (lo bC (F.ext o) [.bool sd,we Ad nd cd,.bool se,we Ae ne ce] J J J (cl (vs:= [a9 sa Aa na ca sb Ab nb cb,a9 sd Ad nd cd se Ae ne ce]) f (xQ (hx.ext f) (aK la J) (hy.ext f) (aK lb J) (hu.ext f) (aK ld J) (hv.ext f) (aK le J) h0) J (by kernel_rfl) fun _ _ ft fq p=>?_)))
  obtain rfl:=ft
  refine pu (v:= AI) J (a7 (aW J (sr (pu (v:= .agg #[F0,S0,F0,S0]) J ?_))))
  have ew:=(ae.ext fq)
  refine so bC ew [F0,S0,F0,S0] p U J J J J fun dt ct _ e=>(mv 1 J (a7 (aV (bR (aU [.agg #[F0,S0,F0,S0],no 4] J ⟨⟨_,rfl,bH bC ct [F0,S0,F0,S0] J (bq J) rfl⟩,rfl,AT⟩ ?_)))))
  exact⟨_,rfl,⟨_,_,rfl,⟨_,_,_,_,_,_,_,_,rfl,((Zr.zero (w:=dt) (base:=w.heap.size))).cast (by simp only [jE,if_pos h]),((Zr.zero (w:=dt) (base:=w.heap.size))).cast (by simp only [jG,if_pos h])⟩,(show (no 4:aM)=_ by simp only [jF,if_pos h])⟩,e⟩
 ·by_cases ba:y=0
  ·have h0:y=0∨v=0:=cH ba
   have hz:y*u=0:=by rw [ba,Int.zero_mul]
   refine aF (lo bC (E.ext (e8.t o)) [.bool sa,we Aa na ca,.bool sb,we Ab nb cb] J J J (lo bC (F.ext o) [.bool sd,we Ad nd cd,.bool se,we Ae ne ce] J J J (cl (vs:= [a9 sa Aa na ca sb Ab nb cb,a9 sd Ad nd cd se Ae ne ce]) f (xQ (hx.ext f) (aK la J) (hy.ext f) (aK lb J) (hu.ext f) (aK ld J) (hv.ext f) (aK le J) h0) J (by kernel_rfl) fun _ _ fx fg p=>?_)))
   obtain rfl:=fx
   refine pu (v:= AI) J (a7 (aW J (sr (pu (v:= .agg #[F0,S0,F0,S0]) J ?_))))
   have ck:=(ae.ext fg)
   refine so bC ck [F0,S0,F0,S0] p U J J J J fun cz bp _ e=>(mv 1 J (a7 (aV (bR (aU [.agg #[F0,S0,F0,S0],no 4] J ⟨⟨_,rfl,bH bC bp [F0,S0,F0,S0] J (bq J) rfl⟩,rfl,AT⟩ ?_)))))
   exact⟨_,rfl,⟨_,_,rfl,⟨_,_,_,_,_,_,_,_,rfl,((Zr.zero (w:=cz) (base:=w.heap.size))).cast (by simp only [jE,bP,if_neg h,if_pos hz]),((Zr.zero (w:=cz) (base:=w.heap.size))).cast (by simp only [jG,bS,if_neg h,if_pos hz])⟩,(show (no 4:aM)=_ by simp only [jF,bI,if_neg h,if_pos hz])⟩,e⟩
  ·have fi:y≠0:=ba
   have fm:v≠0:=h
   refine aF (lo bC (E.ext (e8.t o)) [.bool sa,we Aa na ca,.bool sb,we Ab nb cb] J J J (lo bC (F.ext o) [.bool sd,we Ad nd cd,.bool se,we Ae ne ce] J J J (cl (vs:= [a9 sa Aa na ca sb Ab nb cb,a9 sd Ad nd cd se Ae ne ce]) f (C1 (hx.ext f) (aK la J) (hy.ext f) (aK lb J) (hu.ext f) (aK ld J) (hv.ext f) (aK le J) fi fm) J (by kernel_rfl) fun _ _ fe Y p=>?_)))
   obtain rfl:=fe
   refine pu (v:= AS) J (a7 (aQ J (aY (aO (aD ?_)))))
   have bf:ln (x*v)≤536870912:=a8 (cK Lx Lv) (by decide)
   have bd:ln (y*u)≤536870912:=a8 (cK Ly Lu) (by decide)
   have gf:ln (bP (x*v) (y*u))≤536870912:=fR bf
   have gg:ln (bS (x*v) (y*u))≤536870912:=fY bd
   refine dG bY 13 [11,12] [Is (i5 g1 0),Is (O sa Aa na ca),Is (i5 g6 2),Is (O se Ae ne ce),ZR w.heap.size (x*v),Is (i5 g1 2),Is (O sb Ab nb cb),Is (i5 g6 0),Is (O sd Ad nd cd),ZR w.heap.size (y*u),T2 (FR w.heap.size (bP (x*v) (y*u)) (bS (x*v) (y*u))) (Is (no (bI (y*u)))),fun v' w'=>∃s0 A0 n0 c0 s1 A1 n1 c1,v'= a9 s0 A0 n0 c0 s1 A1 n1 c1∧Zr w' w.heap.size s0 A0 n0 c0 (bP (x*v) (y*u))∧Zr w' w.heap.size s1 A1 n1 c1 (bS (x*v) (y*u)),Is (no (bI (y*u)))] [[],[0],[],[2],[1,3],[],[5],[],[7],[6,8],[4,9],[10],[10]] [[],[0],[],[2],[0,1,2,3],[],[5],[],[7],[0,1,2,3,4,5,6,7,8],[0,1,2,3,4,5,6,7,8,9],[0,1,2,3,4,5,6,7,8,9,10],[0,1,2,3,4,5,6,7,8,9,10],[0,1,2,3,4,5,6,7,8,9,10,11,12],[0,1,2,3,4,5,6,7,8,9,10,11,12,13]] rfl
    (aH J J (aE J J ?_) (aH J J (aE J J ?_) (aH J J (aE J J ?_) (aH J J (aE J J ?_) (aH J J (aE J J ?_) (aH J J (aE J J ?_) (aH J J (aE J J ?_) (aH J J (aE J J ?_) (aH J J (aE J J ?_) (aH J J (aE J J ?_) (aH J J (aE J J ?_) (fD J J (fE J ?_) (fD J J (fE J ?_) d9))))))))))))) ?_
   ·exact fun _ _=>aC (pf g1 0 J (aG J aL J))
   ·exact fun _ fp=>dk J J (aC (lo aA (E.ext (e8.t (o.t (Y.t fp)))) (a5 sa Aa na ca) J J J (aG J aL J)))
   ·exact fun _ _=>aC (pf g6 2 J (aG J aL J))
   ·exact fun _ fy=>dk J J (aC (lo aA (F.ext (o.t (Y.t fy))) (a5 se Ae ne ce) J J J (aG J aL J)))
   ·intro _ ga
    have e:=p.trans ga
    refine dk J J (dk J J (aC ?_))
    have gi:ln (x*v)≤536870912:=a8 (cK Lx Lv) (by decide)
    refine cl (vs:= [O sa Aa na ca,O se Ae ne ce]) e (pS e.size (hx.ext e) (aK la J) (hv.ext e) (aK le J)) J (by kernel_rfl) fun _ _ fj fz ah=>?_
    obtain⟨_,_,_,_,rfl,fo⟩:=fj
    exact aG J fz ⟨_,_,_,_,rfl,fo⟩
   ·exact fun _ _=>aC (pf g1 2 J (aG J aL J))
   ·exact fun _ fd=>dk J J (aC (lo aA (E.ext (e8.t (o.t (Y.t fd)))) (a5 sb Ab nb cb) J J J (aG J aL J)))
   ·exact fun _ _=>aC (pf g6 0 J (aG J aL J))
   ·exact fun _ fh=>dk J J (aC (lo aA (F.ext (o.t (Y.t fh))) (a5 sd Ad nd cd) J J J (aG J aL J)))
   ·intro _ df
    have e:=p.trans df
    refine dk J J (dk J J (aC ?_))
    have gc:ln (y*u)≤536870912:=a8 (cK Ly Lu) (by decide)
    refine cl (vs:= [O sb Ab nb cb,O sd Ad nd cd]) e (pS e.size (hy.ext e) (aK lb J) (hu.ext e) (aK ld J)) J (by kernel_rfl) fun _ _ dz du ah=>?_
    obtain⟨_,_,_,_,rfl,bm⟩:=dz
    exact aG J du ⟨_,_,_,_,rfl,bm⟩
   ·intro _ dm
    have e:=p.trans dm
    refine aT J J fun _ _ dy _ dw=>?_
    obtain⟨cu,bi,em,el,rfl,r⟩:=dy
    have r:=r.ext dw
    refine aT J J fun _ _ dg _ ef=>?_
    obtain⟨cj,ci,cm,ez,rfl,D⟩:=dg
    have D:=D.ext ef
    refine aC ?_
    have gb:ln (bP (x*v) (y*u))≤536870912:=fR bf
    have ge:ln (bS (x*v) (y*u))≤536870912:=fY bd
    refine cl (vs:= [O cu bi em el,O cj ci cm ez]) e (pL e.size r.zi (r.le (aK bf J)) D.zi (D.le (aK bd J))) J (by kernel_rfl) fun _ _ dx bw ah=>?_
    obtain⟨_,_,rfl,⟨_,_,_,_,_,_,_,_,rfl,bj,dh⟩,rfl⟩:=dx
    exact aG J bw ⟨_,_,rfl,⟨_,_,_,_,_,_,_,_,rfl,bj,dh⟩,rfl⟩
   ·intro _ _
    refine aT J J fun _ _ eh _ ak=>?_
    obtain⟨_,_,rfl,⟨dl,cp,dr,ei,bo,bh,ey,ej,rfl,W,L⟩,rfl⟩:=eh
    have W:=W.ext ak
    have L:=L.ext ak
    refine aC ?_
    exact⟨a9 dl cp dr ei bo bh ey ej,rfl,rfl,fun _=>by kernel_rfl,⟨_,_,_,_,_,_,_,_,rfl,W,L⟩⟩
   ·intro _ _
    refine aT J J fun _ _ bu _ au=>?_
    obtain⟨_,_,rfl,⟨_,_,_,_,_,_,_,_,rfl,aw,ar⟩,rfl⟩:=bu
    have aw:=aw.ext au
    have ar:=ar.ext au
    refine aC ?_
    exact⟨no (bI (y*u)),rfl,rfl,fun _=>by kernel_rfl,rfl⟩
   ·intro _ ai
    have e:=p.trans ai
    refine dk J J (dk J J (dk J J (dk J J (aT J J fun _ _ de _ cv=>?_))))
    obtain⟨_,_,_,_,rfl,aj⟩:=de
    have aj:=aj.ext cv
    refine dk J J (dk J J (dk J J (dk J J (aT J J fun _ _ eg _ en=>?_))))
    obtain⟨_,_,_,_,rfl,ap⟩:=eg
    have ap:=ap.ext en
    refine aT J J fun _ _ da _ am=>?_
    obtain⟨_,_,rfl,⟨_,_,_,_,_,_,_,_,rfl,az,aq⟩,rfl⟩:=da
    have az:=az.ext am
    have aq:=aq.ext am
    refine aT J J fun _ _ ch _ av=>?_
    obtain⟨H,Z,ab,I,V,G,M,ag,rfl,aa,X⟩:=ch
    have aa:=aa.ext av
    have X:=X.ext av
    refine dk J J (aC ?_)
    have q:=(ae.ext (Y.t ai))
    refine so bC q [.bool H,we Z ab I,.bool V,we G M ag] e U J J J J fun _ bg ao ah=>(mv 1 J (aX (dC (aO (aV (aU [a9 H Z ab I V G M ag,no (bI (y*u))] J ⟨⟨_,rfl,bH bC bg [.bool H,we Z ab I,.bool V,we G M ag] J (bq J) rfl⟩,rfl,AT⟩ ?_))))))
    exact⟨_,rfl,⟨_,_,rfl,⟨_,_,_,_,_,_,_,_,rfl,((aa.updT q ao)).cast (by simp only [jE,if_neg h]),((X.updT q ao)).cast (by simp only [jG,if_neg h])⟩,(show (no (bI (y*u)):aM)=_ by simp only [jF,if_neg h])⟩,ah⟩
theorem VS {x s:Nat}(hs:s≤64)(hx:x*2^s≤9223372036854775807)(P:bW)(t:aS)(w:a6):(binOp .shl t (no (x:Int)) (up (s:Int))).run P w= .ok (no ((x*2^s:Nat):Int)) w:=by
 have e:((x:Int)*2^min (s:Int).toNat IntKind.i64.bits)=((x*2^s:Nat):Int):=by
  rw [gZ,show min s IntKind.i64.bits=s from gD hs];simp
 simp only [binOp]
 rw [shift_shl_any _ _ _ _ (by omega),e,IntWalk.i64_in _ ⟨by omega,by omega⟩];rfl
def C5 (e:ZC):aM:= we e.A e.n e.c
def Pw (w:a6)(pb:Nat)(PA:Option aB)(pn pc unit:Nat):Prop:=∃es:List ZC,Own w pb 22 1 PA pn pc (es.map C5)∧es.length=pn∧
 ∀i,i<pn→(es.getD i ZC.zero).n=(wd (unit^2^i)).length∧(es.getD i ZC.zero).n≤8388608∧Own w 0 65 1 (es.getD i ZC.zero).A (es.getD i ZC.zero).n (es.getD i ZC.zero).c ((wd (unit^2^i)).map bF)
theorem Pw.nil (w:a6)(pb unit:Nat):Pw w pb none 0 0 unit:=⟨[],Own.nil _ _ _ _,rfl,fun i hi=>by omega⟩
theorem Pw.ext {pc:Nat}(h:Pw w pb PA pn pc unit)(e:Ext w w'):Pw w' pb PA pn pc unit:=by
 obtain⟨es,h1,h2,f⟩:=h
 exact⟨es,h1.ext e,h2,fun i hi=>⟨(f i hi).1,(f i hi).2.1,(f i hi).2.2.ext e⟩⟩
theorem Pw.updW {pc:Nat}(h:Pw w pb PA pn pc unit)(u:UpdW lb w w'):Pw w' pb PA pn pc unit:=by
 obtain⟨es,h1,h2,e⟩:=h
 exact⟨es,u.own h1 (by decide) (by decide),h2,fun i hi=>⟨(e i hi).1,(e i hi).2.1,u.own (e i hi).2.2 (by decide) (by decide)⟩⟩
theorem Pw.updT {pc:Nat}(h:Pw w pb PA pn pc unit)(hb:Bk w g T us)(u:Upd g w w')(h1:22≠T)(h2:65≠T):Pw w' pb PA pn pc unit:=by
 obtain⟨es,o,f,e⟩:=h
 exact⟨es,o.updT hb h1 u,f,fun i hi=>⟨(e i hi).1,(e i hi).2.1,(e i hi).2.2.updT hb h2 u⟩⟩
theorem Pw.at {pc:Nat}(h:Pw w pb PA pn pc unit)(hi:i<pn):∃p A n c,PA.map (·.add (i*1))=some p∧w.cell? p=some (we A n c)∧n=(wd (unit^2^i)).length∧n≤8388608∧Own w 0 65 1 A n c ((wd (unit^2^i)).map bF):=by
 obtain⟨es,h1,h2,q⟩:=h
 obtain⟨a,o,f⟩:=h1.rv.get i (by omega)
 have e:(es.map C5).getD i undef=C5 (es.getD i ZC.zero):=by
  simp [bK,mE,cC (show i<es.length by omega)]
 rw [e] at f
 obtain⟨D,r,E⟩:=q i hi
 exact⟨a.add i,_,_,_,by rw [o,dV];rfl,f,D,r,E⟩
theorem Pw.mono {pb':Nat}{pc:Nat}(h:Pw w pb PA pn pc unit)(hb:pb'≤pb):Pw w pb' PA pn pc unit:=by
 obtain⟨es,h1,h2,e⟩:=h
 exact⟨es,h1.mono hb,h2,e⟩
theorem OC {Q:dI→Act→a6→Prop}{l:Fr}{pos:String}{x y:cN}{pc qc:Nat}(hw:dB ops l gd=some true)(hx:bV l x=some (we PA pn pc))(hy:bV l y=some (we (some ⟨g,0,none⟩) 1 c))(h:Pw w pb PA pn pc unit)(hpb:pb≤w.heap.size)(hb:Bk w g 22 [we A n qc])(hn:n=(wd (unit^2^pn)).length)(hn8:n≤8388608)(ho:Own w b 65 1 A n qc ((wd (unit^2^pn)).map bF))(hm:pn≤64)(hd:d<N)(k:∀A' c' w',Pw w' pb A' (pn+1) c' unit→UpdO PA w w'→(∃us,Own w pb 22 1 PA pn pc us)→wl aN ops Q N rest ((d,we A' (pn+1) c')::l) w'):wl aN ops Q N (⟨some d,.call {callee:= .builtin .append,args:= #[x,y],argTypes:= #[36,36]},ty,pos,af,gd⟩::rest) l w:=by
 obtain⟨es,h1,h2,f⟩:=h
 refine qM hw hx hy x7 VP J h1 hpb [we A n qc] J (tB _ hb) J (hn:=hd) fun A' c' w' ho' o _=>k A' c' w' ?_ o ⟨_,h1⟩
 refine⟨es++ [⟨false,A,n,qc⟩],by rw [List.map_append];exact ho',by simp [h2],fun i hi=>?_⟩
 by_cases e:i<pn
 ·rw [CX]
  exact⟨(f i e).1,(f i e).2.1,(f i e).2.2.updOT h1 (by decide) o⟩
 ·have q:i=pn:=by omega
  subst q
  have p:(es++ [(⟨false,A,n,qc⟩:ZC)]).getD i ZC.zero=⟨false,A,n,qc⟩:=by rw [←h2];exact CW
  rw [p]
  exact⟨hn,hn8,(ho.mono (bJ b)).updOT h1 (by decide) o⟩
theorem a0b {x:Nat}(h:Bk w g 65 [up x])(hx:x≤18446744073709551615)(h0:x≠0):Own w 0 65 1 (some ⟨g,0,none⟩) 1 1 ((wd x).map bF):=
 rA (Own.mk_ (bJ _) h (aZ _) (by rw [eG];omega) J J) hx h0
theorem IE {u:Nat}:u^2^j*u^2^j=u^2^(j+1):=by rw [←dU,cW];congr 1;omega
theorem VB (h:(wd p).length≤n):(wd (p*p)).length≤2*n:=by
 refine iX ?_
 have h1:=lY p
 have h2:p<WB^n:=dJ h1 (eS (by rw [cP];decide) h)
 rw [Nat.two_mul,dU]
 exact Nat.mul_lt_mul'' h2 h2
theorem xL (hx:Wi w A n c m)(hy:Wi w B n' c' m')(hl:n≤1099511627776:=by omega)(hl':n'≤1099511627776:=by omega):aP aN 144 #[we A n c,we B n' c'] w (Gv w (Is (no (dY m m')))):=by
 obtain⟨xs,h1,rfl⟩:=hx
 obtain⟨ys,h2,rfl⟩:=hy
 refine (tD h1 h2 (hl:=hl) (hl':=hl')).mono fun e w' h=>?_
 obtain⟨d,f,_,_,rfl,o⟩:=h
 exact⟨_,rfl,(show dP .i64 d=_ by rw [f.out]),o⟩
theorem RB (hb:b≤w.heap.size)(hx:Wi w A n c m)(hl:n≤274877906944)(hy:Wi w B n' c' m')(hl':n'≤274877906944)(h0:m'≠0):aP aN 199 #[we A n c,we B n' c'] w (Gv w (T3 (WR b (m/m')) (WR b (m%m')) (Is (no 0)))):=by
 obtain⟨xs,h1,rfl⟩:=hx
 obtain⟨ys,h2,rfl⟩:=hy
 refine (tP h1 h2 h0 (hl:=hl) (hl':=hl')).mono fun e w' h=>?_
 obtain⟨A,n,cap,B,m,cap',rfl,f,_,r,q,_,p,o⟩:=h
 exact⟨_,rfl,⟨_,_,_,rfl,⟨A,n,cap,rfl,f.out,r.mono hb⟩,⟨B,m,cap',rfl,q.out,p.mono hb⟩,rfl⟩,o⟩
theorem BM (hb:b≤w.heap.size)(hx:Wi w A n c m)(hl:n≤137438953472:=by omega):aP aN 198 #[we A n c] w (Gv w (WR b (m*m))):=by
 obtain⟨xs,h1,rfl⟩:=hx
 exact (CK h1 hl).mono (gw hb)
theorem ZK {x y:Nat}(h:x<y):cG .lss (dY x y) 0=some true:=vE (lO.2 h)
theorem ZL {x y:Nat}(h:y≤x):cG .lss (dY x y) 0=some false:=rD (h:=(by have:=lO (a:=x) (b:=y);omega))
theorem ZM {x y:Nat}(h:x≤y):cG .leq (dY x y) 0=some true:=JS (by have:=DP (a:=x) (b:=y);omega)
theorem ZN {x y:Nat}(h:y<x):cG .leq (dY x y) 0=some false:=JT (DP.2 h)
theorem II {u:Nat}(hu:2≤u)(h:u^2^ip≤m)(hl:(wd m).length≤an):2^ip≤64*an:=by
 have h1:=lY m
 rw [lQ,←Nat.pow_mul] at h1
 have h2:2^2^ip≤u^2^ip:=Nat.pow_le_pow_left hu _
 have e:2^(64*(wd m).length)≤2^(64*an):=eS (by decide) (fJ _ hl)
 exact Nat.le_of_lt ((Nat.pow_lt_pow_iff_right (by decide)).1 (jY h2 (jY h (dJ h1 e))))
theorem JZ (h:2^ip≤n)(hn:n≤268435456):ip≤28:=by
 refine Nat.le_of_not_lt fun h2=>?_
 have e:2^29≤2^ip:=eS (by decide) h2
 omega
theorem OU (hb:2≤b)(h:(b^k)^2^ip≤m)(h0:0<(b^k)^2^ip):dW (eF (db b (m/(b^k)^2^ip)) (width-k*2^ip))++dW (eF (db b (m%(b^k)^2^ip)) (k*2^ip))=dW (eF (db b m) width):=by
 have e:(b^k)^2^ip=b^(k*2^ip):=by rw [←Nat.pow_mul]
 rw [e] at h h0⊢
 have f:m/b^(k*2^ip)≠0:=by have:=Nat.div_pos h h0;omega
 have hr:(db b (m%b^(k*2^ip))).length≤k*2^ip:=kD hb (f7 _ h0)
 have hl:(eF (db b (m%b^(k*2^ip))) (k*2^ip)).length=k*2^ip:=by rw [rI];omega
 rw [←x9,IJ,←yX hb f,hl]
 by_cases o:k*2^ip≤width
 ·rw [show k*2^ip+(width-k*2^ip)=width by omega]
 ·have h2:k*2^ip≤(db b m).length:=by rw [yX hb f,fU,hl];omega
  rw [uV (by omega),uV (by omega)]
theorem OY (hb:2≤b)(h:(b^k)^2^ip≤m)(h0:0<(b^k)^2^ip):max (width-k*2^ip) (db b (m/(b^k)^2^ip)).length+k*2^ip=max width (db b m).length∨(width<k*2^ip∧(db b (m/(b^k)^2^ip)).length+k*2^ip=(db b m).length):=by
 have e:(b^k)^2^ip=b^(k*2^ip):=by rw [←Nat.pow_mul]
 rw [e] at h h0⊢
 have f:m/b^(k*2^ip)≠0:=by have:=Nat.div_pos h h0;omega
 have hr:(db b (m%b^(k*2^ip))).length≤k*2^ip:=kD hb (f7 _ h0)
 have hl:(eF (db b (m%b^(k*2^ip))) (k*2^ip)).length=k*2^ip:=by rw [rI];omega
 have h2:(db b m).length=k*2^ip+(db b (m/b^(k*2^ip))).length:=by rw [yX hb f,fU,hl]
 omega
def zV (ip:Nat):Prop:=∀{w:a6}{g base k unit:Nat}{PA:Option aB}{pn pc:Nat}{OA:Option aB}{on oc lb:Nat}{bs:List Nat}{A:Option aB}{an ac m width:Nat}{ii:Int}(_:ii=(ip:Int)-1) (_:Signs w) (_:4<lb) (_:2≤base) (_:base≤36) (_:Wr w g base k unit PA pn pc OA on oc)
 (_:Own w lb 5 1 OA on oc (bs.map B8)) (_:lb≤g) (_:lb≤w.heap.size) (_:Wi w A an ac m) (_:an≤4194304) (_:unit=base^k) (_:PieceK base k) (_:width≤137438953472) (_:on+max width (db base m).length≤137438953472) (_:Pw w 0 PA pn pc unit) (_:ip≤pn) (_:pn≤64),
 aP aN 228 #[i5 g 0,we A an ac,no ii,no width] w (zN w lb g base k unit PA pn pc OA (bs++dW (eF (db base m) width)))
theorem VW:zV 0:=by
 intro w g base k unit PA pn pc OA on oc lb bs A an ac m width ii _ F f e o I G p q H D h r E _ _ _ _
 obtain rfl:ii= -1:=by omega
 exact R2 F f e o I G p q H D h r E (by omega)
theorem VY (ih:zV ip):zV (ip+1):=by
 intro w g base k unit PA pn pc OA on oc lb bs A an ac m width ii _ hS G p W hW hO U V ha ak f F ew _ hP _ ab
 obtain rfl:ii=(ip:Int):=by omega
 have ah:(wd m).length≤4194304:=a8 ha.len ak
 have en:1≤k:=by refine Nat.pos_of_ne_zero (fun e=>?_);have:=F.gt;rw [e,eJ,Nat.pow_one] at this;omega
 have dh:2≤unit:=by rw [f];exact a8 p (a8 (Nat.le_of_eq (Nat.pow_one base).symm) (eS (by omega) en))
 refine bN Tryz.func228 J (n:=74) J (bq J) (args:= [i5 g 0,we A an ac,no (ip:Int),no width]) (bG [(0,i5 g 0),(1,we A an ac),(2,no (ip:Int)),(3,no width)] ⟨rfl,rfl,rfl,rfl,AT⟩ (aD (aD ?_)))
 by_cases fc:an≤12
 ·refine aF (mv 1 J (aI J J J false (rD) (mv 2 J (pu (v:= no an) J (aI J J J true (nM (a:=an) (b:=12) J J) (pu (v:= AI) J (a7 (aW J (sr (mv 3 J (dQ J J (vs:= [i5 g 0,we A an ac,no width]) (by kernel_rfl) (by decide) (GF hS G p W hW hO U (a8 V (UpdW.refl lb w).size) ha ak f F ew (by omega)) ?_)))))))))))
  rintro _ v1 ⟨rfl,A2,_,_,eh,cz,da,ef⟩
  refine dR ?_
  have D:UpdW lb w v1:=(UpdW.refl lb w).then da
  have eg:=(Kept.refl w OA).next ef (UpdW.refl lb w).size
  refine a7 (aV (bR (aU [] J AT ?_)))
  exact⟨rfl,A2,_,_,eh,cz,D,eg⟩
 ·refine aF (mv 1 J (aI J J J false (rD) (mv 2 J (pu (v:= no an) J (aI J J J false (nN (a:=an) (b:=12) J J) (pu (v:= AS) J (a7 (aQ J (aY (aO (aD (aD ?_))))))))))))
  by_cases dw:m<unit^2^ip
  ·refine aF (mv 2 J (pf g 0 J (pf g 3 J (bB J J (bM (fun _=>by kernel_rfl) hW J) (mv 1 J ?_)))))
   obtain⟨pp,BA,bn,bc,M,I,bu,Z,H⟩:=hP.at (i:=ip) (by omega)
   have X:0<unit^2^ip:=gB (by rw [f];exact gB (by omega))
   refine cD J J J x7 BC ip J pp M (bB J J (dF E2 I) (dQ J J (vs:= [we A an ac,we BA bn bc]) (by kernel_rfl) (by decide) (xL ha H.wi) ?_))
   rintro _ ck ⟨_,rfl,dg,q⟩
   refine dR ?_
   have D:UpdW lb w ck:=(UpdW.refl lb w).trans q
   have cj:Ext w ck:=(Ext.refl w).trans q
   obtain rfl:=dg
   refine aI J J J true (ZK dw) (a7 (aW J (sr (mv 3 J (aR J J J ((ip:Int)-1) (eL J) (mv 1 J (dQ J J (vs:= [i5 g 0,we A an ac,no ((ip:Int)-1),no width]) (by kernel_rfl) (by decide) (ih J (hS.ext q) G p W (hW.ext q) (hO.ext q) U (a8 V D.size) (ha.ext q) ak f F (by omega) (by omega) (hP.ext q) (by omega) ab) ?_)))))))
   rintro _ ei ⟨rfl,ey,_,_,bi,cm,au,ci⟩
   refine dR ?_
   have L:UpdW lb w ei:=D.then au
   have cp:=(Kept.refl w OA).next ci D.size
   refine a7 (aV (bR (aU [] J AT ?_)))
   exact⟨rfl,ey,_,_,bi,cm,L,cp⟩
  ·have az:unit^2^ip≤m:=by omega
   have ae:=II dh az ah
   have ej:=JZ ae (by omega)
   have ez:k*2^ip≤64*268435456:=jP F.le64 (by omega)
   have aa:(base^k)^2^ip≤m:=f▸az
   have aj:0<(base^k)^2^ip:=gB (gB (by omega))
   have df:(wd (m/unit^2^ip)).length≤4194304:=a8 (gK (fH _ _)) ah
   have dl:(wd (m%unit^2^ip)).length≤4194304:=a8 (gK (Nat.mod_le _ _)) ah
   have fd:(db base (m%unit^2^ip)).length≤k*2^ip:=kD p (by rw [Nat.pow_mul,←f];exact f7 _ (f▸aj))
   have dz:=OY (width:=width) p aa aj
   rw [←f] at dz
   refine aF (mv 2 J (pf g 0 J (pf g 3 J (bB J J (bM (fun _=>by kernel_rfl) hW J) (mv 1 J ?_)))))
   obtain⟨pp,BA,bn,bc,M,I,bu,Z,H⟩:=hP.at (i:=ip) (by omega)
   have X:0<unit^2^ip:=gB (by rw [f];exact gB (by omega))
   refine cD J J J x7 BC ip J pp M (bB J J (dF E2 I) (dQ J J (vs:= [we A an ac,we BA bn bc]) (by kernel_rfl) (by decide) (xL ha H.wi) ?_))
   rintro _ bh ⟨_,rfl,dy,h⟩
   refine dR ?_
   have D:UpdW lb w bh:=(UpdW.refl lb w).trans h
   have cj:Ext w bh:=(Ext.refl w).trans h
   obtain rfl:=dy
   refine aI J J J false (ZL (by omega)) (a7 (aQ J (aY (aO (sr (mv 2 J (pf g 0 J (pf g 3 J (bB J J (bM (fun _=>by kernel_rfl) (hW.ext h) J) (mv 1 J ?_))))))))))
   obtain⟨pp,BA,bn,bc,M,I,bu,Z,H⟩:=(hP.ext h).at (i:=ip) (by omega)
   have X:0<unit^2^ip:=gB (by rw [f];exact gB (by omega))
   refine cD J J J x7 BC ip J pp M (bB J J (dF E2 I) (dQ J J (vs:= [we A an ac,we BA bn bc]) (by kernel_rfl) (by decide) (RB (bJ _) (ha.ext h) (by omega) H.wi (by omega) (by omega)) ?_))
   rintro _ aw ⟨_,rfl,dt,o⟩
   refine dR ?_
   have L:UpdW lb w aw:=D.trans o
   have fe:Ext w aw:=cj.trans o
   obtain⟨_,_,_,rfl,⟨bp,ba,bg,rfl,de,dx⟩,⟨av,bw,bo,rfl,em,cv⟩,rfl⟩:=dt
   refine mv 1 J (pu (v:= we bp ba bg) J (pu (v:= we av bw bo) J (pu (v:= no 0) J (mv 3 J (a7 (sr (mv 1 J (pf g 0 J (pf g 1 J (bB J J (bM (fun _=>by kernel_rfl) (hW.ext (h.t o)) J) (mv 1 J (cS J J (v:= up (IntKind.u64.wrap ((ip:Nat):Int))) (v':= up ip) (mQ (by omega)) (nB J J J (r:= no ((k*2^ip:Nat):Int)) J (fun w=>VS (x:=k) (s:=ip) (by omega) (by omega) _ _ w) ?_)))))))))))))
   refine mv 1 J (a7 (sr (mv 3 J (aR J J J ((ip:Int)-1) (eL J) (mv 2 J (aR J J J (((width:Nat):Int)-((k*2^ip:Nat):Int)) (eL J) (wW J J J (((width-k*2^ip:Nat):Int)) (dQ J J (vs:= [i5 g 0,we bp ba bg,no ((ip:Int)-1),no ((width-k*2^ip:Nat):Int)]) (by kernel_rfl) (by decide) (ih J (hS.ext (h.t o)) G p W (hW.ext (h.t o)) (hO.ext (h.t o)) U (a8 V L.size) dx.wi (by rw [de];exact df) f F (by omega) (by omega) (hP.ext (h.t o)) (by omega) ab) ?_))))))))
   rintro _ el ⟨rfl,_,_,_,bj,Y,E,ar⟩
   refine dR ?_
   have ag:UpdW lb w el:=L.then E
   have ap:=(Kept.refl w OA).next ar L.size
   refine a7 (aF (mv 3 J (aR J J J ((ip:Int)-1) (eL J) (mv 1 J (dQ J J (vs:= [i5 g 0,we av bw bo,no ((ip:Int)-1),no ((k*2^ip:Nat):Int)]) (by kernel_rfl) (by decide) (ih J (E.signs (hS.ext (h.t o)) G) G p W bj Y U (a8 V ag.size) (E.own cv (by decide) (by decide)).wi (by rw [em];exact dl) f F (by omega) (by rw [oG Y,fU,x8,rI,←oG hO];omega) ((hP.ext (h.t o)).updW E) (by omega) ab) ?_)))))
   rintro _ du ⟨rfl,dm,_,_,ch,bf,aq,bd⟩
   refine dR ?_
   have dr:UpdW lb w du:=ag.then aq
   have bm:=ap.next bd ag.size
   refine aX (tO [] J AT ?_)
   exact⟨rfl,dm,_,_,ch,(by rw [←OU (ip:=ip) (width:=width) p aa aj,←f,←List.append_assoc];exact bf),dr,bm⟩
theorem xK:∀ip,zV ip
 | 0=>VW
 | ip+1=>VY (xK ip)
structure Rune (bs:List Nat)(p r z:Nat):Prop where
 le:r≤2147483647
 low:bs.getD p 0<128→r=bs.getD p 0∧z=1
 high:128≤bs.getD p 0→128≤r
theorem Rune.dv (h:Rune bs p r z):dv r=dv (bs.getD p 0):=by
 by_cases h1:bs.getD p 0<128
 ·rw [(h.low h1).1]
 ·rw [DD (h.high (by omega)),DD (by omega)]
theorem Rune.one (h:Rune bs p r z)(hd:Go.Proofs.YtkepckmdjncehaaGreatDoor.dv r<36):z=1∧r=bs.getD p 0∧r<128:=by
 by_cases h1:bs.getD p 0<128
 ·exact⟨(h.low h1).2,(h.low h1).1,by rw [(h.low h1).1];exact h1⟩
 ·rw [DD (h.high (by omega))] at hd;omega
theorem RE (hb:∀b,b∈bs→b<256)(hp:p<bs.length):Rune bs p (Utf8.decode (aJ bs) p).1 (Utf8.decode (aJ bs) p).2:=by
 refine⟨decode_le _ _,fun h=>by rw [ZB hb hp h];exact⟨rfl,rfl⟩,fun h=>?_⟩
 have hs:p<(aJ bs).size:=by rw [cX];exact hp
 exact (decode_high (aJ bs) p hs (by rw [uN hb hp hs];exact h)).1
section
variable {P:bW}{Q:dI→Act→a6→Prop}{n:Nat}{l:Fr}{w:a6}{ops:Array bD}{rest:List bD}{d:Nat}{ty:aS}{pos:String}{af:Array fP}{gd:Option (Nat×Bool)}
theorem O3 {x:cN}(hw:dB ops l gd=some true)(hx:bV l x=some (i5 g 0))(hb:∀b,b∈bs→b<256)(h:It w g bs p)(hp:p<bs.length)(hn:d<n)(k:∀w' r z,Rune bs p r z→It w' g bs (p+z)→Upd g w w'→wl P ops Q n rest ((d,.tuple #[AI,no (p:Int),.int .i32 (r:Int)])::l) w'):wl P ops Q n (⟨some d,.next x true,ty,pos,af,gd⟩::rest) l w:=
 O4 hw hx h hp hn fun w' h1 h2=>k w' _ _ (RE hb hp) h1 h2
theorem O7 {x y:cN}{z:aM}(hw:dB ops l gd=some true)(hx:bV l x=some (no 0))(hy:bV l y=some (no (k:Int)))(ht:P.underlying t=some (.slice e))(hinfo:(P.info? e).map (fun i=>(i.zero,i.size,i.bytes))=some (some z,1,1))(_hz:z.cells= #[z])(hk:k≤1099511627776)(hd:d<n)(h:∀g w',Own w' w.heap.size e 1 (some ⟨g,0,none⟩) 0 k []→Ext w w'→wl P ops Q n rest ((d,we (some ⟨g,0,none⟩) 0 k)::l) w'):wl P ops Q n (⟨some d,.makeSlice t x y,ty,pos,af,gd⟩::rest) l w:=by
 obtain⟨i,hi,f,p,q⟩:=info_parts hinfo
 have hr:=run_make (P:=P) w t e i _ ht hi f .i64 .i64 0 (k:Int) (by omega) (by omega) (by rw [q];omega) (by omega)
 rw [gZ,show (0:Int).toNat=0 from rfl,p] at hr
 obtain⟨cs,o,D⟩:∃cs:List aM,madeCells z.cells (k*1)=cs.toArray∧cs.length=k*1:=⟨(madeCells z.cells (k*1)).toList,Array.toArray_toList.symm,by rw [Array.length_toList,size_madeCells]⟩
 rw [o] at hr
 refine fW hw hd (fun a' E=>?_) (h _ (w.alloc (.cells cs.toArray e)) (cO ⟨w.heap.size,cs,rfl,aZ _,Bk.new _ _ _,bJ _,by rw [eG];omega,D,rfl⟩) ((Ext.refl w).alloc _))
 have e':(qJ t (a'.eval x) (a'.eval y)).run P w= .ok (we (some ⟨w.heap.size,0,none⟩) 0 k) (w.alloc (.cells cs.toArray e)):=by rw [E.ev hx,E.ev hy];exact hr
 show ((qJ t (a'.eval x) (a'.eval y)>>=fun r=>pure (fZ r):Sem fI)).run P w=_
 rw [cE,e'];rfl
end
theorem ZF {x:Nat}(h:x≤255):dP .u8 (IntKind.u8.wrap (x:Int))= .int .u8 (x:Int):=by rw [IntWalk.u8_in _ ⟨by omega,by omega⟩]
theorem rY {A B:Int}{a:Nat}(ha:A=(a:Int))(hb:B=(b:Int))(h:b≤a:=by omega)(h2:a≤2147483647:=by omega):fN .sub .i32 A B=some ((a-b:Nat):Int):=by
 subst ha hb;simp only [fN,eB];rw [show (a:Int)-(b:Int)=((a-b:Nat):Int) by omega,IntWalk.i32_in _ ⟨by omega,by omega⟩]
structure Rb (b:Nat)(w:a6)(A:Option aB)(n c:Nat)(xs:List Nat):Prop where
 rv:Rv w 1 A n c (xs.map B8)
 wf:∀x,x∈xs→x<b
theorem Rb.ext (h:Rb b w A n c xs)(e:Ext w w'):Rb b w' A n c xs:=⟨h.rv.ext e,h.wf⟩
theorem Rb.len (h:Rb b w A n c xs):xs.length=n:=by simpa using h.rv.len
theorem Rb.dig (h:Rb b w A n c xs)(hi:i<n):xs.getD i 0<b:=by
 have hl:=h.len
 refine h.wf _ ?_
 rw [bK,cC (by omega)]
 exact mD (by omega)
theorem Rb.at (_:True)(h:Rb b w A n c xs)(hi:i<n):∃p,A.map (·.add (i*1))=some p∧w.cell? p=some (.int .u8 ((xs.getD i 0:Nat):Int))∧xs.getD i 0<b:=by
 have hl:=h.len
 obtain⟨a,rfl,e⟩:=h.rv.get i (by omega)
 refine⟨a.add i,by rw [dV];rfl,?_,h.dig hi⟩
 rw [e,bK,mE,cC (by omega),bK,cC (by omega)]
 rfl
theorem Rb.take (h:Rb b w A n c xs)(hk:k≤n):Rb b w A k c (xs.take k):=by
 have hl:=h.len
 have f:=h.rv.le
 refine⟨⟨by rw [List.length_map,dH,hl];omega,by omega,h.rv.max,fun i hi=>?_,h.rv.blk⟩,fun x hx=>h.wf x (qG hx)⟩
 obtain⟨a,e,o⟩:=h.rv.get i (by omega)
 refine⟨a,e,o.trans ?_⟩
 rw [kW,bK,bK,kY,if_pos (by omega)]
theorem Rb.drop (h:Rb b w A n c xs)(hk:k≤n):Rb b w (if c=k then A else A.map (·.add (k*1))) (n-k) (c-k) (xs.drop k):=by
 have o:=h.rv.le
 have hl:=h.len
 refine⟨⟨by rw [List.length_map,gO,hl,dV],by omega,by have:=h.rv.max;omega,fun i hi=>?_,fun a e f=>?_⟩,fun x hx=>h.wf x (qH hx)⟩
 ·rw [if_neg (by omega)]
  obtain⟨a,rfl,f⟩:=h.rv.get (k+i) (by omega)
  refine⟨a.add (k*1),rfl,?_⟩
  rw [dV,Addr.add_add,f]
  simp [bK,mE,oZ]
 ·rw [if_neg (by omega)] at e
  cases A with
  | none=>cases e
  | some p=>
   cases e
   rw [tS]
   exact h.rv.blk p J (by omega)
theorem Own.rb (h:Own w lb 5 1 A n c (xs.map B8))(hd:∀x,x∈xs→x<b):Rb b w A n c xs:=⟨h.rv,hd⟩
theorem G0 (A:Option aB)(n c k:Nat):Value.slice (if c=k then A else A.map (·.add (k*1))) (n-k) (c-k)= we (if c=k then A else A.map (·.add (k*1))) (n-k) (c-k):=rfl
section
variable {w:a6}{b:Nat}
theorem R8 (hb:b≤w.heap.size){x y:Nat}(hx:Wi w A n c x)(hy:Wi w B m d y)(hN:n+m≤274877906944):aP aN 125 #[we A n c,we B m d] w (Gv w (WR b (x*y))):=by
 obtain⟨xs,h1,rfl⟩:=hx;obtain⟨ys,h2,rfl⟩:=hy
 exact (vD h1 h2 (hN:=hN)).mono (gw hb)
theorem UL (hx:Rd w A n cap xs)(hy:Rd w B m cap' ys)(hz:Rd w C k c zs)(hN:n+m≤274877906944)(hk:k≤1099511627775):aP aN 274 #[we A n cap,we B m cap',we C k c] w (iF w (nv xs*nv ys+nv zs)):=by
 go_enter Tryz.func274,Tryz.ntmps274
 go_wp2_with fail
 refine (J7 hx hy hN).mono ?_
 rintro e w1 ⟨k1,hk1,g1,z1,rfl,hg1,hb1,hw1,hl1,hv1,hx1⟩
 have hk1b:k1≤n+m:=by
  rw [hk1.out]
  have h1:=gJ hx.wf
  have h2:=gJ hy.wf
  rw [hx.len] at h1
  rw [hy.len] at h2
  omega
 go_wp2_with fail
 refine (y7 (NewP.rd hb1 hw1 hl1.out (by omega)) (by omega) (hz.ext hx1) hk).mono ?_
 rintro e w2 ⟨A2,n2,c2,rfl,hn2,hr2,ho2,hx2⟩
 go_wp2_with fail
 go_ret
 rw [hv1.out] at hn2 hr2 ho2
 exact⟨A2,n2,c2,rfl,hn2,hr2,ho2.mono hx1.size,hx1.trans hx2⟩
theorem R9 (hb:b≤w.heap.size){bn bc cn cc x y:Nat}(hx:Wi w A an ac x)(hy:Wi w B bn bc y)(hz:Wi w C cn cc z)(hN:an+bn≤274877906944)(hcn:cn≤1099511627775):aP aN 274 #[we A an ac,we B bn bc,we C cn cc] w (Gv w (WR b (x*y+z))):=by
 obtain⟨xs,h1,rfl⟩:=hx;obtain⟨ys,h2,rfl⟩:=hy;obtain⟨zs,e,rfl⟩:=hz
 exact (UL h1 h2 e hN hcn).mono (gw hb)
theorem RD (hb:b≤w.heap.size){x y:Nat}(hx:Wi w A n c x)(hl:n≤1099511627775)(hy:Wi w B m d y)(hl':m≤1099511627775):aP aN 145 #[we A n c,we B m d] w (Gv w (WR b (x+y))):=by
 obtain⟨xs,h1,rfl⟩:=hx;obtain⟨ys,h2,rfl⟩:=hy
 exact (y7 h1 hl h2 hl').mono (gw hb)
theorem R7 (hb:b≤w.heap.size){x v:Nat}(hx:Wi w A n c x)(hl:n≤137438953472)(hv:v≤18446744073709551615):aP aN 247 #[we A n c,up (v:Int)] w (Gv w (WR b (x*v))):=by
 obtain⟨xs,h1,rfl⟩:=hx
 exact (J4 h1 hl hv).mono (gw hb)
theorem RA (hb:b≤w.heap.size)(hx:Wi w A n c m)(hl:n≤1099511627776):aP aN 141 #[we A n c] w (Gv w (WR b m)):=(KP hx hl).mono (Gv.imp (WR.imp hb))
end
theorem vH (hb2:b≤36)(h:∀d,d∈ds→d<b)(hb:1≤b:=by omega):(wd (cB b ds)).length≤ds.length:=
 iX (dJ (B3 hb ds h) (Nat.pow_le_pow_left (by rw [cP];omega) _))
theorem CP (hb2:b≤36):(wd (b^n)).length≤n+1:=
 iX (jY (Nat.pow_le_pow_left (show b≤WB by rw [cP];omega) n) (Nat.pow_lt_pow_right (show 1<WB by rw [cP];omega) (Nat.lt_succ_self n)))
theorem IC:p*(b*b)^(n/2)*b^(n%2)=p*b^n:=by
 rw [←Nat.pow_two,←Nat.pow_mul,bX,←dU]
 congr 2
 omega
theorem TD (h:n%2=1):p*b*(b*b)^(n/2)=p*b^n:=by
 have:=IC (p:=p) (b:=b) (n:=n)
 rw [h,Nat.pow_one] at this
 rw [←this,bX,bX,Nat.mul_comm b]
theorem TF (h:¬n%2=1):p*(b*b)^(n/2)=p*b^n:=by
 have:=IC (p:=p) (b:=b) (n:=n)
 rw [show n%2=0 by omega,Nat.pow_zero,dV] at this
 exact this
theorem TE (h:n=1):p*b*c^(n/2)=p*b^n:=by subst h;simp
theorem TG (h:p*b^n=X)(hp:1≤p)(hb:1≤b)(hn:0<n):b≤X:=by
 rw [←h]
 have h1:b^1≤b^n:=eS hb hn
 rw [Nat.pow_one] at h1
 exact a8 h1 (Nat.le_mul_of_pos_left _ hp)
theorem TC (h:p*b^n=X)(hb:1≤b):p≤X:=by
 rw [←h];exact Nat.le_mul_of_pos_right _ (gB hb)
theorem OO (hk:k≤xs.length):cB b (pre++xs.take k)=cB b pre*b^k+cB b (xs.take k):=by
 rw [FE,dH,gD hk]
theorem FK (h:i<n)(hn:n≤xs.length):xs.take (i+1)=xs.take i++ [(xs.take n).getD i 0]:=by
 rw [List.take_add_one,bK,kY,if_pos h,cC (by omega)]
 rfl
theorem QY (hc:c≤2147483647):aP aN 244 #[.int .i32 ((c:Nat):Int)] w (Gv w (Is (no ((dv c:Nat):Int)))):=by
 refine bN Tryz.func244 J (n:=35) J (bq J) (args:= [.int .i32 ((c:Nat):Int)]) (bG [(0,.int .i32 ((c:Nat):Int))] ⟨rfl,AT⟩ (sr (mv 1 J (a7 (aD (bO (aD ?_)))))))
 by_cases q:c≥48
 ·by_cases r:c≤57
  ·refine aF (mv 1 J (aI J J J true (gA (a:=c) (b:=48) J J) (mv 2 J (aI J J J true (nM (a:=c) (b:=57) J J) (pu (v:= AI) J (mv 1 J (a7 (aW J (sr (mv 1 J (aR J J J ((c-48:Nat):Int) (rY (a:=c) (b:=48) J J) (cS J J (v:= no (IntKind.i64.wrap ((c-48:Nat):Int))) (v':= no ((c-48:Nat):Int)) (pW (by first | omega | exact hle64)) (mv 1 J ?_)))))))))))))
   refine a7 (aV (fK (bR (aU [no ((c-48:Nat):Int)] J ⟨rfl,AT⟩ ?_))))
   have e:c-48=dv c:=by unfold dv;(repeat' split) <;> omega
   exact⟨_,rfl,(show dP .i64 ((c-48:Nat):Int)=_ by rw [e]),(Ext.refl w)⟩
  ·refine aF (mv 1 J (aI J J J true (gA (a:=c) (b:=48) J J) (mv 2 J (aI J J J false (nN (a:=c) (b:=57) J J) (pu (v:= AS) J (mv 1 J (a7 (aQ J (aD ?_)))))))))
   by_cases p:c≥97
   ·by_cases o:c≤122
    ·refine aF (mv 1 J (aI J J J true (gA (a:=c) (b:=97) J J) (mv 2 J (aI J J J true (nM (a:=c) (b:=122) J J) (pu (v:= AI) J (mv 1 J (a7 (aW J (sr (mv 1 J (aR J J J ((c-97:Nat):Int) (rY (a:=c) (b:=97) J J) (cS J J (v:= no (IntKind.i64.wrap ((c-97:Nat):Int))) (v':= no ((c-97:Nat):Int)) (pW (by first | omega | exact hle64)) (aR J J J (((c-97)+10:Nat):Int) (cA (a:=c-97) (b:=10) J J) ?_)))))))))))))
     refine mv 1 J (a7 (aV (fK (bR (aU [no (((c-97)+10:Nat):Int)] J ⟨rfl,AT⟩ ?_)))))
     have e:(c-97)+10=dv c:=by unfold dv;(repeat' split) <;> omega
     exact⟨_,rfl,(show dP .i64 (((c-97)+10:Nat):Int)=_ by rw [e]),(Ext.refl w)⟩
    ·refine aF (mv 1 J (aI J J J true (gA (a:=c) (b:=97) J J) (mv 2 J (aI J J J false (nN (a:=c) (b:=122) J J) (pu (v:= AS) J (mv 1 J (a7 (aQ J (aD ?_)))))))))
     by_cases f:c≥65
     ·by_cases h:c≤90
      ·refine aF (mv 1 J (aI J J J true (gA (a:=c) (b:=65) J J) (mv 2 J (aI J J J true (nM (a:=c) (b:=90) J J) (pu (v:= AI) J (mv 1 J (a7 (aW J (sr (mv 1 J (aR J J J ((c-65:Nat):Int) (rY (a:=c) (b:=65) J J) (cS J J (v:= no (IntKind.i64.wrap ((c-65:Nat):Int))) (v':= no ((c-65:Nat):Int)) (pW (by first | omega | exact hle64)) (aR J J J (((c-65)+10:Nat):Int) (cA (a:=c-65) (b:=10) J J) ?_)))))))))))))
       refine mv 1 J (a7 (aV (fK (bR (aU [no (((c-65)+10:Nat):Int)] J ⟨rfl,AT⟩ ?_)))))
       have e:(c-65)+10=dv c:=by unfold dv;(repeat' split) <;> omega
       exact⟨_,rfl,(show dP .i64 (((c-65)+10:Nat):Int)=_ by rw [e]),(Ext.refl w)⟩
      ·refine aF (mv 1 J (aI J J J true (gA (a:=c) (b:=65) J J) (mv 2 J (aI J J J false (nN (a:=c) (b:=90) J J) (pu (v:= AS) J (mv 1 J (a7 (aQ J (aY (bQ (aO (sr (mv 1 J ?_)))))))))))))
       refine a7 (aV (aU [no 36] J ⟨rfl,AT⟩ ?_))
       have e:36=dv c:=by unfold dv;(repeat' split) <;> omega
       exact⟨_,rfl,(show dP .i64 ((36:Nat):Int)=_ by rw [e]),(Ext.refl w)⟩
     ·refine aF (mv 1 J (aI J J J false (m6 (a:=c) (b:=65) J J) (mv 3 J (pu (v:= AS) J (mv 1 J (a7 (aQ J (aY (bQ (aO (sr (mv 1 J (aX ?_)))))))))))))
      refine aO (aV (aU [no 36] J ⟨rfl,AT⟩ ?_))
      have e:36=dv c:=by unfold dv;(repeat' split) <;> omega
      exact⟨_,rfl,(show dP .i64 ((36:Nat):Int)=_ by rw [e]),(Ext.refl w)⟩
   ·refine aF (mv 1 J (aI J J J false (m6 (a:=c) (b:=97) J J) (mv 3 J (pu (v:= AS) J (mv 1 J (a7 (aQ J (aD ?_))))))))
    by_cases f:c≥65
    ·by_cases h:c≤90
     ·refine aF (mv 1 J (aI J J J true (gA (a:=c) (b:=65) J J) (mv 2 J (aI J J J true (nM (a:=c) (b:=90) J J) (pu (v:= AI) J (mv 1 J (a7 (aW J (sr (mv 1 J (aR J J J ((c-65:Nat):Int) (rY (a:=c) (b:=65) J J) (cS J J (v:= no (IntKind.i64.wrap ((c-65:Nat):Int))) (v':= no ((c-65:Nat):Int)) (pW (by first | omega | exact hle64)) (aR J J J (((c-65)+10:Nat):Int) (cA (a:=c-65) (b:=10) J J) ?_)))))))))))))
      refine mv 1 J (a7 (aV (fK (bR (aU [no (((c-65)+10:Nat):Int)] J ⟨rfl,AT⟩ ?_)))))
      have e:(c-65)+10=dv c:=by unfold dv;(repeat' split) <;> omega
      exact⟨_,rfl,(show dP .i64 (((c-65)+10:Nat):Int)=_ by rw [e]),(Ext.refl w)⟩
     ·refine aF (mv 1 J (aI J J J true (gA (a:=c) (b:=65) J J) (mv 2 J (aI J J J false (nN (a:=c) (b:=90) J J) (pu (v:= AS) J (mv 1 J (a7 (aQ J (aY (bQ (aO (sr (mv 1 J ?_)))))))))))))
      refine a7 (aV (aU [no 36] J ⟨rfl,AT⟩ ?_))
      have e:36=dv c:=by unfold dv;(repeat' split) <;> omega
      exact⟨_,rfl,(show dP .i64 ((36:Nat):Int)=_ by rw [e]),(Ext.refl w)⟩
    ·refine aF (mv 1 J (aI J J J false (m6 (a:=c) (b:=65) J J) (mv 3 J (pu (v:= AS) J (mv 1 J (a7 (aQ J (aY (bQ (aO (sr (mv 1 J (aX ?_)))))))))))))
     refine aO (aV (aU [no 36] J ⟨rfl,AT⟩ ?_))
     have e:36=dv c:=by unfold dv;(repeat' split) <;> omega
     exact⟨_,rfl,(show dP .i64 ((36:Nat):Int)=_ by rw [e]),(Ext.refl w)⟩
 ·refine aF (mv 1 J (aI J J J false (m6 (a:=c) (b:=48) J J) (mv 3 J (pu (v:= AS) J (mv 1 J (a7 (aQ J (aD ?_))))))))
  by_cases p:c≥97
  ·by_cases o:c≤122
   ·refine aF (mv 1 J (aI J J J true (gA (a:=c) (b:=97) J J) (mv 2 J (aI J J J true (nM (a:=c) (b:=122) J J) (pu (v:= AI) J (mv 1 J (a7 (aW J (sr (mv 1 J (aR J J J ((c-97:Nat):Int) (rY (a:=c) (b:=97) J J) (cS J J (v:= no (IntKind.i64.wrap ((c-97:Nat):Int))) (v':= no ((c-97:Nat):Int)) (pW (by first | omega | exact hle64)) (aR J J J (((c-97)+10:Nat):Int) (cA (a:=c-97) (b:=10) J J) ?_)))))))))))))
    refine mv 1 J (a7 (aV (fK (bR (aU [no (((c-97)+10:Nat):Int)] J ⟨rfl,AT⟩ ?_)))))
    have e:(c-97)+10=dv c:=by unfold dv;(repeat' split) <;> omega
    exact⟨_,rfl,(show dP .i64 (((c-97)+10:Nat):Int)=_ by rw [e]),(Ext.refl w)⟩
   ·refine aF (mv 1 J (aI J J J true (gA (a:=c) (b:=97) J J) (mv 2 J (aI J J J false (nN (a:=c) (b:=122) J J) (pu (v:= AS) J (mv 1 J (a7 (aQ J (aD ?_)))))))))
    by_cases f:c≥65
    ·by_cases h:c≤90
     ·refine aF (mv 1 J (aI J J J true (gA (a:=c) (b:=65) J J) (mv 2 J (aI J J J true (nM (a:=c) (b:=90) J J) (pu (v:= AI) J (mv 1 J (a7 (aW J (sr (mv 1 J (aR J J J ((c-65:Nat):Int) (rY (a:=c) (b:=65) J J) (cS J J (v:= no (IntKind.i64.wrap ((c-65:Nat):Int))) (v':= no ((c-65:Nat):Int)) (pW (by first | omega | exact hle64)) (aR J J J (((c-65)+10:Nat):Int) (cA (a:=c-65) (b:=10) J J) ?_)))))))))))))
      refine mv 1 J (a7 (aV (fK (bR (aU [no (((c-65)+10:Nat):Int)] J ⟨rfl,AT⟩ ?_)))))
      have e:(c-65)+10=dv c:=by unfold dv;(repeat' split) <;> omega
      exact⟨_,rfl,(show dP .i64 (((c-65)+10:Nat):Int)=_ by rw [e]),(Ext.refl w)⟩
     ·refine aF (mv 1 J (aI J J J true (gA (a:=c) (b:=65) J J) (mv 2 J (aI J J J false (nN (a:=c) (b:=90) J J) (pu (v:= AS) J (mv 1 J (a7 (aQ J (aY (bQ (aO (sr (mv 1 J ?_)))))))))))))
      refine a7 (aV (aU [no 36] J ⟨rfl,AT⟩ ?_))
      have e:36=dv c:=by unfold dv;(repeat' split) <;> omega
      exact⟨_,rfl,(show dP .i64 ((36:Nat):Int)=_ by rw [e]),(Ext.refl w)⟩
    ·refine aF (mv 1 J (aI J J J false (m6 (a:=c) (b:=65) J J) (mv 3 J (pu (v:= AS) J (mv 1 J (a7 (aQ J (aY (bQ (aO (sr (mv 1 J (aX ?_)))))))))))))
     refine aO (aV (aU [no 36] J ⟨rfl,AT⟩ ?_))
     have e:36=dv c:=by unfold dv;(repeat' split) <;> omega
     exact⟨_,rfl,(show dP .i64 ((36:Nat):Int)=_ by rw [e]),(Ext.refl w)⟩
  ·refine aF (mv 1 J (aI J J J false (m6 (a:=c) (b:=97) J J) (mv 3 J (pu (v:= AS) J (mv 1 J (a7 (aQ J (aD ?_))))))))
   by_cases f:c≥65
   ·by_cases h:c≤90
    ·refine aF (mv 1 J (aI J J J true (gA (a:=c) (b:=65) J J) (mv 2 J (aI J J J true (nM (a:=c) (b:=90) J J) (pu (v:= AI) J (mv 1 J (a7 (aW J (sr (mv 1 J (aR J J J ((c-65:Nat):Int) (rY (a:=c) (b:=65) J J) (cS J J (v:= no (IntKind.i64.wrap ((c-65:Nat):Int))) (v':= no ((c-65:Nat):Int)) (pW (by first | omega | exact hle64)) (aR J J J (((c-65)+10:Nat):Int) (cA (a:=c-65) (b:=10) J J) ?_)))))))))))))
     refine mv 1 J (a7 (aV (fK (bR (aU [no (((c-65)+10:Nat):Int)] J ⟨rfl,AT⟩ ?_)))))
     have e:(c-65)+10=dv c:=by unfold dv;(repeat' split) <;> omega
     exact⟨_,rfl,(show dP .i64 (((c-65)+10:Nat):Int)=_ by rw [e]),(Ext.refl w)⟩
    ·refine aF (mv 1 J (aI J J J true (gA (a:=c) (b:=65) J J) (mv 2 J (aI J J J false (nN (a:=c) (b:=90) J J) (pu (v:= AS) J (mv 1 J (a7 (aQ J (aY (bQ (aO (sr (mv 1 J ?_)))))))))))))
     refine a7 (aV (aU [no 36] J ⟨rfl,AT⟩ ?_))
     have e:36=dv c:=by unfold dv;(repeat' split) <;> omega
     exact⟨_,rfl,(show dP .i64 ((36:Nat):Int)=_ by rw [e]),(Ext.refl w)⟩
   ·refine aF (mv 1 J (aI J J J false (m6 (a:=c) (b:=65) J J) (mv 3 J (pu (v:= AS) J (mv 1 J (a7 (aQ J (aY (bQ (aO (sr (mv 1 J (aX ?_)))))))))))))
    refine aO (aV (aU [no 36] J ⟨rfl,AT⟩ ?_))
    have e:36=dv c:=by unfold dv;(repeat' split) <;> omega
    exact⟨_,rfl,(show dP .i64 ((36:Nat):Int)=_ by rw [e]),(Ext.refl w)⟩
theorem QZ (hbl:2≤base)(hbu:base≤36)(hn:n≤68719476736):aP aN 275 #[no base,no n] w (Gv w (WR w.heap.size (base^n))):=by
 refine bN Tryz.func275 J (n:=26) J (bq J) (args:= [no base,no n]) (bG [(0,no base),(1,no n)] ⟨rfl,rfl,AT⟩ (sr (mv 1 J (a7 (sr (iO J J (k:=1) (e:=65) [up 1] (fun _=>by kernel_rfl) fun g1 _ U=>?_))))))
 have o4:=O1.mk_ (x:=1) (b:=w.heap.size) U (Ext.refl w).size
 have e5:=U.ext
 have h:=(Ext.refl w).trans e5
 have o7:=rA o4 (show 1≤18446744073709551615 by decide) (show 1≠0 by decide)
 have j6:=rL (show 1≤18446744073709551615 by decide) (show 1≠0 by decide)
 refine mv 1 J (cS J J (v:= up (IntKind.u64.wrap ((base:Nat):Int))) (v':= up base) (mQ (by first | omega | exact hle64)) (iO J J (k:=1) (e:=65) [up base] (fun _=>by kernel_rfl) fun g8 v9 F=>?_))
 have aj:=O1.mk_ (x:=base) (b:=w.heap.size) F h.size
 have V:=F.ext
 have o:=h.trans V
 have ak:=rA aj (show base≤18446744073709551615 by omega) (show base≠0 by omega)
 have bg:=rL (show base≤18446744073709551615 by omega) (show base≠0 by omega)
 refine mv 2 J (a7 (aD (bO ?_)))
 refine d8 (T:=a6×Nat×Nat×Nat×Option aB×Nat×Nat×Option aB×Nat×Nat)
  (fun⟨wr,e,p,b,PA,pn,pc,BA,bn,bc⟩=> [(0,no base),(1,no e),(5,we PA pn pc),(6,we BA bn bc)])
  (fun⟨wr,e,p,b,PA,pn,pc,BA,bn,bc⟩=>wr)
  (fun⟨wr,e,p,b,PA,pn,pc,BA,bn,bc⟩=>(Ext w wr)∧(p*b^e=base^n)∧(1≤p)∧(1≤b)∧(pn=(wd p).length)∧(bn=(wd b).length)∧(Own wr w.heap.size 65 1 PA pn pc ((wd p).map bF))∧(Own wr w.heap.size 65 1 BA bn bc ((wd b).map bF))∧(e≤n))
  (fun⟨wr,e,p,b,PA,pn,pc,BA,bn,bc⟩=>e)
  (⟨v9,n,1,base,(some ⟨g1,0,none⟩),1,1,(some ⟨g8,0,none⟩),1,1⟩:a6×Nat×Nat×Nat×Option aB×Nat×Nat×Option aB×Nat×Nat) ⟨o,(by rw [Nat.one_mul]),(by decide),(by omega),j6,bg,(o7.ext V),ak,(aZ _)⟩ J ⟨rfl,rfl,rfl,rfl,AT⟩ ?_
 rintro⟨wr,e,p,b,PA,pn,pc,BA,bn,bc⟩ ⟨h,H,r,f,G,W,E,D,he⟩
 refine cR [(0,no base),(1,no e),(5,we PA pn pc),(6,we BA bn bc)] wr J ⟨rfl,rfl,rfl,rfl,AT⟩ (aD (aD ?_))
 by_cases q:e>0
 ·have bo:=a8 (gK (TC H f)) (CP (n:=n) hbu)
  have bu:=a8 (gK (TG H r f q)) (CP (n:=n) hbu)
  refine aF (mv 1 J (aI J J J true (eW (a:=e) (b:=0) J J) (a7 (aW J (aY (aO (aD (bO (aD (aD ?_))))))))))
  by_cases ho:e%2=1
  ·refine aF (mv 1 J (aR J J J ((e%2:Nat):Int) (jJ (a:=e) (b:=2) J J) (aI J J J true (fF (a:=e%2) (b:=1) J J) (a7 (aW J (aF (mv 2 J (cl (vs:= [we PA pn pc,we BA bn bc]) h (R8 h.size E.wi D.wi (by omega)) J (by kernel_rfl) fun _ ab ba I o=>?_))))))))
   obtain⟨X,Z,M,rfl,L,Y⟩:=ba
   refine mv 1 J (a7 (aD ?_))
   by_cases hg:e>1
   ·refine aF (mv 1 J (aI J J J true (eW (a:=e) (b:=1) J J) (a7 (aW J (aF (mv 1 J (cl (vs:= [we BA bn bc]) o (BM o.size (D.ext I).wi) J (by kernel_rfl) fun _ am bd av aq=>?_)))))))
    obtain⟨az,au,ao,rfl,ap,ah⟩:=bd
    refine mv 1 J (aX (bQ (aO (aF (mv 1 J (aR J J J ((e/2:Nat):Int) (lP (a:=e) (b:=2) J J) (mv 1 J (aX (cM (⟨am,e/2,p*b,b*b,X,Z,M,az,au,ao⟩:a6×Nat×Nat×Nat×Option aB×Nat×Nat×Option aB×Nat×Nat) ⟨aq,(by rw [TD ho];exact H),(by first | decide | omega | exact iL r f),(by first | assumption | exact iL f f),L,ap,(Y.ext av),ah,(a8 (fH _ _) he)⟩ (kI q (by decide)) J ⟨rfl,rfl,rfl,rfl,AT⟩)))))))))
   ·refine aF (mv 1 J (aI J J J false (fS (a:=e) (b:=1) J J) (a7 (aQ J (aY (bQ (aO (aF (mv 1 J (aR J J J ((e/2:Nat):Int) (lP (a:=e) (b:=2) J J) (mv 1 J (aX (cM (⟨ab,e/2,p*b,b,X,Z,M,BA,bn,bc⟩:a6×Nat×Nat×Nat×Option aB×Nat×Nat×Option aB×Nat×Nat) ⟨o,(by rw [TE (by omega)];exact H),(by first | decide | omega | exact iL r f),(by first | assumption | exact iL f f),L,W,Y,(D.ext I),(a8 (fH _ _) he)⟩ (kI q (by decide)) J ⟨rfl,rfl,rfl,rfl,AT⟩)))))))))))))
  ·refine aF (mv 1 J (aR J J J ((e%2:Nat):Int) (jJ (a:=e) (b:=2) J J) (aI J J J false (eR (a:=e%2) (b:=1) J J) (a7 (aQ J (aY (aO (aD ?_))))))))
   by_cases hg:e>1
   ·refine aF (mv 1 J (aI J J J true (eW (a:=e) (b:=1) J J) (a7 (aW J (aF (mv 1 J (cl (vs:= [we BA bn bc]) h (BM h.size D.wi) J (by kernel_rfl) fun _ ae aw fL o=>?_)))))))
    obtain⟨ag,ai,bf,rfl,aa,ar⟩:=aw
    refine mv 1 J (aX (bQ (aO (aF (mv 1 J (aR J J J ((e/2:Nat):Int) (lP (a:=e) (b:=2) J J) (mv 1 J (aX (cM (⟨ae,e/2,p,b*b,PA,pn,pc,ag,ai,bf⟩:a6×Nat×Nat×Nat×Option aB×Nat×Nat×Option aB×Nat×Nat) ⟨o,(by rw [TF ho];exact H),(by first | decide | omega | exact iL r f),(by first | assumption | exact iL f f),G,aa,(E.ext fL),ar,(a8 (fH _ _) he)⟩ (kI q (by decide)) J ⟨rfl,rfl,rfl,rfl,AT⟩)))))))))
   ·refine aF (mv 1 J (aI J J J false (fS (a:=e) (b:=1) J J) (a7 (aQ J (aY (bQ (aO (aF (mv 1 J (aR J J J ((e/2:Nat):Int) (lP (a:=e) (b:=2) J J) (mv 1 J (aX (cM (⟨wr,e/2,p,b,PA,pn,pc,BA,bn,bc⟩:a6×Nat×Nat×Nat×Option aB×Nat×Nat×Option aB×Nat×Nat) ⟨h,(by omega),(by first | decide | omega | exact iL r f),(by first | assumption | exact iL f f),G,W,E,D,(a8 (fH _ _) he)⟩ (kI q (by decide)) J ⟨rfl,rfl,rfl,rfl,AT⟩)))))))))))))
 ·refine aF (mv 1 J (aI J J J false (fS (a:=e) (b:=0) J J) (a7 (aQ J (d4 (cU (cY (cZ (aO (sr (mv 2 J (a7 (aV ?_)))))))))))))
  refine aU [we PA pn pc] J ⟨rfl,AT⟩ ?_
  have e0:e=0:=by omega
  subst e0
  rw [Nat.pow_zero,dV] at H
  subst H
  exact⟨_,rfl,⟨_,_,_,rfl,G,E⟩,h⟩
theorem ON (hl:ds.length=n)(hk:k≤n):cB b (ds.take (n-k))*b^k+cB b (ds.drop (n-k))=cB b ds:=by
 have h:=FE b (ds.take (n-k)) (ds.drop (n-k))
 rw [sK,gO,hl,show n-(n-k)=k by omega] at h
 exact h.symm
theorem PieceK.pos (h:PieceK b k)(hb:b≤36):1≤k:=by
 rcases Nat.eq_zero_or_pos k with e | e
 ·have:=h.gt;rw [e,eJ,Nat.pow_one] at this;omega
 ·exact e
theorem PU {v x:Nat}(hk:PieceK b k)(hb:1≤b)(hi:i+1≤k)(hv:v<b^i)(hx:x<b):v*b+x≤18446744073709551615∧b^i*b≤18446744073709551615:=by
 have h1:b^(i+1)≤b^k:=eS hb hi
 rw [cW] at h1
 have h2:=hk.le
 have e:(v+1)*b≤b^i*b:=eI b hv
 rw [dK,Nat.one_mul] at e
 exact⟨by omega,by omega⟩
theorem VC {x:Nat}(h:x≤18446744073709551615):(wd x).length≤1:=iX (by rw [Nat.pow_one,cP];omega)
theorem CL (h:∀x,x∈xs→x<b)(k:Nat):∀x,x∈xs.take k→x<b:=fun x hx=>h x (qG hx)
theorem UQ (h:∀x,x∈xs→x<b)(k:Nat):∀x,x∈xs.drop k→x<b:=fun x hx=>h x (qH hx)
def MV (N:Nat):Prop:=∀{w:a6}{A:Option aB}{n c base:Nat}{ds:List Nat},n≤N→2≤base→base≤36→Rb base w A n c ds→n≤17179869184→
 aP aN 245 #[we A n c,no base] w (Gv w (WR w.heap.size (cB base ds)))
theorem R0 (ih:MV N)(hnN:n≤N+1)(hbl:2≤base)(hbu:base≤36)(hd:Rb base w A n c ds)(hn:n≤17179869184)(hbig:200<n):aP aN 245 #[we A n c,no base] w (Gv w (WR w.heap.size (cB base ds))):=by
 have cz:(wd (cB base (ds.take (n-(n/2))))).length≤n:=by have:=vH hbu (CL hd.wf (n-(n/2)));rw [dH,hd.len] at this;omega
 have da:(wd (cB base (ds.drop (n-(n/2))))).length≤n:=by have:=vH hbu (UQ hd.wf (n-(n/2)));rw [gO,hd.len] at this;omega
 have de:(wd (base^(n/2))).length≤n/2+1:=CP hbu
 refine bN Tryz.func245 J (n:=81) J (bq J) (args:= [we A n c,no base]) (bG [(0,we A n c),(1,no base)] ⟨rfl,rfl,AT⟩ (sr (mv 1 J (a7 (aD (sr (mv 1 J (pu (v:= no n) J (aI J J J true (eW (a:=n) (b:=200) J J) (a7 (aW J (sr (mv 1 J ?_)))))))))))))
 refine pu (v:= no n) J (aR J J J ((n/2:Nat):Int) (lP (a:=n) (b:=2) J J) (mv 1 J (a7 (sr (mv 1 J (pu (v:= no n) J (mv 1 J (aR J J J ((n-(n/2):Nat):Int) (gL (a:=n) (b:=n/2) J J) (mv 1 J (a7 (aD ?_)))))))))))
 refine dG bY 14 [] [Is (we A n c),Is (no ((n-(n/2):Nat):Int)),Is (we A (n-(n/2)) c),Is (no base),WR w.heap.size (cB base (ds.take (n-(n/2)))),Is (no base),Is (no ((n/2:Nat):Int)),WR w.heap.size (base^(n/2)),Is (we A n c),Is (no ((n-(n/2):Nat):Int)),Is (.slice (if c=n-(n/2) then A else A.map (·.add ((n-(n/2))*1))) (n-(n-(n/2))) (c-(n-(n/2)))),Is (no base),WR w.heap.size (cB base (ds.drop (n-(n/2)))),WR w.heap.size ((cB base (ds.take (n-(n/2))))*(base^(n/2))+(cB base (ds.drop (n-(n/2)))))] [[],[],[0,1],[],[2,3],[],[],[5,6],[],[],[8,9],[],[10,11],[4,7,12]] [[],[],[0,1],[],[0,1,2,3],[],[],[0,1,2,3,4,5,6],[],[],[8,9],[],[0,1,2,3,4,5,6,7,8,9,10,11],[0,1,2,3,4,5,6,7,8,9,10,11,12],[0,1,2,3,4,5,6,7,8,9,10,11,12,13]] rfl
  (aH J J (aE J J ?_) (aH J J (aE J J ?_) (aH J J (aE J J ?_) (aH J J (aE J J ?_) (aH J J (aE J J ?_) (aH J J (aE J J ?_) (aH J J (aE J J ?_) (aH J J (aE J J ?_) (aH J J (aE J J ?_) (aH J J (aE J J ?_) (aH J J (aE J J ?_) (aH J J (aE J J ?_) (aH J J (aE J J ?_) (aH J J (aE J J ?_) d9)))))))))))))) ?_
 ·exact fun _ _=>aC (mv 1 J (aG J aL J))
 ·exact fun _ _=>aC (mv 1 J (aG J aL J))
 ·exact fun _ ci=>dk J J (dk J J (aC (mI J J kK kM (lo:=0) (hi:=n-(n/2)) J J (by omega) (by have:=(hd.ext ci).rv.le;omega) (v:= we A (n-(n/2)) c) (BF _ _ _) (by decide) (aG J aL J))))
 ·exact fun _ _=>aC (mv 1 J (aG J aL J))
 ·intro _ fL
  have e:=(Ext.refl w).trans fL
  refine dk J J (dk J J (aC (cl (vs:= [we A (n-(n/2)) c,no base]) e ((ih (by omega) hbl hbu ((hd.take (k:=n-(n/2)) (by omega)).ext fL) (by omega)).mono (Gv.imp (WR.imp e.size))) J (by kernel_rfl) fun _ _ cj cm E=>?_)))
  obtain⟨_,_,_,rfl,bm,bi⟩:=cj
  exact aG J cm ⟨_,_,_,rfl,bm,bi⟩
 ·exact fun _ _=>aC (mv 1 J (aG J aL J))
 ·exact fun _ _=>aC (mv 1 J (aG J aL J))
 ·intro _ ct
  have e:=(Ext.refl w).trans ct
  refine dk J J (dk J J (aC (cl (vs:= [no base,no ((n/2:Nat):Int)]) e ((QZ (n:=n/2) hbl hbu (by omega)).mono (Gv.imp (WR.imp e.size))) J (by kernel_rfl) fun _ _ bj bu E=>?_)))
  obtain⟨_,_,_,rfl,ck,bh⟩:=bj
  exact aG J bu ⟨_,_,_,rfl,ck,bh⟩
 ·exact fun _ _=>aC (mv 1 J (aG J aL J))
 ·exact fun _ _=>aC (mv 1 J (aG J aL J))
 ·exact fun _ bw=>dk J J (dk J J (aC (mI J J kK kM (lo:=n-(n/2)) (hi:=n) J J (by omega) (by have:=(hd.ext bw).rv.le;omega) (v:= .slice (if c=n-(n/2) then A else A.map (·.add ((n-(n/2))*1))) (n-(n-(n/2))) (c-(n-(n/2)))) (G0 _ _ _ _) (by decide) (aG J aL J))))
 ·exact fun _ _=>aC (mv 1 J (aG J aL J))
 ·intro _ au
  have e:=(Ext.refl w).trans au
  refine dk J J (dk J J (aC (cl (vs:= [.slice (if c=n-(n/2) then A else A.map (·.add ((n-(n/2))*1))) (n-(n-(n/2))) (c-(n-(n/2))),no base]) e ((ih (by omega) hbl hbu ((hd.drop (k:=n-(n/2)) (by omega)).ext au) (by omega)).mono (Gv.imp (WR.imp e.size))) J (by kernel_rfl) fun _ _ bg cu E=>?_)))
  obtain⟨_,_,_,rfl,bf,bp⟩:=bg
  exact aG J cu ⟨_,_,_,rfl,bf,bp⟩
 ·intro _ bo
  have e:=(Ext.refl w).trans bo
  refine aT J J fun _ _ cp fB ch=>?_
  obtain⟨am,W,M,rfl,_,h⟩:=cp
  have h:=h.ext ch
  refine aT J J fun _ _ ao _ G=>?_
  obtain⟨ah,H,aj,rfl,_,f⟩:=ao
  have f:=f.ext G
  refine aT J J fun _ _ ak _ ar=>?_
  obtain⟨L,Z,Y,rfl,_,o⟩:=ak
  have o:=o.ext ar
  refine aC (cl (vs:= [we am W M,we ah H aj,we L Z Y]) e (R9 e.size h.wi f.wi o.wi (by omega) (by omega)) J (by kernel_rfl) fun _ _ ae V E=>?_)
  obtain⟨_,_,_,rfl,bd,X⟩:=ae
  exact aG J V ⟨_,_,_,rfl,bd,X⟩
 ·intro _ ba
  have e:=(Ext.refl w).trans ba
  refine dk J J (dk J J (dk J J (dk J J (aT J J fun _ _ ag _ av=>?_))))
  obtain⟨_,_,_,rfl,_,r⟩:=ag
  have r:=r.ext av
  refine dk J J (dk J J (aT J J fun _ _ F _ az=>?_))
  obtain⟨_,_,_,rfl,_,D⟩:=F
  have D:=D.ext az
  refine dk J J (dk J J (dk J J (dk J J (aT J J fun _ _ aq _ ab=>?_))))
  obtain⟨_,_,_,rfl,_,q⟩:=aq
  have q:=q.ext ab
  refine aT J J fun _ _ aw _ I=>?_
  obtain⟨ai,U,ap,rfl,aa,p⟩:=aw
  have p:=p.ext I
  refine aC (mv 1 J (aX (dC (aO (aV (bR (aU [we ai U ap] J ⟨rfl,AT⟩ ?_)))))))
  have hv:(cB base (ds.take (n-(n/2))))*(base^(n/2))+(cB base (ds.drop (n-(n/2))))=cB base ds:=ON hd.len (by omega)
  exact⟨_,rfl,⟨_,_,_,rfl,hv▸aa,hv▸p⟩,e⟩
theorem GH (hbl:2≤base)(hbu:base≤36)(hd:Rb base w A n c ds)(hlow:n≤200):aP aN 245 #[we A n c,no base] w (Gv w (WR w.heap.size (cB base ds))):=by
 refine bN Tryz.func245 J (n:=81) J (bq J) (args:= [we A n c,no base]) (bG [(0,we A n c),(1,no base)] ⟨rfl,rfl,AT⟩ (sr (mv 1 J (a7 (aD (sr (mv 1 J (pu (v:= no n) J (aI J J J false (fS (a:=n) (b:=200) J J) (a7 (aQ J (aY (aO ?_)))))))))))))
 refine sr (mv 1 J (dQ J J (vs:= [no base]) (by kernel_rfl) (by decide) (GG hbl hbu) ?_))
 rintro _ v1 ⟨f,W,_,rfl,r3,e2⟩
 have ci:=W.pos hbu
 have bi:=W.le64
 refine dR ?_
 have o:=(Ext.refl w).trans e2
 obtain⟨_,_,rfl,rfl,rfl⟩:=r3
 refine mv 1 J (pu (v:= no f) J (pu (v:= up ((base^f:Nat):Int)) J (mv 2 J (a7 (sr (mv 1 J (a7 (aD (bO ?_)))))))))
 refine d8 (T:=a6×List Nat×List Nat×Option aB×Nat×Nat×Option aB×Nat×Nat)
  (fun⟨wr,pre,rest,DA,dn,dc,QA,qn,qc⟩=> [(0,we DA dn dc),(1,no base),(7,no f),(9,we QA qn qc)])
  (fun⟨wr,pre,rest,DA,dn,dc,QA,qn,qc⟩=>wr)
  (fun⟨wr,pre,rest,DA,dn,dc,QA,qn,qc⟩=>(Ext w wr)∧(pre++rest=ds)∧(qn=(wd (cB base pre)).length)∧(Own wr w.heap.size 65 1 QA qn qc ((wd (cB base pre)).map bF))∧(Rb base wr DA dn dc rest))
  (fun⟨wr,pre,rest,DA,dn,dc,QA,qn,qc⟩=>dn)
  (⟨v1,[],ds,A,n,c,none,0,0⟩:a6×List Nat×List Nat×Option aB×Nat×Nat×Option aB×Nat×Nat) ⟨o,rfl,rfl,(Own.nil _ _ _ _),(hd.ext e2)⟩ J ⟨rfl,rfl,rfl,rfl,AT⟩ ?_
 rintro⟨wr,pre,rest,DA,dn,dc,QA,qn,qc⟩ ⟨o,q,ag,E,h⟩
 refine cR [(0,we DA dn dc),(1,no base),(7,no f),(9,we QA qn qc)] wr J ⟨rfl,rfl,rfl,rfl,AT⟩ (aD (aD ?_))
 by_cases bu:dn>0
 ·refine aF (mv 1 J (pu (v:= no dn) J (aI J J J true (eW (a:=dn) (b:=0) J J) (a7 (aW J (aY (aO (bO (sr (mv 2 J (pu (v:= no dn) J (F6 J J J (((min f dn:Nat):Int)) (by omega) (by decide) (mv 1 J ?_)))))))))))))
  refine a7 (sr (mv 2 J (a7 (aD (sr (mv 2 J (mI J J kK kM (lo:=0) (hi:=min f dn) J J (by omega) (by have:=h.rv.le;omega) (v:= we DA (min f dn) dc) (BF _ _ _) (by decide) (pu (v:= no (((min f dn):Nat):Int)) J (mv 1 J (a7 (bO ?_)))))))))))
  refine d8 (T:=a6×Nat×Nat×Nat)
   (fun⟨wq,i,v,p⟩=> [(0,we DA dn dc),(1,no base),(7,no f),(10,no ((min f dn:Nat):Int)),(9,we QA qn qc),(11,up v),(12,up p),(53,we DA (min f dn) dc),(54,no (((min f dn):Nat):Int)),(55,no i)])
   (fun⟨wq,i,v,p⟩=>wq)
   (fun⟨wq,i,v,p⟩=>(Ext w wq)∧(i≤min f dn)∧(v=cB base (rest.take i))∧(p=base^i)∧(Own wq w.heap.size 65 1 QA qn qc ((wd (cB base pre)).map bF))∧(Rb base wq DA dn dc rest)∧(Rb base wq DA (min f dn) dc (rest.take (min f dn))))
   (fun⟨wq,i,v,p⟩=>min f dn-i)
   (⟨wr,0,0,1⟩:a6×Nat×Nat×Nat) ⟨o,(bJ _),rfl,rfl,E,h,(h.take (k:=min f dn) (by omega))⟩ J ⟨rfl,rfl,rfl,rfl,rfl,rfl,rfl,rfl,rfl,rfl,AT⟩ ?_
  rintro⟨wq,i,v,p⟩ ⟨o,hi,X,r,E,h,D⟩
  refine cR [(0,we DA dn dc),(1,no base),(7,no f),(10,no ((min f dn:Nat):Int)),(9,we QA qn qc),(11,up v),(12,up p),(53,we DA (min f dn) dc),(54,no (((min f dn):Nat):Int)),(55,no i)] wq J ⟨rfl,rfl,rfl,rfl,rfl,rfl,rfl,rfl,rfl,rfl,AT⟩ (aD ?_)
  by_cases G:i<min f dn
  ·have hx:=D.dig (i:=i) G
   have Z:v<base^i:=by rw [X];have:=B3 (b:=base) (by omega) (rest.take i) (CL h.wf i);rwa [dH,gD (by rw [h.len];omega)] at this
   have M:=PU W (by omega) (show i+1≤f by omega) Z hx
   rw [←r] at M
   obtain⟨_,_⟩:=M
   refine aF (aI J J J true (eD (a:=i) (b:=min f dn) J J) (a7 (aD (aW J (aY (aO (aD (bO (sr ?_)))))))))
   obtain⟨p7,aq,az,_⟩:=(D).at (by decide) (i:=i) (by omega)
   refine cD J J J kK kM i J p7 aq (bB J J (dF E3 az) (mv 1 J (a7 (sr (mv 2 J (cS J J (v:= up (IntKind.u64.wrap ((base:Nat):Int))) (v':= up base) (mQ (by first | omega | exact hle64)) (aR J J J ((v*base:Nat):Int) (kU (a:=v) (b:=base) J J) (mv 1 J (cS J J (v:= up (IntKind.u64.wrap (((rest.take (min f dn)).getD i 0:Nat):Int))) (v':= up (((rest.take (min f dn)).getD i 0:Nat):Int)) (mQ (by first | omega | exact hle64)) (aR J J J (((v*base)+((rest.take (min f dn)).getD i 0):Nat):Int) (iY (a:=v*base) (b:=(rest.take (min f dn)).getD i 0) J J) (mv 1 J (a7 (aF ?_)))))))))))))
   refine mv 2 J (cS J J (v:= up (IntKind.u64.wrap ((base:Nat):Int))) (v':= up base) (mQ (by first | omega | exact hle64)) (aR J J J ((p*base:Nat):Int) (kU (a:=p) (b:=base) J J) (mv 1 J (aX (bQ (aO (aF (aR J J J ((i+1:Nat):Int) (cA (a:=i) (b:=1) J J) (mv 1 J (aX (cM (⟨wq,i+1,v*base+(rest.take (min f dn)).getD i 0,p*base⟩:a6×Nat×Nat×Nat) ⟨o,(by omega),(by rw [FK G (by rw [h.len];omega),wZ,←X]),(by rw [r,cW]),E,h,D⟩ (show min f dn-(i+1)<min f dn-i by omega) J ⟨rfl,rfl,rfl,rfl,rfl,rfl,rfl,rfl,rfl,rfl,AT⟩)))))))))))
  ·have Y:i=min f dn:=by omega
   have V:p≤18446744073709551615:=by rw [r];exact a8 (eS (by omega) (by omega)) W.le
   have am:v≤18446744073709551615:=by have:=B3 (b:=base) (by omega) (rest.take i) (CL h.wf i);rw [dH,gD (by rw [h.len];omega),←r,←X] at this;omega
   have bg:(wd (cB base pre)).length≤200:=by have h1:=vH hbu (ds:=pre) (fun x hx=>hd.wf x (by rw [←q];exact List.mem_append_left _ hx));have h2:=hd.len;rw [←q,fU] at h2;omega
   have bo:(wd (cB base pre*p)).length≤201:=by have:=vF (cB base pre) p;have:=VC V;omega
   have hm:cB base (pre++rest.take (min f dn))=cB base pre*p+v:=by rw [←Y,OO (by rw [h.len];omega),r,X]
   refine aF (aI J J J false (eE (a:=i) (b:=min f dn) J J) (a7 (aD (aQ J (d4 (cU (cY (cZ (aO (sr (mv 2 J (cl (vs:= [we QA qn qc,up p]) o (R7 o.size E.wi (by omega) V) J (by kernel_rfl) fun _ _ ap e9 L=>?_))))))))))))
   obtain⟨ak,bf,ar,rfl,_,aa⟩:=ap
   refine mv 1 J (iO J J (k:=1) (e:=65) [up v] (fun _=>by kernel_rfl) fun aw _ H=>?_)
   have ba:=O1.mk_ (x:=v) (b:=w.heap.size) H L.size
   have F:=H.ext
   have I:=L.trans F
   refine cl (vs:= [we ak bf ar,we (some ⟨aw,0,none⟩) 1 1]) I (RD I.size (aa.ext F).wi (by omega) (C9 ba am) (by decide)) J (by kernel_rfl) fun _ ab ao U ah=>?_
   obtain⟨aj,bd,ae,rfl,av,au⟩:=ao
   refine mv 1 J (a7 (aF (mv 2 J (mI J J kK kM (lo:=min f dn) (hi:=dn) J J (by omega) (by have:=(h.ext (e9.t (F.t U))).rv.le;omega) (v:= .slice (if dc=min f dn then DA else DA.map (·.add ((min f dn)*1))) (dn-(min f dn)) (dc-(min f dn))) (G0 _ _ _ _) (by decide) (mv 1 J (aX (bQ (cM (⟨ab,pre++rest.take (min f dn),rest.drop (min f dn),if dc=min f dn then DA else DA.map (·.add ((min f dn)*1)),dn-(min f dn),dc-(min f dn),aj,bd,ae⟩:a6×List Nat×List Nat×Option aB×Nat×Nat×Option aB×Nat×Nat) ⟨ah,(by rw [List.append_assoc,sK];exact q),(by rw [hm];exact av),(by rw [hm];exact au),((h.ext (e9.t (F.t U))).drop (k:=min f dn) (by omega))⟩ (show dn-min f dn<dn by omega) J ⟨rfl,rfl,rfl,rfl,AT⟩))))))))
 ·refine aF (mv 1 J (pu (v:= no dn) J (aI J J J false (fS (a:=dn) (b:=0) J J) (a7 (aQ J (d4 (cU (cY (cZ (aO (sr (mv 2 J (aX ?_)))))))))))))
  refine aO (aV (aU [we QA qn qc] J ⟨rfl,AT⟩ ?_))
  have ai:rest= []:=sM.1 (by have:=h.len;omega)
  rw [ai,mF] at q
  exact⟨_,rfl,⟨_,_,_,rfl,q▸ag,q▸E⟩,o⟩
theorem GI:∀N,MV N
 | 0=>fun hn hbl hbu hd _=>GH hbl hbu hd (by omega)
 | N+1=>by
  intro hn hbl hbu hd hm
  rename_i w A n c base ds
  by_cases h:200<n
  ·exact R0 (GI N) hn hbl hbu hd hm h
  ·exact GH hbl hbu hd (by omega)
theorem R1 (hb:b≤w.heap.size)(hbl:2≤base)(hbu:base≤36)(hd:Rb base w A n c ds)(hn:n≤17179869184):aP aN 245 #[we A n c,no base] w (Gv w (WR b (cB base ds))):=
 (GI n (aZ _) hbl hbu hd hn).mono (Gv.imp (WR.imp hb))
theorem yI (h:i<l.length):l.getD i 0∈l:=by
 rw [bK,cC h];exact mD h
theorem DH (h:∀c,c∈l→dv c<b):∀x,x∈l.map dv→x<b:=by
 intro x hx
 obtain⟨c,e,rfl⟩:=qI.1 hx
 exact h c e
theorem GJ (hbl:2≤base)(hbu:base≤36)(hbs:∀b,b∈bs→b<256)(hlen:bs.length≤17179869184):aP aN 206 #[.string (aJ bs),no base] w (fun e w'=>(eM base bs→Gv w (T2 (WR w.heap.size (cB base (bs.map dv))) (Is (no 0))) e w')∧(¬eM base bs→Gv w (T2 (Is (we none 0 0)) (Is (no 7))) e w')):=by
 refine bN Tryz.func206 J (n:=41) J (bq J) (args:= [.string (aJ bs),no base]) (bG [(0,.string (aJ bs)),(1,no base)] ⟨rfl,rfl,AT⟩ (sr (mv 2 J (a7 (aD (sr (mv 1 J (aI J J J false (eE (a:=base) (b:=2) J J) (mv 2 J (aI J J J false (fS (a:=base) (b:=36) J J) (pu (v:= AS) J (a7 (aQ J ?_)))))))))))))
 refine aY (aO (sr (mv 1 J (cS J J (v:= no (((aJ bs).size:Nat):Int)) (v':= no ((bs.length:Nat):Int)) (by rw [cX]) (O7 (k:=bs.length) J J J kK tJ J (by omega) (by decide) fun g1 _ X e4=>?_)))))
 have X:=X.mono (Ext.refl w).size
 have o:=(Ext.refl w).trans e4
 refine mv 1 J (a7 (aD (sr (mv 1 J (NZ (bs:=bs) J J Tryz.underlying9 (by decide) fun g5 v6 aj bj e9=>?_)))))
 have ao:w.heap.size≤g5:=by rw [←aj];exact o.size
 clear aj
 have r:=o.trans e9
 refine a7 (bO ?_)
 refine d8 (T:=a6×Nat×Option aB×Nat)
  (fun⟨wr,p,OA,oc⟩=> [(0,.string (aJ bs)),(1,no base),(6,we OA p oc),(20,i5 g5 0)])
  (fun⟨wr,p,OA,oc⟩=>wr)
  (fun⟨wr,p,OA,oc⟩=>(Ext w wr)∧(It wr g5 bs p)∧(Own wr w.heap.size 5 1 OA p oc (((bs.take p).map dv).map B8))∧(p≤bs.length)∧(∀c,c∈bs.take p→dv c<base))
  (fun⟨wr,p,OA,oc⟩=>bs.length-p)
  (⟨v6,0,(some ⟨g1,0,none⟩),bs.length⟩:a6×Nat×Option aB×Nat) ⟨r,bj,(X.ext e9),(bJ _),(fun c hc=>absurd hc (by simp))⟩ J ⟨rfl,rfl,rfl,rfl,AT⟩ ?_
 rintro⟨wr,p,OA,oc⟩ ⟨o,hI,hO,hp,hg⟩
 refine cR [(0,.string (aJ bs)),(1,no base),(6,we OA p oc),(20,i5 g5 0)] wr J ⟨rfl,rfl,rfl,rfl,AT⟩ (aD ?_)
 by_cases ai:p<bs.length
 ·refine aF ?_
  have L:=hI
  refine O3 J J hbs L (by omega) (by decide) fun _ f _ q H ag=>?_
  have r:=ag.ext o ao
  refine pu (v:= AI) J (a7 (aD (aW J (aY (aO (bO (sr (pu (v:= .int .i32 ((f:Nat):Int)) J (mv 1 J (a7 (sr (mv 1 J (cl (vs:= [.int .i32 ((f:Nat):Int)]) r (QY q.le) J (by kernel_rfl) fun _ _ bd W F=>?_)))))))))))))
  obtain rfl:=bd
  refine mv 1 J (a7 (aD (aD ?_)))
  by_cases cm:dv f≥base
  ·have E:¬eM base bs:=fun h=>by have:=h.2 (bs.getD p 0) (yI ai);rw [←q.dv] at this;omega
   refine aF (mv 2 J (aI J J J true (gA (a:=dv f) (b:=base) J J) (a7 (aW J (sr (mv 2 J (a7 (aV (bR (fK (m5 (fK (bR ?_)))))))))))))
   refine aU [S0,no 7] J ⟨rfl,rfl,AT⟩ ?_
   exact⟨fun h=>absurd h E,fun _=>⟨_,rfl,⟨_,_,rfl,rfl,rfl⟩,F⟩⟩
  ·have h1z:=q.one (by omega)
   have bo:=YF f
   refine aF (mv 2 J (aI J J J false (m6 (a:=dv f) (b:=base) J J) (a7 (aQ J (aY (aO (aF (mv 2 J (cS J J (v:= .int .u8 (IntKind.u8.wrap ((dv f:Nat):Int))) (v':= .int .u8 ((dv f:Nat):Int)) (ZF (by omega)) (iO J J (k:=1) (e:=5) [.int .u8 ((dv f:Nat):Int)] (fun _=>by kernel_rfl) fun _ _ nb=>?_))))))))))
   have ah:=nb.bk
   have fL:=nb.ext
   clear nb
   have aa:=F.trans fL
   have D:=((hO.updI L ag).ext (W.t fL))
   refine qM J J J kK tJ J D aa.size [.int .u8 ((dv f:Nat):Int)] J (tB _ ah) J fun ak am ab ap U _=>?_
   have bh:=U.ext aa (fun p hp=>(D.block p hp).1)
   have I:Own ab w.heap.size 5 1 ak (p+1) am ((((bs.take p).map dv)++ [dv f]).map B8):=by have h:=ap;simp only [List.map_append,jZ,kX] at h⊢;exact h
   refine mv 1 J (aX (bQ ?_))
   have ae:bs.take (p+1)=bs.take p++ [bs.getD p 0]:=by have:=FK (n:=bs.length) ai (aZ _);rwa [List.take_length] at this
   have Z:=q.dv
   refine cM (⟨ab,p+1,ak,am⟩:a6×Nat×Option aB×Nat) ⟨bh,(by have h:=((H.ext (W.t fL)).updO U (JY D (H.ext (W.t fL))));rwa [h1z.1] at h),(by rw [ae,List.map_append];rw [Z] at I;exact I),(by omega),(by rw [ae];intro c hc;rcases nV.1 hc with h | h;(· exact hg c h);(· rw [oY.1 h,←Z];omega))⟩ (show bs.length-(p+1)<bs.length-p by omega) J ⟨rfl,rfl,rfl,rfl,AT⟩
 ·have G:p=bs.length:=by omega
  refine aF ?_
  have Y:=hI
  refine O2 J J Y (by omega) (by decide) (pu (v:= AS) J (a7 (aD (aQ J (d4 (cU (cY (cZ (aO (aD (aD ?_)))))))))))
  by_cases hz:p=0
  ·have E:¬eM base bs:=fun h=>h.1 (sM.1 (by omega))
   refine aF (mv 1 J (pu (v:= no p) J (aI J J J true (fF (a:=p) (b:=0) J J) (a7 (aW J (sr (mv 2 J (a7 (aV (bR (aU [S0,no 7] J ⟨rfl,rfl,AT⟩ ?_)))))))))))
   exact⟨fun h=>absurd h E,fun _=>⟨_,rfl,⟨_,_,rfl,rfl,rfl⟩,o⟩⟩
  ·have V:eM base bs:=⟨fun e=>by rw [e] at G;simp at G;omega,by have:=hg;rwa [G,List.take_length] at this⟩
   have cp:(wd (cB base ((bs.take p).map dv))).length≤p:=by have:=vH (b:=base) hbu (ds:=(bs.take p).map dv) (DH hg);rw [List.length_map,dH] at this;omega
   refine aF (mv 1 J (pu (v:= no p) J (aI J J J false (eR (a:=p) (b:=0) J J) (a7 (aQ J (aY (aO (sr (mv 2 J (cl (vs:= [we OA p oc,no base]) o (R1 o.size hbl hbu (hO.rb (DH hg)) (by omega)) J (by kernel_rfl) fun _ _ av _ r=>?_))))))))))
   obtain⟨az,bm,bp,rfl,_,au⟩:=av
   refine cl (vs:= [we az bm bp]) r (RA r.size au.wi (by omega)) J (by kernel_rfl) fun _ _ bu _ F=>?_
   obtain⟨aw,bi,bg,rfl,ba,ar⟩:=bu
   refine mv 2 J (a7 (aV (aU [we aw bi bg,I0] J ⟨rfl,rfl,AT⟩ ?_)))
   have M:cB base ((bs.take p).map dv)=cB base (bs.map dv):=by rw [G,List.take_length]
   exact⟨fun _=>⟨_,rfl,⟨_,_,rfl,⟨_,_,_,rfl,M▸ba,M▸ar⟩,rfl⟩,F⟩,fun h=>absurd V h⟩
theorem R5 (hb:b≤w.heap.size)(hbl:2≤base)(hbu:base≤36)(hbs:∀b,b∈bs→b<256)(hlen:bs.length≤17179869184)(hg:eM base bs):aP aN 206 #[.string (aJ bs),no base] w (Gv w (T2 (WR b (cB base (bs.map dv))) (Is (no 0)))):=(GJ hbl hbu hbs hlen).mono fun _e _w' h=>Gv.imp (T2.imp (WR.imp hb) Is.imp) _ _ (h.1 hg)
theorem R6 (hbl:2≤base)(hbu:base≤36)(hbs:∀b,b∈bs→b<256)(hlen:bs.length≤17179869184)(hg:¬eM base bs):aP aN 206 #[.string (aJ bs),no base] w (Gv w (T2 (Is (we none 0 0)) (Is (no 7)))):=(GJ hbl hbu hbs hlen).mono fun _e _w' h=>h.2 hg
theorem R4 (hS:Signs w)(hx:Wi w A an ac m)(hal:an≤4194304)(hbl:2≤base)(hbu:base≤36):aP aN 185 #[we A an ac,no base] w (Gv w (T2 (Is (.string (aJ (f9 base m)))) (Is (no 0)))):=by
 have aq:(wd m).length≤4194304:=a8 hx.len hal
 have V:0+max 0 (db base m).length≤137438953472:=by have:=tH hbl aq;omega
 refine bN Tryz.func185 J (n:=73) J (bq J) (args:= [we A an ac,no base]) (bG [(0,we A an ac),(1,no base)] ⟨rfl,rfl,AT⟩ (sr (mv 2 J (a7 (aD (sr (mv 1 J (aI J J J false (eE (a:=base) (b:=2) J J) (mv 2 J (aI J J J false (fS (a:=base) (b:=36) J J) (pu (v:= AS) J (a7 (aQ J ?_)))))))))))))
 refine aY (aO (sr (mv 1 J (cl (vs:= [we A an ac]) (Ext.refl w) (KP (hx.ext (Ext.refl w)) (by omega)) J (by kernel_rfl) fun _ _ r3 _ aa=>?_))))
 obtain⟨A4,o,c4,rfl,j4,o4⟩:=r3
 refine mv 1 J (a7 (aD (aD ?_)))
 by_cases dm:o=0
 ·have X:m=0:=m0.1 (by omega)
  refine aF (mv 1 J (pu (v:= no o) J (aI J J J true (fF (a:=o) (b:=0) J J) (a7 (aW J (sr (mv 2 J (a7 (aV (bR (aU [.string (aJ ([48])),I0] J ⟨rfl,rfl,AT⟩ ?_)))))))))))
  have D:([48]:List Nat)=f9 base m:=by subst X;rfl
  exact⟨_,rfl,⟨_,_,rfl,(show Value.string _=Value.string _ from congrArg (fun l=>Value.string (aJ l)) D),rfl⟩,aa⟩
 ·have X:m≠0:=fun e=>dm (by rw [j4,e];rfl)
  refine aF (mv 1 J (pu (v:= no o) J (aI J J J false (eR (a:=o) (b:=0) J J) (a7 (aQ J (aY (aO (sr (mv 1 J (dQ J J (vs:= [no base]) (by kernel_rfl) (by decide) (GG hbl hbu) ?_))))))))))
  rintro _ v5 ⟨q,p9,_,rfl,r7,e6⟩
  refine dR ?_
  have M:=aa.trans e6
  obtain⟨_,_,rfl,rfl,rfl⟩:=r7
  refine mv 1 J (pu (v:= no q) J (pu (v:= up ((base^q:Nat):Int)) J (mv 2 J (a7 (sr (mv 3 J (pu (v:= .agg #[no base,no q,up ((base^q:Nat):Int),S0,S0]) J (uI J J (vs:= [no base,no q,up ((base^q:Nat):Int),S0,S0]) J (by decide) fun f _ nb=>?_))))))))
  have ar:=Nat.le_of_eq nb.at_
  have F:w.heap.size≤v5.heap.size:=M.size
  have ae:=nb.bk
  have az:w.heap.size≤f:=by rw [←nb.at_];exact M.size
  have Z:=nb.ext
  clear nb
  have U:=M.trans Z
  refine mv 1 J (a7 (aD (aD ?_)))
  by_cases en:o>12
  ·refine aF (mv 1 J (pu (v:= no o) J (aI J J J true (eW (a:=o) (b:=12) J J) (a7 (aW J (aD ?_))))))
   have dw:1≤q:=by refine Nat.pos_of_ne_zero (fun e=>?_);have:=p9.gt;rw [e,eJ,Nat.pow_one] at this;omega
   have cu:2≤base^q:=a8 hbl (a8 (Nat.le_of_eq (Nat.pow_one base).symm) (eS (by omega) dw))
   have ba:=p9.le
   refine aF (mv 1 J (iO J J (k:=1) (e:=65) [up ((base^q:Nat):Int)] (fun _=>by kernel_rfl) fun dt dr nb=>?_))
   have bm:=nb.bk
   have ai:=nb.ext
   clear nb
   have Y:=U.trans ai
   refine mv 1 J (a7 (bO ?_))
   refine d8 (T:=a6×Nat×Option aB×Nat×Nat×Option aB×Nat)
    (fun⟨wr,j,QA,qn,qc,PA,pc⟩=> [(0,we A4 o c4),(1,no base),(6,no q),(7,up ((base^q:Nat):Int)),(8,i5 f 0),(9,we QA qn qc)])
    (fun⟨wr,j,QA,qn,qc,PA,pc⟩=>wr)
    (fun⟨wr,j,QA,qn,qc,PA,pc⟩=>(Ext w wr)∧(j=0∨(base^q)^2^(j-1)≤m)∧(qn=(wd ((base^q)^2^j)).length)∧(qn≤8388608)∧(Own wr 0 65 1 QA qn qc ((wd ((base^q)^2^j)).map bF))∧(Bk wr f 193 [no base,no q,up ((base^q:Nat):Int),we PA j pc,S0])∧(Pw wr v5.heap.size PA j pc (base^q))∧(v5.heap.size≤wr.heap.size)∧(Own wr 0 65 1 A4 o c4 ((wd m).map bF)))
    (fun⟨wr,j,QA,qn,qc,PA,pc⟩=>64-j)
    (⟨dr,0,(some ⟨dt,0,none⟩),1,1,none,0⟩:a6×Nat×Option aB×Nat×Nat×Option aB×Nat) ⟨Y,(cH J),(by rw [Nat.pow_zero,Nat.pow_one];exact rL ba (by omega)),(by decide),(by rw [Nat.pow_zero,Nat.pow_one];exact (a0b bm ba (by omega))),(ae.ext ai),(Pw.nil _ _ _),((a8 Z.size ai.size)),((o4.ext (e6.t (Z.t ai)))).mono (bJ _)⟩ J ⟨rfl,rfl,rfl,rfl,rfl,rfl,AT⟩ ?_
   rintro⟨wr,j,QA,qn,qc,PA,pc⟩ ⟨aa,dx,ct,dz,hq,b_g,bg,W,ah⟩
   refine cR [(0,we A4 o c4),(1,no base),(6,no q),(7,up ((base^q:Nat):Int)),(8,i5 f 0),(9,we QA qn qc)] wr J ⟨rfl,rfl,rfl,rfl,rfl,rfl,AT⟩ (aD (aD ?_))
   have eg:j≤29:=by rcases dx with h | h;(· omega);(· have:=JZ (II cu h aq) (by omega);omega)
   by_cases ap:(base^q)^2^j≤m
   ·have da:(wd ((base^q)^2^j*(base^q)^2^j)).length≤8388608:=VB (a8 (gK ap) aq)
    refine aF (mv 2 J (cl (vs:= [we QA qn qc,we A4 o c4]) aa (xL hq.wi ah.wi) J (by kernel_rfl) fun _ _ df r M=>?_))
    obtain rfl:=df
    refine aI J J J true (ZM ap) (a7 (aW J (aY (aO (bO (sr (mv 2 J (pf f 0 J (pf f 3 J (bB J J (bM (fun _=>by kernel_rfl) (b_g.ext r) J) (mv 1 J (iO J J (k:=1) (e:=22) [we QA qn qc] (fun _=>by kernel_rfl) fun _ _ nb=>?_))))))))))))
    have cm:=nb.bk
    have E:=nb.ext
    clear nb
    have U:=M.trans E
    refine OC J J J (bg.ext (r.t E)) (a8 W ((a8 r.size E.size))) cm ct dz (hq.ext (r.t E)) (by omega) (by decide) fun bi ck _ ao G ⟨_,I⟩=>?_
    have Y:=G.ext U (fun p hp=>a8 F (I.block p hp).1)
    refine pf f 0 J (pf f 3 J ?_)
    have H:=((b_g.ext (r.t E)).updO G (C6 I (b_g.ext (r.t E)) (by decide)))
    refine dE J J J (fun _=>by kernel_rfl) J H (bq J) J [no base,no q,up ((base^q:Nat):Int),we bi (j+1) ck,S0] J fun _ ag L _=>?_
    have au:=L.ext Y az
    refine a7 (aD (aD ?_))
    by_cases ef:2*qn>o+2
    ·refine aF (mv 1 J (pu (v:= no qn) J (aR J J J ((2*qn:Nat):Int) (oQ (a:=2) (b:=qn) J J) (mv 1 J (pu (v:= no o) J (aR J J J ((o+2:Nat):Int) (cA (a:=o) (b:=2) J J) (aI J J J true (eW (a:=2*qn) (b:=o+2) J J) (a7 (aW J (d4 (cU (rR (cY ?_)))))))))))))
     refine cZ (aO (sr (mv 3 J (pf f 0 J (pf f 3 J (bB J J (bM (fun _=>by kernel_rfl) ag J) (pu (v:= no (((j+1):Nat):Int)) J (aR J J J (((j+1:Nat):Int)-1) (eL J) (dQ J J (vs:= [i5 f 0,we A4 o c4,no (((j+1:Nat):Int)-1),I0]) (by kernel_rfl) (by decide) (xK (j+1) (lb:=v5.heap.size) (bs:= []) J (hS.ext au) (dJ (u6 w _ (hS 0 (by decide))) F) hbl hbu ag (Own.nil _ _ _ _) ar (a8 W ((a8 (a8 (a8 r.size E.size) G.size) L.by_.size))) (((ah.ext (r.t E)).updOT I (by decide) G).updT H (by decide) L).wi (by omega) J p9 (by decide) V ((ao.updT H L (by decide) (by decide)).mono (bJ _)) (aZ _) (by omega)) ?_)))))))))
     rintro _ _ ⟨rfl,_,_,_,ch,ci,bp,_⟩
     refine dR ?_
     have av:=bp.ext au F
     refine a7 (sr (mv 1 J (pf f 0 J (pf f 4 J (bB J J (bM (fun _=>by kernel_rfl) ch J) (wV J J ci (mv 2 J (a7 (aV (aU [.string (aJ ([]++dW (eF (db base m) 0))),I0] J ⟨rfl,rfl,AT⟩ ?_))))))))))
     have D:([]++dW (eF (db base m) 0):List Nat)=f9 base m:=by rw [List.nil_append,uV (bJ _),f9,if_neg X]
     exact⟨_,rfl,⟨_,_,rfl,(show Value.string _=Value.string _ from congrArg (fun l=>Value.string (aJ l)) D),rfl⟩,av⟩
    ·refine aF (mv 1 J (pu (v:= no qn) J (aR J J J ((2*qn:Nat):Int) (oQ (a:=2) (b:=qn) J J) (mv 1 J (pu (v:= no o) J (aR J J J ((o+2:Nat):Int) (cA (a:=o) (b:=2) J J) (aI J J J false (fS (a:=2*qn) (b:=o+2) J J) (a7 (aQ J (aY (aO (aF (mv 1 J ?_)))))))))))))
     refine cl (vs:= [we QA qn qc]) au (BM (bJ _) (((hq.ext (r.t E)).updOT I (by decide) G).updT H (by decide) L).wi) J (by kernel_rfl) fun _ cz dh aj av=>?_
     obtain⟨dl,du,cv,rfl,bo,dy⟩:=dh
     refine mv 1 J (aX (bQ (cM (⟨cz,j+1,dl,du,cv,bi,ck⟩:a6×Nat×Option aB×Nat×Nat×Option aB×Nat) ⟨av,(cO ap),(by rw [bo,IE]),(by rw [bo];exact da),(by rw [←IE];exact dy),(ag.ext aj),((ao.updT H L (by decide) (by decide)).ext aj),(a8 W ((a8 (a8 (a8 (a8 r.size E.size) G.size) L.by_.size) aj.size))),((((ah.ext (r.t E)).updOT I (by decide) G).updT H (by decide) L).ext aj)⟩ (show 64-(j+1)<64-j by omega) J ⟨rfl,rfl,rfl,rfl,rfl,rfl,AT⟩)))
   ·refine aF (mv 2 J (cl (vs:= [we QA qn qc,we A4 o c4]) aa (xL hq.wi ah.wi) J (by kernel_rfl) fun _ _ dg ab M=>?_))
    obtain rfl:=dg
    refine aI J J J false (ZN (by omega)) (a7 (aQ J (d4 (cU (cY (cZ (aO (sr (mv 3 J (pf f 0 J (pf f 3 J (bB J J (bM (fun _=>by kernel_rfl) (b_g.ext ab) J) (pu (v:= no j) J ?_)))))))))))))
    refine aR J J J (((j:Nat):Int)-1) (eL J) (dQ J J (vs:= [i5 f 0,we A4 o c4,no (((j:Nat):Int)-1),I0]) (by kernel_rfl) (by decide) (xK (j) (lb:=v5.heap.size) (bs:= []) J (hS.ext M) (dJ (u6 w _ (hS 0 (by decide))) F) hbl hbu (b_g.ext ab) (Own.nil _ _ _ _) ar (a8 W (ab.size)) (ah.ext ab).wi (by omega) J p9 (by decide) V ((bg.ext ab).mono (bJ _)) (aZ _) (by omega)) ?_)
    rintro _ _ ⟨rfl,_,_,_,bw,bd,bf,_⟩
    refine dR ?_
    have U:=bf.ext M F
    refine a7 (sr (mv 1 J (pf f 0 J (pf f 4 J (bB J J (bM (fun _=>by kernel_rfl) bw J) (wV J J bd (mv 2 J (a7 (aV (aU [.string (aJ ([]++dW (eF (db base m) 0))),I0] J ⟨rfl,rfl,AT⟩ ?_))))))))))
    have D:([]++dW (eF (db base m) 0):List Nat)=f9 base m:=by rw [List.nil_append,uV (bJ _),f9,if_neg X]
    exact⟨_,rfl,⟨_,_,rfl,(show Value.string _=Value.string _ from congrArg (fun l=>Value.string (aJ l)) D),rfl⟩,U⟩
  ·refine aF (mv 1 J (pu (v:= no o) J (aI J J J false (fS (a:=o) (b:=12) J J) (a7 (aQ J (aY (aO (sr (mv 3 J (pf f 0 J (pf f 3 J (bB J J (bM (fun _=>by kernel_rfl) ae J) (pu (v:= no 0) J ?_)))))))))))))
   refine aR J J J (((0:Nat):Int)-1) (eL J) (dQ J J (vs:= [i5 f 0,we A4 o c4,no (((0:Nat):Int)-1),I0]) (by kernel_rfl) (by decide) (xK 0 (lb:=v5.heap.size) (bs:= []) J (hS.ext U) (dJ (u6 w _ (hS 0 (by decide))) F) hbl hbu ae (Own.nil _ _ _ _) ar (Z.size) (o4.ext (e6.t Z)).wi (by omega) J p9 (by decide) V (Pw.nil _ _ _) (aZ _) (by omega)) ?_)
   rintro _ _ ⟨rfl,_,_,_,bh,bj,bu,_⟩
   refine dR ?_
   have Y:=bu.ext U F
   refine a7 (sr (mv 1 J (pf f 0 J (pf f 4 J (bB J J (bM (fun _=>by kernel_rfl) bh J) (wV J J bj (mv 2 J (a7 (aV (aU [.string (aJ ([]++dW (eF (db base m) 0))),I0] J ⟨rfl,rfl,AT⟩ ?_))))))))))
   have D:([]++dW (eF (db base m) 0):List Nat)=f9 base m:=by rw [List.nil_append,uV (bJ _),f9,if_neg X]
   exact⟨_,rfl,⟨_,_,rfl,(show Value.string _=Value.string _ from congrArg (fun l=>Value.string (aJ l)) D),rfl⟩,Y⟩
theorem RG (ht:P.underlying t=some .string)(hb:∀b,b∈bs→b<256)(hi:i<bs.length):(Instr.index t (.string (aJ bs)) (no (i:Int))).run P w= .ok (.int .u8 ((bs.getD i 0:Nat):Int)) w:=by
 have hs:i<(aJ bs).size:=by rw [cX];exact hi
 rw [run_index_string w t _ _ _ ht,dif_pos ⟨by omega,by omega⟩]
 have e:=uN hb hi hs
 simp only [gZ]
 rw [e]
theorem dM {Q:dI→Act→a6→Prop}{l:Fr}{pos:String}{x y:cN}(hw:dB ops l gd=some true)(hx:bV l x=some (.string (aJ bs)))(hy:bV l y=some (no (i:Int)))(ht:P.underlying t=some .string)(hb:∀b,b∈bs→b<256)(h:wl P ops Q n rest ((d,.int .u8 ((bs.getD i 0:Nat):Int))::l) w)(hi:i<bs.length:=by omega)(hn:d<n:=by decide):wl P ops Q n (⟨some d,.index t x y,ty,pos,af,gd⟩::rest) l w:=by
 refine fW hw hn (fun a' f=>?_) h
 have e:(Instr.index t (a'.eval x) (a'.eval y)).run P w= .ok (.int .u8 ((bs.getD i 0:Nat):Int)) w:=by rw [f.ev hx,f.ev hy];exact RG ht hb hi
 show ((Instr.index t (a'.eval x) (a'.eval y)>>=fun r=>pure (fZ r):Sem fI)).run P w=_
 rw [cE,e];rfl
theorem FI (hb:2≤b)(hb2:b≤36):∀c,c∈f9 b m→c<256:=by
 intro c e
 unfold f9 at e
 split at e
 ·rw [oY] at e;omega
 ·unfold dW at e
  obtain⟨d,f,rfl⟩:=qI.1 e
  have h1:=jX hb m d (List.mem_reverse.1 f)
  have:=G4 (d:=d) (by omega)
  omega
theorem RC (hS:Signs w)(hx:Wi w A an ac m)(hal:an≤4194304):aP aN 126 #[we A an ac] w (Gv w (Is (.string (aJ (f9 10 m))))):=by
 refine bN Tryz.func126 J (n:=11) J (bq J) (args:= [we A an ac]) (bG [(0,we A an ac)] ⟨rfl,AT⟩ (sr (mv 1 J (a7 (sr (mv 1 J (cl (vs:= [we A an ac,no 10]) (Ext.refl w) (R4 (base:=10) (hS.ext (Ext.refl w)) hx (by omega) (by decide) (by decide)) J (by kernel_rfl) fun _ _ f _ e=>?_)))))))
 obtain⟨_,_,rfl,rfl,rfl⟩:=f
 refine mv 1 J (pu (v:= .string (aJ (f9 10 m))) J (pu (v:= no 0) J (mv 2 J (a7 (sr (mv 2 J (a7 (aV (aU [.string (aJ (f9 10 m))] J ⟨rfl,AT⟩ ?_)))))))))
 exact⟨_,rfl,rfl,e⟩
theorem uR (hbs:∀b,b∈bs→b<256)(hlen:bs.length≤17179869184)(hg:eM 10 bs):aP aN 163 #[.string (aJ bs)] w (Gv w (T2 (WR w.heap.size (cB 10 (bs.map dv))) (Is (no 0)))):=by
 refine bN Tryz.func163 J (n:=8) J (bq J) (args:= [.string (aJ bs)]) (bG [(0,.string (aJ bs))] ⟨rfl,AT⟩ (sr (mv 2 J (a7 (sr (mv 1 J (cl (vs:= [.string (aJ bs),no 10]) (Ext.refl w) (R5 (Ext.refl w).size (base:=10) (by decide) (by decide) hbs hlen hg) J (by kernel_rfl) fun _ _ p _ e=>?_)))))))
 obtain⟨_,_,rfl,⟨h,o,f,rfl,r,q⟩,rfl⟩:=p
 refine pu (v:= we h o f) J (pu (v:= no 0) J (mv 2 J (a7 (aV (aU [we h o f,I0] J ⟨rfl,rfl,AT⟩ ?_)))))
 exact⟨_,rfl,⟨_,_,rfl,⟨_,_,_,rfl,r,q⟩,rfl⟩,e⟩
theorem uS (hbs:∀b,b∈bs→b<256)(hlen:bs.length≤17179869184)(hg:¬eM 10 bs):aP aN 163 #[.string (aJ bs)] w (Gv w (T2 (Is (we none 0 0)) (Is (no 7)))):=by
 refine bN Tryz.func163 J (n:=8) J (bq J) (args:= [.string (aJ bs)]) (bG [(0,.string (aJ bs))] ⟨rfl,AT⟩ (sr (mv 2 J (a7 (sr (mv 1 J (cl (vs:= [.string (aJ bs),no 10]) (Ext.refl w) (R6 (base:=10) (by decide) (by decide) hbs hlen hg) J (by kernel_rfl) fun _ _ f _ e=>?_)))))))
 obtain⟨_,_,rfl,rfl,rfl⟩:=f
 refine pu (v:= we none 0 0) J (pu (v:= no 7) J (mv 2 J (a7 (aV (aU [S0,no 7] J ⟨rfl,rfl,AT⟩ ?_)))))
 exact⟨_,rfl,⟨_,_,rfl,rfl,rfl⟩,e⟩
end
section
theorem L5 (h:d<36):dv (sgn d)=d:=by
 unfold dv sgn
 by_cases h1:d<10
 ·rw [if_pos h1,if_pos (by omega)];omega
 ·rw [if_neg h1,if_neg (by omega),if_pos (by omega)];omega
end
section
open Go.RowKit
theorem OW (x:Int):gQ x=(if decide (x<0) then [45] else [])++(f9 10 x.natAbs++ []):=by
 unfold gQ
 rw [mF]
 by_cases h:x<0
 ·rw [if_pos h,decide_eq_true h];rfl
 ·rw [if_neg h,decide_eq_false h];rfl
theorem xE {b:List Nat}(h:a=b):qS .eql a b=some true:=by simp [qS,h]
theorem qR {b:List Nat}(h:a≠b):qS .eql a b=some false:=by simp [qS,h]
theorem a0u {A B:Int}{a:Nat}(ha:A=(a:Int))(hb:B=(b:Int))(h:b≤a)(h2:a≤255):fN .sub .u8 A B=some ((a-b:Nat):Int):=by
 subst ha hb;simp only [fN,eB];rw [show (a:Int)-(b:Int)=((a-b:Nat):Int) by omega,IntWalk.u8_in _ ⟨by omega,by omega⟩]
theorem oM (h:∀c,c∈bs→dv c<base)(hbl:2≤base:=by decide)(hbu:base≤36:=by decide):(wd (cB base (bs.map dv))).length≤bs.length:=by
 have:=vH (b:=base) hbu (DH h)
 rwa [List.length_map] at this
theorem xB (h:i<bs.length):bs.take (i+1)=bs.take i++ [bs.getD i 0]:=by
 rw [List.take_add_one,bK,cC h];rfl
end
section
def a0I (l:List Nat):Prop:=∀c,c∈l→dv c<10∨c=95
end
section
open Go.ChangeShapes Go.WideShapes Go.ChangeAt Go.RowKit
theorem FW (bs:List Nat)(i j:Nat):(aJ bs).extract i j=aJ ((bs.take j).drop i):=by
 refine ByteArray.ext ?_
 rw [ByteArray.data_extract]
 unfold aJ
 rw [List.extract_toArray,List.extract_eq_take_drop,List.map_drop,kW,List.drop_take]
theorem PQ (bs:List Nat)(j:Nat):(aJ bs).extract 0 j=aJ (bs.take j):=by rw [FW,gP]
theorem FV (bs:List Nat)(i:Nat):(aJ bs).extract i (aJ bs).size=aJ (bs.drop i):=by rw [FW,cX,List.take_length]
section
variable {P:bW}{Q:dI→Act→a6→Prop}{n:Nat}{l:Fr}{w:a6}{ops:Array bD}{rest:List bD}{d:Nat}{ty:aS}{pos:String}{af:Array fP}{gd:Option (Nat×Bool)}
theorem BP {s:ByteArray}(ht:P.underlying t=some .string):(Instr.sliceAt t (.string s) low high none).run P w=(Instr.slice t (.string s) low high none).run P w:=by
 have e:(underlying t).run P w= .ok .string w:=run_underlying ht w
 unfold Instr.sliceAt
 simp only [cE,e,Result.andThen_ok]
theorem o8 {x y:cN}(hw:dB ops l gd=some true)(hx:bV l x=some (.string (aJ bs)))(hy:bV l y=some (no (i:Int)))(ht:P.underlying t=some .string)(h:wl P ops Q n rest ((d,.string (aJ (bs.take i)))::l) w)(hi:i≤bs.length:=by omega)(hn:d<n:=by decide):wl P ops Q n (⟨some d,.slice t x none (some y) none,ty,pos,af,gd⟩::rest) l w:=
 fW hw hn (fun a' f=>by
  have e:(Instr.sliceAt t (a'.eval x) (Option.map a'.eval none) ((some y).map a'.eval) (Option.map a'.eval none)).run P w= .ok (.string (aJ (bs.take i))) w:=by
   show (Instr.sliceAt t (a'.eval x) none (some (a'.eval y)) none).run P w=_
   rw [f.ev hx,f.ev hy,BP ht,run_slice_string_h (ht:=ht) (kh:= .i64) (h:=(i:Int)) (h0:=by omega) (h2:=by rw [cX];omega),gZ,PQ]
  show ((Instr.sliceAt t (a'.eval x) (Option.map a'.eval none) ((some y).map a'.eval) (Option.map a'.eval none)>>=fun r=>pure (fZ r):Sem fI)).run P w=_
  rw [cE,e];rfl) h
theorem pC {x y:cN}(hw:dB ops l gd=some true)(hx:bV l x=some (.string (aJ bs)))(hy:bV l y=some (no (i:Int)))(ht:P.underlying t=some .string)(h:wl P ops Q n rest ((d,.string (aJ (bs.drop i)))::l) w)(hi:i≤bs.length:=by omega)(hn:d<n:=by decide):wl P ops Q n (⟨some d,.slice t x (some y) none none,ty,pos,af,gd⟩::rest) l w:=
 fW hw hn (fun a' f=>by
  have e:(Instr.sliceAt t (a'.eval x) ((some y).map a'.eval) (Option.map a'.eval none) (Option.map a'.eval none)).run P w= .ok (.string (aJ (bs.drop i))) w:=by
   show (Instr.sliceAt t (a'.eval x) (some (a'.eval y)) none none).run P w=_
   rw [f.ev hx,f.ev hy,BP ht,run_slice_string_l (ht:=ht) (kl:= .i64) (l:=(i:Int)) (h0:=by omega) (h1:=by rw [cX];omega),gZ,FV]
  show ((Instr.sliceAt t (a'.eval x) ((some y).map a'.eval) (Option.map a'.eval none) (Option.map a'.eval none)>>=fun r=>pure (fZ r):Sem fI)).run P w=_
  rw [cE,e];rfl) h
end
end
section
open Go.RowKit
theorem KF (hn:n=(wd m).length)(ho:Own w b 65 1 A n c ((wd m).map bF)):aP aN 124 #[AS,we A n c] w (Gv w (ZR b ((m:Nat):Int))):=by
 refine (kZ (s:=false) hn).mono ?_
 rintro e w' ⟨s',rfl,hs,hx⟩
 have f:s'=false:=by rw [hs.out,lS];exact decide_eq_false (by omega)
 subst f
 exact⟨_,rfl,⟨_,_,_,_,rfl,(pY hn ho).ext hx⟩,hx⟩
theorem KE (hn:n=(wd m).length)(ho:Own w b 65 1 A n c ((wd m).map bF)):aP aN 124 #[AI,we A n c] w (Gv w (ZR b (-((m:Nat):Int)))):=by
 refine (kZ (s:=true) hn).mono ?_
 rintro e w' ⟨s',rfl,hs,hx⟩
 refine⟨_,rfl,⟨_,_,_,_,rfl,?_⟩,hx⟩
 exact (jL (m:=m) (s:=true) (by rw [hs.out]) hn ho (sU m)).ext hx
def iG (bs:List Nat):Bool:=if bs.take 1= [43] then false else if bs.take 1= [45] then true else if bs.take 3= [226,136,146] then true else false
def f8 (bs:List Nat):List Nat:=if bs.take 1= [43] then bs.drop 1 else if bs.take 1= [45] then bs.drop 1 else if bs.take 3= [226,136,146] then bs.drop 3 else bs
def nA (bs:List Nat):Int:=if iG bs=true then-((cB 10 ((f8 bs).map dv):Nat):Int) else ((cB 10 ((f8 bs).map dv):Nat):Int)
theorem X8 (hbs:∀b,b∈bs→b<256)(hps:∀b,b∈ps→b<256):aP aN 237 #[.string (aJ bs),.string (aJ ps)] w (Gv w (Is (.bool (decide (bs.take ps.length=ps))))):=by
 refine bN Tryz.func237 J (n:=18) J (bq J) (args:= [.string (aJ bs),.string (aJ ps)]) (bG [(0,.string (aJ bs)),(1,.string (aJ ps))] ⟨rfl,rfl,AT⟩ (sr (mv 1 J (a7 (aD ?_)))))
 by_cases o:bs.length≥ps.length
 ·by_cases f:bs.take ps.length=ps
  ·refine aF (mv 1 J (cS J J (v:= no (((aJ bs).size:Nat):Int)) (v':= no ((bs.length:Nat):Int)) (by rw [cX]) (mv 1 J (cS J J (v:= no (((aJ ps).size:Nat):Int)) (v':= no ((ps.length:Nat):Int)) (by rw [cX]) (aI J J J true (gA (a:=bs.length) (b:=ps.length) J J) (mv 3 J (cS J J (v:= no (((aJ ps).size:Nat):Int)) (v':= no ((ps.length:Nat):Int)) (by rw [cX]) (o8 (bs:=bs) (i:=ps.length) J J J Tryz.underlying9 (mv 1 J (mH (a:=bs.take ps.length) (b:=ps) J J J (fun b hb=>hbs b (qG hb)) true (xE (f)) (pu (v:= AI) J (mv 1 J (aX ?_))) (hb:=hps)))))))))))
   refine aO (aV (aU [AI] J ⟨rfl,AT⟩ ?_))
   exact⟨_,rfl,(show Value.bool true=_ by rw [decide_eq_true f]),(Ext.refl w)⟩
  ·refine aF (mv 1 J (cS J J (v:= no (((aJ bs).size:Nat):Int)) (v':= no ((bs.length:Nat):Int)) (by rw [cX]) (mv 1 J (cS J J (v:= no (((aJ ps).size:Nat):Int)) (v':= no ((ps.length:Nat):Int)) (by rw [cX]) (aI J J J true (gA (a:=bs.length) (b:=ps.length) J J) (mv 3 J (cS J J (v:= no (((aJ ps).size:Nat):Int)) (v':= no ((ps.length:Nat):Int)) (by rw [cX]) (o8 (bs:=bs) (i:=ps.length) J J J Tryz.underlying9 (mv 1 J (mH (a:=bs.take ps.length) (b:=ps) J J J (fun b hb=>hbs b (qG hb)) false (qR (f)) (pu (v:= AS) J (mv 1 J (aX ?_))) (hb:=hps)))))))))))
   refine aO (aV (aU [F0] J ⟨rfl,AT⟩ ?_))
   exact⟨_,rfl,(show Value.bool false=_ by rw [decide_eq_false f]),(Ext.refl w)⟩
 ·have f:bs.take ps.length≠ps:=fun e=>by have h:=congrArg List.length e;rw [dH] at h;omega
  refine aF (mv 1 J (cS J J (v:= no (((aJ bs).size:Nat):Int)) (v':= no ((bs.length:Nat):Int)) (by rw [cX]) (mv 1 J (cS J J (v:= no (((aJ ps).size:Nat):Int)) (v':= no ((ps.length:Nat):Int)) (by rw [cX]) (aI J J J false (m6 (a:=bs.length) (b:=ps.length) J J) (mv 7 J (pu (v:= AS) J (mv 1 J (a7 (aV (aU [F0] J ⟨rfl,AT⟩ ?_)))))))))))
  exact⟨_,rfl,(show Value.bool false=_ by rw [decide_eq_false f]),(Ext.refl w)⟩
theorem oP (hbs:∀b,b∈bs→b<256)(hps:∀b,b∈ps→b<256:=by decide):aP aN 201 #[.string (aJ bs),.string (aJ ps)] w (Gv w (Is (.bool (decide (bs.take ps.length=ps))))):=by
 refine bN Tryz.func201 J (n:=8) J (bq J) (args:= [.string (aJ bs),.string (aJ ps)]) (bG [(0,.string (aJ bs)),(1,.string (aJ ps))] ⟨rfl,rfl,AT⟩ (sr (mv 1 J (a7 (sr (mv 2 J (cl (vs:= [.string (aJ bs),.string (aJ ps)]) (Ext.refl w) (X8 hbs hps) J (by kernel_rfl) fun _ _ f _ e=>?_)))))))
 obtain rfl:=f
 refine mv 1 J (a7 (aV (aU [.bool (decide (bs.take ps.length=ps))] J ⟨rfl,AT⟩ ?_)))
 exact⟨_,rfl,rfl,e⟩
theorem GD (hbs:∀b,b∈bs→b<256)(hlen:bs.length≤17179869184):aP aN 154 #[.string (aJ bs)] w (fun e w'=>(eM 10 (f8 bs)→Gv w (T2 (ZR w.heap.size (nA bs)) (Is (no 0))) e w')∧(¬eM 10 (f8 bs)→Gv w (T2 (Is (O false none 0 0)) (Is (no 7))) e w')):=by
 refine bN Tryz.func154 J (n:=34) J (bq J) (args:= [.string (aJ bs)]) (bG [(0,.string (aJ bs))] ⟨rfl,AT⟩ (sr (al [F0,S0] (Ext.refl w) (fun _=>by kernel_rfl) J fun _ v2 I L _ ab=>(mv 1 J (a7 (sr (mv 1 J (a7 (aD (bO (aD ?_)))))))))))
 by_cases p:bs.take 1= [43]
 ·have o:f8 bs=bs.drop 1:=by unfold f8;rw [if_pos p]
  have M:iG bs=false:=by unfold iG;rw [if_pos p]
  have ei:1≤bs.length:=by have h:=congrArg List.length p;rw [dH] at h;simp only [eN,List.length_nil] at h;omega
  refine aF (mv 1 J (dQ J J (vs:= [.string (aJ bs),.string (aJ ([43]))]) (by kernel_rfl) (by decide) (by have h:=oP (w:=v2) (bs:=bs) (ps:= [43]) hbs;rw [decide_eq_true (show bs.take ([43]:List Nat).length= [43] by exact p)] at h;exact h) ?_))
  rintro _ _ ⟨_,rfl,r8,e7⟩
  refine dR ?_
  have H:=ab.trans e7
  obtain rfl:=r8
  refine mv 1 J (a7 (aW J (aF (mv 1 J (pC (bs:=bs) (i:=1) J J J Tryz.underlying9 (mv 1 J (aX (bQ (aO (aD ?_))))))))))
  have E:∀b,b∈bs.drop 1→b<256:=fun b hb=>hbs b (qH hb)
  have D:(bs.drop 1).length≤17179869184:=by rw [gO];omega
  by_cases hg:eM 10 (bs.drop 1)
  ·have ch:=oM (base:=10) hg.2
   refine aF (mv 1 J (cl (vs:= [.string (aJ (bs.drop 1))]) H ((uR E D hg).mono (Gv.imp (T2.imp (WR.imp H.size) Is.imp))) J (by kernel_rfl) fun _ _ ez fw r=>?_))
   obtain⟨_,_,rfl,⟨da,ck,du,rfl,ig,ic⟩,rfl⟩:=ez
   refine mv 1 J (pu (v:= we da ck du) J (pu (v:= no 0) J (mv 2 J (a7 (aD (sr (mv 1 J (aI J J J false (by decide) (a7 (aQ J (aY (aO (aD ?_)))))))))))))
   refine aF (mv 2 J (cl (vs:= [F0,we da ck du]) r (KF ig ic) J (by kernel_rfl) fun _ _ go fk f=>?_))
   obtain⟨ba,am,ar,bp,rfl,gi⟩:=go
   have ag:=(I.ext (e7.t (fw.t fk)))
   refine so aA ag (a5 ba am ar bp) f L J J J J fun _ ct fa q=>(mv 1 J (a7 (aV (aU [O ba am ar bp,I0] J ⟨⟨_,rfl,bH aA ct (a5 ba am ar bp) J (bq J) rfl⟩,rfl,AT⟩ (⟨fun _=>⟨_,rfl,⟨_,_,rfl,⟨_,_,_,_,rfl,?_⟩,rfl⟩,q⟩,fun h=>absurd (show eM 10 (f8 bs) by rw [o];exact hg) h⟩)))))
   have h:=(gi.updT ag fa)
   rw [nA,M,o]
   exact h
  ·refine aF (mv 1 J (cl (vs:= [.string (aJ (bs.drop 1))]) H (uS E D hg) J (by kernel_rfl) fun _ _ gc fL r=>?_))
   obtain⟨_,_,rfl,rfl,rfl⟩:=gc
   refine mv 1 J (pu (v:= we none 0 0) J (pu (v:= no 7) J (mv 2 J (a7 (aD (sr (mv 1 J (aI J J J true (by decide) (a7 (aW J (sr (pu (v:= .agg #[F0,S0]) J (mv 1 J ?_)))))))))))))
   have dx:=(I.ext (e7.t fL))
   refine so aA dx [F0,S0] r L J J J J fun _ eg _ f=>(mv 1 J (a7 (aV (bR (aU [.agg #[F0,S0],no 7] J ⟨⟨_,rfl,bH aA eg [F0,S0] J (bq J) rfl⟩,rfl,AT⟩ ?_)))))
   exact⟨fun h=>absurd (by rw [o] at h;exact h) hg,fun _=>⟨_,rfl,⟨_,_,rfl,rfl,rfl⟩,f⟩⟩
 ·by_cases F:bs.take 1= [45]
  ·have o:f8 bs=bs.drop 1:=by unfold f8;rw [if_neg p,if_pos F]
   have M:iG bs=true:=by unfold iG;rw [if_neg p,if_pos F]
   have ei:1≤bs.length:=by have h:=congrArg List.length F;rw [dH] at h;simp only [eN,List.length_nil] at h;omega
   refine aF (mv 1 J (dQ J J (vs:= [.string (aJ bs),.string (aJ ([43]))]) (by kernel_rfl) (by decide) (by have h:=oP (w:=v2) (bs:=bs) (ps:= [43]) hbs;rw [decide_eq_false (show¬bs.take ([43]:List Nat).length= [43] by exact p)] at h;exact h) ?_))
   rintro _ ft ⟨_,rfl,gy,az⟩
   refine dR ?_
   have H:=ab.trans az
   obtain rfl:=gy
   refine mv 1 J (a7 (aQ J (sr (mv 1 J (dQ J J (vs:= [.string (aJ bs),.string (aJ ([45]))]) (by kernel_rfl) (by decide) (by have h:=oP (w:=ft) (bs:=bs) (ps:= [45]) hbs;rw [decide_eq_true (show bs.take ([45]:List Nat).length= [45] by exact F)] at h;exact h) ?_)))))
   rintro _ _ ⟨_,rfl,ia,cj⟩
   refine dR ?_
   have r:=H.trans cj
   obtain rfl:=ia
   refine mv 1 J (a7 (aW J (aF (mv 1 J (pC (bs:=bs) (i:=1) J J J Tryz.underlying9 (mv 2 J (aX (bQ (aO (aD ?_))))))))))
   have E:∀b,b∈bs.drop 1→b<256:=fun b hb=>hbs b (qH hb)
   have D:(bs.drop 1).length≤17179869184:=by rw [gO];omega
   by_cases hg:eM 10 (bs.drop 1)
   ·have ch:=oM (base:=10) hg.2
    refine aF (mv 1 J (cl (vs:= [.string (aJ (bs.drop 1))]) r ((uR E D hg).mono (Gv.imp (T2.imp (WR.imp r.size) Is.imp))) J (by kernel_rfl) fun _ _ ij fj f=>?_))
    obtain⟨_,_,rfl,⟨dw,dy,el,rfl,gg,gr⟩,rfl⟩:=ij
    refine mv 1 J (pu (v:= we dw dy el) J (pu (v:= no 0) J (mv 2 J (a7 (aD (sr (mv 1 J (aI J J J false (by decide) (a7 (aQ J (aY (aO (aD ?_)))))))))))))
    refine aF (mv 2 J (cl (vs:= (a5 true dw dy el)) f (KE gg gr) J (by kernel_rfl) fun _ _ gb ge q=>?_))
    obtain⟨ap,av,ci,aw,rfl,gk⟩:=gb
    have ai:=(I.ext (az.t (cj.t (fj.t ge))))
    refine so aA ai (a5 ap av ci aw) q L J J J J fun _ cp gn G=>(mv 1 J (a7 (aV (aU [O ap av ci aw,I0] J ⟨⟨_,rfl,bH aA cp (a5 ap av ci aw) J (bq J) rfl⟩,rfl,AT⟩ (⟨fun _=>⟨_,rfl,⟨_,_,rfl,⟨_,_,_,_,rfl,?_⟩,rfl⟩,G⟩,fun h=>absurd (show eM 10 (f8 bs) by rw [o];exact hg) h⟩)))))
    have h:=(gk.updT ai gn)
    rw [nA,M,o]
    exact h
   ·refine aF (mv 1 J (cl (vs:= [.string (aJ (bs.drop 1))]) r (uS E D hg) J (by kernel_rfl) fun _ _ fx fm f=>?_))
    obtain⟨_,_,rfl,rfl,rfl⟩:=fx
    refine mv 1 J (pu (v:= we none 0 0) J (pu (v:= no 7) J (mv 2 J (a7 (aD (sr (mv 1 J (aI J J J true (by decide) (a7 (aW J (sr (pu (v:= .agg #[F0,S0]) J (mv 1 J ?_)))))))))))))
    have dg:=(I.ext (az.t (cj.t fm)))
    refine so aA dg [F0,S0] f L J J J J fun _ dm _ q=>(mv 1 J (a7 (aV (bR (aU [.agg #[F0,S0],no 7] J ⟨⟨_,rfl,bH aA dm [F0,S0] J (bq J) rfl⟩,rfl,AT⟩ ?_)))))
    exact⟨fun h=>absurd (by rw [o] at h;exact h) hg,fun _=>⟨_,rfl,⟨_,_,rfl,rfl,rfl⟩,q⟩⟩
  ·by_cases U:bs.take 3= [226,136,146]
   ·have o:f8 bs=bs.drop 3:=by unfold f8;rw [if_neg p,if_neg F,if_pos U]
    have M:iG bs=true:=by unfold iG;rw [if_neg p,if_neg F,if_pos U]
    have ei:3≤bs.length:=by have h:=congrArg List.length U;rw [dH] at h;simp only [eN,List.length_nil] at h;omega
    refine aF (mv 1 J (dQ J J (vs:= [.string (aJ bs),.string (aJ ([43]))]) (by kernel_rfl) (by decide) (by have h:=oP (w:=v2) (bs:=bs) (ps:= [43]) hbs;rw [decide_eq_false (show¬bs.take ([43]:List Nat).length= [43] by exact p)] at h;exact h) ?_))
    rintro _ fc ⟨_,rfl,fv,bo⟩
    refine dR ?_
    have H:=ab.trans bo
    obtain rfl:=fv
    refine mv 1 J (a7 (aQ J (sr (mv 1 J (dQ J J (vs:= [.string (aJ bs),.string (aJ ([45]))]) (by kernel_rfl) (by decide) (by have h:=oP (w:=fc) (bs:=bs) (ps:= [45]) hbs;rw [decide_eq_false (show¬bs.take ([45]:List Nat).length= [45] by exact F)] at h;exact h) ?_)))))
    rintro _ fz ⟨_,rfl,fq,bf⟩
    refine dR ?_
    have r:=H.trans bf
    obtain rfl:=fq
    refine mv 1 J (a7 (aQ J (sr (mv 1 J (dQ J J (vs:= [.string (aJ bs),.string (aJ ([226,136,146]))]) (by kernel_rfl) (by decide) (by have h:=oP (w:=fz) (bs:=bs) (ps:= [226,136,146]) hbs;rw [decide_eq_true (show bs.take ([226,136,146]:List Nat).length= [226,136,146] by exact U)] at h;exact h) ?_)))))
    rintro _ _ ⟨_,rfl,fd,bu⟩
    refine dR ?_
    have f:=r.trans bu
    obtain rfl:=fd
    refine mv 1 J (a7 (aW J (aF (mv 1 J (pC (bs:=bs) (i:=3) J J J Tryz.underlying9 (mv 2 J (aX (bQ (aO (aD ?_))))))))))
    have E:∀b,b∈bs.drop 3→b<256:=fun b hb=>hbs b (qH hb)
    have D:(bs.drop 3).length≤17179869184:=by rw [gO];omega
    by_cases hg:eM 10 (bs.drop 3)
    ·have ch:=oM (base:=10) hg.2
     refine aF (mv 1 J (cl (vs:= [.string (aJ (bs.drop 3))]) f ((uR E D hg).mono (Gv.imp (T2.imp (WR.imp f.size) Is.imp))) J (by kernel_rfl) fun _ _ ib gj q=>?_))
     obtain⟨_,_,rfl,⟨en,df,de,rfl,ik,fe⟩,rfl⟩:=ib
     refine mv 1 J (pu (v:= we en df de) J (pu (v:= no 0) J (mv 2 J (a7 (aD (sr (mv 1 J (aI J J J false (by decide) (a7 (aQ J (aY (aO (aD ?_)))))))))))))
     refine aF (mv 2 J (cl (vs:= (a5 true en df de)) q (KE ik fe) J (by kernel_rfl) fun _ _ fi fy G=>?_))
     obtain⟨bd,bg,bm,bw,rfl,ga⟩:=fi
     have ae:=(I.ext (bo.t (bf.t (bu.t (gj.t fy)))))
     refine so aA ae (a5 bd bg bm bw) G L J J J J fun _ cu gf bi=>(mv 1 J (a7 (aV (aU [O bd bg bm bw,I0] J ⟨⟨_,rfl,bH aA cu (a5 bd bg bm bw) J (bq J) rfl⟩,rfl,AT⟩ (⟨fun _=>⟨_,rfl,⟨_,_,rfl,⟨_,_,_,_,rfl,?_⟩,rfl⟩,bi⟩,fun h=>absurd (show eM 10 (f8 bs) by rw [o];exact hg) h⟩)))))
     have h:=(ga.updT ae gf)
     rw [nA,M,o]
     exact h
    ·refine aF (mv 1 J (cl (vs:= [.string (aJ (bs.drop 3))]) f (uS E D hg) J (by kernel_rfl) fun _ _ fg fb q=>?_))
     obtain⟨_,_,rfl,rfl,rfl⟩:=fg
     refine mv 1 J (pu (v:= we none 0 0) J (pu (v:= no 7) J (mv 2 J (a7 (aD (sr (mv 1 J (aI J J J true (by decide) (a7 (aW J (sr (pu (v:= .agg #[F0,S0]) J (mv 1 J ?_)))))))))))))
     have dr:=(I.ext (bo.t (bf.t (bu.t fb))))
     refine so aA dr [F0,S0] q L J J J J fun _ ef _ G=>(mv 1 J (a7 (aV (bR (aU [.agg #[F0,S0],no 7] J ⟨⟨_,rfl,bH aA ef [F0,S0] J (bq J) rfl⟩,rfl,AT⟩ ?_)))))
     exact⟨fun h=>absurd (by rw [o] at h;exact h) hg,fun _=>⟨_,rfl,⟨_,_,rfl,rfl,rfl⟩,G⟩⟩
   ·have o:f8 bs=bs:=by unfold f8;rw [if_neg p,if_neg F,if_neg U]
    have M:iG bs=false:=by unfold iG;rw [if_neg p,if_neg F,if_neg U]
    refine aF (mv 1 J (dQ J J (vs:= [.string (aJ bs),.string (aJ ([43]))]) (by kernel_rfl) (by decide) (by have h:=oP (w:=v2) (bs:=bs) (ps:= [43]) hbs;rw [decide_eq_false (show¬bs.take ([43]:List Nat).length= [43] by exact p)] at h;exact h) ?_))
    rintro _ gx ⟨_,rfl,fh,ao⟩
    refine dR ?_
    have H:=ab.trans ao
    obtain rfl:=fh
    refine mv 1 J (a7 (aQ J (sr (mv 1 J (dQ J J (vs:= [.string (aJ bs),.string (aJ ([45]))]) (by kernel_rfl) (by decide) (by have h:=oP (w:=gx) (bs:=bs) (ps:= [45]) hbs;rw [decide_eq_false (show¬bs.take ([45]:List Nat).length= [45] by exact F)] at h;exact h) ?_)))))
    rintro _ fo ⟨_,rfl,ie,aq⟩
    refine dR ?_
    have r:=H.trans aq
    obtain rfl:=ie
    refine mv 1 J (a7 (aQ J (sr (mv 1 J (dQ J J (vs:= [.string (aJ bs),.string (aJ ([226,136,146]))]) (by kernel_rfl) (by decide) (by have h:=oP (w:=fo) (bs:=bs) (ps:= [226,136,146]) hbs;rw [decide_eq_false (show¬bs.take ([226,136,146]:List Nat).length= [226,136,146] by exact U)] at h;exact h) ?_)))))
    rintro _ _ ⟨_,rfl,dh,Z⟩
    refine dR ?_
    have f:=r.trans Z
    obtain rfl:=dh
    refine mv 1 J (a7 (aQ J (aY (bQ (aO (aD ?_))))))
    have E:∀b,b∈bs→b<256:=hbs
    have D:(bs).length≤17179869184:=by omega
    by_cases hg:eM 10 (bs)
    ·have ch:=oM (base:=10) hg.2
     refine aF (mv 1 J (cl (vs:= [.string (aJ bs)]) f ((uR E D hg).mono (Gv.imp (T2.imp (WR.imp f.size) Is.imp))) J (by kernel_rfl) fun _ _ dt ew q=>?_))
     obtain⟨_,_,rfl,⟨aj,ah,ak,rfl,dl,cz⟩,rfl⟩:=dt
     refine mv 1 J (pu (v:= we aj ah ak) J (pu (v:= no 0) J (mv 2 J (a7 (aD (sr (mv 1 J (aI J J J false (by decide) (a7 (aQ J (aY (aO (aD ?_)))))))))))))
     refine aF (mv 2 J (cl (vs:= [F0,we aj ah ak]) q (KF dl cz) J (by kernel_rfl) fun _ _ dz eh G=>?_))
     obtain⟨W,aa,V,X,rfl,cm⟩:=dz
     have Y:=(I.ext (ao.t (aq.t (Z.t (ew.t eh)))))
     refine so aA Y (a5 W aa V X) G L J J J J fun _ au cv bi=>(mv 1 J (a7 (aV (aU [O W aa V X,I0] J ⟨⟨_,rfl,bH aA au (a5 W aa V X) J (bq J) rfl⟩,rfl,AT⟩ (⟨fun _=>⟨_,rfl,⟨_,_,rfl,⟨_,_,_,_,rfl,?_⟩,rfl⟩,bi⟩,fun h=>absurd (show eM 10 (f8 bs) by rw [o];exact hg) h⟩)))))
     have h:=(cm.updT Y cv)
     rw [nA,M,o]
     exact h
    ·refine aF (mv 1 J (cl (vs:= [.string (aJ bs)]) f (uS E D hg) J (by kernel_rfl) fun _ _ ej em q=>?_))
     obtain⟨_,_,rfl,rfl,rfl⟩:=ej
     refine mv 1 J (pu (v:= we none 0 0) J (pu (v:= no 7) J (mv 2 J (a7 (aD (sr (mv 1 J (aI J J J true (by decide) (a7 (aW J (sr (pu (v:= .agg #[F0,S0]) J (mv 1 J ?_)))))))))))))
     have bh:=(I.ext (ao.t (aq.t (Z.t em))))
     refine so aA bh [F0,S0] q L J J J J fun _ bj _ G=>(mv 1 J (a7 (aV (bR (aU [.agg #[F0,S0],no 7] J ⟨⟨_,rfl,bH aA bj [F0,S0] J (bq J) rfl⟩,rfl,AT⟩ ?_)))))
     exact⟨fun h=>absurd (by rw [o] at h;exact h) hg,fun _=>⟨_,rfl,⟨_,_,rfl,rfl,rfl⟩,G⟩⟩
theorem QX (hb:b≤w.heap.size){z:Int}(hbs:∀b,b∈bs→b<256)(hlen:bs.length≤17179869184)(ht:f8 bs=tl)(hg:eM 10 tl)(hz:nA bs=z):aP aN 154 #[.string (aJ bs)] w (Gv w (T2 (ZR b z) (Is (no 0)))):=
 (GD hbs hlen).mono fun e w' h=>by have h2:=h.1 (by rw [ht];exact hg);rw [hz] at h2;exact Gv.imp (T2.imp (ZR.imp hb) Is.imp) _ _ h2
theorem QW (hbs:∀b,b∈bs→b<256)(hlen:bs.length≤17179869184)(ht:f8 bs=tl)(hg:¬eM 10 tl):aP aN 154 #[.string (aJ bs)] w (Gv w (T2 (Is (O false none 0 0)) (Is (no 7)))):=
 (GD hbs hlen).mono fun e w' h=>h.2 (by rw [ht];exact hg)
theorem QV (hx:Zi w sa Aa na ca x)(la:na≤4194304)(hS:Signs w):aP aN 40 #[O sa Aa na ca] w (Gv w (Is (.string (aJ (gQ x))))):=by
 have Lx:ln x≤4194304:=a8 hx.ln la
 refine bN Tryz.func40 J (n:=13) J (bq J) (args:= [O sa Aa na ca]) (bG [(0,O sa Aa na ca)] ⟨rfl,AT⟩ (sr (bx (a5 sa Aa na ca) (Ext.refl w) J J J fun F _ f _ _ p=>(mv 1 J (a7 (sr (pf F 1 J (bB J J (bM dS f J) (cl (vs:= [we Aa na ca]) p (RC (hS.ext p) (hx.ext p).wi (by omega)) J (by kernel_rfl) fun _ _ G E e=>?_)))))))))
 obtain rfl:=G
 refine mv 1 J (a7 (aD (aD ?_)))
 by_cases h:x<0
 ·refine aF (lo aA (f.ext E) (a5 sa Aa na ca) J J J (cl (vs:= [O sa Aa na ca]) e (iE (hx.ext e) (aK la J)) J (by kernel_rfl) fun _ _ q _ o=>?_))
  obtain rfl:=q
  refine aI J J J true (sW h) (a7 (aW J (sr (mv 1 J (nB J J J (r:= .string (aJ (([45])++(f9 10 (Int.natAbs x))))) J (fun w=>sQ (a:= [45]) (b:=f9 10 (Int.natAbs x)) (by have:=B9 (b:=10) (show (wd (Int.natAbs x)).length≤4194304 from Lx);show 1+_≤_;omega)) (mv 1 J (a7 (aV (bR (aU [.string (aJ (([45])++(f9 10 (Int.natAbs x))))] J ⟨rfl,AT⟩ ?_))))))))))
  exact⟨_,rfl,(show Value.string _= .string (aJ (gQ x)) by rw [gQ,if_pos h]),o⟩
 ·refine aF (lo aA (f.ext E) (a5 sa Aa na ca) J J J (cl (vs:= [O sa Aa na ca]) e (iE (hx.ext e) (aK la J)) J (by kernel_rfl) fun _ _ D _ o=>?_))
  obtain rfl:=D
  refine aI J J J false (sX) (a7 (aQ J (aY (aO (sr (mv 2 J (a7 (aV (aU [.string (aJ (f9 10 (Int.natAbs x)))] J ⟨rfl,AT⟩ ?_)))))))))
  exact⟨_,rfl,(show Value.string _= .string (aJ (gQ x)) by rw [gQ,if_neg h]),o⟩
section
variable {P:bW}{Q:dI→Act→a6→Prop}{n:Nat}{l:Fr}{w:a6}{ops:Array bD}{rest:List bD}{d:Nat}{ty:aS}{pos:String}{af:Array fP}{gd:Option (Nat×Bool)}
theorem XR {a:cN→aM}{x y:cN}(hx:a x= .string (aJ bs))(hy:a y= no (i:Int))(ht:P.underlying t=some .string)(hi:i≤bs.length):(execOp a ⟨dst,.slice t x (some y) none none,ty,pos,af,gd⟩).run P w= .ok (.value (.string (aJ (bs.drop i)))) w:=by
 have e:(Instr.sliceAt t (a x) ((some y).map a) (Option.map a none) (Option.map a none)).run P w= .ok (.string (aJ (bs.drop i))) w:=by
  show (Instr.sliceAt t (a x) (some (a y)) none none).run P w=_
  rw [hx,hy,BP ht,run_slice_string_l (ht:=ht) (kl:= .i64) (l:=(i:Int)) (h0:=by omega) (h1:=by rw [cX];omega),gZ,FV]
 show ((Instr.sliceAt t (a x) ((some y).map a) (Option.map a none) (Option.map a none)>>=fun r=>pure (fZ r):Sem fI)).run P w=_
 rw [cE,e];rfl
theorem XS {a:cN→aM}{t':aS}{x y:cN}{k:IntKind}{A B:Int}(hx:a x= .int k A)(hy:a y= .int k B)(c:Int)(hc:fN o k A B=some c):(execOp a ⟨dst,.binOp o t x y t',ty,pos,af,gd⟩).run P w= .ok (.value (.int k c)) w:=by
 have e:((do eqGuard o t x y (a x) (a y);binOp o t (a x) (a y)):Sem aM).run P w= .ok (.int k c) w:=by
  rw [hx,hy];exact BT hc
 show ((((do eqGuard o t x y (a x) (a y);binOp o t (a x) (a y)):Sem aM)>>=fun r=>pure (fZ r)):Sem fI).run P w=_
 rw [cE,e];rfl
end
theorem KR {t:Bool}(hx:Zr w base s A n cap x)(hl:n≤1099511627776)(hy:Zr w base' t B m cap' y)(hl':m≤1099511627776)(h:x=y):aP aN 28 #[O s A n cap,O t B m cap'] w (Gv w (Is (AI))):=(vI hx hl hy hl' (b:=true) (decide_eq_true h).symm).mono CY
theorem X4 {s' t t':Bool}{A' B':Option aB}{dap dap':Nat}(hx:Zr w base s A n cap x)(hl:n≤1099511627776)(hy:Zr w base s' A' n' cap' y)(hl':n'≤1099511627776)(hu:Zr w base' t B m dap u)(hk:m≤1099511627776)(hv:Zr w base' t' B' m' dap' v)(hk':m'≤1099511627776)(h1:x=u)(h2:y=v):aP aN 107 #[a9 s A n cap s' A' n' cap',a9 t B m dap t' B' m' dap'] w (Gv w (Is (AI))):=(VH hx hl hy hl' hu hk hv hk' h1 h2).mono CY
theorem X6 (w:a6):aP aN 21 #[] w (Gv w (Is (AI))):=(VI w).mono CY
theorem IP (hc:c<256)(hd:d<256):(UInt8.ofNat c==UInt8.ofNat d)=decide (c=d):=by
 by_cases h:c=d
 ·subst h;simp
 ·rw [decide_eq_false h,beq_eq_false_iff_ne]
  intro e
  have:=congrArg UInt8.toNat e
  rw [UInt8.toNat_ofNat',UInt8.toNat_ofNat'] at this
  omega
theorem VQ {b:List Nat}(hc:c<256)(ha:∀x,x∈a→x<256∧x≠c):Lib.indexByte ((a++c::b).map UInt8.ofNat) (UInt8.ofNat c)=(a.length:Int):=by
 induction a with
 | nil=>show (if UInt8.ofNat c==UInt8.ofNat c then (0:Int) else _)=0;rw [if_pos (by simp)]
 | cons x r ih=>
  have hx:=ha x List.mem_cons_self
  have ih:=ih fun y e=>ha y (List.mem_cons_of_mem _ e)
  show (if UInt8.ofNat x==UInt8.ofNat c then (0:Int) else if Lib.indexByte ((r++c::b).map UInt8.ofNat) (UInt8.ofNat c)== -1 then-1 else Lib.indexByte ((r++c::b).map UInt8.ofNat) (UInt8.ofNat c)+1)=_
  rw [IP hx.1 hc,decide_eq_false hx.2,if_neg (by decide),ih,if_neg (by rw [beq_iff_eq];omega),eN]
  omega
theorem VR (hc:c<256)(ha:∀x,x∈a→x<256∧x≠c):Lib.indexByte (a.map UInt8.ofNat) (UInt8.ofNat c)= -1:=by
 induction a with
 | nil=>rfl
 | cons x r ih=>
  have hx:=ha x List.mem_cons_self
  have ih:=ih fun y e=>ha y (List.mem_cons_of_mem _ e)
  show (if UInt8.ofNat x==UInt8.ofNat c then (0:Int) else if Lib.indexByte (r.map UInt8.ofNat) (UInt8.ofNat c)== -1 then-1 else Lib.indexByte (r.map UInt8.ofNat) (UInt8.ofNat c)+1)=_
  rw [IP hx.1 hc,decide_eq_false hx.2,if_neg (by decide),ih,if_pos (by decide)]
theorem KH {i:Int}(h:Lib.indexByte (bs.map UInt8.ofNat) (UInt8.ofNat 47)=i):aP aN 243 #[.string (aJ bs),.string (aJ [47])] w (Gv w (Is (no i))):=by
 refine (Tryz.stringslite_Index_one (aJ bs) (UInt8.ofNat 47) w).mono ?_
 rintro e w' ⟨rfl,rfl⟩
 refine⟨_,rfl,?_,Ext.refl _⟩
 show dP .i64 (Lib.indexByte (aJ bs).data.toList (UInt8.ofNat 47))=_
 rw [←h]
 unfold aJ
 rw [List.toList_toArray]
theorem WL {b:List Nat}(ha:∀x,x∈a→x<256∧x≠47)(hlen:(a++47::b).length≤1099511627776):aP aN 205 #[.string (aJ (a++47::b)),.string (aJ ([47]))] w (Gv w (T3 (Is (.string (aJ a))) (Is (.string (aJ b))) (Is (AI)))):=by
 refine bN Tryz.func205 J (n:=23) J (bq J) (args:= [.string (aJ (a++47::b)),.string (aJ ([47]))]) (bG [(0,.string (aJ (a++47::b))),(1,.string (aJ ([47])))] ⟨rfl,rfl,AT⟩ (sr (mv 3 J (a7 (aD (sr (mv 2 J (cl (vs:= [.string (aJ (a++47::b)),.string (aJ ([47]))]) (Ext.refl w) (KH (bs:=a++47::b) (VQ (by decide) ha)) J (by kernel_rfl) fun _ _ p _ h=>?_))))))))
 obtain rfl:=p
 refine mv 1 J (a7 (aD ?_))
 have o:(a++47::b).length=a.length+1+b.length:=by simp;omega
 refine aF (mv 1 J (aI J J J true (gA (a:=a.length) (b:=0) J J) (a7 (aW J (aD ?_)))))
 refine dG bY 9 [3,4,5,6,7,8] [Is (.string (aJ (a++47::b))),Is (no ((a.length:Nat):Int)),Is (.string (aJ ((a++47::b).take a.length))),Is (.string (aJ (a++47::b))),Is (no ((a.length:Nat):Int)),Is (.string (aJ ([47]))),Is (no 1),Is (no ((a.length+1:Nat):Int)),Is (.string (aJ ((a++47::b).drop (a.length+1))))] [[],[],[0,1],[],[],[],[5],[4,6],[3,7]] [[],[],[0,1],[],[],[],[5],[4,5,6],[3,4,5,6,7],[0,1,2],[0,1,2,3,4,5,6,7,8,9],[0,1,2,3,4,5,6,7,8,9,10]] rfl
  (aH J J (aE J J ?_) (aH J J (aE J J ?_) (aH J J (aE J J ?_) (fD J J (fE J ?_) (fD J J (fE J ?_) (fD J J (fE J ?_) (fD J J (fE J ?_) (fD J J (fE J ?_) (fD J J (fE J ?_) d9))))))))) ?_
 ·exact fun _ _=>aC (mv 1 J (aG J aL J))
 ·exact fun _ _=>aC (mv 1 J (aG J aL J))
 ·exact fun _ _=>dk J J (dk J J (aC (o8 (bs:=a++47::b) (i:=a.length) J J J Tryz.underlying9 (aG J aL J))))
 ·exact fun _ _=>aC (⟨.string (aJ (a++47::b)),rfl,rfl,fun _=>by kernel_rfl,rfl⟩)
 ·exact fun _ _=>aC (⟨no ((a.length:Nat):Int),rfl,rfl,fun _=>by kernel_rfl,rfl⟩)
 ·exact fun _ _=>aC (⟨.string (aJ ([47])),rfl,rfl,fun _=>by kernel_rfl,rfl⟩)
 ·exact fun _ _=>dk J J (aC (⟨no 1,rfl,rfl,fun _=>by kernel_rfl,rfl⟩))
 ·exact fun _ _=>dk J J (dk J J (aC (⟨no ((a.length+1:Nat):Int),rfl,rfl,fun _=>(XS J J ((a.length+1:Nat):Int) (cA (a:=a.length) (b:=1) J J)),rfl⟩)))
 ·exact fun _ _=>dk J J (dk J J (aC (⟨.string (aJ ((a++47::b).drop (a.length+1))),rfl,rfl,fun _=>XR (bs:=a++47::b) (i:=a.length+1) J J Tryz.underlying9 (by omega),rfl⟩)))
 ·intro _ e
  have f:=h.trans e
  refine dk J J (dk J J (dk J J (dk J J (dk J J (dk J J (dk J J (dk J J (dk J J (aC (mv 3 J (aX (dC (aO ?_)))))))))))))
  refine aV (bR (aU [.string (aJ ((a++47::b).take a.length)),.string (aJ ((a++47::b).drop (a.length+1))),AI] J ⟨rfl,rfl,rfl,AT⟩ ?_))
  exact⟨_,rfl,⟨_,_,_,rfl,(show Value.string _= .string (aJ a) by rw [List.take_left]),(show Value.string _= .string (aJ b) by rw [show a.length+1=(a++ [47]).length by simp,show a++47::b=(a++ [47])++b by simp,List.drop_left]),rfl⟩,f⟩
theorem WM {b:List Nat}(ha:∀x,x∈a→x<256∧x≠47)(hlen:(a).length≤1099511627776):aP aN 205 #[.string (aJ a),.string (aJ ([47]))] w (Gv w (T3 (Is (.string (aJ a))) (Is (.string (aJ []))) (Is (AS)))):=by
 refine bN Tryz.func205 J (n:=23) J (bq J) (args:= [.string (aJ a),.string (aJ ([47]))]) (bG [(0,.string (aJ a)),(1,.string (aJ ([47])))] ⟨rfl,rfl,AT⟩ (sr (mv 3 J (a7 (aD (sr (mv 2 J (cl (vs:= [.string (aJ a),.string (aJ ([47]))]) (Ext.refl w) (KH (bs:=a) (VR (by decide) ha)) J (by kernel_rfl) fun _ _ f _ e=>?_))))))))
 obtain rfl:=f
 refine mv 1 J (a7 (sr (mv 1 J (aI J J J false (by decide) (a7 (aQ J (aY (aO (sr (mv 4 J (a7 (aV (aU [.string (aJ a),.string (aJ ([])),F0] J ⟨rfl,rfl,rfl,AT⟩ ?_)))))))))))))
 exact⟨_,rfl,⟨_,_,_,rfl,rfl,rfl,rfl⟩,e⟩
theorem D7 {b:List Nat}(ha:∀x,x∈a→x<256∧x≠47)(hlen:(a++47::b).length≤1099511627776:=by omega):aP aN 162 #[.string (aJ (a++47::b)),.string (aJ ([47]))] w (Gv w (T3 (Is (.string (aJ a))) (Is (.string (aJ b))) (Is (AI)))):=by
 refine bN Tryz.func162 J (n:=13) J (bq J) (args:= [.string (aJ (a++47::b)),.string (aJ ([47]))]) (bG [(0,.string (aJ (a++47::b))),(1,.string (aJ ([47])))] ⟨rfl,rfl,AT⟩ (sr (mv 3 J (a7 (sr (mv 2 J (cl (vs:= [.string (aJ (a++47::b)),.string (aJ ([47]))]) (Ext.refl w) (WL ha hlen) J (by kernel_rfl) fun _ _ f _ e=>?_)))))))
 obtain⟨_,_,_,rfl,rfl,rfl,rfl⟩:=f
 refine pu (v:= .string (aJ a)) J (pu (v:= .string (aJ b)) J (pu (v:= AI) J (mv 3 J (a7 (aV (aU [.string (aJ a),.string (aJ b),AI] J ⟨rfl,rfl,rfl,AT⟩ ?_))))))
 exact⟨_,rfl,⟨_,_,_,rfl,rfl,rfl,rfl⟩,e⟩
theorem KU {b:List Nat}(ha:∀x,x∈a→x<256∧x≠47)(hlen:(a).length≤1099511627776):aP aN 162 #[.string (aJ a),.string (aJ ([47]))] w (Gv w (T3 (Is (.string (aJ a))) (Is (.string (aJ []))) (Is (AS)))):=by
 refine bN Tryz.func162 J (n:=13) J (bq J) (args:= [.string (aJ a),.string (aJ ([47]))]) (bG [(0,.string (aJ a)),(1,.string (aJ ([47])))] ⟨rfl,rfl,AT⟩ (sr (mv 3 J (a7 (sr (mv 2 J (cl (vs:= [.string (aJ a),.string (aJ ([47]))]) (Ext.refl w) (WM (b:=b) ha hlen) J (by kernel_rfl) fun _ _ f _ e=>?_)))))))
 obtain⟨_,_,_,rfl,rfl,rfl,rfl⟩:=f
 refine pu (v:= .string (aJ a)) J (pu (v:= .string (aJ ([]))) J (pu (v:= AS) J (mv 3 J (a7 (aV (aU [.string (aJ a),.string (aJ ([])),F0] J ⟨rfl,rfl,rfl,AT⟩ ?_))))))
 exact⟨_,rfl,⟨_,_,_,rfl,rfl,rfl,rfl⟩,e⟩
def lA (p q:Int):List Nat:=if q=1 then gQ p else (gQ p++ [47])++gQ q
theorem KT (hb:b≤w.heap.size){t:Bool}{p:Int}(hlow:Low p q x y)(hx:Zi w s A n cap x)(hl:n≤68719476736)(hy:Zi w t B m cap' y)(hl':m≤68719476736):aP aN 79 #[O s A n cap,O t B m cap'] w (Gv w (T2 (FR b p q) (Is (no 0)))):=by
 have h0:y≠0:=fun e=>by have:=hlow.nq;have:=hlow.pos;subst e;simp at*;omega
 refine (D6 hb hx hl hy hl' h0).mono fun e w' h=>?_
 obtain⟨p',q',h1,h2⟩:=h
 obtain⟨rfl,rfl⟩:=UU hlow h1
 exact h2
theorem CZ {t:List Nat}(ht:t=gQ x)(hx:Zi w s A n c x)(la:n≤4194304)(hS:Signs w):aP aN 40 #[O s A n c] w (Gv w (Is (.string (aJ t)))):=by subst ht;exact QV hx la hS
theorem xA (h:ln x≤1048576):(gQ x).length≤67108866:=by
 have h2:(f9 10 x.natAbs).length≤67108865:=B9 (b:=10) (n:=1048576) h
 rw [OW,mF,fU]
 have:(if decide (x<0)=true then [45] else ([]:List Nat)).length≤1:=by split <;> simp
 omega
theorem X9 {nd:Nat}(hx:Zi w sa Aa na ca x)(la:na≤1048576)(hy:Zi w sd Ad nd cd y)(ld:nd≤1048576)(h0:y=0):aP aN 102 #[a9 sa Aa na ca sd Ad nd cd] w (Gv w (T2 (Is (.string (aJ []))) (Is (no 4)))):=by
 have Lx:ln x≤1048576:=a8 hx.ln la
 have Ly:ln y≤1048576:=a8 hy.ln ld
 refine bN Tryz.func102 J (n:=33) J (bq J) (args:= [a9 sa Aa na ca sd Ad nd cd]) (bG [(0,a9 sa Aa na ca sd Ad nd cd)] ⟨rfl,AT⟩ (sr (bx [.bool sa,we Aa na ca,.bool sd,we Ad nd cd] (Ext.refl w) J J J fun U _ e _ _ f=>(mv 2 J (a7 (sr (pf U 0 J (lo aA e (a5 sa Aa na ca) J J J (pf U 2 J (lo aA e (a5 sd Ad nd cd) J J J (cl (vs:= [O sa Aa na ca,O sd Ad nd cd]) f (D5 f.size (hy.ext f) (aK ld J) h0) J (by kernel_rfl) fun _ _ V W M=>?_)))))))))))
 obtain⟨_,_,rfl,⟨q,r,p,o,G,D,H,E,rfl,_,_⟩,rfl⟩:=V
 refine mv 1 J (pu (v:= a9 q r p o G D H E) J (pu (v:= no 4) J (bL [F0,S0,F0,S0] M (e.ext W).lt (fun _=>by kernel_rfl) J fun _ _ F h _ _ I=>(so bC F [.bool q,we r p o,.bool G,we D H E] I h J J J J fun _ _ _ L=>(mv 1 J (a7 (aD (sr (mv 1 J (aI J J J true (by decide) (a7 (aW J (aD ?_)))))))))))))
 refine aF (mv 3 J (a7 (aV (bR (aU [.string (aJ ([])),no 4] J ⟨rfl,rfl,AT⟩ ?_)))))
 exact⟨_,rfl,⟨_,_,rfl,rfl,rfl⟩,L⟩
theorem XA {p:Int}{nd:Nat}(hx:Zi w sa Aa na ca x)(la:na≤1048576)(hy:Zi w sd Ad nd cd y)(ld:nd≤1048576)(hS:Signs w)(hlow:Low p q x y):aP aN 102 #[a9 sa Aa na ca sd Ad nd cd] w (Gv w (T2 (Is (.string (aJ (lA p q)))) (Is (no 0)))):=by
 have Lx:ln x≤1048576:=a8 hx.ln la
 have Ly:ln y≤1048576:=a8 hy.ln ld
 have Lp:ln p≤1048576:=a8 (dZ hlow.np) Lx
 have Lq:ln q≤1048576:=a8 (dZ hlow.nq) Ly
 have ey:=hlow.pos
 obtain⟨sp,ab⟩:∃t,t=gQ p:=⟨_,rfl⟩
 obtain⟨sq,aq⟩:∃t,t=gQ q:=⟨_,rfl⟩
 have em:sp.length≤67108866:=ab▸xA Lp
 have ej:sq.length≤67108866:=aq▸xA Lq
 refine bN Tryz.func102 J (n:=33) J (bq J) (args:= [a9 sa Aa na ca sd Ad nd cd]) (bG [(0,a9 sa Aa na ca sd Ad nd cd)] ⟨rfl,AT⟩ (sr (bx [.bool sa,we Aa na ca,.bool sd,we Ad nd cd] (Ext.refl w) J J J fun g1 _ ap _ _ ai=>(mv 2 J (a7 (sr (pf g1 0 J (lo aA ap (a5 sa Aa na ca) J J J (pf g1 2 J (lo aA ap (a5 sd Ad nd cd) J J J (cl (vs:= [O sa Aa na ca,O sd Ad nd cd]) ai (KT ai.size hlow (hx.ext ai) (aK la J) (hy.ext ai) (aK ld J)) J (by kernel_rfl) fun _ _ r8 e7 ef=>?_)))))))))))
 obtain⟨_,_,rfl,⟨W,U,V,M,D,o,F,E,rfl,ah,Z⟩,rfl⟩:=r8
 refine mv 1 J (pu (v:= a9 W U V M D o F E) J (pu (v:= no 0) J (bL [F0,S0,F0,S0] ef (ap.ext e7).lt (fun _=>by kernel_rfl) J fun H _ G au _ aa da=>(so bC G [.bool W,we U V M,.bool D,we o F E] da au J J J J fun _ I ae Y=>(mv 1 J (a7 (aD (sr (mv 1 J (aI J J J false (by decide) (a7 (aQ J (aY ?_)))))))))))))
 refine aO (aD (aD ?_))
 by_cases h1:q=1
 ·refine dG bY 5 [] [Is (i5 H 2),Is (O D o F E),ZR w.heap.size (1),Is (no (bE q 1)),Is (AI)] [[],[0],[],[1,2],[3]] [[],[0],[],[0,1,2],[0,1,2,3]] rfl
   (aH J J (aE J J ?_) (aH J J (aE J J ?_) (aH J J (aE J J ?_) (aH J J (aE J J ?_) (aH J J (aE J J ?_) d9))))) ?_
  ·exact fun _ _=>aC (pf H 2 J (aG J aL J))
  ·exact fun _ dx=>dk J J (aC (lo aA (I.ext dx) (a5 D o F E) J J J (aG J aL J)))
  ·intro _ df
   have f:=Y.trans df
   refine aC (cl (vs:= [no 1]) f (kE f.size (by decide) (by decide)) J (by kernel_rfl) fun _ _ cz eg h=>?_)
   obtain⟨_,_,_,_,rfl,dl⟩:=cz
   exact aG J eg ⟨_,_,_,_,rfl,dl⟩
  ·intro _ bd
   have f:=Y.trans bd
   refine dk J J (aT J J fun _ _ dg _ dy=>?_)
   obtain⟨dm,dz,dr,du,rfl,ag⟩:=dg
   have ag:=ag.ext dy
   refine aC (cl (vs:= [O D o F E,O dm dz dr du]) f (kR (((Z.ext aa).updT G ae).ext bd).zi (Z.le (aK Lq J)) ag.zi (ag.le (a8 (show ln (1)≤1 by decide+kernel) (by decide)))) J (by kernel_rfl) fun _ _ de dh h=>?_)
   obtain rfl:=de
   exact aG J dh rfl
  ·exact fun _ _=>dk J J (aC (aI J J J true (eP (kA.2 h1)) (aG J aL J)))
  ·intro _ ar
   have f:=Y.trans ar
   refine dk J J (dk J J (aT J J fun _ _ cv _ eh=>?_))
   obtain⟨_,_,_,_,rfl,bp⟩:=cv
   have bp:=bp.ext eh
   refine dk J J (dk J J (aC (aX (dC (aO (aW J (sr (pf H 0 J (lo aA (I.ext ar) (a5 W U V M) J J J (cl (vs:= [O W U V M]) f (CZ ab (((ah.ext aa).updT G ae).ext ar).zi (ah.le (aK Lp J)) (hS.ext f)) J (by kernel_rfl) fun _ _ dt _ h=>?_))))))))))
   obtain rfl:=dt
   refine mv 2 J (a7 (aV (bR (aU [.string (aJ sp),I0] J ⟨rfl,rfl,AT⟩ ?_))))
   exact⟨_,rfl,⟨_,_,rfl,(show Value.string _= .string (aJ (lA p q)) by unfold lA;rw [if_pos h1,←ab]),rfl⟩,h⟩
 ·refine dG bY 5 [] [Is (i5 H 2),Is (O D o F E),ZR w.heap.size (1),Is (no (bE q 1)),Is (AS)] [[],[0],[],[1,2],[3]] [[],[0],[],[0,1,2],[0,1,2,3]] rfl
   (aH J J (aE J J ?_) (aH J J (aE J J ?_) (aH J J (aE J J ?_) (aH J J (aE J J ?_) (aH J J (aE J J ?_) d9))))) ?_
  ·exact fun _ _=>aC (pf H 2 J (aG J aL J))
  ·exact fun _ ei=>dk J J (aC (lo aA (I.ext ei) (a5 D o F E) J J J (aG J aL J)))
  ·intro _ cu
   have f:=Y.trans cu
   refine aC (cl (vs:= [no 1]) f (kE f.size (by decide) (by decide)) J (by kernel_rfl) fun _ _ ci aw h=>?_)
   obtain⟨_,_,_,_,rfl,bw⟩:=ci
   exact aG J aw ⟨_,_,_,_,rfl,bw⟩
  ·intro _ ao
   have f:=Y.trans ao
   refine dk J J (aT J J fun _ _ ba _ bf=>?_)
   obtain⟨ck,cm,bu,bi,rfl,X⟩:=ba
   have X:=X.ext bf
   refine aC (cl (vs:= [O D o F E,O ck cm bu bi]) f (kR (((Z.ext aa).updT G ae).ext ao).zi (Z.le (aK Lq J)) X.zi (X.le (a8 (show ln (1)≤1 by decide+kernel) (by decide)))) J (by kernel_rfl) fun _ _ bm bg h=>?_)
   obtain rfl:=bm
   exact aG J bg rfl
  ·exact fun _ _=>dk J J (aC (aI J J J false (fA (fun e=>h1 (kA.1 e))) (aG J aL J)))
  ·intro _ L
   have f:=Y.trans L
   refine dk J J (dk J J (aT J J fun _ _ bh _ bo=>?_))
   obtain⟨_,_,_,_,rfl,aj⟩:=bh
   have aj:=aj.ext bo
   refine dk J J (dk J J (aC (aX (dC (aO (aQ J (aY (aO (aD ?_)))))))))
   refine dG bY 8 [] [Is (i5 H 0),Is (O W U V M),Is (.string (aJ sp)),Is (.string (aJ (sp++([47])))),Is (i5 H 2),Is (O D o F E),Is (.string (aJ sq)),Is (.string (aJ ((sp++([47]))++sq)))] [[],[0],[1],[2],[],[4],[5],[3,6]] [[],[0],[0,1],[0,1,2],[],[4],[0,1,2,4,5],[0,1,2,3,4,5,6],[0,1,2,3,4,5,6,7],[0,1,2,3,4,5,6,7,8]] rfl
    (aH J J (aE J J ?_) (aH J J (aE J J ?_) (aH J J (aE J J ?_) (aH J J (aE J J ?_) (aH J J (aE J J ?_) (aH J J (aE J J ?_) (aH J J (aE J J ?_) (aH J J (aE J J ?_) d9)))))))) ?_
   ·exact fun _ _=>aC (pf H 0 J (aG J aL J))
   ·exact fun _ bj=>dk J J (aC (lo aA (I.ext (L.t bj)) (a5 W U V M) J J J (aG J aL J)))
   ·intro _ ak
    have h:=f.trans ak
    refine dk J J (aC (cl (vs:= [O W U V M]) h (CZ ab (((ah.ext aa).updT G ae).ext (L.t ak)).zi (ah.le (aK Lp J)) (hS.ext h)) J (by kernel_rfl) fun _ _ az cj dw=>?_))
    obtain rfl:=az
    exact aG J cj rfl
   ·exact fun _ _=>dk J J (aC (nB J J J (r:= .string (aJ (sp++([47])))) J (fun w=>sQ (a:=sp) (b:= [47]) (by simp only [fU,eN,List.length_nil];omega)) (aG J aL J)))
   ·exact fun _ _=>aC (pf H 2 J (aG J aL J))
   ·exact fun _ av=>dk J J (aC (lo aA (I.ext (L.t av)) (a5 D o F E) J J J (aG J aL J)))
   ·intro _ am
    have h:=f.trans am
    refine dk J J (aC (cl (vs:= [O D o F E]) h (CZ aq (((Z.ext aa).updT G ae).ext (L.t am)).zi (Z.le (aK Lq J)) (hS.ext h)) J (by kernel_rfl) fun _ _ ct cp dw=>?_))
    obtain rfl:=ct
    exact aG J cp rfl
   ·exact fun _ _=>dk J J (dk J J (aC (nB J J J (r:= .string (aJ ((sp++([47]))++sq))) J (fun w=>sQ (a:=sp++([47])) (b:=sq) (by simp only [fU,eN,List.length_nil];omega)) (aG J aL J))))
   ·intro _ ch
    have h:=f.trans ch
    refine dk J J (dk J J (dk J J (dk J J (dk J J (dk J J (dk J J (dk J J (aC (mv 2 J (aX (dC (aO (aV ?_)))))))))))))
    refine aU [.string (aJ ((sp++([47]))++sq)),I0] J ⟨rfl,rfl,AT⟩ ?_
    exact⟨_,rfl,⟨_,_,rfl,(show Value.string _= .string (aJ (lA p q)) by unfold lA;rw [if_neg h1,←ab,←aq]),rfl⟩,h⟩
theorem JP {x:Nat}(h:x≤18446744073709551615):(wd x).length≤1:=iX (by rw [cP,Nat.pow_one];omega)
theorem U6 {n:Int}(h1: -9223372036854775808≤n)(h:n<0):IntKind.u64.wrap (IntKind.i64.wrap (0-n))=((Int.natAbs n:Nat):Int):=by
 by_cases h2:n= -9223372036854775808
 ·subst h2;decide
 ·rw [IntWalk.i64_in _ ⟨by omega,by omega⟩,IntWalk.u64_in _ ⟨by omega,by omega⟩];omega
theorem U5 {n:Int}(h2:n≤9223372036854775807)(h:¬n<0):IntKind.u64.wrap n=((Int.natAbs n:Nat):Int):=by
 rw [IntWalk.u64_in _ ⟨by omega,by omega⟩];omega
theorem KJ (hb:b≤w.heap.size)(hx:Zi w sa Aa na ca x)(la:na≤17179869183):aP aN 47 #[O sa Aa na ca] w (Gv w (ZR b (-x))):=by
 refine Calls.mono (R:=Gv w (ZR w.heap.size (-x))) ?_ (Gv.imp (ZR.imp hb))
 have Lx:ln x≤17179869183:=a8 hx.ln la
 refine bN Tryz.func47 J (n:=9) J (bq J) (args:= [O sa Aa na ca]) (bG [(0,O sa Aa na ca)] ⟨rfl,AT⟩ (sr (bx (a5 sa Aa na ca) (Ext.refl w) J J J fun W _ p _ _ V=>(bL [F0,S0] V p.lt (fun _=>by kernel_rfl) J fun _ _ G D _ X h=>(a7 (sr (pf W 0 J (bB J J (bM fM (p.ext X) J) (pu (v:= .bool (!sa)) J (pf W 1 J (bB J J (bM dS (p.ext X) J) ?_)))))))))))
 have Y:ln (sg (!sa) (Int.natAbs x))≤17179869183:=by rw [iQ];exact Lx
 refine cl (vs:= [.bool (!sa),we Aa na ca]) h (jD h.size (hx.ext h).wi (aK la J)) J (by kernel_rfl) fun _ _ H F L=>?_
 obtain⟨q,o,r,f,rfl,I⟩:=H
 have e:=(G.ext F)
 refine so aA e (a5 q o r f) L D J J J J fun _ E U M=>(a7 (aV (aU [O q o r f] J ⟨⟨_,rfl,bH aA E (a5 q o r f) J (bq J) rfl⟩,AT⟩ ?_)))
 exact⟨_,rfl,⟨_,_,_,_,rfl,((I.updT e U)).cast ((xF _ _).trans (by rw [hx.sg]))⟩,M⟩
theorem lK {n:Int}(hb:b≤w.heap.size)(h1: -9223372036854775808≤n:=by decide)(h2:n≤9223372036854775807:=by decide):aP aN 42 #[no n] w (Gv w (ZR b (n))):=by
 refine Calls.mono (R:=Gv w (ZR w.heap.size (n))) ?_ (Gv.imp (ZR.imp hb))
 refine bN Tryz.func42 J (n:=14) J (bq J) (args:= [no n]) (bG [(0,no n)] ⟨rfl,AT⟩ (sr (al [F0,S0] (Ext.refl w) (fun _=>by kernel_rfl) J fun _ _ Y W _ h=>(a7 (aD (aD ?_))))))
 by_cases G:n<0
 ·refine aF (mv 1 J (aI J J J true (vE G) (a7 (aW J (sr (mv 1 J (pu (v:= no (IntKind.i64.wrap (0-n))) J (cS J J (v:= up (IntKind.u64.wrap (IntKind.i64.wrap (0-n)))) (v':= up (((Int.natAbs n):Nat):Int)) (by rw [U6 h1 G]) (iO J J (k:=1) (e:=65) [up (((Int.natAbs n):Nat):Int)] (fun _=>by kernel_rfl) fun g6 _ ab=>?_)))))))))
  have o9:=O1.mk_ (x:=(Int.natAbs n)) (b:=w.heap.size) ab h.size
  have Z:=ab.ext
  have f:=h.trans Z
  have av:ln (sg true (Int.natAbs n))≤1:=by rw [iQ];exact (JP (show Int.natAbs n≤18446744073709551615 by omega))
  refine cl (vs:= [AI,we (some ⟨g6,0,none⟩) 1 1]) f (jD f.size (C9 o9 (show Int.natAbs n≤18446744073709551615 by omega)) (by decide)) J (by kernel_rfl) fun _ _ ar ao D=>?_
  obtain⟨L,F,I,r,rfl,ah⟩:=ar
  have p:=(Y.ext (Z.t ao))
  refine so aA p (a5 L F I r) D W J J J J fun _ ae aj E=>(a7 (aV (bR (aU [O L F I r] J ⟨⟨_,rfl,bH aA ae (a5 L F I r) J (bq J) rfl⟩,AT⟩ ?_))))
  exact⟨_,rfl,⟨_,_,_,_,rfl,((ah.updT p aj)).cast (by rw [sU];omega)⟩,E⟩
 ·refine aF (mv 1 J (aI J J J false (rD) (a7 (aQ J (aY (aO (sr (mv 1 J (cS J J (v:= up (IntKind.u64.wrap n)) (v':= up (((Int.natAbs n):Nat):Int)) (by rw [U5 h2 G]) (iO J J (k:=1) (e:=65) [up (((Int.natAbs n):Nat):Int)] (fun _=>by kernel_rfl) fun ak _ o=>?_))))))))))
  have am:=O1.mk_ (x:=(Int.natAbs n)) (b:=w.heap.size) o h.size
  have aa:=o.ext
  have f:=h.trans aa
  have au:ln (sg false (Int.natAbs n))≤1:=by rw [iQ];exact (JP (show Int.natAbs n≤18446744073709551615 by omega))
  refine cl (vs:= [F0,we (some ⟨ak,0,none⟩) 1 1]) f (jD f.size (C9 am (show Int.natAbs n≤18446744073709551615 by omega)) (by decide)) J (by kernel_rfl) fun _ _ ag ap D=>?_
  obtain⟨H,U,V,M,rfl,aq⟩:=ag
  have q:=(Y.ext (aa.t ap))
  refine so aA q (a5 H U V M) D W J J J J fun _ X ai E=>(a7 (aV (aU [O H U V M] J ⟨⟨_,rfl,bH aA X (a5 H U V M) J (bq J) rfl⟩,AT⟩ ?_)))
  exact⟨_,rfl,⟨_,_,_,_,rfl,((aq.updT q ai)).cast (by rw [lS];omega)⟩,E⟩
def eZ (y:Int):Int:=if y=0 then 4 else 0
def qT (x y:Int):Int:=if y=0 then 0 else x.tdiv y
def rT (x y:Int):Int:=if y=0 then 0 else x.tmod y
def qF (x y:Int):Int:=if y=0 then 0 else if 0≤bE (x.tmod y) 0*bE y 0 then x.tdiv y else x.tdiv y-1
def rF (x y:Int):Int:=if y=0 then 0 else if 0≤bE (x.tmod y) 0*bE y 0 then x.tmod y else x.tmod y+y
def eX (x y:Int):Int:=if y=0 then 4 else if x.natAbs%y.natAbs=0 then 0 else 8
theorem pI (x:Int):(x<0∧bE x 0= -1)∨(x=0∧bE x 0=0)∨(0<x∧bE x 0=1):=by unfold bE;split <;> (try split) <;> omega
theorem XP (h0:y≠0)(hk:0≤bE (x.tmod y) 0*bE y 0):Flo (x.tdiv y) (x.tmod y) x y:=by
 have f:=kL (x:=x) h0
 refine⟨Int.tdiv_mul_add_tmod x y,fun h=>?_,fun h=>?_⟩
 ·have e:bE y 0=1:=by have:=pI y;omega
  rw [e] at hk;have:=pI (x.tmod y);omega
 ·have e:bE y 0= -1:=by have:=pI y;omega
  rw [e] at hk;have:=pI (x.tmod y);omega
theorem XN (h0:y≠0)(hk:¬0≤bE (x.tmod y) 0*bE y 0):Flo (x.tdiv y-1) (x.tmod y+y) x y:=by
 have f:=kL (x:=x) h0
 have he:=Int.tdiv_mul_add_tmod x y
 refine⟨by rw [Int.sub_mul,Int.one_mul];omega,fun h=>?_,fun h=>?_⟩
 ·have e:bE y 0=1:=by have:=pI y;omega
  rw [e] at hk;have:=pI (x.tmod y);omega
 ·have e:bE y 0= -1:=by have:=pI y;omega
  rw [e] at hk;have:=pI (x.tmod y);omega
theorem XM {r q' r':Int}(h0:y≠0)(h:Flo q r x y)(k:Flo q' r' x y):q=q'∧r=r':=by
 have E:=h.eq
 have F:=k.eq
 have o:(q-q')*y=r'-r:=by rw [Int.sub_mul];omega
 have f:(r'-r).natAbs<y.natAbs:=by
  rcases Int.lt_or_gt_of_ne h0 with e | e
  ·have:=h.neg e;have:=k.neg e;omega
  ·have:=h.pos e;have:=k.pos e;omega
 have p:q-q'=0:=by
  by_cases D:q-q'=0
  ·exact D
  ·exfalso
   rw [←o,Int.natAbs_mul] at f
   have:1*y.natAbs≤(q-q').natAbs*y.natAbs:=eI _ (by omega)
   omega
 rw [p,Int.zero_mul] at o
 exact⟨by omega,by omega⟩
theorem yN (h0:y≠0):Flo (qF x y) (rF x y) x y:=by
 unfold qF rF
 rw [if_neg h0,if_neg h0]
 by_cases e:0≤bE (x.tmod y) 0*bE y 0
 ·rw [if_pos e,if_pos e];exact XP h0 e
 ·rw [if_neg e,if_neg e];exact XN h0 e
theorem V6 (h:ln x≤N):ln (qT x y)≤N:=by
 unfold qT;split
 ·exact bJ _
 ·exact a8 (iW _ _) h
theorem V5 (h:ln x≤N):ln (rT x y)≤N:=by
 unfold rT;split
 ·exact bJ _
 ·exact a8 (rG _ _) h
theorem JH (h:ln x≤N):ln (qF x y)≤N+2:=by
 unfold qF;split
 ·exact bJ _
 ·split
  ·exact a8 (iW _ _) (a8 h (by omega))
  ·exact a8 (jT (a8 (iW _ _) h) (show ln 1≤1 by decide+kernel)) (by omega)
theorem VO (hb:b≤w.heap.size)(hx:Zi w s A n cap x)(la:n≤1048576){t:Bool}(hy:Zi w t B m cap' y)(lb:m≤1048576):aP aN 133 #[O s A n cap,O t B m cap'] w (Gv w (T3 (ZR b (qT x y)) (ZR b (rT x y)) (Is (no (eZ y))))):=by
 by_cases h0:y=0
 ·simp only [qT,rT,eZ,if_pos h0]
  exact WN hb hx (a8 la (by decide)) hy (a8 lb (by decide)) h0
 ·simp only [qT,rT,eZ,if_neg h0]
  exact D2 hb hx (a8 la (by decide)) hy (a8 lb (by decide)) h0
theorem CR {nb:Nat}(hb:b≤w.heap.size)(hx:Zi w sa Aa na ca x)(la:na≤1048576)(hy:Zi w sb Ab nb cb y)(lb:nb≤1048576):aP aN 134 #[O sa Aa na ca,O sb Ab nb cb] w (Gv w (T3 (ZR b (qF x y)) (ZR b (rF x y)) (Is (no (eZ y))))):=by
 refine Calls.mono (R:=Gv w (T3 (ZR w.heap.size (qF x y)) (ZR w.heap.size (rF x y)) (Is (no (eZ y))))) ?_ (Gv.imp (T3.imp (ZR.imp hb) (ZR.imp hb) Is.imp))
 have Lx:ln x≤1048576:=a8 hx.ln la
 have Ly:ln y≤1048576:=a8 hy.ln lb
 refine bN Tryz.func134 J (n:=38) J (bq J) (args:= [O sa Aa na ca,O sb Ab nb cb]) (bG [(0,O sa Aa na ca),(1,O sb Ab nb cb)] ⟨rfl,rfl,AT⟩ (sr (bx (a5 sa Aa na ca) (Ext.refl w) J J J fun _ _ fx _ _ jo=>(fG (a5 sb Ab nb cb) jo fx.lt J J J fun g6 _ dg _ _ e8 jt=>(bL [F0,S0] jt dg.lt (fun _=>by kernel_rfl) J fun de _ cv dr _ dl jn=>(bL [F0,S0] jn cv.lt (fun _=>by kernel_rfl) J fun da _ cz dh _ bh dw=>(mv 1 J (a7 (sr (lo aA (fx.ext (e8.t (dl.t bh))) (a5 sa Aa na ca) J J J (lo aA (dg.ext (dl.t bh)) (a5 sb Ab nb cb) J J J ?_)))))))))))
 have fj:ln (qT x y)≤1048576:=V6 Lx
 have dy:ln (rT x y)≤1048576:=V5 Lx
 refine cl (vs:= [O sa Aa na ca,O sb Ab nb cb]) dw (VO dw.size (hx.ext dw) (aK la J) (hy.ext dw) (aK lb J)) J (by kernel_rfl) fun _ _ jv av ju=>?_
 obtain⟨_,_,_,rfl,⟨H,G,L,I,rfl,dx⟩,⟨p,o,q,f,rfl,bd⟩,rfl⟩:=jv
 refine mv 1 J (pu (v:= O H G L I) J (pu (v:= O p o q f) J (pu (v:= no (eZ y)) J (bL [F0,S0] ju (cz.ext av).lt (fun _=>by kernel_rfl) J fun dt _ ez fb _ M jp=>(bL [F0,S0] jp ez.lt (fun _=>by kernel_rfl) J fun du _ fw eg _ E jq=>?_)))))
 have W:=(ez.ext E)
 refine so aA W (a5 H G L I) jq fb J J J J fun _ cm F jr=>?_
 have X:=(fw.vN F)
 refine so aA X (a5 p o q f) jr eg J J J J fun _ Z D bp=>(mv 1 J (a7 (aD (aD ?_))))
 by_cases h0:y=0
 ·have he:eZ y=4:=if_pos h0
  refine dG bY 10 [] [Is (no (eZ y)),Is (AI),Is (AI),Is (undef),Is (undef),Is (undef),Is (undef),Is (undef),Is (undef),Is (AI)] [[],[0],[1],[2],[2,3],[2],[2,5],[2,4,6],[2,7],[2,8]] [[],[0],[0,1],[0,1,2],[0,1,2,3],[0,1,2],[0,1,2,3,4,5],[0,1,2,3,4,5,6],[0,1,2,3,4,5,6,7],[0,1,2,3,4,5,6,7,8]] rfl
   (aH J J (aE J J ?_) (aH J J (aE J J ?_) (aH J J (aE J J ?_) (aH J J (aE J J ?_) (aH J J (aE J J ?_) (aH J J (aE J J ?_) (aH J J (aE J J ?_) (aH J J (aE J J ?_) (aH J J (aE J J ?_) (aH J J (aE J J ?_) d9)))))))))) ?_
  ·exact fun _ _=>aC (mv 1 J (aG J aL J))
  ·exact fun _ _=>dk J J (aC (aI J J J true (nF) (aG J aL J)))
  ·exact fun _ _=>dk J J (aC (mv 1 J (aG J aL J)))
  ·exact fun _ _=>dk J J (aC (mv 1 J (aG J aL J)))
  ·exact fun _ _=>dk J J (dk J J (aC (mv 1 J (aG J aL J))))
  ·exact fun _ _=>dk J J (aC (mv 1 J (aG J aL J)))
  ·exact fun _ _=>dk J J (dk J J (aC (mv 1 J (aG J aL J))))
  ·exact fun _ _=>dk J J (dk J J (dk J J (aC (mv 1 J (aG J aL J)))))
  ·exact fun _ _=>dk J J (dk J J (aC (mv 1 J (aG J aL J))))
  ·exact fun _ _=>dk J J (dk J J (aC (pu (v:= AI) J (aG J aL J))))
  ·intro en ah
   have e:=bp.trans ah
   refine dk J J (dk J J (dk J J (dk J J (dk J J (dk J J (dk J J (dk J J (dk J J (dk J J (aC (aX (dC (aO ?_)))))))))))))
   refine aW J (aD (bG [(3,i5 g6 0),(4,i5 de 0),(5,i5 da 0),(7,i5 dt 0),(8,i5 du 0),(9,no (eZ y))] ⟨rfl,rfl,rfl,rfl,rfl,rfl,AT⟩ ?_))
   obtain⟨em,hv,ak⟩:∃v,v=en.drew∧Ext en v:=⟨_,rfl,aL.drew⟩
   have r:=e.trans ak
   have bo:=((((cv.ext (bh.t (av.t (M.t E)))).vN F).vN D).ext (ah.t ak))
   obtain⟨jg,fk,fi,bg,_⟩:=iJ (P:=aN) (us:= (a5 H G L I)) (off:=0) aA J bo (bq J) J (a5 H G L I) rfl
   have V:=bg.ext r dr
   have ch:=(((((cz.ext (av.t (M.t E))).vN F).vN D).ext (ah.t ak)).vN bg)
   obtain⟨gx,fv,fe,ct,_⟩:=iJ (P:=aN) (us:= (a5 p o q f)) (off:=0) aA J ch (bq J) J (a5 p o q f) rfl
   have bf:=ct.ext V dh
   refine gX bY (w:=em) [O H G L I,O p o q f,no (eZ y),undef,undef,no (eZ y)] [em,jg,gx] [3,4] [[],[],[],[0],[1],[2]] [[],[],[],[0],[0,1,3],[0,1,2,3,4]] [(0,0),(1,0),(1,1),(2,0),(2,1),(2,2),(3,0),(4,1),(5,2)] J hv ?_ ?_
   ·refine bA _ J J J J J (d7 J (bH aA ((cm.vN D).ext (ah.t ak)) (a5 H G L I) J (bq J) J)) (bA _ J J J J J (d7 J (bH aA (Z.ext (ah.t ak)) (a5 p o q f) J (bq J) J)) (bA _ J J J J J (d7 J (bH aA ((Z.ext (ah.t ak)).vN bg) (a5 p o q f) J (bq J) J)) (bA _ J J J J J (bZ J) (bA _ J J J J J (bZ J) (bA _ J J J J J (bZ J) (iR _ J J J J J (iA J J fk) (iR _ J J J J J (iA J J fv) (bA _ J J J J J (lE J) ?_))))))))
    exact gW
   clear hv
   refine gG [(3,i5 g6 0),(4,i5 de 0),(5,i5 da 0),(7,i5 dt 0),(8,i5 du 0),(6,no (eZ y))] ⟨rfl,rfl,rfl,rfl,rfl,rfl,AT⟩ (aO (aV (bR (aU [O H G L I,O p o q f,no (eZ y)] J ⟨⟨_,rfl,bH aA (fi.vN ct) (a5 H G L I) J (bq J) rfl⟩,⟨_,rfl,bH aA fe (a5 p o q f) J (bq J) rfl⟩,rfl,AT⟩ ?_))))
   exact⟨_,rfl,⟨_,_,_,rfl,⟨_,_,_,_,rfl,(((((((dx.ext (M.t E)).updT W F).updT X D).ext (ah.t ak)).updT bo bg).updT ch ct)).cast (by simp only [qT,rT,qF,rF,if_pos h0])⟩,⟨_,_,_,_,rfl,(((((((bd.ext (M.t E)).updT W F).updT X D).ext (ah.t ak)).updT bo bg).updT ch ct)).cast (by simp only [qT,rT,qF,rF,if_pos h0])⟩,rfl⟩,bf⟩
 ·have he:eZ y=0:=if_neg h0
  have hq:qT x y=x.tdiv y:=if_neg h0
  have hr:rT x y=x.tmod y:=if_neg h0
  by_cases hk:0≤bE (rT x y) 0*bE y 0
  ·refine dG bY 10 [] [Is (no (eZ y)),Is (AS),Is (AS),Is (O p o q f),Is (no (bE (rT x y) 0)),Is (O sb Ab nb cb),Is (no (bE y 0)),Is (no (bE (rT x y) 0*bE y 0)),Is (AI),Is (AI)] [[],[0],[1],[2],[2,3],[2],[2,5],[2,4,6],[2,7],[2,8]] [[],[0],[0,1],[0,1,2],[0,1,2,3],[0,1,2],[0,1,2,3,4,5],[0,1,2,3,4,5,6],[0,1,2,3,4,5,6,7],[0,1,2,3,4,5,6,7,8]] rfl
    (aH J J (aE J J ?_) (aH J J (aE J J ?_) (aH J J (aE J J ?_) (aH J J (aE J J ?_) (aH J J (aE J J ?_) (aH J J (aE J J ?_) (aH J J (aE J J ?_) (aH J J (aE J J ?_) (aH J J (aE J J ?_) (aH J J (aE J J ?_) d9)))))))))) ?_
   ·exact fun _ _=>aC (mv 1 J (aG J aL J))
   ·exact fun _ _=>dk J J (aC (aI J J J false (lI (by omega)) (aG J aL J)))
   ·exact fun _ _=>dk J J (aC (mv 1 J (aG J aL J)))
   ·exact fun _ ji=>dk J J (aC (lo aA (Z.ext ji) (a5 p o q f) J J J (aG J aL J)))
   ·intro _ dz
    have e:=bp.trans dz
    refine dk J J (dk J J (aC (cl (vs:= [O p o q f]) e (eV ((((bd.ext (M.t E)).updT W F).updT X D).ext dz).zi (bd.le (aK dy J))) J (by kernel_rfl) fun _ _ gy iw r=>?_)))
    obtain rfl:=gy
    exact aG J iw rfl
   ·exact fun _ iv=>dk J J (aC (lo aA ((((dg.ext (dl.t (bh.t (av.t (M.t E))))).vN F).vN D).ext iv) (a5 sb Ab nb cb) J J J (aG J aL J)))
   ·intro _ gf
    have e:=bp.trans gf
    refine dk J J (dk J J (aC (cl (vs:= [O sb Ab nb cb]) e (eV (hy.ext e) (aK lb J)) J (by kernel_rfl) fun _ _ go fz r=>?_)))
    obtain rfl:=go
    exact aG J fz rfl
   ·exact fun _ _=>dk J J (dk J J (dk J J (aC (aR J J J (bE (rT x y) 0*bE y 0) (vX J (by have:=xI (rT x y) 0 y 0;omega) (by have:=xI (rT x y) 0 y 0;omega)) (aG J aL J)))))
   ·exact fun _ _=>dk J J (dk J J (aC (aI J J J true (rN (h:=hk)) (aG J aL J))))
   ·exact fun _ _=>dk J J (dk J J (aC (pu (v:= AI) J (aG J aL J))))
   ·intro ej ae
    have e:=bp.trans ae
    refine dk J J (dk J J (dk J J (dk J J (dk J J (dk J J (dk J J (dk J J (dk J J (dk J J (aC (aX (dC (aO ?_)))))))))))))
    refine aW J (aD (bG [(3,i5 g6 0),(4,i5 de 0),(5,i5 da 0),(7,i5 dt 0),(8,i5 du 0),(9,no (eZ y))] ⟨rfl,rfl,rfl,rfl,rfl,rfl,AT⟩ ?_))
    obtain⟨eh,hv,ai⟩:∃v,v=ej.drew∧Ext ej v:=⟨_,rfl,aL.drew⟩
    have r:=e.trans ai
    have bj:=((((cv.ext (bh.t (av.t (M.t E)))).vN F).vN D).ext (ae.t ai))
    obtain⟨il,fc,fm,bi,_⟩:=iJ (P:=aN) (us:= (a5 H G L I)) (off:=0) aA J bj (bq J) J (a5 H G L I) rfl
    have V:=bi.ext r dr
    have bw:=(((((cz.ext (av.t (M.t E))).vN F).vN D).ext (ae.t ai)).vN bi)
    obtain⟨jk,ft,fp,cu,_⟩:=iJ (P:=aN) (us:= (a5 p o q f)) (off:=0) aA J bw (bq J) J (a5 p o q f) rfl
    have bf:=cu.ext V dh
    refine gX bY (w:=eh) [O H G L I,O p o q f,no (eZ y),undef,undef,no (eZ y)] [eh,il,jk] [3,4] [[],[],[],[0],[1],[2]] [[],[],[],[0],[0,1,3],[0,1,2,3,4]] [(0,0),(1,0),(1,1),(2,0),(2,1),(2,2),(3,0),(4,1),(5,2)] J hv ?_ ?_
    ·refine bA _ J J J J J (d7 J (bH aA ((cm.vN D).ext (ae.t ai)) (a5 H G L I) J (bq J) J)) (bA _ J J J J J (d7 J (bH aA (Z.ext (ae.t ai)) (a5 p o q f) J (bq J) J)) (bA _ J J J J J (d7 J (bH aA ((Z.ext (ae.t ai)).vN bi) (a5 p o q f) J (bq J) J)) (bA _ J J J J J (bZ J) (bA _ J J J J J (bZ J) (bA _ J J J J J (bZ J) (iR _ J J J J J (iA J J fc) (iR _ J J J J J (iA J J ft) (bA _ J J J J J (lE J) ?_))))))))
     exact gW
    clear hv
    refine gG [(3,i5 g6 0),(4,i5 de 0),(5,i5 da 0),(7,i5 dt 0),(8,i5 du 0),(6,no (eZ y))] ⟨rfl,rfl,rfl,rfl,rfl,rfl,AT⟩ (aO (aV (bR (aU [O H G L I,O p o q f,no (eZ y)] J ⟨⟨_,rfl,bH aA (fm.vN cu) (a5 H G L I) J (bq J) rfl⟩,⟨_,rfl,bH aA fp (a5 p o q f) J (bq J) rfl⟩,rfl,AT⟩ ?_))))
    exact⟨_,rfl,⟨_,_,_,rfl,⟨_,_,_,_,rfl,(((((((dx.ext (M.t E)).updT W F).updT X D).ext (ae.t ai)).updT bj bi).updT bw cu)).cast (by simp only [qF,rF,if_neg h0,←hr,hq,if_pos hk])⟩,⟨_,_,_,_,rfl,(((((((bd.ext (M.t E)).updT W F).updT X D).ext (ae.t ai)).updT bj bi).updT bw cu)).cast (by simp only [qF,rF,if_neg h0,←hr,hq,if_pos hk])⟩,rfl⟩,bf⟩
  ·refine dG bY 10 [] [Is (no (eZ y)),Is (AS),Is (AS),Is (O p o q f),Is (no (bE (rT x y) 0)),Is (O sb Ab nb cb),Is (no (bE y 0)),Is (no (bE (rT x y) 0*bE y 0)),Is (AS),Is (AS)] [[],[0],[1],[2],[2,3],[2],[2,5],[2,4,6],[2,7],[2,8]] [[],[0],[0,1],[0,1,2],[0,1,2,3],[0,1,2],[0,1,2,3,4,5],[0,1,2,3,4,5,6],[0,1,2,3,4,5,6,7],[0,1,2,3,4,5,6,7,8]] rfl
    (aH J J (aE J J ?_) (aH J J (aE J J ?_) (aH J J (aE J J ?_) (aH J J (aE J J ?_) (aH J J (aE J J ?_) (aH J J (aE J J ?_) (aH J J (aE J J ?_) (aH J J (aE J J ?_) (aH J J (aE J J ?_) (aH J J (aE J J ?_) d9)))))))))) ?_
   ·exact fun _ _=>aC (mv 1 J (aG J aL J))
   ·exact fun _ _=>dk J J (aC (aI J J J false (lI (by omega)) (aG J aL J)))
   ·exact fun _ _=>dk J J (aC (mv 1 J (aG J aL J)))
   ·exact fun _ ig=>dk J J (aC (lo aA (Z.ext ig) (a5 p o q f) J J J (aG J aL J)))
   ·intro _ el
    have e:=bp.trans el
    refine dk J J (dk J J (aC (cl (vs:= [O p o q f]) e (eV ((((bd.ext (M.t E)).updT W F).updT X D).ext el).zi (bd.le (aK dy J))) J (by kernel_rfl) fun _ _ gb ga r=>?_)))
    obtain rfl:=gb
    exact aG J ga rfl
   ·exact fun _ ia=>dk J J (aC (lo aA ((((dg.ext (dl.t (bh.t (av.t (M.t E))))).vN F).vN D).ext ia) (a5 sb Ab nb cb) J J J (aG J aL J)))
   ·intro _ ij
    have e:=bp.trans ij
    refine dk J J (dk J J (aC (cl (vs:= [O sb Ab nb cb]) e (eV (hy.ext e) (aK lb J)) J (by kernel_rfl) fun _ _ ik ib r=>?_)))
    obtain rfl:=ik
    exact aG J ib rfl
   ·exact fun _ _=>dk J J (dk J J (dk J J (aC (aR J J J (bE (rT x y) 0*bE y 0) (vX J (by have:=xI (rT x y) 0 y 0;omega) (by have:=xI (rT x y) 0 y 0;omega)) (aG J aL J)))))
   ·exact fun _ _=>dk J J (dk J J (aC (aI J J J false (kQ) (aG J aL J))))
   ·exact fun _ _=>dk J J (dk J J (aC (pu (v:= AS) J (aG J aL J))))
   ·intro _ U
    have e:=bp.trans U
    refine dk J J (dk J J (dk J J (dk J J (dk J J (dk J J (dk J J (dk J J (dk J J (dk J J (aC (aX (dC (aO ?_)))))))))))))
    refine aQ J (aY (aO (aD ?_)))
    have jw:ln ((qT x y)-1)≤1048577:=a8 (jT fj (show ln (1)≤1 by decide+kernel)) (by decide)
    refine dG bY 3 [] [Is (O H G L I),ZR w.heap.size (1),ZR w.heap.size ((qT x y)-1)] [[],[],[0,1]] [[],[],[0,1],[0,1,2]] rfl
     (aH J J (aE J J ?_) (aH J J (aE J J ?_) (aH J J (aE J J ?_) d9))) ?_
    ·exact fun _ je=>aC (lo aA ((cm.vN D).ext (U.t je)) (a5 H G L I) J J J (aG J aL J))
    ·intro _ iy
     have r:=e.trans iy
     refine aC (cl (vs:= [no 1]) r (lK r.size) J (by kernel_rfl) fun _ _ fy jh V=>?_)
     obtain⟨_,_,_,_,rfl,gk⟩:=fy
     exact aG J jh ⟨_,_,_,_,rfl,gk⟩
    ·intro _ ei
     have r:=e.trans ei
     refine dk J J (aT J J fun _ _ gr _ jf=>?_)
     obtain⟨ja,gn,ic,ie,rfl,cp⟩:=gr
     have cp:=cp.ext jf
     refine aC ?_
     have jy:ln ((qT x y)-1)≤1048577:=a8 (jT fj (show ln (1)≤1 by decide+kernel)) (by decide)
     refine cl (vs:= [O H G L I,O ja gn ic ie]) r (yK r.size ((((dx.ext (M.t E)).updT W F).updT X D).ext (U.t ei)).zi (dx.le (aK fj J)) cp.zi (cp.le (a8 (show ln (1)≤1 by decide+kernel) (by decide)))) J (by kernel_rfl) fun _ _ jb jj V=>?_
     obtain⟨_,_,_,_,rfl,im⟩:=jb
     exact aG J jj ⟨_,_,_,_,rfl,im⟩
    ·intro _ am
     have r:=e.trans am
     refine dk J J (aT J J fun _ _ gg _ gc=>?_)
     obtain⟨_,_,_,_,rfl,ef⟩:=gg
     have ef:=ef.ext gc
     refine aT J J fun _ _ jc _ gi=>?_
     obtain⟨aq,ap,au,ar,rfl,df⟩:=jc
     have df:=df.ext gi
     refine aC ?_
     have bu:=((cm.vN D).ext (U.t am))
     refine so aA bu (a5 aq ap au ar) r fb J J J J fun _ fg ao V=>(aX (dC (aO (sr (lo aA ((Z.ext (U.t am)).vN ao) (a5 p o q f) J J J (lo aA (((((dg.ext (dl.t (bh.t (av.t (M.t E))))).vN F).vN D).ext (U.t am)).vN ao) (a5 sb Ab nb cb) J J J ?_))))))
     have jx:ln ((rT x y)+y)≤1048577:=a8 (dN dy Ly) (by decide)
     refine cl (vs:= [O p o q f,O sb Ab nb cb]) V (oO V.size (((((bd.ext (M.t E)).updT W F).updT X D).ext (U.t am)).updT bu ao).zi (bd.le (aK dy J)) (hy.ext V) (aK lb J)) J (by kernel_rfl) fun _ _ ir ba bf=>?_
     obtain⟨ab,Y,ag,aa,rfl,jd⟩:=ir
     have bm:=(((Z.ext (U.t am)).vN ao).ext ba)
     refine so aA bm (a5 ab Y ag aa) bf eg J J J J fun ew dm aw io=>(a7 (aD (bG [(4,i5 de 0),(5,i5 da 0),(7,i5 dt 0),(8,i5 du 0)] ⟨rfl,rfl,rfl,rfl,AT⟩ ?_)))
     obtain⟨ey,hv,aj⟩:∃v,v=ew.drew∧Ext ew v:=⟨_,rfl,aL.drew⟩
     have iz:=io.trans aj
     have cj:=((((((((cv.ext (bh.t (av.t (M.t E)))).vN F).vN D).ext (U.t am)).vN ao).ext ba).vN aw).ext aj)
     obtain⟨ix,fo,fq,az,_⟩:=iJ (P:=aN) (us:= (a5 aq ap au ar)) (off:=0) aA J cj (bq J) J (a5 aq ap au ar) rfl
     have ge:=az.ext iz dr
     have ci:=(((((((((cz.ext (av.t (M.t E))).vN F).vN D).ext (U.t am)).vN ao).ext ba).vN aw).ext aj).vN az)
     obtain⟨gj,fh,fd,ck,_⟩:=iJ (P:=aN) (us:= (a5 ab Y ag aa)) (off:=0) aA J ci (bq J) J (a5 ab Y ag aa) rfl
     have iq:=ck.ext ge dh
     refine gX bY (w:=ey) [O aq ap au ar,O ab Y ag aa,undef,undef,I0] [ey,ix,gj] [2,3] [[],[],[0],[1],[]] [[],[],[0],[0,1,2],[0,1,2,3]] [(0,0),(1,0),(1,1),(2,0),(3,1),(4,2)] J hv ?_ ?_
     ·refine bA _ J J J J J (d7 J (bH aA (((fg.ext ba).vN aw).ext aj) (a5 aq ap au ar) J (bq J) J)) (bA _ J J J J J (d7 J (bH aA (dm.ext aj) (a5 ab Y ag aa) J (bq J) J)) (bA _ J J J J J (d7 J (bH aA ((dm.ext aj).vN az) (a5 ab Y ag aa) J (bq J) J)) (iR _ J J J J J (iA J J fo) (iR _ J J J J J (iA J J fh) (bA _ J J J J J (lE J) ?_)))))
      exact gW
     clear hv
     refine gG [(4,i5 de 0),(5,i5 da 0),(6,no 0)] ⟨rfl,rfl,rfl,AT⟩ (aO (aV (aU [O aq ap au ar,O ab Y ag aa,I0] J ⟨⟨_,rfl,bH aA (fq.vN ck) (a5 aq ap au ar) J (bq J) rfl⟩,⟨_,rfl,bH aA fd (a5 ab Y ag aa) J (bq J) rfl⟩,rfl,AT⟩ ?_)))
     exact⟨_,rfl,⟨_,_,_,rfl,⟨_,_,_,_,rfl,(((((((df.updT bu ao).ext ba).updT bm aw).ext aj).updT cj az).updT ci ck)).cast (by simp only [qF,rF,if_neg h0,←hr,hq,if_neg hk])⟩,⟨_,_,_,_,rfl,(((((jd.updT bm aw).ext aj).updT cj az).updT ci ck)).cast (by simp only [qF,rF,if_neg h0,←hr,hq,if_neg hk])⟩,(show (no 0:aM)=_ by simp only [eX,eZ,if_neg h0])⟩,iq⟩
theorem UpdO.refl (A:Option aB)(w:a6):UpdO A w w:=⟨EF _ _⟩
theorem UpdO.trans {a b c:a6}(h:UpdO A a b)(k:UpdO A b c):UpdO A a c:=
 ⟨⟨k.by_.os.trans h.by_.os,k.by_.tape.trans h.by_.tape,k.by_.output.trans h.by_.output,a8 h.by_.size k.by_.size,
  fun i hi e=>(k.by_.block i (dJ hi h.by_.size) e).trans (h.by_.block i hi e)⟩⟩
theorem UpdO.then_ext {a b c:a6}(h:UpdO A a b)(e:Ext b c):UpdO A a c:=
 ⟨⟨e.below.os.trans h.by_.os,e.below.tape.trans h.by_.tape,e.below.output.trans h.by_.output,a8 h.by_.size e.below.size,
  fun i hi f=>(e.below.block i (dJ hi h.by_.size)).trans (h.by_.block i hi f)⟩⟩
theorem Own.at1 {f:Nat→aM}(h:Own w lb T 1 A n c (xs.map f))(hi:i<n):∃p,A.map (·.add (i*1))=some p∧w.cell? p=some (f (xs.getD i 0)):=by
 have hl:=h.rv.len
 rw [List.length_map,dV] at hl
 obtain⟨a,rfl,e⟩:=h.rv.get i (by omega)
 refine⟨a.add i,by rw [dV];rfl,?_⟩
 rw [e]
 simp [bK,mE,cC (show i<xs.length by omega)]
theorem tA {f:Nat→aM}(h:Own w b T 1 A n c (l.map f)):l.length=n:=by have:=h.rv.len;rwa [List.length_map,dV] at this
theorem Own.take1 {f:Nat→aM}(h:Own w lb T 1 A n c (xs.map f))(hk:k≤n):Own w lb T 1 A k c ((xs.take k).map f):=by
 have:=h.take hk
 rwa [dV,←kW] at this
theorem TS {f:Nat→aM}(h:Own w lb T 1 A n c (xs.map f)){u:Nat}(hi:i<n)(h1:(f u).oneCell'=true)(hcl:(f u).cells= #[f u])(hT:∀w,(sizeOf T').run P w= .ok 1 w){p:aB}(hp:A.map (·.add (i*1))=some p):∃w',(storeVar T' p (f u)).run P w= .ok () w'∧Own w' lb T 1 A n c ((xs.set i u).map f)∧UpdO A w w':=by
 rcases h with⟨_,rfl,_,_⟩ | ⟨g,cs,rfl,hb,D,hn,q,hl,o⟩
 ·omega
 ·rw [wH,eB,dV,kV,eJ] at hp
  subst hp
  rw [dV] at hl o
  obtain⟨w',hr,e,r,_⟩:=BN (P:=P) (v:=f u) hT hcl D (show i<cs.length by omega) h1 _ rfl
  refine⟨w',hr,cO ⟨g,_,rfl,hb,e,hn,q,by rw [List.length_set,hl,dV],?_⟩,r.updO⟩
  rw [dV,List.take_set,o,List.map_set]
section
variable {P:bW}{Q:dI→Act→a6→Prop}{n:Nat}{l:Fr}{w:a6}{ops:Array bD}{rest:List bD}{d:Nat}{ty:aS}{pos:String}{af:Array fP}{gd:Option (Nat×Bool)}
theorem F4 {x y:cN}{f:Nat→aM}{u:Nat}{p:aB}(hw:dB ops l gd=some true)(hx:bV l x=some (.pointer (some p)))(hy:bV l y=some (f u))(hp:A.map (·.add (i*1))=some p)(h:Own w lb T 1 A m c (xs.map f))(hi:i<m)(h1:(f u).oneCell'=true)(hcl:(f u).cells= #[f u])(hT:∀w,(sizeOf T').run P w= .ok 1 w)(k:∀w',Own w' lb T 1 A m c ((xs.set i u).map f)→UpdO A w w'→wl P ops Q n rest l w'):wl P ops Q n (⟨none,.store T' x y,ty,pos,af,gd⟩::rest) l w:=by
 obtain⟨w',hr,h2,e⟩:=TS (P:=P) (T':=T') h hi h1 hcl hT hp
 exact AW hw hx hy hr (k w' h2 e)
end
theorem pF:Tryz.prog.underlying 140=some (.slice 3):=Tryz.underlying140
theorem oE (w:a6):(sizeOf 3).run aN w= .ok 1 w:=by kernel_rfl
def OI (b:Nat)(ds:List Nat)(v:aM)(w:a6):Prop:=∃A n c,v= we A n c∧ds.length=n∧Own w b 3 1 A n c (ds.map I6)
theorem WK (hx:Wi w A n c m)(hl:n≤274877906943):aP aN 177 #[we A n c] w (Gv w (OI w.heap.size (db 65536 m))):=by
 obtain⟨xs,h1,rfl⟩:=hx
 refine (qY h1 hl).mono fun e w' h=>?_
 obtain⟨A,n,c,rfl,h1,h2,f,o⟩:=h
 exact⟨_,rfl,⟨A,n,c,rfl,h1.out.symm,f⟩,o⟩
theorem RV (n:Nat):cJ n (dP .u8 0)=(cJ n 0).map B8:=by rw [List.map_replicate];rfl
def G2:List Nat:= [48,49,50,51,52,53,54,55,56,57,97,98,99,100,101,102,103,104,105,106,107,108,109,110,111,112,113,114,115,116,117,118,119,120,121,122]
theorem sS (h:d<36):G2.getD d 0=sgn d:=by
 have key:∀d,d<36→G2.getD d 0=sgn d:=by decide
 exact key d h
theorem TV {rest:Nat}(hb:0<base)(hj:0<j)(hjl:j≤l.length)(hl:l.length=ds.length)(ht:l.take j=ds.take j)(h:nb 65536 (ds.drop j)=base*nb 65536 (l.drop j)+rest):nb 65536 (ds.drop (j-1))=base*nb 65536 ((l.set (j-1) ((rest*65536+l.getD (j-1) 0)/base)).drop (j-1))+(rest*65536+l.getD (j-1) 0)%base:=by
 have f:l.getD (j-1) 0=ds.getD (j-1) 0:=by
  have h1:(l.take j).getD (j-1) 0=(ds.take j).getD (j-1) 0:=by rw [ht]
  simpa [bK,kY,show j-1<j by omega] using h1
 have D:ds.drop (j-1)=ds.getD (j-1) 0::ds.drop j:=by
  rw [yS (by omega),show j-1+1=j by omega]
 have p:(l.set (j-1) ((rest*65536+l.getD (j-1) 0)/base)).drop (j-1)=((rest*65536+l.getD (j-1) 0)/base)::l.drop j:=by
  rw [yS (by rw [List.length_set];omega)]
  congr 1
  ·simp [bK,show j-1<l.length by omega]
  ·rw [show j-1+1=j by omega,List.drop_set_of_lt (by omega)]
 rw [D,p,lJ,lJ,h,←f]
 have e:=Nat.div_add_mod (rest*65536+l.getD (j-1) 0) base
 generalize (rest*65536+l.getD (j-1) 0)/base=q at e⊢
 generalize (rest*65536+l.getD (j-1) 0)%base=r at e⊢
 have o:base*(q+65536*nb 65536 (l.drop j))=base*q+65536*(base*nb 65536 (l.drop j)):=by rw [cI,Nat.mul_left_comm]
 rw [o]
 omega
theorem U3 {v:Nat}(hi:i<l.length)(hl:l.length=ds.length)(ht:l.drop i=ds.drop i)(h:nb 65536 (l.take i)+65536^i*c=nb 65536 (ds.take i)*base+v):nb 65536 ((l.set i ((l.getD i 0*base+c)%65536)).take (i+1))+65536^(i+1)*((l.getD i 0*base+c)/65536)=nb 65536 (ds.take (i+1))*base+v:=by
 have e:l.getD i 0=ds.getD i 0:=by
  have h1:(l.drop i).getD 0 0=(ds.drop i).getD 0 0:=by rw [ht]
  simpa [bK,oZ] using h1
 rw [nG 65536 hi,cW,bX,Nat.add_assoc,←cI,Nat.mod_add_div,hZ 65536 ds i (by omega),dK,←e,cI,bX]
 omega
theorem G5 (h:dv c<36)(hn:¬(65≤c∧c≤90)):sgn (dv c)=c:=by
 unfold dv at h⊢
 unfold sgn
 (repeat' split at h) <;> (repeat' split) <;> omega
theorem TW {rest:Nat}(h:rest<base)(hd:d<65536):(rest*65536+d)/base<65536:=by
 rw [Nat.div_lt_iff_lt_mul (by omega)]
 have:(rest+1)*65536≤base*65536:=eI _ h
 omega
theorem Z2 {a q:Nat}(hb:0<b)(hr:r<b)(h:a=b*q+r):a/b=q∧r=a%b:=by
 subst h
 exact⟨by rw [Nat.mul_add_div hb,Nat.div_eq_of_lt hr,fC],by rw [Nat.mul_add_mod,Nat.mod_eq_of_lt hr]⟩
theorem GW (hc:c≤255):aP aN 262 #[.int .u8 ((c:Nat):Int)] w (Gv w (Is (no (if dv c<36 then ((dv c:Nat):Int) else 99)))):=by
 refine bN Tryz.func262 J (n:=23) J (bq J) (args:= [.int .u8 ((c:Nat):Int)]) (bG [(0,.int .u8 ((c:Nat):Int))] ⟨rfl,AT⟩ (sr (mv 1 J (a7 (aD (aD ?_))))))
 by_cases D:c≥65
 ·by_cases E:c≤90
  ·refine aF (mv 1 J (aI J J J true (gA (a:=c) (b:=65) J J) (mv 2 J (aI J J J true (nM (a:=c) (b:=90) J J) (pu (v:= AI) J (a7 (aW J (sr (mv 1 J (aR J J J ((c-65:Nat):Int) (a0u (a:=c) (b:=65) J J (by omega) (by omega)) (cS J J (v:= no (IntKind.i64.wrap ((c-65:Nat):Int))) (v':= no ((c-65:Nat):Int)) (pW (by first | omega | exact hle64)) (aR J J J (((c-65)+10:Nat):Int) (cA (a:=c-65) (b:=10) J J) (mv 1 J ?_)))))))))))))
   refine a7 (aV (bR (aU [no (((c-65)+10:Nat):Int)] J ⟨rfl,AT⟩ ?_)))
   have q:dv c=(c-65)+10:=by unfold dv;rw [if_neg (by omega),if_neg (by omega),if_pos (by omega)];omega
   exact⟨_,rfl,(show dP .i64 ((((c-65)+10:Nat):Int))=_ by rw [q,if_pos (by omega)]),(Ext.refl w)⟩
  ·refine aF (mv 1 J (aI J J J true (gA (a:=c) (b:=65) J J) (mv 2 J (aI J J J false (nN (a:=c) (b:=90) J J) (pu (v:= AS) J (a7 (aQ J (aY (aO (aD (sr (mv 1 J (aX ?_)))))))))))))
   refine aO (bO ?_)
   refine d8 (T:=a6×Nat)
    (fun⟨wr,i⟩=> [(0,.int .u8 ((c:Nat):Int)),(3,no i)])
    (fun⟨wr,i⟩=>wr)
    (fun⟨wr,i⟩=>(Ext w wr)∧(i≤36)∧(∀j,j<i→sgn j≠c))
    (fun⟨wr,i⟩=>36-i)
    (⟨w,0⟩:a6×Nat) ⟨(Ext.refl w),(bJ _),(fun j r=>absurd r (Nat.not_lt_zero _))⟩ J ⟨rfl,rfl,AT⟩ ?_
   rintro⟨wr,i⟩ ⟨f,hi,p⟩
   refine cR [(0,.int .u8 ((c:Nat):Int)),(3,no i)] wr J ⟨rfl,rfl,AT⟩ (aD (aD ?_))
   by_cases e:i<36
   ·refine aF (mv 1 J (aI J J J true (eD (a:=i) (b:=36) J J) (a7 (aW J (aY (aO (aD (bO (aD ?_)))))))))
    by_cases o:([48,49,50,51,52,53,54,55,56,57,97,98,99,100,101,102,103,104,105,106,107,108,109,110,111,112,113,114,115,116,117,118,119,120,121,122]).getD i 0=c
    ·refine aF (mv 1 J (dM (bs:= [48,49,50,51,52,53,54,55,56,57,97,98,99,100,101,102,103,104,105,106,107,108,109,110,111,112,113,114,115,116,117,118,119,120,121,122]) (i:=i) J J J Tryz.underlying9 (by decide) (mv 1 J (aI J J J true (fF (a:=([48,49,50,51,52,53,54,55,56,57,97,98,99,100,101,102,103,104,105,106,107,108,109,110,111,112,113,114,115,116,117,118,119,120,121,122]).getD i 0) (b:=c) J J) (a7 (aW J (sr (mv 2 J (a7 (aV (fK (bR (m5 ?_)))))))))))))
     refine fK (bR (aU [no i] J ⟨rfl,AT⟩ ?_))
     have q:dv c=i:=by rw [←o];exact (congrArg dv (sS e)).trans (L5 e)
     exact⟨_,rfl,(show dP .i64 ((i:Nat):Int)=_ by rw [q,if_pos e]),f⟩
    ·refine aF (mv 1 J (dM (bs:= [48,49,50,51,52,53,54,55,56,57,97,98,99,100,101,102,103,104,105,106,107,108,109,110,111,112,113,114,115,116,117,118,119,120,121,122]) (i:=i) J J J Tryz.underlying9 (by decide) (mv 1 J (aI J J J false (eR (a:=([48,49,50,51,52,53,54,55,56,57,97,98,99,100,101,102,103,104,105,106,107,108,109,110,111,112,113,114,115,116,117,118,119,120,121,122]).getD i 0) (b:=c) J J) (a7 (aQ J (aY (bQ (aO (aF (mv 1 J (aR J J J ((i+1:Nat):Int) (cA (a:=i) (b:=1) J J) (mv 1 J ?_)))))))))))))
     refine aX (cM (⟨wr,i+1⟩:a6×Nat) ⟨f,(by omega),(fun j r=>by by_cases h:j=i;(· subst h;rw [←sS e];exact o);(· exact p j (by omega)))⟩ (show 36-(i+1)<36-i by omega) J ⟨rfl,rfl,AT⟩)
   ·refine aF (mv 1 J (aI J J J false (eE (a:=i) (b:=36) J J) (a7 (aQ J (d4 (cU (cY (cZ (aO (sr (mv 1 J (a7 (aV ?_)))))))))))))
    refine aU [no 99] J ⟨rfl,AT⟩ ?_
    have q:¬dv c<36:=fun h=>p (dv c) (by omega) (G5 h (by omega))
    exact⟨_,rfl,(show dP .i64 (99:Int)=_ by rw [if_neg q]),f⟩
 ·refine aF (mv 1 J (aI J J J false (m6 (a:=c) (b:=65) J J) (mv 3 J (pu (v:= AS) J (a7 (aQ J (aY (aO (aD (sr (mv 1 J (a7 (bO ?_)))))))))))))
  refine d8 (T:=a6×Nat)
   (fun⟨wr,i⟩=> [(0,.int .u8 ((c:Nat):Int)),(3,no i)])
   (fun⟨wr,i⟩=>wr)
   (fun⟨wr,i⟩=>(Ext w wr)∧(i≤36)∧(∀j,j<i→sgn j≠c))
   (fun⟨wr,i⟩=>36-i)
   (⟨w,0⟩:a6×Nat) ⟨(Ext.refl w),(bJ _),(fun j r=>absurd r (Nat.not_lt_zero _))⟩ J ⟨rfl,rfl,AT⟩ ?_
  rintro⟨wr,i⟩ ⟨f,hi,p⟩
  refine cR [(0,.int .u8 ((c:Nat):Int)),(3,no i)] wr J ⟨rfl,rfl,AT⟩ (aD (aD ?_))
  by_cases e:i<36
  ·refine aF (mv 1 J (aI J J J true (eD (a:=i) (b:=36) J J) (a7 (aW J (aY (aO (aD (bO (aD ?_)))))))))
   by_cases o:([48,49,50,51,52,53,54,55,56,57,97,98,99,100,101,102,103,104,105,106,107,108,109,110,111,112,113,114,115,116,117,118,119,120,121,122]).getD i 0=c
   ·refine aF (mv 1 J (dM (bs:= [48,49,50,51,52,53,54,55,56,57,97,98,99,100,101,102,103,104,105,106,107,108,109,110,111,112,113,114,115,116,117,118,119,120,121,122]) (i:=i) J J J Tryz.underlying9 (by decide) (mv 1 J (aI J J J true (fF (a:=([48,49,50,51,52,53,54,55,56,57,97,98,99,100,101,102,103,104,105,106,107,108,109,110,111,112,113,114,115,116,117,118,119,120,121,122]).getD i 0) (b:=c) J J) (a7 (aW J (sr (mv 2 J (a7 (aV (fK (bR (m5 ?_)))))))))))))
    refine fK (bR (aU [no i] J ⟨rfl,AT⟩ ?_))
    have q:dv c=i:=by rw [←o];exact (congrArg dv (sS e)).trans (L5 e)
    exact⟨_,rfl,(show dP .i64 ((i:Nat):Int)=_ by rw [q,if_pos e]),f⟩
   ·refine aF (mv 1 J (dM (bs:= [48,49,50,51,52,53,54,55,56,57,97,98,99,100,101,102,103,104,105,106,107,108,109,110,111,112,113,114,115,116,117,118,119,120,121,122]) (i:=i) J J J Tryz.underlying9 (by decide) (mv 1 J (aI J J J false (eR (a:=([48,49,50,51,52,53,54,55,56,57,97,98,99,100,101,102,103,104,105,106,107,108,109,110,111,112,113,114,115,116,117,118,119,120,121,122]).getD i 0) (b:=c) J J) (a7 (aQ J (aY (bQ (aO (aF (mv 1 J (aR J J J ((i+1:Nat):Int) (cA (a:=i) (b:=1) J J) (mv 1 J ?_)))))))))))))
    refine aX (cM (⟨wr,i+1⟩:a6×Nat) ⟨f,(by omega),(fun j r=>by by_cases h:j=i;(· subst h;rw [←sS e];exact o);(· exact p j (by omega)))⟩ (show 36-(i+1)<36-i by omega) J ⟨rfl,rfl,AT⟩)
  ·refine aF (mv 1 J (aI J J J false (eE (a:=i) (b:=36) J J) (a7 (aQ J (d4 (cU (cY (cZ (aO (sr (mv 1 J (a7 (aV ?_)))))))))))))
   refine aU [no 99] J ⟨rfl,AT⟩ ?_
   have q:¬dv c<36:=fun h=>p (dv c) (by omega) (G5 h (by omega))
   exact⟨_,rfl,(show dP .i64 (99:Int)=_ by rw [if_neg q]),f⟩
theorem RX (ho:Own w lb 3 1 A n c (ds.map I6))(hwf:Wfb 65536 ds)(hbl:2≤base)(hbu:base≤36)(hn:n≤1099511627776):aP aN 261 #[we A n c,no base] w (fun e w'=>∃es:List Nat,e= .returned (no ((nb 65536 ds%base:Nat):Int))∧Own w' lb 3 1 A n c (es.map I6)∧es.length=n∧Wfb 65536 es∧nb 65536 es=nb 65536 ds/base∧UpdO A w w'):=by
 have ag:=tA ho
 refine bN Tryz.func261 J (n:=32) J (bq J) (args:= [we A n c,no base]) (bG [(0,we A n c),(1,no base)] ⟨rfl,rfl,AT⟩ (sr (mv 1 J (a7 (sr (mv 1 J (a7 (aD (sr (mv 1 J (pu (v:= no n) J (aR J J J (((n:Nat):Int)-1) (eL J) (mv 1 J ?_)))))))))))))
 refine a7 (bO ?_)
 refine d8 (T:=a6×Nat×Nat×List Nat)
  (fun⟨wr,j,rest,l⟩=> [(0,we A n c),(1,no base),(5,no rest),(6,no (((j:Nat):Int)-1))])
  (fun⟨wr,j,rest,l⟩=>wr)
  (fun⟨wr,j,rest,l⟩=>(UpdO A w wr)∧(j≤n)∧(Own wr lb 3 1 A n c (l.map I6))∧(l.length=n)∧(Wfb 65536 l)∧(l.take j=ds.take j)∧(rest<base)∧(nb 65536 (ds.drop j)=base*nb 65536 (l.drop j)+rest))
  (fun⟨wr,j,rest,l⟩=>j)
  (⟨w,n,0,ds⟩:a6×Nat×Nat×List Nat) ⟨(UpdO.refl A w),(aZ _),ho,(tA ho),hwf,rfl,(by omega),(by rw [List.drop_of_length_le (by have:=tA ho;omega)];rfl)⟩ J ⟨rfl,rfl,rfl,rfl,AT⟩ ?_
 rintro⟨wr,j,rest,l⟩ ⟨E,Y,F,p,o,r,q,U⟩
 refine cR [(0,we A n c),(1,no base),(5,no rest),(6,no (((j:Nat):Int)-1))] wr J ⟨rfl,rfl,rfl,rfl,AT⟩ (aD (aD ?_))
 by_cases G:0<j
 ·have M:((j:Nat):Int)-1=((j-1:Nat):Int):=by omega
  refine bG [(0,we A n c),(1,no base),(5,no rest),(6,no (((j:Nat):Int)-1))] ⟨rfl,rfl,rfl,rfl,AT⟩ ?_
  rw [M]
  refine aF (mv 1 J (aI J J J true (gA (a:=j-1) (b:=0) J J) (a7 (aW J (aY (aO (aD (bO (aD ?_)))))))))
  have ae:=i6 (b:=65536) o (j-1)
  refine aF (mv 1 J (aR J J J ((rest*65536:Nat):Int) (oQ (a:=rest) (b:=65536) J J) (mv 2 J ?_)))
  obtain⟨p1,L,W⟩:=(F).at1 (i:=j-1) (by omega)
  refine cD J J J pF oE (j-1) J p1 L (bB J J (dF zL W) (aR J J J (((rest*65536)+(l.getD (j-1) 0):Nat):Int) (cA (a:=rest*65536) (b:=l.getD (j-1) 0) J J) (mv 1 J (a7 (sr (mv 4 J (aR J J J ((((rest*65536)+(l.getD (j-1) 0))/base:Nat):Int) (lP (a:=(rest*65536)+(l.getD (j-1) 0)) (b:=base) J J) ?_)))))))
  obtain⟨p2,D,_⟩:=(F).at1 (i:=j-1) (by omega)
  refine cD J J J pF oE (j-1) J p2 D ?_
  have H:=F
  refine F4 (f:=I6) (u:=((rest*65536)+(l.getD (j-1) 0))/base) (i:=j-1) J J J D H (by omega) J J oE fun Z X V=>?_
  have I:UpdO A w Z:=E.trans V
  refine a7 (aF (mv 2 J (aR J J J ((((rest*65536)+(l.getD (j-1) 0))%base:Nat):Int) (jJ (a:=(rest*65536)+(l.getD (j-1) 0)) (b:=base) J J) (mv 1 J (aX (bQ (aO (aF (mv 1 J (aR J J J (((j-1:Nat):Int)-1) (eL J) (mv 1 J (aX (cM (⟨Z,j-1,(rest*65536+l.getD (j-1) 0)%base,l.set (j-1) (((rest*65536)+(l.getD (j-1) 0))/base)⟩:a6×Nat×Nat×List Nat) ⟨I,(by omega),X,(by rw [List.length_set];exact p),(i0 o _ (hx:=(TW q (i6 o _)))),(by rw [List.take_set_of_le (aZ _)];have h:=congrArg (List.take (j-1)) r;rwa [List.take_take,List.take_take,gD (by omega)] at h),(f7 _ (by omega)),(TV (by omega) G (by omega) (by omega) r U)⟩ (show j-1<j by omega) J ⟨rfl,rfl,rfl,rfl,AT⟩)))))))))))))
 ·refine aF (mv 1 J (aI J J J false (kQ) (a7 (aQ J (d4 (cU (cY (cZ (aO (sr (mv 2 J (a7 (aV ?_)))))))))))))
  refine aU [no rest] J ⟨rfl,AT⟩ ?_
  have Y:j=0:=by omega
  subst Y
  rw [gP,gP] at U
  obtain⟨h1,h2⟩:=Z2 (by omega) q U
  exact⟨l,(by rw [←h2];rfl),F,p,o,h1.symm,E⟩
theorem VG (h:(wd m).length≤N):(db 65536 m).length≤4*N:=by
 refine kD gH ?_
 have h1:=lY m
 refine dJ h1 ?_
 rw [sA,←Nat.pow_mul]
 exact eS (by decide) (by omega)
theorem VF (h:(wd m).length≤1048576):(db 65536 m).length≤4194304:=VG h
theorem UC (hn:0<n)(h:l.getD (n-1) 0≠0):nb 65536 l≠0:=by
 have hl:n-1<l.length:=by
  refine Nat.lt_of_not_le fun e=>h ?_
  rw [bK,k8 e];rfl
 rw [mO 65536 l (n-1),List.drop_eq_getElem_cons hl,lJ]
 rw [bK,cC hl,oU] at h
 have o:65536^(n-1)*1≤65536^(n-1)*(l[n-1]+65536*nb 65536 (l.drop (n-1+1))):=fJ _ (by omega)
 have f:0<65536^(n-1):=gB (by decide)
 omega
theorem RR (hl:hi.length=n)(hin:i<n)(h:∀j,j<i→hi.getD (n-1-j) 0=L.getD j 0):∀j,j<i+1→(hi.set (n-1-i) (L.getD i 0)).getD (n-1-j) 0=L.getD j 0:=by
 intro j _
 by_cases e:j=i
 ·subst e
  simp [bK,show n-1-j<hi.length by omega]
 ·have h1:=h j (by omega)
  rw [bK,List.getElem?_set_ne (by omega),←bK]
  exact h1
theorem RS (hl:hi.length=n)(hL:L.length=n)(h:∀j,j<n→hi.getD (n-1-j) 0=L.getD j 0):hi=L.reverse:=by
 refine List.ext_getElem (by rw [List.length_reverse];omega) fun k h1 h2=>?_
 have e:=h (n-1-k) (by omega)
 rw [show n-1-(n-1-k)=k by omega,bK,cC h1,bK,cC (by omega)] at e
 rw [List.getElem_reverse]
 simp only [oU] at e
 rw [e]
 congr 1
 omega
theorem QI (h:∀d,d∈l→d<36):(l.map sgn).getD i 0≤255:=by
 by_cases hi:i<l.length
 ·rw [bK,mE,cC hi]
  have:=G4 (h _ (mD hi))
  simp only [wH,oU];omega
 ·rw [bK,k8 (by rw [List.length_map];omega)];exact bJ _
theorem RY (hx:Wi w A an ac m)(hal:an≤1048576)(hbl:2≤base)(hbu:base≤36):aP aN 232 #[we A an ac,no base] w (Gv w (T2 (Is (.string (aJ (f9 base m)))) (Is (no 0)))):=by
 have ab:(wd m).length≤1048576:=a8 hx.len hal
 have eh:=tH hbl ab
 refine bN Tryz.func232 J (n:=72) J (bq J) (args:= [we A an ac,no base]) (bG [(0,we A an ac),(1,no base)] ⟨rfl,rfl,AT⟩ (sr (mv 2 J (a7 (aD (sr (mv 1 J (aI J J J false (eE (a:=base) (b:=2) J J) (mv 2 J (aI J J J false (fS (a:=base) (b:=36) J J) (pu (v:= AS) J (a7 (aQ J ?_)))))))))))))
 refine aY (aO (sr (mv 1 J (cl (vs:= [we A an ac]) (Ext.refl w) (WK hx (by omega)) J (by kernel_rfl) fun _ v1 r3 _ f=>?_))))
 obtain⟨A4,n4,c4,rfl,de,cz⟩:=r3
 refine mv 1 J (a7 (sr (mv 1 J (a7 (aD (bO ?_))))))
 refine d8 (T:=a6×List Nat×List Nat×Option aB×Nat×Nat×Option aB×Nat×Nat)
  (fun⟨wr,lds,l,DA,dn,dc,OA,on,oc⟩=> [(1,no base),(6,we DA dn dc),(7,we OA on oc)])
  (fun⟨wr,lds,l,DA,dn,dc,OA,on,oc⟩=>wr)
  (fun⟨wr,lds,l,DA,dn,dc,OA,on,oc⟩=>(Ext w wr)∧(Own wr w.heap.size 5 1 OA on oc ((lds.map sgn).map B8))∧(Own wr w.heap.size 3 1 DA dn dc (l.map I6))∧(Wfb 65536 l)∧(dn=0∨l.getD (dn-1) 0≠0)∧(db base m=lds++db base (nb 65536 l))∧(dn≤1099511627776))
  (fun⟨wr,lds,l,DA,dn,dc,OA,on,oc⟩=>nb 65536 l)
  (⟨v1,[],db 65536 m,A4,n4,c4,none,0,0⟩:a6×List Nat×List Nat×Option aB×Nat×Nat×Option aB×Nat×Nat) ⟨f,(Own.nil _ _ _ _),cz,(jX gH m),(by rw [←de];exact yV gH m),(by rw [gI gH];rfl),(by have:=VF ab;omega)⟩ J ⟨rfl,rfl,rfl,AT⟩ ?_
 rintro⟨wr,lds,l,DA,dn,dc,OA,on,oc⟩ ⟨f,V,W,cm,bw,X,_⟩
 refine cR [(1,no base),(6,we DA dn dc),(7,we OA on oc)] wr J ⟨rfl,rfl,rfl,AT⟩ ?_
 have dw:=tA W
 have bh:=tA V
 rw [List.length_map] at bh
 have dh:lds.length≤(db base m).length:=by rw [X,fU];omega
 refine aD (aD ?_)
 by_cases dl:dn>0
 ·have Y:nb 65536 l≠0:=UC (by omega) (bw.resolve_left (by omega))
  have ae:nb 65536 l%base<36:=dJ (f7 _ (by omega)) hbu
  refine aF (mv 1 J (pu (v:= no dn) J (aI J J J true (eW (a:=dn) (b:=0) J J) (a7 (aW J (aY (aO (bO (sr (mv 2 J ?_))))))))))
  have ak:=W
  refine dQ J J (vs:= [we DA dn dc,no base]) (by kernel_rfl) (by decide) (RX ak cm hbl hbu (by omega)) ?_
  rintro _ _ ⟨o,rfl,cp,_,U,r,ai⟩
  refine dR ?_
  have M:=ai.ext f (fun p hp=>(ak.block p hp).1)
  refine mv 1 J (a7 (sr (mv 2 J (dM (bs:= [48,49,50,51,52,53,54,55,56,57,97,98,99,100,101,102,103,104,105,106,107,108,109,110,111,112,113,114,115,116,117,118,119,120,121,122]) (i:=nb 65536 l%base) J J J Tryz.underlying9 (by decide) (iO J J (k:=1) (e:=5) [.int .u8 ((([48,49,50,51,52,53,54,55,56,57,97,98,99,100,101,102,103,104,105,106,107,108,109,110,111,112,113,114,115,116,117,118,119,120,121,122]).getD (nb 65536 l%base) 0:Nat):Int)] (fun _=>by kernel_rfl) fun _ _ nb=>?_)))))
  have bu:=nb.bk
  have aj:=nb.ext
  clear nb
  have aw:=M.trans aj
  have H:=((V.updOT ak (by decide) ai).ext aj)
  refine qM J J J kK tJ J H aw.size [.int .u8 ((([48,49,50,51,52,53,54,55,56,57,97,98,99,100,101,102,103,104,105,106,107,108,109,110,111,112,113,114,115,116,117,118,119,120,121,122]).getD (nb 65536 l%base) 0:Nat):Int)] J (tB _ bu) J fun E F bm bp aa _=>?_
  have ck:=aa.ext aw (fun p hp=>(H.block p hp).1)
  have av:Own bm w.heap.size 5 1 E (on+1) F (((lds.map sgn)++ [([48,49,50,51,52,53,54,55,56,57,97,98,99,100,101,102,103,104,105,106,107,108,109,110,111,112,113,114,115,116,117,118,119,120,121,122]).getD (nb 65536 l%base) 0]).map B8):=by have h:=bp;simp only [List.map_append,jZ,kX] at h⊢;exact h
  refine mv 1 J (a7 (bO ?_))
  refine d8 (T:=a6×Nat)
   (fun⟨wr,k⟩=> [(1,no base),(6,we DA k dc),(7,we E (on+1) F)])
   (fun⟨wr,k⟩=>wr)
   (fun⟨wr,k⟩=>(Ext w wr)∧(Own wr w.heap.size 5 1 E (on+1) F (((lds.map sgn)++ [([48,49,50,51,52,53,54,55,56,57,97,98,99,100,101,102,103,104,105,106,107,108,109,110,111,112,113,114,115,116,117,118,119,120,121,122]).getD (nb 65536 l%base) 0]).map B8))∧(Own wr w.heap.size 3 1 DA k dc ((o.take k).map I6))∧(k≤dn)∧(nb 65536 (o.take k)=nb 65536 o))
   (fun⟨wr,k⟩=>k)
   (⟨bm,dn⟩:a6×Nat) ⟨ck,av,(by rw [List.take_of_length_le (by omega)];exact ((cp.ext aj).updOT H (by decide) aa)),(aZ _),(by rw [List.take_of_length_le (by omega)])⟩ J ⟨rfl,rfl,rfl,AT⟩ ?_
  rintro⟨wr,k⟩ ⟨f,V,W,_,I⟩
  refine cR [(1,no base),(6,we DA k dc),(7,we E (on+1) F)] wr J ⟨rfl,rfl,rfl,AT⟩ (aD (aD ?_))
  by_cases cv:k>0
  ·by_cases ar:(o.take k).getD (k-1) 0=0
   ·refine aF (mv 1 J (pu (v:= no k) J (aI J J J true (eW (a:=k) (b:=0) J J) (mv 3 J (pu (v:= no k) J (aR J J J ((k-1:Nat):Int) (gL (a:=k) (b:=1) J J) ?_))))))
    obtain⟨ct,ba,ci⟩:=(W).at1 (i:=k-1) (by omega)
    refine cD J J J pF oE (k-1) J ct ba (bB J J (dF zL ci) (aI J J J true (fF (a:=(o.take k).getD (k-1) 0) (b:=0) J J) (pu (v:= AI) J (a7 (aW J (aY (aO (bO (aF (mv 2 J (pu (v:= no k) J (aR J J J ((k-1:Nat):Int) (gL (a:=k) (b:=1) J J) (mI J J pF oE (lo:=0) (hi:=k-1) J J (by omega) (by have:=(W).rv.le;omega) (v:= we DA (k-1) dc) (BF _ _ _) (by decide) ?_)))))))))))))
    refine mv 1 J (aX (bQ (cM (⟨wr,k-1⟩:a6×Nat) ⟨f,V,(by have h:=(W.take1 (k:=k-1) (by omega));rwa [List.take_take,gD (by omega)] at h),(by omega),(by have h:=xX 65536 o (k-1) (by omega) (by have h:=ar;rwa [yH (by omega)] at h);rw [Nat.sub_add_cancel cv] at h;rw [←h];exact I)⟩ (show k-1<k by omega) J ⟨rfl,rfl,rfl,AT⟩)))
   ·refine aF (mv 1 J (pu (v:= no k) J (aI J J J true (eW (a:=k) (b:=0) J J) (mv 3 J (pu (v:= no k) J (aR J J J ((k-1:Nat):Int) (gL (a:=k) (b:=1) J J) ?_))))))
    obtain⟨cj,au,aq⟩:=(W).at1 (i:=k-1) (by omega)
    refine cD J J J pF oE (k-1) J cj au (bB J J (dF zL aq) (aI J J J false (eR (a:=(o.take k).getD (k-1) 0) (b:=0) J J) (pu (v:= AS) J (a7 (aQ J (d4 (cU (cY (cZ (bQ (cM (⟨wr,lds++ [nb 65536 l%base],o.take k,DA,k,dc,E,on+1,F⟩:a6×List Nat×List Nat×Option aB×Nat×Nat×Option aB×Nat×Nat) ⟨f,(by rw [List.map_append,jZ,kX,←sS ae];exact V),W,(jM U _),(cO ar),(by rw [X,List.append_assoc,I,r,lN hbl Y];rfl),(by omega)⟩ (show nb 65536 (o.take k)<nb 65536 l by rw [I,r];exact kI (by omega) (by omega)) J ⟨rfl,rfl,rfl,AT⟩)))))))))))
  ·refine aF (mv 1 J (pu (v:= no k) J (aI J J J false (fS (a:=k) (b:=0) J J) (mv 8 J (pu (v:= AS) J (a7 (aQ J (d4 (cU (cY (cZ (bQ (cM (⟨wr,lds++ [nb 65536 l%base],o.take k,DA,k,dc,E,on+1,F⟩:a6×List Nat×List Nat×Option aB×Nat×Nat×Option aB×Nat×Nat) ⟨f,(by rw [List.map_append,jZ,kX,←sS ae];exact V),W,(jM U _),(cH (by omega)),(by rw [X,List.append_assoc,I,r,lN hbl Y];rfl),(by omega)⟩ (show nb 65536 (o.take k)<nb 65536 l by rw [I,r];exact kI (by omega) (by omega)) J ⟨rfl,rfl,rfl,AT⟩)))))))))))))
 ·have dg:l= []:=sM.1 (by omega)
  have q:db base m=lds:=by rw [X,dg];show lds++db base 0=lds;rw [jH,mF]
  refine aF (mv 1 J (pu (v:= no dn) J (aI J J J false (fS (a:=dn) (b:=0) J J) (a7 (aQ J (d4 (cU (cY (cZ (aO (aD (aD ?_))))))))))))
  by_cases ch:on=0
  ·refine aF (mv 1 J (pu (v:= no on) J (aI J J J true (fF (a:=on) (b:=0) J J) (a7 (aW J (sr (mv 2 J (a7 (aV (bR (aU [.string (aJ ([48])),I0] J ⟨rfl,rfl,AT⟩ ?_)))))))))))
   have am:m=0:=by rw [←DM hbl,q];exact sM.1 (by omega)
   have L:([48]:List Nat)=f9 base m:=by subst am;rfl
   exact⟨_,rfl,⟨_,_,rfl,(show Value.string _=Value.string _ from congrArg (fun l=>Value.string (aJ l)) L),rfl⟩,f⟩
  ·refine aF (mv 1 J (pu (v:= no on) J (aI J J J false (eR (a:=on) (b:=0) J J) (a7 (aQ J (aY (aO (sr (mv 1 J (pu (v:= no on) J (oA J (k:=on) J J J kK tJ J fun G cu ah Z bd=>?_)))))))))))
   rw [RV] at Z
   have bi:w.heap.size≤G:=by rw [←ah];exact f.size
   have ao:∀p,OA=some p→p.block≠G:=fun p hp=>by have:=((V).block p hp).2;omega
   clear ah
   have M:=f.trans bd
   refine mv 1 J (a7 (aD (sr (mv 1 J (a7 (bO ?_))))))
   refine d8 (T:=a6×Nat×List Nat)
    (fun⟨wr,i,hi⟩=> [(7,we OA on oc),(9,we (some ⟨G,0,none⟩) on on),(10,no i)])
    (fun⟨wr,i,hi⟩=>wr)
    (fun⟨wr,i,hi⟩=>(Ext w wr)∧(Own wr w.heap.size 5 1 OA on oc ((lds.map sgn).map B8))∧(Bk wr G 5 (hi.map B8))∧(hi.length=on)∧(i≤on)∧(∀j,j<i→hi.getD (on-1-j) 0=(lds.map sgn).getD j 0))
    (fun⟨wr,i,hi⟩=>on-i)
    (⟨cu,0,_⟩:a6×Nat×List Nat) ⟨M,(V.ext bd),Z,(List.length_replicate (n:=on) (a:=0)),(bJ _),(fun j hj=>absurd hj (Nat.not_lt_zero _))⟩ J ⟨rfl,rfl,rfl,AT⟩ ?_
   rintro⟨wr,i,hi⟩ ⟨f,V,hb,D,_,ag⟩
   refine cR [(7,we OA on oc),(9,we (some ⟨G,0,none⟩) on on),(10,no i)] wr J ⟨rfl,rfl,rfl,AT⟩ (aD (aD ?_))
   by_cases dy:i<on
   ·refine aF (mv 2 J (pu (v:= no on) J (aI J J J true (eD (a:=i) (b:=on) J J) (a7 (aW J (aY (aO (aD (bO ?_)))))))))
    have dz:(lds.map sgn).getD i 0≤255:=QI (fun d hd=>by have:=jX hbl m d (by rw [q];exact hd);omega)
    refine aF (mv 2 J (pu (v:= no on) J (aR J J J ((on-1:Nat):Int) (gL (a:=on) (b:=1) J J) (mv 1 J (aR J J J (((on-1)-i:Nat):Int) (gL (a:=on-1) (b:=i) J J) (mv 2 J ?_))))))
    obtain⟨df,ap,bg⟩:=(V).at1 (i:=i) (by omega)
    refine cD J J J kK kM i J df ap (bB J J (dF E3 bg) (cD J J J kK kM ((on-1)-i) J ⟨G,(on-1)-i,none⟩ (eA _ _) ?_))
    have bj:=hb
    refine dE J J J kM J bj (gV (by rw [D];omega)) J ((hi.set ((on-1)-i) ((lds.map sgn).getD i 0)).map B8) (CM _ _ _) fun da bo az _=>?_
    have M:=az.ext f bi
    refine aX (bQ (aO (aF (mv 1 J (aR J J J ((i+1:Nat):Int) (cA (a:=i) (b:=1) J J) (mv 1 J (aX (cM (⟨da,i+1,hi.set ((on-1)-i) ((lds.map sgn).getD i 0)⟩:a6×Nat×List Nat) ⟨M,(V.upd az ao),bo,(iC (l:=hi) (D)),(by omega),(RR D (by omega) ag)⟩ (show on-(i+1)<on-i by omega) J ⟨rfl,rfl,rfl,AT⟩))))))))
   ·refine aF (mv 2 J (pu (v:= no on) J (aI J J J false (eE (a:=i) (b:=on) J J) (a7 (aQ J (d4 (cU (cY (cZ (aO (sr (mv 1 J (wV (bs:=hi) (lb:=0) J J (Own.mk_ (bJ _) hb (aZ _) (by rw [eG];omega) (by rw [List.length_map,D,dV]) (by rw [dV,List.take_of_length_le (by rw [List.length_map,D];exact aZ _)])) ?_)))))))))))))
    refine mv 2 J (a7 (aV (aU [.string (aJ hi),I0] J ⟨rfl,rfl,AT⟩ ?_)))
    have am:m≠0:=fun e=>ch (by have h:=q;rw [e,jH] at h;rw [←bh,←h];rfl)
    have L:hi=f9 base m:=by rw [f9,if_neg am,dW,q,List.map_reverse];exact RS D (by rw [List.length_map];omega) (fun j hj=>ag j (by omega))
    exact⟨_,rfl,⟨_,_,rfl,(show Value.string _=Value.string _ from congrArg (fun l=>Value.string (aJ l)) L),rfl⟩,f⟩
theorem S4 (hx:Wi w A an ac m)(hal:an≤1048576):aP aN 191 #[we A an ac] w (Gv w (Is (.string (aJ (f9 10 m))))):=by
 refine bN Tryz.func191 J (n:=11) J (bq J) (args:= [we A an ac]) (bG [(0,we A an ac)] ⟨rfl,AT⟩ (sr (mv 1 J (a7 (sr (mv 1 J (cl (vs:= [we A an ac,no 10]) (Ext.refl w) (RY hx hal (by decide) (by decide)) J (by kernel_rfl) fun _ _ f _ e=>?_)))))))
 obtain⟨_,_,rfl,rfl,rfl⟩:=f
 refine mv 1 J (pu (v:= .string (aJ (f9 10 m))) J (pu (v:= no 0) J (mv 2 J (a7 (sr (mv 2 J (a7 (aV (aU [.string (aJ (f9 10 m))] J ⟨rfl,AT⟩ ?_)))))))))
 exact⟨_,rfl,rfl,e⟩
theorem GX {v:Nat}(ho:Own w lb 3 1 A n c (ds.map I6))(hlb:lb≤w.heap.size)(hwf:Wfb 65536 ds)(hbl:2≤base)(hbu:base≤36)(hn:n≤1099511627775)(hvb:v≤36):aP aN 263 #[we A n c,no base,no v] w (fun e w'=>∃A' n' c',∃es:List Nat,e= .returned (we A' n' c')∧Own w' lb 3 1 A' n' c' (es.map I6)∧n'≤n+1∧es.length=n'∧Wfb 65536 es∧nb 65536 es=nb 65536 ds*base+v∧UpdO A w w'):=by
 have ah:=tA ho
 refine bN Tryz.func263 J (n:=37) J (bq J) (args:= [we A n c,no base,no v]) (bG [(0,we A n c),(1,no base),(2,no v)] ⟨rfl,rfl,rfl,AT⟩ (sr (mv 1 J (a7 (aD (sr (mv 1 J (a7 (bO ?_)))))))))
 refine d8 (T:=a6×Nat×Nat×List Nat)
  (fun⟨wr,i,cy,l⟩=> [(0,we A n c),(1,no base),(2,no cy),(7,no i)])
  (fun⟨wr,i,cy,l⟩=>wr)
  (fun⟨wr,i,cy,l⟩=>(UpdO A w wr)∧(i≤n)∧(Own wr lb 3 1 A n c (l.map I6))∧(l.length=n)∧(Wfb 65536 l)∧(l.drop i=ds.drop i)∧(cy≤36)∧(nb 65536 (l.take i)+65536^i*cy=nb 65536 (ds.take i)*base+v))
  (fun⟨wr,i,cy,l⟩=>n-i)
  (⟨w,0,v,ds⟩:a6×Nat×Nat×List Nat) ⟨(UpdO.refl A w),(bJ _),ho,ah,hwf,rfl,(by omega),(by rw [List.take_zero];simp [nb])⟩ J ⟨rfl,rfl,rfl,rfl,AT⟩ ?_
 rintro⟨wr,i,cy,l⟩ ⟨E,hi,G,q,o,L,_,I⟩
 refine cR [(0,we A n c),(1,no base),(2,no cy),(7,no i)] wr J ⟨rfl,rfl,rfl,rfl,AT⟩ (aD (aD ?_))
 by_cases ar:i<n
 ·refine aF (mv 2 J (pu (v:= no n) J (aI J J J true (eD (a:=i) (b:=n) J J) (a7 (aW J (aY (aO (aD (bO (aD ?_))))))))))
  have au:=i6 (b:=65536) o i
  have ao:l.getD i 0*base≤65535*36:=jP (by omega) hbu
  refine aF (mv 2 J ?_)
  obtain⟨p2,ab,aj⟩:=(G).at1 (i:=i) (by omega)
  refine cD J J J pF oE i J p2 ab (bB J J (dF zL aj) (mv 1 J (aR J J J (((l.getD i 0)*base:Nat):Int) (oQ (a:=l.getD i 0) (b:=base) J J) (mv 1 J (aR J J J ((((l.getD i 0)*base)+cy:Nat):Int) (cA (a:=(l.getD i 0)*base) (b:=cy) J J) (mv 1 J (a7 (sr (mv 3 J (aR J J J (((((l.getD i 0)*base)+cy)%65536:Nat):Int) (jJ (a:=((l.getD i 0)*base)+cy) (b:=65536) J J) ?_))))))))))
  obtain⟨p3,Y,_⟩:=(G).at1 (i:=i) (by omega)
  refine cD J J J pF oE i J p3 Y ?_
  have ai:=G
  refine F4 (f:=I6) (u:=(((l.getD i 0)*base)+cy)%65536) (i:=i) J J J Y ai (by omega) J J oE fun v5 Z aa=>?_
  have p:UpdO A w v5:=E.trans aa
  refine a7 (aF (mv 1 J (aR J J J (((((l.getD i 0)*base)+cy)/65536:Nat):Int) (lP (a:=((l.getD i 0)*base)+cy) (b:=65536) J J) (mv 1 J (aX (bQ (aO (aF (mv 1 J (aR J J J ((i+1:Nat):Int) (cA (a:=i) (b:=1) J J) (mv 1 J (aX (cM (⟨v5,i+1,(l.getD i 0*base+cy)/65536,l.set i ((((l.getD i 0)*base)+cy)%65536)⟩:a6×Nat×Nat×List Nat) ⟨p,(by omega),Z,(by rw [List.length_set];exact q),(i0 o _ (hx:=(f7 _ (by decide)))),(by rw [List.drop_set_of_lt (by omega)];have h:=congrArg (List.drop 1) L;rwa [List.drop_drop,List.drop_drop] at h),(by omega),(U3 (by omega) (by omega) L I)⟩ (show n-(i+1)<n-i by omega) J ⟨rfl,rfl,rfl,rfl,AT⟩)))))))))))))
 ·have ag:i=n:=by omega
  rw [List.take_of_length_le (by omega),List.take_of_length_le (by omega),ag] at I
  refine aF (mv 2 J (pu (v:= no n) J (aI J J J false (eE (a:=i) (b:=n) J J) (a7 (aQ J (d4 (cU (cY (cZ (aO (aD (aD ?_))))))))))))
  by_cases am:cy>0
  ·refine aF (mv 1 J (aI J J J true (eW (a:=cy) (b:=0) J J) (a7 (aW J (aF (mv 2 J (iO J J (k:=1) (e:=3) [no cy] (fun _=>by kernel_rfl) fun _ v9 nb=>?_)))))))
   have H:=nb.bk
   have V:=nb.ext
   clear nb
   have p:UpdO A w v9:=E.then_ext V
   have M:=(G.ext V)
   refine qM J J J pF rM J M (a8 hlb p.size) [no cy] J (tB _ H) J fun D r F X U _=>?_
   have ae:UpdO A w F:=p.trans U
   have W:Own F lb 3 1 D (n+1) r ((l++ [cy]).map I6):=by have h:=X;simp only [List.map_append,jZ,kX] at h⊢;exact h
   refine mv 1 J (a7 (sr (mv 2 J (a7 (aV (aU [we D (n+1) r] J ⟨rfl,AT⟩ ?_))))))
   exact⟨D,(n+1),r,l++ [cy],rfl,W,(aZ _),(by rw [fU,q];rfl),(zO o (fun x hx=>by rw [oY] at hx;omega)),(by rw [CH,q];exact I),ae⟩
  ·refine aF (mv 1 J (aI J J J false (fS (a:=cy) (b:=0) J J) (a7 (aQ J (aY (aO (sr (mv 2 J (a7 (aV (aU [we A n c] J ⟨rfl,AT⟩ ?_)))))))))))
   exact⟨A,n,c,l,rfl,G,(Nat.le_succ _),q,o,(by rw [show cy=0 by omega,Nat.mul_zero,fC] at I;exact I),E⟩
theorem X7 (hb:b≤w.heap.size)(h:Own w lb 3 1 A n c (ds.map I6))(hw:Wfb 65536 ds)(hl:n≤1099511627775):aP aN 179 #[we A n c] w (Gv w (WR b (nb 65536 ds))):=(xP ⟨h.rv,hw⟩ hl).mono (gw hb)
theorem GV (hc:c≤255)(h:dv c<36):aP aN 262 #[.int .u8 ((c:Nat):Int)] w (Gv w (Is (no ((dv c:Nat):Int)))):=by
 have h1:=GW (w:=w) hc
 rw [if_pos h] at h1;exact h1
theorem RZ (hbs:∀b,b∈bs→b<256)(hlen:bs.length≤17179869184)(hbl:2≤base)(hbu:base≤36)(hg:eM base bs):aP aN 233 #[.string (aJ bs),no base] w (Gv w (T2 (WR w.heap.size (cB base (bs.map dv))) (Is (no 0)))):=by
 refine bN Tryz.func233 J (n:=36) J (bq J) (args:= [.string (aJ bs),no base]) (bG [(0,.string (aJ bs)),(1,no base)] ⟨rfl,rfl,AT⟩ (sr (mv 2 J (a7 (aD (sr (mv 1 J (aI J J J false (eE (a:=base) (b:=2) J J) (mv 2 J (aI J J J false (fS (a:=base) (b:=36) J J) (pu (v:= AS) J (a7 (aQ J ?_)))))))))))))
 refine aY (aO (aD (aD ?_)))
 have V:=hg.1
 refine aF (mv 1 J (mH (a:=bs) (b:= []) J J J hbs false (qR (V)) (a7 (aQ J (aY (aO (sr (mv 1 J (a7 (aD (sr (mv 1 J (aX ?_)))))))))))))
 refine aO (bO ?_)
 refine d8 (T:=a6×Nat×List Nat×Option aB×Nat×Nat)
  (fun⟨wr,i,l,DA,dn,dc⟩=> [(0,.string (aJ bs)),(1,no base),(6,we DA dn dc),(7,no i)])
  (fun⟨wr,i,l,DA,dn,dc⟩=>wr)
  (fun⟨wr,i,l,DA,dn,dc⟩=>(Ext w wr)∧(i≤bs.length)∧(Own wr w.heap.size 3 1 DA dn dc (l.map I6))∧(dn≤i)∧(Wfb 65536 l)∧(nb 65536 l=cB base ((bs.take i).map dv))∧(∀c,c∈bs.take i→dv c<base))
  (fun⟨wr,i,l,DA,dn,dc⟩=>bs.length-i)
  (⟨w,0,[],none,0,0⟩:a6×Nat×List Nat×Option aB×Nat×Nat) ⟨(Ext.refl w),(bJ _),(Own.nil _ _ _ _),(bJ _),(E4 _),rfl,(fun c M=>absurd M (by simp))⟩ J ⟨rfl,rfl,rfl,rfl,AT⟩ ?_
 rintro⟨wr,i,l,DA,dn,dc⟩ ⟨r,hi,hD,_,G,X,L⟩
 refine cR [(0,.string (aJ bs)),(1,no base),(6,we DA dn dc),(7,no i)] wr J ⟨rfl,rfl,rfl,rfl,AT⟩ (aD (aD ?_))
 by_cases e:i<bs.length
 ·refine aF (mv 2 J (cS J J (v:= no (((aJ bs).size:Nat):Int)) (v':= no ((bs.length:Nat):Int)) (by rw [cX]) (aI J J J true (eD (a:=i) (b:=bs.length) J J) (a7 (aW J (aY (aO (aD (bO (aD ?_))))))))))
  have o:bs.getD i 0≤255:=by have:=hbs _ (yI e);omega
  have I:=hg.2 _ (yI e)
  refine aF (mv 2 J (dM (bs:=bs) (i:=i) J J J Tryz.underlying9 hbs (cl (vs:= [.int .u8 ((bs.getD i 0:Nat):Int)]) r (GV o (dJ I hbu)) J (by kernel_rfl) fun _ _ r4 e3 f=>?_)))
  obtain rfl:=r4
  refine mv 1 J (a7 (aD (sr (mv 2 J (aI J J J false (m6 (a:=dv (bs.getD i 0)) (b:=base) J J) (a7 (aQ J (aY (aO (aF (mv 3 J ?_)))))))))))
  have D:=(hD.ext e3)
  refine dQ J J (vs:= [we DA dn dc,no base,no ((dv (bs.getD i 0):Nat):Int)]) (by kernel_rfl) (by decide) (GX D f.size G hbl hbu (by omega) (by omega)) ?_
  rintro _ v6 ⟨A8,n9,Y,U,rfl,F,_,_,q,E,H⟩
  refine dR ?_
  have Z:=H.ext f (fun p hp=>(D.block p hp).1)
  refine mv 1 J (aX (bQ (aO (aF (mv 1 J (aR J J J ((i+1:Nat):Int) (cA (a:=i) (b:=1) J J) (mv 1 J (aX (cM (⟨v6,i+1,U,A8,n9,Y⟩:a6×Nat×List Nat×Option aB×Nat×Nat) ⟨Z,(by omega),F,(by omega),q,(by rw [E,X,xB e,List.map_append,jZ,kX,wZ]),(fun c M=>by rw [xB e] at M;rcases nV.1 M with h | h;(· exact L c h);(· rw [oY.1 h];exact I))⟩ (show bs.length-(i+1)<bs.length-i by omega) J ⟨rfl,rfl,rfl,rfl,AT⟩)))))))))
 ·have ab:i=bs.length:=by omega
  rw [ab,List.take_length] at L X
  refine aF (mv 2 J (cS J J (v:= no (((aJ bs).size:Nat):Int)) (v':= no ((bs.length:Nat):Int)) (by rw [cX]) (aI J J J false (eE (a:=i) (b:=bs.length) J J) (a7 (aQ J (d4 (cU (cY (cZ (aO (sr (mv 1 J (dQ J J (vs:= [we DA dn dc]) (by kernel_rfl) (by decide) (by have h:=X7 r.size hD G (by omega);rw [X] at h;exact h) ?_)))))))))))))
  rintro _ _ ⟨_,rfl,aj,ae⟩
  refine dR ?_
  have f:=r.trans ae
  obtain⟨ah,ag,W,rfl,aa,ai⟩:=aj
  refine mv 2 J (a7 (aV (aU [we ah ag W,I0] J ⟨rfl,rfl,AT⟩ ?_)))
  exact⟨_,rfl,⟨_,_,rfl,⟨_,_,_,rfl,aa,ai⟩,rfl⟩,f⟩
theorem S1 (hbs:∀b,b∈bs→b<256)(hlen:bs.length≤17179869184)(hbl:2≤base)(hbu:base≤36)(hg:¬eM base bs):aP aN 233 #[.string (aJ bs),no base] w (Gv w (T2 (Is (we none 0 0)) (Is (no 7)))):=by
 refine bN Tryz.func233 J (n:=36) J (bq J) (args:= [.string (aJ bs),no base]) (bG [(0,.string (aJ bs)),(1,no base)] ⟨rfl,rfl,AT⟩ (sr (mv 2 J (a7 (aD (sr (mv 1 J (aI J J J false (eE (a:=base) (b:=2) J J) (mv 2 J (aI J J J false (fS (a:=base) (b:=36) J J) (pu (v:= AS) J (a7 (aQ J ?_)))))))))))))
 refine aY (aO (aD (aD ?_)))
 by_cases o:bs= []
 ·refine aF (mv 1 J (mH (a:=bs) (b:= []) J J J hbs true (xE (o)) (a7 (aW J (sr (mv 2 J (a7 (aV (bR (aU [S0,no 7] J ⟨rfl,rfl,AT⟩ ?_))))))))))
  exact⟨_,rfl,⟨_,_,rfl,rfl,rfl⟩,(Ext.refl w)⟩
 ·refine aF (mv 1 J (mH (a:=bs) (b:= []) J J J hbs false (qR (o)) (a7 (aQ J (aY (aO (sr (mv 1 J (a7 (aD (sr (mv 1 J (aX ?_)))))))))))))
  refine aO (bO ?_)
  refine d8 (T:=a6×Nat×List Nat×Option aB×Nat×Nat)
   (fun⟨wr,i,l,DA,dn,dc⟩=> [(0,.string (aJ bs)),(1,no base),(6,we DA dn dc),(7,no i)])
   (fun⟨wr,i,l,DA,dn,dc⟩=>wr)
   (fun⟨wr,i,l,DA,dn,dc⟩=>(Ext w wr)∧(i≤bs.length)∧(Own wr w.heap.size 3 1 DA dn dc (l.map I6))∧(dn≤i)∧(Wfb 65536 l)∧(nb 65536 l=cB base ((bs.take i).map dv))∧(∀c,c∈bs.take i→dv c<base))
   (fun⟨wr,i,l,DA,dn,dc⟩=>bs.length-i)
   (⟨w,0,[],none,0,0⟩:a6×Nat×List Nat×Option aB×Nat×Nat) ⟨(Ext.refl w),(bJ _),(Own.nil _ _ _ _),(bJ _),(E4 _),rfl,(fun c M=>absurd M (by simp))⟩ J ⟨rfl,rfl,rfl,rfl,AT⟩ ?_
  rintro⟨wr,i,l,DA,dn,dc⟩ ⟨L,hi,hD,_,Y,hv,D⟩
  refine cR [(0,.string (aJ bs)),(1,no base),(6,we DA dn dc),(7,no i)] wr J ⟨rfl,rfl,rfl,rfl,AT⟩ (aD (aD ?_))
  by_cases r:i<bs.length
  ·refine aF (mv 2 J (cS J J (v:= no (((aJ bs).size:Nat):Int)) (v':= no ((bs.length:Nat):Int)) (by rw [cX]) (aI J J J true (eD (a:=i) (b:=bs.length) J J) (a7 (aW J (aY (aO (aD (bO (aD ?_))))))))))
   have e:bs.getD i 0≤255:=by have:=hbs _ (yI r);omega
   by_cases I:dv (bs.getD i 0)<base
   ·refine aF (mv 2 J (dM (bs:=bs) (i:=i) J J J Tryz.underlying9 hbs (cl (vs:= [.int .u8 ((bs.getD i 0:Nat):Int)]) L (GV e (dJ I hbu)) J (by kernel_rfl) fun _ _ r4 e3 f=>?_)))
    obtain rfl:=r4
    refine mv 1 J (a7 (aD (sr (mv 2 J (aI J J J false (m6 (a:=dv (bs.getD i 0)) (b:=base) J J) (a7 (aQ J (aY (aO (aF (mv 3 J ?_)))))))))))
    have E:=(hD.ext e3)
    refine dQ J J (vs:= [we DA dn dc,no base,no ((dv (bs.getD i 0):Nat):Int)]) (by kernel_rfl) (by decide) (GX E f.size Y hbl hbu (by omega) (by omega)) ?_
    rintro _ v6 ⟨A8,n9,V,U,rfl,G,_,_,q,F,H⟩
    refine dR ?_
    have W:=H.ext f (fun p hp=>(E.block p hp).1)
    refine mv 1 J (aX (bQ (aO (aF (mv 1 J (aR J J J ((i+1:Nat):Int) (cA (a:=i) (b:=1) J J) (mv 1 J (aX (cM (⟨v6,i+1,U,A8,n9,V⟩:a6×Nat×List Nat×Option aB×Nat×Nat) ⟨W,(by omega),G,(by omega),q,(by rw [F,hv,xB r,List.map_append,jZ,kX,wZ]),(fun c M=>by rw [xB r] at M;rcases nV.1 M with h | h;(· exact D c h);(· rw [oY.1 h];exact I))⟩ (show bs.length-(i+1)<bs.length-i by omega) J ⟨rfl,rfl,rfl,rfl,AT⟩)))))))))
   ·refine aF (mv 2 J (dM (bs:=bs) (i:=i) J J J Tryz.underlying9 hbs (cl (vs:= [.int .u8 ((bs.getD i 0:Nat):Int)]) L (GW e) J (by kernel_rfl) fun _ _ Z _ f=>?_)))
    obtain rfl:=Z
    refine mv 1 J (a7 (aD (sr (mv 2 J (aI J J J true (rN (h:=(by split <;> omega))) (a7 (aW J (sr (mv 2 J (a7 (aV (bR (fK ?_)))))))))))))
    refine bR (m5 (fK (bR (aU [S0,no 7] J ⟨rfl,rfl,AT⟩ ?_))))
    exact⟨_,rfl,⟨_,_,rfl,rfl,rfl⟩,f⟩
  ·have X:i=bs.length:=by omega
   rw [X,List.take_length] at D hv
   exact absurd ⟨o,D⟩ hg
theorem S2 (hbs:∀b,b∈bs→b<256)(hlen:bs.length≤17179869184)(hg:eM 10 bs):aP aN 192 #[.string (aJ bs)] w (Gv w (T2 (WR w.heap.size (cB 10 (bs.map dv))) (Is (no 0)))):=by
 refine bN Tryz.func192 J (n:=8) J (bq J) (args:= [.string (aJ bs)]) (bG [(0,.string (aJ bs))] ⟨rfl,AT⟩ (sr (mv 2 J (a7 (sr (mv 1 J (cl (vs:= [.string (aJ bs),no 10]) (Ext.refl w) (RZ hbs hlen (by decide) (by decide) hg) J (by kernel_rfl) fun _ _ p _ e=>?_)))))))
 obtain⟨_,_,rfl,⟨h,o,f,rfl,r,q⟩,rfl⟩:=p
 refine pu (v:= we h o f) J (pu (v:= no 0) J (mv 2 J (a7 (aV (aU [we h o f,I0] J ⟨rfl,rfl,AT⟩ ?_)))))
 exact⟨_,rfl,⟨_,_,rfl,⟨_,_,_,rfl,r,q⟩,rfl⟩,e⟩
theorem S3 (hbs:∀b,b∈bs→b<256)(hlen:bs.length≤17179869184)(hg:¬eM 10 bs):aP aN 192 #[.string (aJ bs)] w (Gv w (T2 (Is (we none 0 0)) (Is (no 7)))):=by
 refine bN Tryz.func192 J (n:=8) J (bq J) (args:= [.string (aJ bs)]) (bG [(0,.string (aJ bs))] ⟨rfl,AT⟩ (sr (mv 2 J (a7 (sr (mv 1 J (cl (vs:= [.string (aJ bs),no 10]) (Ext.refl w) (S1 hbs hlen (by decide) (by decide) hg) J (by kernel_rfl) fun _ _ f _ e=>?_)))))))
 obtain⟨_,_,rfl,rfl,rfl⟩:=f
 refine pu (v:= we none 0 0) J (pu (v:= no 7) J (mv 2 J (a7 (aV (aU [S0,no 7] J ⟨rfl,rfl,AT⟩ ?_)))))
 exact⟨_,rfl,⟨_,_,rfl,rfl,rfl⟩,e⟩
theorem WO (hx:Zi w sa Aa na ca x)(la:na≤1048576):aP aN 139 #[O sa Aa na ca] w (Gv w (Is (.string (aJ (gQ x))))):=by
 have Lx:ln x≤1048576:=a8 hx.ln la
 refine bN Tryz.func139 J (n:=13) J (bq J) (args:= [O sa Aa na ca]) (bG [(0,O sa Aa na ca)] ⟨rfl,AT⟩ (sr (bx (a5 sa Aa na ca) (Ext.refl w) J J J fun F _ f _ _ p=>(mv 1 J (a7 (sr (pf F 1 J (bB J J (bM dS f J) (cl (vs:= [we Aa na ca]) p (S4 (hx.ext p).wi (by omega)) J (by kernel_rfl) fun _ _ G E e=>?_)))))))))
 obtain rfl:=G
 refine mv 1 J (a7 (aD (aD ?_)))
 by_cases h:x<0
 ·refine aF (lo aA (f.ext E) (a5 sa Aa na ca) J J J (cl (vs:= [O sa Aa na ca]) e (eV (hx.ext e) (aK la J)) J (by kernel_rfl) fun _ _ q _ o=>?_))
  obtain rfl:=q
  refine aI J J J true (sW h) (a7 (aW J (sr (mv 1 J (nB J J J (r:= .string (aJ (([45])++(f9 10 (Int.natAbs x))))) J (fun w=>sQ (a:= [45]) (b:=f9 10 (Int.natAbs x)) (by have:=B9 (b:=10) (show (wd (Int.natAbs x)).length≤1048576 from Lx);show 1+_≤_;omega)) (mv 1 J (a7 (aV (bR (aU [.string (aJ (([45])++(f9 10 (Int.natAbs x))))] J ⟨rfl,AT⟩ ?_))))))))))
  exact⟨_,rfl,(show Value.string _= .string (aJ (gQ x)) by rw [gQ,if_pos h]),o⟩
 ·refine aF (lo aA (f.ext E) (a5 sa Aa na ca) J J J (cl (vs:= [O sa Aa na ca]) e (eV (hx.ext e) (aK la J)) J (by kernel_rfl) fun _ _ D _ o=>?_))
  obtain rfl:=D
  refine aI J J J false (sX) (a7 (aQ J (aY (aO (sr (mv 2 J (a7 (aV (aU [.string (aJ (f9 10 (Int.natAbs x)))] J ⟨rfl,AT⟩ ?_)))))))))
  exact⟨_,rfl,(show Value.string _= .string (aJ (gQ x)) by rw [gQ,if_neg h]),o⟩
end
end Go.Proofs.YtkepckmdjncehaaGreatDoor
