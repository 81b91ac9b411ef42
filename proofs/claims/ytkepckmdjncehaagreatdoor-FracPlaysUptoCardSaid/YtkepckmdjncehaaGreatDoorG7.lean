/- Parts Fr8, Ref5r, Plj, Rd8, Rd8r, Fr8c, Un8, Tt8, One, Pl8, Ops8, Pl8a, joined. -/
import Derived.Test.YtkepckmdjncehaaGreatDoorG6

open Go renaming Addr → aB, Calls → aP, TypeId → aS, Value → aM, World → a6
open Go.Builtin renaming append_ → qK
open Classical renaming choose → wP, choose_spec → EK
open Go.Instr renaming makeSlice → qJ
open List renaming eq_nil_of_length_eq_zero → uD, getD_eq_getElem?_getD → bK, getElem?_eq_getElem → cC, getElem_mem → mD, length_drop → gO, length_take → dH, map_cons → jZ, mem_append → nV, mem_cons → mW, mem_singleton → oY, range → gE, replicate → cJ
open Nat renaming le_refl → aZ, le_trans → a8, zero_add → eJ, zero_le → bJ
open Or renaming inl → cH, inr → cO
open Go.Sem renaming run_bind → cE
open Go.Proofs.Tryz renaming prog → aN
open Go.Value renaming int → dP
namespace Go.Proofs.YtkepckmdjncehaaGreatDoor
set_option maxHeartbeats 16000000
set_option maxRecDepth 20000
variable {A Aa Ab Ad Ae Af Ag B C S:Option aB}{H:Type}{K M N b b' b0 b00 base bytes c ca cap cap' cb cd ce fuel g i k lb m n na ne:Nat}{W w:a6}{a bs ms:List Nat}{cs news:List aM}{e:aS}{p pl:List MemPlace}{q r u v x y:Int}{s sa sb sd se sf t:Bool}{vv z:aM}{zs:List Int}
section
open Go.RowKit
theorem tN (hb:b≤w.heap.size)(hx:Zi w s A n cap x)(hl:n≤1073741824)(hy:Zi w t B m cap' y)(hl':m≤1073741824):aP aN 79 #[O s A n cap,O t B m cap'] w (Gv w (T2 (FR b (bP x y) (bS x y)) (Is (no (bI y))))):=by
 by_cases h0:y=0
 ·rw [CB h0,IQ h0,oI h0]
  exact D5 hb hy (a8 hl' (by decide)) h0
 ·refine (D6 hb hx (a8 hl (by decide)) hy (a8 hl' (by decide)) h0).mono ?_
  rintro e w' ⟨p,q,f,h⟩
  obtain⟨_,rfl,rfl⟩:=yB f
  rw [nE h0]
  exact h
theorem KY {nb:Nat}{nd:Nat}(hx:Zi w sa Aa na ca x)(la:na≤268435456)(hy:Zi w sb Ab nb cb y)(lb:nb≤268435456)(hu:Zi w sd Ad nd cd u)(ld:nd≤268435456)(hv:Zi w se Ae ne ce v)(le:ne≤268435456)(hy0:y≠0)(hv0:v≠0):aP aN 161 #[a9 sa Aa na ca sb Ab nb cb,a9 sd Ad nd cd se Ae ne ce] w (Gv w (Is (AI))):=by
 have Lx:ln x≤268435456:=a8 hx.ln la
 have Ly:ln y≤268435456:=a8 hy.ln lb
 have Lu:ln u≤268435456:=a8 hu.ln ld
 have Lv:ln v≤268435456:=a8 hv.ln le
 refine bN Tryz.func161 J (n:=15) J (bq J) (args:= [a9 sa Aa na ca sb Ab nb cb,a9 sd Ad nd cd se Ae ne ce]) (bG [(0,a9 sa Aa na ca sb Ab nb cb),(1,a9 sd Ad nd cd se Ae ne ce)] ⟨rfl,rfl,AT⟩ (sr (bx [.bool sa,we Aa na ca,.bool sb,we Ab nb cb] (Ext.refl w) J J J fun F _ e _ _ E=>(fG [.bool sd,we Ad nd cd,.bool se,we Ae ne ce] E e.lt J J J fun G _ p _ _ H h=>(mv 1 J (a7 (sr (pf F 2 J (lo aA (e.ext H) (a5 sb Ab nb cb) J J J (cl (vs:= [O sb Ab nb cb]) h (iE (hy.ext h) (aK lb J)) J (by kernel_rfl) fun _ _ r o f=>?_))))))))))
 obtain rfl:=r
 refine aI J J J true (lT hy0) (mv 1 J (pf G 2 J (lo aA (p.ext o) (a5 se Ae ne ce) J J J (cl (vs:= [O se Ae ne ce]) f (iE (hv.ext f) (aK le J)) J (by kernel_rfl) fun _ _ q _ D=>?_))))
 obtain rfl:=q
 refine aI J J J true (lT hv0) (pu (v:= AI) J (mv 1 J (a7 (aV (aU [AI] J ⟨rfl,AT⟩ ?_)))))
 exact⟨_,rfl,rfl,D⟩
theorem D9 {nb:Nat}{nd:Nat}(hx:Zi w sa Aa na ca x)(la:na≤268435456)(hy:Zi w sb Ab nb cb y)(lb:nb≤268435456)(hu:Zi w sd Ad nd cd u)(ld:nd≤268435456)(hv:Zi w se Ae ne ce v)(le:ne≤268435456)(h0:y=0∨v=0):aP aN 161 #[a9 sa Aa na ca sb Ab nb cb,a9 sd Ad nd cd se Ae ne ce] w (Gv w (Is (AS))):=by
 have Lx:ln x≤268435456:=a8 hx.ln la
 have Ly:ln y≤268435456:=a8 hy.ln lb
 have Lu:ln u≤268435456:=a8 hu.ln ld
 have Lv:ln v≤268435456:=a8 hv.ln le
 refine bN Tryz.func161 J (n:=15) J (bq J) (args:= [a9 sa Aa na ca sb Ab nb cb,a9 sd Ad nd cd se Ae ne ce]) (bG [(0,a9 sa Aa na ca sb Ab nb cb),(1,a9 sd Ad nd cd se Ae ne ce)] ⟨rfl,rfl,AT⟩ (sr (bx [.bool sa,we Aa na ca,.bool sb,we Ab nb cb] (Ext.refl w) J J J fun H _ h _ _ G=>(fG [.bool sd,we Ad nd cd,.bool se,we Ae ne ce] G h.lt J J J fun L _ q _ _ I f=>(mv 1 J (a7 (aD ?_)))))))
 by_cases o:y=0
 ·refine aF (pf H 2 J (lo aA (h.ext I) (a5 sb Ab nb cb) J J J (cl (vs:= [O sb Ab nb cb]) f (iE (hy.ext f) (aK lb J)) J (by kernel_rfl) fun _ _ D _ e=>?_)))
  obtain rfl:=D
  refine aI J J J false (lC o) (mv 5 J (pu (v:= AS) J (mv 1 J (a7 (aV (aU [F0] J ⟨rfl,AT⟩ ?_))))))
  exact⟨_,rfl,rfl,e⟩
 ·refine aF (pf H 2 J (lo aA (h.ext I) (a5 sb Ab nb cb) J J J (cl (vs:= [O sb Ab nb cb]) f (iE (hy.ext f) (aK lb J)) J (by kernel_rfl) fun _ _ r p e=>?_)))
  obtain rfl:=r
  refine aI J J J true (lT o) (mv 1 J (pf L 2 J (lo aA (q.ext p) (a5 se Ae ne ce) J J J (cl (vs:= [O se Ae ne ce]) e (iE (hv.ext e) (aK le J)) J (by kernel_rfl) fun _ _ E _ F=>?_))))
  obtain rfl:=E
  refine aI J J J false (lC (by omega)) (pu (v:= AS) J (mv 1 J (a7 (aV (aU [F0] J ⟨rfl,AT⟩ ?_)))))
  exact⟨_,rfl,rfl,F⟩
theorem L0 {nb:Nat}{nd:Nat}(hb:b≤w.heap.size)(hx:Zi w sa Aa na ca x)(la:na≤268435456)(hy:Zi w sb Ab nb cb y)(lb:nb≤268435456)(hu:Zi w sd Ad nd cd u)(ld:nd≤268435456)(hv:Zi w se Ae ne ce v)(le:ne≤268435456):aP aN 95 #[a9 sa Aa na ca sb Ab nb cb,a9 sd Ad nd cd se Ae ne ce] w (Gv w (T2 (FR b (bP (x*v+u*y) (y*v)) (bS (x*v+u*y) (y*v))) (Is (no (bI (y*v)))))):=by
 refine Calls.mono (R:=Gv w (T2 (FR w.heap.size (bP (x*v+u*y) (y*v)) (bS (x*v+u*y) (y*v))) (Is (no (bI (y*v)))))) ?_ (Gv.imp (T2.imp (FR.imp hb) Is.imp))
 have Lx:ln x≤268435456:=a8 hx.ln la
 have Ly:ln y≤268435456:=a8 hy.ln lb
 have Lu:ln u≤268435456:=a8 hu.ln ld
 have Lv:ln v≤268435456:=a8 hv.ln le
 refine bN Tryz.func95 J (n:=29) J (bq J) (args:= [a9 sa Aa na ca sb Ab nb cb,a9 sd Ad nd cd se Ae ne ce]) (bG [(0,a9 sa Aa na ca sb Ab nb cb),(1,a9 sd Ad nd cd se Ae ne ce)] ⟨rfl,rfl,AT⟩ (sr (bx [.bool sa,we Aa na ca,.bool sb,we Ab nb cb] (Ext.refl w) J J J fun g1 _ G _ _ fx=>(fG [.bool sd,we Ad nd cd,.bool se,we Ae ne ce] fx G.lt J J J fun g6 _ H _ _ e8 gi=>(bL [F0,S0,F0,S0] gi H.lt (fun _=>by kernel_rfl) J fun _ _ bd au _ o h=>(mv 1 J (a7 (aD (aD ?_)))))))))
 by_cases h0:y=0∨v=0
 ·have hz:y*v=0:=Int.mul_eq_zero.2 h0
  refine aF (lo bC (G.ext (e8.t o)) [.bool sa,we Aa na ca,.bool sb,we Ab nb cb] J J J (lo bC (H.ext o) [.bool sd,we Ad nd cd,.bool se,we Ae ne ce] J J J (cl (vs:= [a9 sa Aa na ca sb Ab nb cb,a9 sd Ad nd cd se Ae ne ce]) h (D9 (hx.ext h) (aK la J) (hy.ext h) (aK lb J) (hu.ext h) (aK ld J) (hv.ext h) (aK le J) h0) J (by kernel_rfl) fun _ _ gg gf q=>?_)))
  obtain rfl:=gg
  refine pu (v:= AI) J (a7 (aW J (sr (pu (v:= .agg #[F0,S0,F0,S0]) J ?_))))
  have fk:=(bd.ext gf)
  refine so bC fk [F0,S0,F0,S0] q au J J J J fun ej cp _ f=>(mv 1 J (a7 (aV (bR (aU [.agg #[F0,S0,F0,S0],no 4] J ⟨⟨_,rfl,bH bC cp [F0,S0,F0,S0] J (bq J) rfl⟩,rfl,AT⟩ ?_)))))
  exact⟨_,rfl,⟨_,_,rfl,⟨_,_,_,_,_,_,_,_,rfl,((Zr.zero (w:=ej) (base:=w.heap.size))).cast (by simp only [bP,bS,if_pos hz]),((Zr.zero (w:=ej) (base:=w.heap.size))).cast (by simp only [bP,bS,if_pos hz])⟩,(show (no 4:aM)=_ by simp only [bI,if_pos hz])⟩,f⟩
 ·have fv:y≠0:=fun e=>h0 (cH e)
  have fy:v≠0:=fun e=>h0 (cO e)
  refine aF (lo bC (G.ext (e8.t o)) [.bool sa,we Aa na ca,.bool sb,we Ab nb cb] J J J (lo bC (H.ext o) [.bool sd,we Ad nd cd,.bool se,we Ae ne ce] J J J (cl (vs:= [a9 sa Aa na ca sb Ab nb cb,a9 sd Ad nd cd se Ae ne ce]) h (KY (hx.ext h) (aK la J) (hy.ext h) (aK lb J) (hu.ext h) (aK ld J) (hv.ext h) (aK le J) fv fy) J (by kernel_rfl) fun _ _ gr p q=>?_)))
  obtain rfl:=gr
  refine pu (v:= AS) J (a7 (aQ J (aY (aO (aD ?_)))))
  have bg:ln (u*y)≤536870912:=a8 (cK Lu Ly) (by decide)
  have bf:ln (x*v+(u*y))≤536870913:=a8 (dN (cK Lx Lv) bg) (by decide)
  have bi:ln (y*v)≤536870912:=a8 (cK Ly Lv) (by decide)
  have ig:ln (bP (x*v+(u*y)) (y*v))≤536870913:=fR bf
  have ic:ln (bS (x*v+(u*y)) (y*v))≤536870912:=fY bi
  refine dG bY 18 [16,17] [Is (i5 g1 0),Is (O sa Aa na ca),Is (i5 g6 2),Is (O se Ae ne ce),Is (i5 g6 0),Is (O sd Ad nd cd),Is (i5 g1 2),Is (O sb Ab nb cb),ZR w.heap.size (u*y),ZR w.heap.size (x*v+(u*y)),Is (i5 g1 2),Is (O sb Ab nb cb),Is (i5 g6 2),Is (O se Ae ne ce),ZR w.heap.size (y*v),T2 (FR w.heap.size (bP (x*v+(u*y)) (y*v)) (bS (x*v+(u*y)) (y*v))) (Is (no (bI (y*v)))),fun v' w'=>∃s0 A0 n0 c0 s1 A1 n1 c1,v'= a9 s0 A0 n0 c0 s1 A1 n1 c1∧Zr w' w.heap.size s0 A0 n0 c0 (bP (x*v+(u*y)) (y*v))∧Zr w' w.heap.size s1 A1 n1 c1 (bS (x*v+(u*y)) (y*v)),Is (no (bI (y*v)))] [[],[0],[],[2],[],[4],[],[6],[5,7],[1,3,8],[],[10],[],[12],[11,13],[9,14],[15],[15]] [[],[0],[],[2],[],[4],[],[6],[4,5,6,7],[0,1,2,3,4,5,6,7,8],[],[10],[],[12],[0,1,2,3,4,5,6,7,8,9,10,11,12,13],[0,1,2,3,4,5,6,7,8,9,10,11,12,13,14],[0,1,2,3,4,5,6,7,8,9,10,11,12,13,14,15],[0,1,2,3,4,5,6,7,8,9,10,11,12,13,14,15],[0,1,2,3,4,5,6,7,8,9,10,11,12,13,14,15,16,17],[0,1,2,3,4,5,6,7,8,9,10,11,12,13,14,15,16,17,18]] rfl
   (aH J J (aE J J ?_) (aH J J (aE J J ?_) (aH J J (aE J J ?_) (aH J J (aE J J ?_) (aH J J (aE J J ?_) (aH J J (aE J J ?_) (aH J J (aE J J ?_) (aH J J (aE J J ?_) (aH J J (aE J J ?_) (aH J J (aE J J ?_) (aH J J (aE J J ?_) (aH J J (aE J J ?_) (aH J J (aE J J ?_) (aH J J (aE J J ?_) (aH J J (aE J J ?_) (aH J J (aE J J ?_) (fD J J (fE J ?_) (fD J J (fE J ?_) d9)))))))))))))))))) ?_
  ·exact fun _ _=>aC (pf g1 0 J (aG J aL J))
  ·exact fun _ ga=>dk J J (aC (lo aA (G.ext (e8.t (o.t (p.t ga)))) (a5 sa Aa na ca) J J J (aG J aL J)))
  ·exact fun _ _=>aC (pf g6 2 J (aG J aL J))
  ·exact fun _ fw=>dk J J (aC (lo aA (H.ext (o.t (p.t fw))) (a5 se Ae ne ce) J J J (aG J aL J)))
  ·exact fun _ _=>aC (pf g6 0 J (aG J aL J))
  ·exact fun _ gk=>dk J J (aC (lo aA (H.ext (o.t (p.t gk))) (a5 sd Ad nd cd) J J J (aG J aL J)))
  ·exact fun _ _=>aC (pf g1 2 J (aG J aL J))
  ·exact fun _ gb=>dk J J (aC (lo aA (G.ext (e8.t (o.t (p.t gb)))) (a5 sb Ab nb cb) J J J (aG J aL J)))
  ·intro _ go
   have f:=q.trans go
   refine dk J J (dk J J (aC ?_))
   have ie:ln (u*y)≤536870912:=a8 (cK Lu Ly) (by decide)
   refine cl (vs:= [O sd Ad nd cd,O sb Ab nb cb]) f (rO f.size (hu.ext f) (aK ld J) (hy.ext f) (aK lb J)) J (by kernel_rfl) fun _ _ ge fz Y=>?_
   obtain⟨_,_,_,_,rfl,gc⟩:=ge
   exact aG J fz ⟨_,_,_,_,rfl,gc⟩
  ·intro _ gn
   have f:=q.trans gn
   refine dk J J (dk J J (aT J J fun _ _ ey _ fq=>?_))
   obtain⟨fm,el,fi,fb,rfl,E⟩:=ey
   have E:=E.ext fq
   refine aC ?_
   have ib:ln (x*v+(u*y))≤536870913:=a8 (dN (cK Lx Lv) bg) (by decide)
   refine cl (vs:= [O sa Aa na ca,O se Ae ne ce,O fm el fi fb]) f (D1 f.size (hx.ext f) (aK la J) (hv.ext f) (aK le J) E.zi (E.le (aK bg J))) J (by kernel_rfl) fun _ _ fa em Y=>?_
   obtain⟨_,_,_,_,rfl,ci⟩:=fa
   exact aG J em ⟨_,_,_,_,rfl,ci⟩
  ·exact fun _ _=>aC (pf g1 2 J (aG J aL J))
  ·exact fun _ fe=>dk J J (aC (lo aA (G.ext (e8.t (o.t (p.t fe)))) (a5 sb Ab nb cb) J J J (aG J aL J)))
  ·exact fun _ _=>aC (pf g6 2 J (aG J aL J))
  ·exact fun _ eg=>dk J J (aC (lo aA (H.ext (o.t (p.t eg))) (a5 se Ae ne ce) J J J (aG J aL J)))
  ·intro _ bo
   have f:=q.trans bo
   refine dk J J (dk J J (aC ?_))
   have gy:ln (y*v)≤536870912:=a8 (cK Ly Lv) (by decide)
   refine cl (vs:= [O sb Ab nb cb,O se Ae ne ce]) f (rO f.size (hy.ext f) (aK lb J) (hv.ext f) (aK le J)) J (by kernel_rfl) fun _ _ dx dr Y=>?_
   obtain⟨_,_,_,_,rfl,fd⟩:=dx
   exact aG J dr ⟨_,_,_,_,rfl,fd⟩
  ·intro _ dy
   have f:=q.trans dy
   refine aT J J fun _ _ cv _ dh=>?_
   obtain⟨dw,dl,df,fh,rfl,F⟩:=cv
   have F:=F.ext dh
   refine aT J J fun _ _ cj _ fc=>?_
   obtain⟨fj,cz,dt,ei,rfl,D⟩:=cj
   have D:=D.ext fc
   refine aC ?_
   have gx:ln (bP (x*v+(u*y)) (y*v))≤536870913:=fR bf
   have ia:ln (bS (x*v+(u*y)) (y*v))≤536870912:=fY bi
   refine cl (vs:= [O dw dl df fh,O fj cz dt ei]) f (tN f.size F.zi (F.le (aK bf J)) D.zi (D.le (aK bi J))) J (by kernel_rfl) fun _ _ bp ef Y=>?_
   obtain⟨_,_,rfl,⟨_,_,_,_,_,_,_,_,rfl,dz,en⟩,rfl⟩:=bp
   exact aG J ef ⟨_,_,rfl,⟨_,_,_,_,_,_,_,_,rfl,dz,en⟩,rfl⟩
  ·intro _ _
   refine aT J J fun _ _ dm _ ap=>?_
   obtain⟨_,_,rfl,⟨fg,da,de,ez,bu,eh,bw,cm,rfl,V,ae⟩,rfl⟩:=dm
   have V:=V.ext ap
   have ae:=ae.ext ap
   refine aC ?_
   exact⟨a9 fg da de ez bu eh bw cm,rfl,rfl,fun _=>by kernel_rfl,⟨_,_,_,_,_,_,_,_,rfl,V,ae⟩⟩
  ·intro _ _
   refine aT J J fun _ _ fo _ aw=>?_
   obtain⟨_,_,rfl,⟨_,_,_,_,_,_,_,_,rfl,av,ar⟩,rfl⟩:=fo
   have av:=av.ext aw
   have ar:=ar.ext aw
   refine aC ?_
   exact⟨no (bI (y*v)),rfl,rfl,fun _=>by kernel_rfl,rfl⟩
  ·intro _ ba
   have f:=q.trans ba
   refine dk J J (dk J J (dk J J (dk J J (dk J J (dk J J (dk J J (dk J J (aT J J fun _ _ ew _ ch=>?_))))))))
   obtain⟨_,_,_,_,rfl,ai⟩:=ew
   have ai:=ai.ext ch
   refine aT J J fun _ _ ck _ dg=>?_
   obtain⟨_,_,_,_,rfl,az⟩:=ck
   have az:=az.ext dg
   refine dk J J (dk J J (dk J J (dk J J (aT J J fun _ _ fp _ du=>?_))))
   obtain⟨_,_,_,_,rfl,ak⟩:=fp
   have ak:=ak.ext du
   refine aT J J fun _ _ ct _ aq=>?_
   obtain⟨_,_,rfl,⟨_,_,_,_,_,_,_,_,rfl,ao,aj⟩,rfl⟩:=ct
   have ao:=ao.ext aq
   have aj:=aj.ext aq
   refine aT J J fun _ _ cu _ ah=>?_
   obtain⟨W,M,X,I,ab,L,U,ag,rfl,aa,Z⟩:=cu
   have aa:=aa.ext ah
   have Z:=Z.ext ah
   refine dk J J (aC ?_)
   have r:=(bd.ext (p.t ba))
   refine so bC r [.bool W,we M X I,.bool ab,we L U ag] f au J J J J fun _ bh am Y=>(mv 1 J (aX (dC (aO (aV (aU [a9 W M X I ab L U ag,no (bI (y*v))] J ⟨⟨_,rfl,bH bC bh [.bool W,we M X I,.bool ab,we L U ag] J (bq J) rfl⟩,rfl,AT⟩ ?_))))))
   exact⟨_,rfl,⟨_,_,rfl,⟨_,_,_,_,_,_,_,_,rfl,((aa.updT r am)).cast (J),((Z.updT r am)).cast (J)⟩,rfl⟩,Y⟩
theorem KZ {nb:Nat}{nd:Nat}(hb:b≤w.heap.size)(hx:Zi w sa Aa na ca x)(la:na≤268435456)(hy:Zi w sb Ab nb cb y)(lb:nb≤268435456)(hu:Zi w sd Ad nd cd u)(ld:nd≤268435456)(hv:Zi w se Ae ne ce v)(le:ne≤268435456):aP aN 96 #[a9 sa Aa na ca sb Ab nb cb,a9 sd Ad nd cd se Ae ne ce] w (Gv w (T2 (FR b (bP (x*v+ -u*y) (y*v)) (bS (x*v+ -u*y) (y*v))) (Is (no (bI (y*v)))))):=by
 refine Calls.mono (R:=Gv w (T2 (FR w.heap.size (bP (x*v+ -u*y) (y*v)) (bS (x*v+ -u*y) (y*v))) (Is (no (bI (y*v)))))) ?_ (Gv.imp (T2.imp (FR.imp hb) Is.imp))
 have Lx:ln x≤268435456:=a8 hx.ln la
 have Ly:ln y≤268435456:=a8 hy.ln lb
 have Lu:ln u≤268435456:=a8 hu.ln ld
 have Lv:ln v≤268435456:=a8 hv.ln le
 refine bN Tryz.func96 J (n:=16) J (bq J) (args:= [a9 sa Aa na ca sb Ab nb cb,a9 sd Ad nd cd se Ae ne ce]) (bG [(0,a9 sa Aa na ca sb Ab nb cb),(1,a9 sd Ad nd cd se Ae ne ce)] ⟨rfl,rfl,AT⟩ (sr (bx [.bool sa,we Aa na ca,.bool sb,we Ab nb cb] (Ext.refl w) J J J fun _ _ ar _ _ da=>(fG [.bool sd,we Ad nd cd,.bool se,we Ae ne ce] da ar.lt J J J fun g6 _ aj _ _ e8 eg=>(bL [F0,S0,F0,S0] eg aj.lt (fun _=>by kernel_rfl) J fun _ _ ch bi _ ak ai=>(mv 1 J (a7 (aD ?_))))))))
 have ao:ln (-u)≤268435456:=(by rw [g0];exact Lu)
 have ey:ln (bP (x*v+(-u)*y) (y*v))≤536870913:=fR (a8 (dN (cK Lx Lv) (cK ao Ly)) (by decide))
 have ew:ln (bS (x*v+(-u)*y) (y*v))≤536870912:=fY (cK Ly Lv)
 refine dG bY 10 [8,9] [Is (a9 sa Aa na ca sb Ab nb cb),Is (i5 g6 0),Is (O sd Ad nd cd),ZR w.heap.size (-u),Is (i5 g6 2),Is (O se Ae ne ce),fun v' w'=>∃s0 A0 n0 c0,v'= a9 s0 A0 n0 c0 se Ae ne ce∧Zr w' w.heap.size s0 A0 n0 c0 (-u),T2 (FR w.heap.size (bP (x*v+(-u)*y) (y*v)) (bS (x*v+(-u)*y) (y*v))) (Is (no (bI (y*v)))),fun v' w'=>∃s0 A0 n0 c0 s1 A1 n1 c1,v'= a9 s0 A0 n0 c0 s1 A1 n1 c1∧Zr w' w.heap.size s0 A0 n0 c0 (bP (x*v+(-u)*y) (y*v))∧Zr w' w.heap.size s1 A1 n1 c1 (bS (x*v+(-u)*y) (y*v)),Is (no (bI (y*v)))] [[],[],[1],[2],[],[4],[3,5],[0,6],[7],[7]] [[],[],[1],[1,2],[],[4],[1,2,3,4,5],[0,1,2,3,4,5,6],[0,1,2,3,4,5,6,7],[0,1,2,3,4,5,6,7],[0,1,2,3,4,5,6,7,8,9],[0,1,2,3,4,5,6,7,8,9,10]] rfl
  (aH J J (aE J J ?_) (aH J J (aE J J ?_) (aH J J (aE J J ?_) (aH J J (aE J J ?_) (aH J J (aE J J ?_) (aH J J (aE J J ?_) (aH J J (aE J J ?_) (aH J J (aE J J ?_) (fD J J (fE J ?_) (fD J J (fE J ?_) d9)))))))))) ?_
 ·exact fun _ dm=>aC (lo bC (ar.ext (e8.t (ak.t dm))) [.bool sa,we Aa na ca,.bool sb,we Ab nb cb] J J J (aG J aL J))
 ·exact fun _ _=>aC (pf g6 0 J (aG J aL J))
 ·exact fun _ cv=>dk J J (aC (lo aA (aj.ext (ak.t cv)) (a5 sd Ad nd cd) J J J (aG J aL J)))
 ·intro _ ct
  have e:=ai.trans ct
  refine dk J J (aC ?_)
  have ez:ln (-u)≤268435456:=(by rw [g0];exact Lu)
  refine cl (vs:= [O sd Ad nd cd]) e (vL e.size (hu.ext e) (aK ld J)) J (by kernel_rfl) fun _ _ df ck ap=>?_
  obtain⟨_,_,_,_,rfl,de⟩:=df
  exact aG J ck ⟨_,_,_,_,rfl,de⟩
 ·exact fun _ _=>aC (pf g6 2 J (aG J aL J))
 ·exact fun _ cu=>dk J J (aC (lo aA (aj.ext (ak.t cu)) (a5 se Ae ne ce) J J J (aG J aL J)))
 ·intro _ _
  refine aT J J fun _ _ cp _ ei=>?_
  obtain⟨el,dw,ej,du,rfl,aq⟩:=cp
  have aq:=aq.ext ei
  refine dk J J (aC (pu (v:= a9 el dw ej du se Ae ne ce) J ?_))
  exact aG J aL ⟨_,_,_,_,rfl,aq⟩
 ·intro _ dh
  have e:=ai.trans dh
  refine dk J J (aT J J fun _ _ dx _ cz=>?_)
  obtain⟨ef,dz,dl,eh,rfl,M⟩:=dx
  have M:=M.ext cz
  refine aC ?_
  have en:ln (bP (x*v+(-u)*y) (y*v))≤536870913:=fR (a8 (dN (cK Lx Lv) (cK ao Ly)) (by decide))
  have em:ln (bS (x*v+(-u)*y) (y*v))≤536870912:=fY (cK Ly Lv)
  refine cl (vs:= [a9 sa Aa na ca sb Ab nb cb,a9 ef dz dl eh se Ae ne ce]) e (L0 e.size (hx.ext e) (aK la J) (hy.ext e) (aK lb J) M.zi (M.le (aK ao J)) (hv.ext e) (aK le J)) J (by kernel_rfl) fun _ _ dg dy ap=>?_
  obtain⟨_,_,rfl,⟨_,_,_,_,_,_,_,_,rfl,dt,cm⟩,rfl⟩:=dg
  exact aG J dy ⟨_,_,rfl,⟨_,_,_,_,_,_,_,_,rfl,dt,cm⟩,rfl⟩
 ·intro _ _
  refine aT J J fun _ _ dr _ ci=>?_
  obtain⟨_,_,rfl,⟨aw,bd,bp,bm,bw,ba,bg,bj,rfl,q,I⟩,rfl⟩:=dr
  have q:=q.ext ci
  have I:=I.ext ci
  refine aC ?_
  exact⟨a9 aw bd bp bm bw ba bg bj,rfl,rfl,fun _=>by kernel_rfl,⟨_,_,_,_,_,_,_,_,rfl,q,I⟩⟩
 ·intro _ _
  refine aT J J fun _ _ bo _ V=>?_
  obtain⟨_,_,rfl,⟨_,_,_,_,_,_,_,_,rfl,ae,ah⟩,rfl⟩:=bo
  have ae:=ae.ext V
  have ah:=ah.ext V
  refine aC ?_
  exact⟨no (bI (y*v)),rfl,rfl,fun _=>by kernel_rfl,rfl⟩
 ·intro _ ag
  have e:=ai.trans ag
  refine dk J J (dk J J (dk J J (aT J J fun _ _ bh _ au=>?_)))
  obtain⟨_,_,_,_,rfl,ab⟩:=bh
  have ab:=ab.ext au
  refine dk J J (dk J J (aT J J fun _ _ az _ bf=>?_))
  obtain⟨_,_,_,_,rfl,X⟩:=az
  have X:=X.ext bf
  refine aT J J fun _ _ av _ Z=>?_
  obtain⟨_,_,rfl,⟨_,_,_,_,_,_,_,_,rfl,aa,Y⟩,rfl⟩:=av
  have aa:=aa.ext Z
  have Y:=Y.ext Z
  refine aT J J fun _ _ bu _ U=>?_
  obtain⟨G,h,p,r,D,o,H,F,rfl,L,E⟩:=bu
  have L:=L.ext U
  have E:=E.ext U
  refine dk J J (aC ?_)
  have f:=(ch.ext ag)
  refine so bC f [.bool G,we h p r,.bool D,we o H F] e bi J J J J fun _ am W ap=>(mv 1 J (aX (dC (aO (aV (aU [a9 G h p r D o H F,no (bI (y*v))] J ⟨⟨_,rfl,bH bC am [.bool G,we h p r,.bool D,we o H F] J (bq J) rfl⟩,rfl,AT⟩ ?_))))))
  exact⟨_,rfl,⟨_,_,rfl,⟨_,_,_,_,_,_,_,_,rfl,((L.updT f W)).cast (J),((E.updT f W)).cast (J)⟩,rfl⟩,ap⟩
theorem Y7 {nb:Nat}{nd:Nat}(hb:b≤w.heap.size)(hx:Zi w sa Aa na ca x)(la:na≤268435456)(hy:Zi w sb Ab nb cb y)(lb:nb≤268435456)(hu:Zi w sd Ad nd cd u)(ld:nd≤268435456)(hv:Zi w se Ae ne ce v)(le:ne≤268435456):aP aN 97 #[a9 sa Aa na ca sb Ab nb cb,a9 sd Ad nd cd se Ae ne ce] w (Gv w (T2 (FR b (bP (x*u) (y*v)) (bS (x*u) (y*v))) (Is (no (bI (y*v)))))):=by
 refine Calls.mono (R:=Gv w (T2 (FR w.heap.size (bP (x*u) (y*v)) (bS (x*u) (y*v))) (Is (no (bI (y*v)))))) ?_ (Gv.imp (T2.imp (FR.imp hb) Is.imp))
 have Lx:ln x≤268435456:=a8 hx.ln la
 have Ly:ln y≤268435456:=a8 hy.ln lb
 have Lu:ln u≤268435456:=a8 hu.ln ld
 have Lv:ln v≤268435456:=a8 hv.ln le
 refine bN Tryz.func97 J (n:=19) J (bq J) (args:= [a9 sa Aa na ca sb Ab nb cb,a9 sd Ad nd cd se Ae ne ce]) (bG [(0,a9 sa Aa na ca sb Ab nb cb),(1,a9 sd Ad nd cd se Ae ne ce)] ⟨rfl,rfl,AT⟩ (sr (bx [.bool sa,we Aa na ca,.bool sb,we Ab nb cb] (Ext.refl w) J J J fun g1 _ ap _ _ ef=>(fG [.bool sd,we Ad nd cd,.bool se,we Ae ne ce] ef ap.lt J J J fun g6 _ aq _ _ e8 ew=>(bL [F0,S0,F0,S0] ew aq.lt (fun _=>by kernel_rfl) J fun _ _ dh ck _ W V=>(mv 1 J (a7 (aD ?_))))))))
 have av:ln (x*u)≤536870912:=a8 (cK Lx Lu) (by decide)
 have au:ln (y*v)≤536870912:=a8 (cK Ly Lv) (by decide)
 have fi:ln (bP (x*u) (y*v))≤536870912:=fR av
 have fh:ln (bS (x*u) (y*v))≤536870912:=fY au
 refine dG bY 13 [11,12] [Is (i5 g1 0),Is (O sa Aa na ca),Is (i5 g6 0),Is (O sd Ad nd cd),ZR w.heap.size (x*u),Is (i5 g1 2),Is (O sb Ab nb cb),Is (i5 g6 2),Is (O se Ae ne ce),ZR w.heap.size (y*v),T2 (FR w.heap.size (bP (x*u) (y*v)) (bS (x*u) (y*v))) (Is (no (bI (y*v)))),fun v' w'=>∃s0 A0 n0 c0 s1 A1 n1 c1,v'= a9 s0 A0 n0 c0 s1 A1 n1 c1∧Zr w' w.heap.size s0 A0 n0 c0 (bP (x*u) (y*v))∧Zr w' w.heap.size s1 A1 n1 c1 (bS (x*u) (y*v)),Is (no (bI (y*v)))] [[],[0],[],[2],[1,3],[],[5],[],[7],[6,8],[4,9],[10],[10]] [[],[0],[],[2],[0,1,2,3],[],[5],[],[7],[0,1,2,3,4,5,6,7,8],[0,1,2,3,4,5,6,7,8,9],[0,1,2,3,4,5,6,7,8,9,10],[0,1,2,3,4,5,6,7,8,9,10],[0,1,2,3,4,5,6,7,8,9,10,11,12],[0,1,2,3,4,5,6,7,8,9,10,11,12,13]] rfl
  (aH J J (aE J J ?_) (aH J J (aE J J ?_) (aH J J (aE J J ?_) (aH J J (aE J J ?_) (aH J J (aE J J ?_) (aH J J (aE J J ?_) (aH J J (aE J J ?_) (aH J J (aE J J ?_) (aH J J (aE J J ?_) (aH J J (aE J J ?_) (aH J J (aE J J ?_) (fD J J (fE J ?_) (fD J J (fE J ?_) d9))))))))))))) ?_
 ·exact fun _ _=>aC (pf g1 0 J (aG J aL J))
 ·exact fun _ fa=>dk J J (aC (lo aA (ap.ext (e8.t (W.t fa))) (a5 sa Aa na ca) J J J (aG J aL J)))
 ·exact fun _ _=>aC (pf g6 0 J (aG J aL J))
 ·exact fun _ dz=>dk J J (aC (lo aA (aq.ext (W.t dz)) (a5 sd Ad nd cd) J J J (aG J aL J)))
 ·intro _ dy
  have e:=V.trans dy
  refine dk J J (dk J J (aC ?_))
  have fg:ln (x*u)≤536870912:=a8 (cK Lx Lu) (by decide)
  refine cl (vs:= [O sa Aa na ca,O sd Ad nd cd]) e (rO e.size (hx.ext e) (aK la J) (hu.ext e) (aK ld J)) J (by kernel_rfl) fun _ _ ei el X=>?_
  obtain⟨_,_,_,_,rfl,em⟩:=ei
  exact aG J el ⟨_,_,_,_,rfl,em⟩
 ·exact fun _ _=>aC (pf g1 2 J (aG J aL J))
 ·exact fun _ fb=>dk J J (aC (lo aA (ap.ext (e8.t (W.t fb))) (a5 sb Ab nb cb) J J J (aG J aL J)))
 ·exact fun _ _=>aC (pf g6 2 J (aG J aL J))
 ·exact fun _ ey=>dk J J (aC (lo aA (aq.ext (W.t ey)) (a5 se Ae ne ce) J J J (aG J aL J)))
 ·intro _ eg
  have e:=V.trans eg
  refine dk J J (dk J J (aC ?_))
  have fj:ln (y*v)≤536870912:=a8 (cK Ly Lv) (by decide)
  refine cl (vs:= [O sb Ab nb cb,O se Ae ne ce]) e (rO e.size (hy.ext e) (aK lb J) (hv.ext e) (aK le J)) J (by kernel_rfl) fun _ _ eh ez X=>?_
  obtain⟨_,_,_,_,rfl,ej⟩:=eh
  exact aG J ez ⟨_,_,_,_,rfl,ej⟩
 ·intro _ en
  have e:=V.trans en
  refine aT J J fun _ _ ci _ da=>?_
  obtain⟨cp,bw,bi,bf,rfl,o⟩:=ci
  have o:=o.ext da
  refine aT J J fun _ _ cu _ dt=>?_
  obtain⟨dm,cm,dg,cv,rfl,h⟩:=cu
  have h:=h.ext dt
  refine aC ?_
  have fd:ln (bP (x*u) (y*v))≤536870912:=fR av
  have fc:ln (bS (x*u) (y*v))≤536870912:=fY au
  refine cl (vs:= [O cp bw bi bf,O dm cm dg cv]) e (tN e.size o.zi (o.le (aK av J)) h.zi (h.le (aK au J))) J (by kernel_rfl) fun _ _ cz de X=>?_
  obtain⟨_,_,rfl,⟨_,_,_,_,_,_,_,_,rfl,ba,bu⟩,rfl⟩:=cz
  exact aG J de ⟨_,_,rfl,⟨_,_,_,_,_,_,_,_,rfl,ba,bu⟩,rfl⟩
 ·intro _ _
  refine aT J J fun _ _ bh _ aa=>?_
  obtain⟨_,_,rfl,⟨dl,bj,bg,bo,bd,df,bp,az,rfl,E,H⟩,rfl⟩:=bh
  have E:=E.ext aa
  have H:=H.ext aa
  refine aC ?_
  exact⟨a9 dl bj bg bo bd df bp az,rfl,rfl,fun _=>by kernel_rfl,⟨_,_,_,_,_,_,_,_,rfl,E,H⟩⟩
 ·intro _ _
  refine aT J J fun _ _ ct _ ai=>?_
  obtain⟨_,_,rfl,⟨_,_,_,_,_,_,_,_,rfl,ab,aj⟩,rfl⟩:=ct
  have ab:=ab.ext ai
  have aj:=aj.ext ai
  refine aC ?_
  exact⟨no (bI (y*v)),rfl,rfl,fun _=>by kernel_rfl,rfl⟩
 ·intro _ ak
  have e:=V.trans ak
  refine dk J J (dk J J (dk J J (dk J J (aT J J fun _ _ dr _ bm=>?_))))
  obtain⟨_,_,_,_,rfl,ao⟩:=dr
  have ao:=ao.ext bm
  refine dk J J (dk J J (dk J J (dk J J (aT J J fun _ _ aw _ ch=>?_))))
  obtain⟨_,_,_,_,rfl,ah⟩:=aw
  have ah:=ah.ext ch
  refine aT J J fun _ _ cj _ am=>?_
  obtain⟨_,_,rfl,⟨_,_,_,_,_,_,_,_,rfl,Y,ae⟩,rfl⟩:=cj
  have Y:=Y.ext am
  have ae:=ae.ext am
  refine aT J J fun _ _ du _ ag=>?_
  obtain⟨I,L,G,r,U,F,D,q,rfl,M,p⟩:=du
  have M:=M.ext ag
  have p:=p.ext ag
  refine dk J J (aC ?_)
  have f:=(dh.ext ak)
  refine so bC f [.bool I,we L G r,.bool U,we F D q] e ck J J J J fun _ ar Z X=>(mv 1 J (aX (dC (aO (aV (aU [a9 I L G r U F D q,no (bI (y*v))] J ⟨⟨_,rfl,bH bC ar [.bool I,we L G r,.bool U,we F D q] J (bq J) rfl⟩,rfl,AT⟩ ?_))))))
  exact⟨_,rfl,⟨_,_,rfl,⟨_,_,_,_,_,_,_,_,rfl,(M.updT f Z),(p.updT f Z)⟩,rfl⟩,X⟩
theorem Y9 {nb:Nat}{nd:Nat}(hb:b≤w.heap.size)(hx:Zi w sa Aa na ca x)(la:na≤268435456)(hy:Zi w sb Ab nb cb y)(lb:nb≤268435456)(hu:Zi w sd Ad nd cd u)(ld:nd≤268435456)(hv:Zi w se Ae ne ce v)(le:ne≤268435456):aP aN 98 #[a9 sa Aa na ca sb Ab nb cb,a9 sd Ad nd cd se Ae ne ce] w (Gv w (T2 (FR b (jE x y u v) (jG x y u v)) (Is (no (jF y u v))))):=by
 refine Calls.mono (R:=Gv w (T2 (FR w.heap.size (jE x y u v) (jG x y u v)) (Is (no (jF y u v))))) ?_ (Gv.imp (T2.imp (FR.imp hb) Is.imp))
 have Lx:ln x≤268435456:=a8 hx.ln la
 have Ly:ln y≤268435456:=a8 hy.ln lb
 have Lu:ln u≤268435456:=a8 hu.ln ld
 have Lv:ln v≤268435456:=a8 hv.ln le
 refine bN Tryz.func98 J (n:=24) J (bq J) (args:= [a9 sa Aa na ca sb Ab nb cb,a9 sd Ad nd cd se Ae ne ce]) (bG [(0,a9 sa Aa na ca sb Ab nb cb),(1,a9 sd Ad nd cd se Ae ne ce)] ⟨rfl,rfl,AT⟩ (sr (bx [.bool sa,we Aa na ca,.bool sb,we Ab nb cb] (Ext.refl w) J J J fun g1 _ E _ _ fk=>(fG [.bool sd,we Ad nd cd,.bool se,we Ae ne ce] fk E.lt J J J fun g6 _ F _ _ e8 fv=>(bL [F0,S0,F0,S0] fv F.lt (fun _=>by kernel_rfl) J fun _ _ ae U _ o f=>(mv 1 J (a7 (aD (aD ?_)))))))))
 by_cases h:v=0
 ·have h0:y=0∨v=0:=cO h
  refine aF (lo bC (E.ext (e8.t o)) [.bool sa,we Aa na ca,.bool sb,we Ab nb cb] J J J (lo bC (F.ext o) [.bool sd,we Ad nd cd,.bool se,we Ae ne ce] J J J (cl (vs:= [a9 sa Aa na ca sb Ab nb cb,a9 sd Ad nd cd se Ae ne ce]) f (D9 (hx.ext f) (aK la J) (hy.ext f) (aK lb J) (hu.ext f) (aK ld J) (hv.ext f) (aK le J) h0) J (by kernel_rfl) fun _ _ ft fq p=>?_)))
  obtain rfl:=ft
  refine pu (v:= AI) J (a7 (aW J (sr (pu (v:= .agg #[F0,S0,F0,S0]) J ?_))))
  have ew:=(ae.ext fq)
  refine so bC ew [F0,S0,F0,S0] p U J J J J fun dt ct _ e=>(mv 1 J (a7 (aV (bR (aU [.agg #[F0,S0,F0,S0],no 4] J ⟨⟨_,rfl,bH bC ct [F0,S0,F0,S0] J (bq J) rfl⟩,rfl,AT⟩ ?_)))))
  exact⟨_,rfl,⟨_,_,rfl,⟨_,_,_,_,_,_,_,_,rfl,((Zr.zero (w:=dt) (base:=w.heap.size))).cast (by simp only [jE,if_pos h]),((Zr.zero (w:=dt) (base:=w.heap.size))).cast (by simp only [jG,if_pos h])⟩,(show (no 4:aM)=_ by simp only [jF,if_pos h])⟩,e⟩
 ·by_cases ba:y=0
  ·have h0:y=0∨v=0:=cH ba
   have hz:y*u=0:=by rw [ba,Int.zero_mul]
   refine aF (lo bC (E.ext (e8.t o)) [.bool sa,we Aa na ca,.bool sb,we Ab nb cb] J J J (lo bC (F.ext o) [.bool sd,we Ad nd cd,.bool se,we Ae ne ce] J J J (cl (vs:= [a9 sa Aa na ca sb Ab nb cb,a9 sd Ad nd cd se Ae ne ce]) f (D9 (hx.ext f) (aK la J) (hy.ext f) (aK lb J) (hu.ext f) (aK ld J) (hv.ext f) (aK le J) h0) J (by kernel_rfl) fun _ _ fx fg p=>?_)))
   obtain rfl:=fx
   refine pu (v:= AI) J (a7 (aW J (sr (pu (v:= .agg #[F0,S0,F0,S0]) J ?_))))
   have ck:=(ae.ext fg)
   refine so bC ck [F0,S0,F0,S0] p U J J J J fun cz bp _ e=>(mv 1 J (a7 (aV (bR (aU [.agg #[F0,S0,F0,S0],no 4] J ⟨⟨_,rfl,bH bC bp [F0,S0,F0,S0] J (bq J) rfl⟩,rfl,AT⟩ ?_)))))
   exact⟨_,rfl,⟨_,_,rfl,⟨_,_,_,_,_,_,_,_,rfl,((Zr.zero (w:=cz) (base:=w.heap.size))).cast (by simp only [jE,bP,if_neg h,if_pos hz]),((Zr.zero (w:=cz) (base:=w.heap.size))).cast (by simp only [jG,bS,if_neg h,if_pos hz])⟩,(show (no 4:aM)=_ by simp only [jF,bI,if_neg h,if_pos hz])⟩,e⟩
  ·have fi:y≠0:=ba
   have fm:v≠0:=h
   refine aF (lo bC (E.ext (e8.t o)) [.bool sa,we Aa na ca,.bool sb,we Ab nb cb] J J J (lo bC (F.ext o) [.bool sd,we Ad nd cd,.bool se,we Ae ne ce] J J J (cl (vs:= [a9 sa Aa na ca sb Ab nb cb,a9 sd Ad nd cd se Ae ne ce]) f (KY (hx.ext f) (aK la J) (hy.ext f) (aK lb J) (hu.ext f) (aK ld J) (hv.ext f) (aK le J) fi fm) J (by kernel_rfl) fun _ _ fe Y p=>?_)))
   obtain rfl:=fe
   refine pu (v:= AS) J (a7 (aQ J (aY (aO (aD ?_)))))
   have bf:ln (x*v)≤536870912:=a8 (cK Lx Lv) (by decide)
   have bd:ln (y*u)≤536870912:=a8 (cK Ly Lu) (by decide)
   have gf:ln (bP (x*v) (y*u))≤536870912:=fR bf
   have gg:ln (bS (x*v) (y*u))≤536870912:=fY bd
   refine dG bY 13 [11,12] [Is (i5 g1 0),Is (O sa Aa na ca),Is (i5 g6 2),Is (O se Ae ne ce),ZR w.heap.size (x*v),Is (i5 g1 2),Is (O sb Ab nb cb),Is (i5 g6 0),Is (O sd Ad nd cd),ZR w.heap.size (y*u),T2 (FR w.heap.size (bP (x*v) (y*u)) (bS (x*v) (y*u))) (Is (no (bI (y*u)))),fun v' w'=>∃s0 A0 n0 c0 s1 A1 n1 c1,v'= a9 s0 A0 n0 c0 s1 A1 n1 c1∧Zr w' w.heap.size s0 A0 n0 c0 (bP (x*v) (y*u))∧Zr w' w.heap.size s1 A1 n1 c1 (bS (x*v) (y*u)),Is (no (bI (y*u)))] [[],[0],[],[2],[1,3],[],[5],[],[7],[6,8],[4,9],[10],[10]] [[],[0],[],[2],[0,1,2,3],[],[5],[],[7],[0,1,2,3,4,5,6,7,8],[0,1,2,3,4,5,6,7,8,9],[0,1,2,3,4,5,6,7,8,9,10],[0,1,2,3,4,5,6,7,8,9,10],[0,1,2,3,4,5,6,7,8,9,10,11,12],[0,1,2,3,4,5,6,7,8,9,10,11,12,13]] rfl
    (aH J J (aE J J ?_) (aH J J (aE J J ?_) (aH J J (aE J J ?_) (aH J J (aE J J ?_) (aH J J (aE J J ?_) (aH J J (aE J J ?_) (aH J J (aE J J ?_) (aH J J (aE J J ?_) (aH J J (aE J J ?_) (aH J J (aE J J ?_) (aH J J (aE J J ?_) (fD J J (fE J ?_) (fD J J (fE J ?_) d9))))))))))))) ?_
   ·exact fun _ _=>aC (pf g1 0 J (aG J aL J))
   ·exact fun _ fp=>dk J J (aC (lo aA (E.ext (e8.t (o.t (Y.t fp)))) (a5 sa Aa na ca) J J J (aG J aL J)))
   ·exact fun _ _=>aC (pf g6 2 J (aG J aL J))
   ·exact fun _ fy=>dk J J (aC (lo aA (F.ext (o.t (Y.t fy))) (a5 se Ae ne ce) J J J (aG J aL J)))
   ·intro _ ga
    have e:=p.trans ga
    refine dk J J (dk J J (aC ?_))
    have gi:ln (x*v)≤536870912:=a8 (cK Lx Lv) (by decide)
    refine cl (vs:= [O sa Aa na ca,O se Ae ne ce]) e (rO e.size (hx.ext e) (aK la J) (hv.ext e) (aK le J)) J (by kernel_rfl) fun _ _ fj fz ah=>?_
    obtain⟨_,_,_,_,rfl,fo⟩:=fj
    exact aG J fz ⟨_,_,_,_,rfl,fo⟩
   ·exact fun _ _=>aC (pf g1 2 J (aG J aL J))
   ·exact fun _ fd=>dk J J (aC (lo aA (E.ext (e8.t (o.t (Y.t fd)))) (a5 sb Ab nb cb) J J J (aG J aL J)))
   ·exact fun _ _=>aC (pf g6 0 J (aG J aL J))
   ·exact fun _ fh=>dk J J (aC (lo aA (F.ext (o.t (Y.t fh))) (a5 sd Ad nd cd) J J J (aG J aL J)))
   ·intro _ df
    have e:=p.trans df
    refine dk J J (dk J J (aC ?_))
    have gc:ln (y*u)≤536870912:=a8 (cK Ly Lu) (by decide)
    refine cl (vs:= [O sb Ab nb cb,O sd Ad nd cd]) e (rO e.size (hy.ext e) (aK lb J) (hu.ext e) (aK ld J)) J (by kernel_rfl) fun _ _ dz du ah=>?_
    obtain⟨_,_,_,_,rfl,bm⟩:=dz
    exact aG J du ⟨_,_,_,_,rfl,bm⟩
   ·intro _ dm
    have e:=p.trans dm
    refine aT J J fun _ _ dy _ dw=>?_
    obtain⟨cu,bi,em,el,rfl,r⟩:=dy
    have r:=r.ext dw
    refine aT J J fun _ _ dg _ ef=>?_
    obtain⟨cj,ci,cm,ez,rfl,D⟩:=dg
    have D:=D.ext ef
    refine aC ?_
    have gb:ln (bP (x*v) (y*u))≤536870912:=fR bf
    have ge:ln (bS (x*v) (y*u))≤536870912:=fY bd
    refine cl (vs:= [O cu bi em el,O cj ci cm ez]) e (tN e.size r.zi (r.le (aK bf J)) D.zi (D.le (aK bd J))) J (by kernel_rfl) fun _ _ dx bw ah=>?_
    obtain⟨_,_,rfl,⟨_,_,_,_,_,_,_,_,rfl,bj,dh⟩,rfl⟩:=dx
    exact aG J bw ⟨_,_,rfl,⟨_,_,_,_,_,_,_,_,rfl,bj,dh⟩,rfl⟩
   ·intro _ _
    refine aT J J fun _ _ eh _ ak=>?_
    obtain⟨_,_,rfl,⟨dl,cp,dr,ei,bo,bh,ey,ej,rfl,W,L⟩,rfl⟩:=eh
    have W:=W.ext ak
    have L:=L.ext ak
    refine aC ?_
    exact⟨a9 dl cp dr ei bo bh ey ej,rfl,rfl,fun _=>by kernel_rfl,⟨_,_,_,_,_,_,_,_,rfl,W,L⟩⟩
   ·intro _ _
    refine aT J J fun _ _ bu _ au=>?_
    obtain⟨_,_,rfl,⟨_,_,_,_,_,_,_,_,rfl,aw,ar⟩,rfl⟩:=bu
    have aw:=aw.ext au
    have ar:=ar.ext au
    refine aC ?_
    exact⟨no (bI (y*u)),rfl,rfl,fun _=>by kernel_rfl,rfl⟩
   ·intro _ ai
    have e:=p.trans ai
    refine dk J J (dk J J (dk J J (dk J J (aT J J fun _ _ de _ cv=>?_))))
    obtain⟨_,_,_,_,rfl,aj⟩:=de
    have aj:=aj.ext cv
    refine dk J J (dk J J (dk J J (dk J J (aT J J fun _ _ eg _ en=>?_))))
    obtain⟨_,_,_,_,rfl,ap⟩:=eg
    have ap:=ap.ext en
    refine aT J J fun _ _ da _ am=>?_
    obtain⟨_,_,rfl,⟨_,_,_,_,_,_,_,_,rfl,az,aq⟩,rfl⟩:=da
    have az:=az.ext am
    have aq:=aq.ext am
    refine aT J J fun _ _ ch _ av=>?_
    obtain⟨H,Z,ab,I,V,G,M,ag,rfl,aa,X⟩:=ch
    have aa:=aa.ext av
    have X:=X.ext av
    refine dk J J (aC ?_)
    have q:=(ae.ext (Y.t ai))
    refine so bC q [.bool H,we Z ab I,.bool V,we G M ag] e U J J J J fun _ bg ao ah=>(mv 1 J (aX (dC (aO (aV (aU [a9 H Z ab I V G M ag,no (bI (y*u))] J ⟨⟨_,rfl,bH bC bg [.bool H,we Z ab I,.bool V,we G M ag] J (bq J) rfl⟩,rfl,AT⟩ ?_))))))
    exact⟨_,rfl,⟨_,_,rfl,⟨_,_,_,_,_,_,_,_,rfl,((aa.updT q ao)).cast (by simp only [jE,if_neg h]),((X.updT q ao)).cast (by simp only [jG,if_neg h])⟩,(show (no (bI (y*u)):aM)=_ by simp only [jF,if_neg h])⟩,ah⟩
theorem YA {nb:Nat}{nd:Nat}(hx:Zi w sa Aa na ca x)(la:na≤268435456)(hy:Zi w sb Ab nb cb y)(lb:nb≤268435456)(hu:Zi w sd Ad nd cd u)(ld:nd≤268435456)(hv:Zi w se Ae ne ce v)(le:ne≤268435456):aP aN 99 #[a9 sa Aa na ca sb Ab nb cb,a9 sd Ad nd cd se Ae ne ce] w (Gv w (T2 (Is (no (bE (bP (x*v+ -u*y) (y*v)) 0))) (Is (no (bI (y*v)))))):=by
 have Lx:ln x≤268435456:=a8 hx.ln la
 have Ly:ln y≤268435456:=a8 hy.ln lb
 have Lu:ln u≤268435456:=a8 hu.ln ld
 have Lv:ln v≤268435456:=a8 hv.ln le
 refine bN Tryz.func99 J (n:=18) J (bq J) (args:= [a9 sa Aa na ca sb Ab nb cb,a9 sd Ad nd cd se Ae ne ce]) (bG [(0,a9 sa Aa na ca sb Ab nb cb),(1,a9 sd Ad nd cd se Ae ne ce)] ⟨rfl,rfl,AT⟩ (sr (bx [.bool sa,we Aa na ca,.bool sb,we Ab nb cb] (Ext.refl w) J J J fun _ _ r _ _ ah=>(fG [.bool sd,we Ad nd cd,.bool se,we Ae ne ce] ah r.lt J J J fun _ _ I _ _ e8 e=>(mv 2 J (a7 (sr (lo bC (r.ext e8) [.bool sa,we Aa na ca,.bool sb,we Ab nb cb] J J J (lo bC I [.bool sd,we Ad nd cd,.bool se,we Ae ne ce] J J J ?_)))))))))
 have V:ln (bP (x*v+ -u*y) (y*v))≤536870913:=fR (a8 (dN (cK Lx Lv) (cK (by rw [g0];exact Lu) Ly)) (by decide))
 have aj:ln (bS (x*v+ -u*y) (y*v))≤536870912:=fY (cK Ly Lv)
 refine cl (vs:= [a9 sa Aa na ca sb Ab nb cb,a9 sd Ad nd cd se Ae ne ce]) e (KZ e.size (hx.ext e) (aK la J) (hy.ext e) (aK lb J) (hu.ext e) (aK ld J) (hv.ext e) (aK le J)) J (by kernel_rfl) fun _ _ ai aa Y=>?_
 obtain⟨_,_,rfl,⟨p,o,h,f,D,H,F,E,rfl,G,_⟩,rfl⟩:=ai
 refine mv 1 J (pu (v:= a9 p o h f D H F E) J (pu (v:= no (bI (y*v))) J (bL [F0,S0,F0,S0] Y (I.ext aa).lt (fun _=>by kernel_rfl) J fun ag _ q L _ W Z=>(so bC q [.bool p,we o h f,.bool D,we H F E] Z L J J J J fun _ M ab U=>(mv 1 J (a7 (sr (pf ag 0 J (lo aA M (a5 p o h f) J J J (cl (vs:= [O p o h f]) U (iE ((G.ext W).updT q ab).zi (G.le (aK V J))) J (by kernel_rfl) fun _ _ X _ ae=>?_))))))))))
 obtain rfl:=X
 refine mv 3 J (a7 (aV (aU [no (bE (bP (x*v+ -u*y) (y*v)) 0),no (bI (y*v))] J ⟨rfl,rfl,AT⟩ ?_)))
 exact⟨_,rfl,⟨_,_,rfl,rfl,rfl⟩,ae⟩
end
section
open Go.RowKit
open Classical in
noncomputable def rV (bs:List Nat):Int:=if eM 10 (f8 bs) then nA bs else 0
open Classical in
noncomputable def rE (bs:List Nat):Int:=if eM 10 (f8 bs) then 0 else 7
theorem FP (h:bs.take 1= [c]):0<bs.length∧bs.getD 0 0=c:=by
 cases bs with
 | nil=>cases h
 | cons x r=>simp at h;exact⟨by simp,h⟩
theorem P9 {a:Nat}(h:bs.take 3= [a,b,c]):3≤bs.length∧bs.getD 0 0=a∧bs.getD 1 0=b∧bs.getD 2 0=c:=by
 match bs,h with
 | [],h=>cases h
 | [_],h=>cases h
 | [_,_],h=>cases h
 | x::y::z::r,h=>simp at h;exact⟨by simp,h.1,h.2.1,h.2.2⟩
theorem FO (h:bs.length>0)(e:bs.getD 0 0=c):bs.take 1= [c]:=by
 cases bs with
 | nil=>simp at h
 | cons x r=>simp at e;simp [e]
theorem FN {a:Nat}(h:bs.length>2)(e0:bs.getD 0 0=a)(e1:bs.getD 1 0=b)(e2:bs.getD 2 0=c):bs.take 3= [a,b,c]:=by
 match bs,h with
 | [],h=>simp at h
 | [_],h=>simp at h
 | [_,_],h=>simp at h
 | x::y::z::r,h=>simp at e0 e1 e2;simp [e0,e1,e2]
theorem WP (hbs:∀b,b∈bs→b<256)(hlen:bs.length≤1048576):aP aN 140 #[.string (aJ bs)] w (Gv w (T2 (ZR w.heap.size (rV bs)) (Is (no (rE bs))))):=by
 refine bN Tryz.func140 J (n:=55) J (bq J) (args:= [.string (aJ bs)]) (bG [(0,.string (aJ bs))] ⟨rfl,AT⟩ (sr (al [F0,S0] (Ext.refl w) (fun _=>by kernel_rfl) J fun g1 E p Z _ o=>(mv 1 J (a7 (sr (mv 1 J (a7 (sr (mv 1 J (a7 (rU (T:=a6×Bool×Nat) (fun⟨wr,ng,pa⟩=> [(0,.string (aJ bs)),(2,i5 g1 0),(4,.bool ng),(5,no pa)]) (fun⟨wr,ng,pa⟩=>wr) (fun⟨wr,ng,pa⟩=>(Ext w wr)∧(iG bs=ng)∧(f8 bs=bs.drop pa)∧(pa≤bs.length)∧(Bk wr g1 24 [F0,S0])) ?_ ?_))))))))))))
 ·refine aD ?_
  by_cases q:bs.take 1= [43]
  ·have f:f8 bs=bs.drop 1:=by unfold f8;rw [if_pos q]
   have h:iG bs=false:=by unfold iG;rw [if_pos q]
   obtain⟨h0l,h0v⟩:=FP q
   refine aF (mv 1 J (cS J J (v:= no (((aJ bs).size:Nat):Int)) (v':= no ((bs.length:Nat):Int)) (by rw [cX]) (aI J J J true (eW (a:=bs.length) (b:=0) J J) (mv 2 J (dM (bs:=bs) (i:=0) J J J Tryz.underlying9 hbs (aI J J J true (fF (a:=bs.getD 0 0) (b:=43) J J) (mv 4 J (pu (v:= AI) J (pu (v:= AI) J (a7 (aW J (sr (mv 1 J ?_)))))))))))))
   refine dM (bs:=bs) (i:=0) J J J Tryz.underlying9 hbs (aI J J J false (eR (a:=bs.getD 0 0) (b:=45) J J) (mv 1 J (a7 (aF (mv 1 J (aX (dO (⟨E,false,1⟩:a6×Bool×Nat) ⟨o,h,f,(by omega),p⟩ J ⟨rfl,rfl,rfl,rfl,AT⟩)))))))
  ·by_cases r:bs.take 1= [45]
   ·have f:f8 bs=bs.drop 1:=by unfold f8;rw [if_neg q,if_pos r]
    have h:iG bs=true:=by unfold iG;rw [if_neg q,if_pos r]
    obtain⟨h0l,h0v⟩:=FP r
    refine aF (mv 1 J (cS J J (v:= no (((aJ bs).size:Nat):Int)) (v':= no ((bs.length:Nat):Int)) (by rw [cX]) (aI J J J true (eW (a:=bs.length) (b:=0) J J) (mv 2 J (dM (bs:=bs) (i:=0) J J J Tryz.underlying9 hbs (aI J J J false (eR (a:=bs.getD 0 0) (b:=43) J J) (mv 2 J (dM (bs:=bs) (i:=0) J J J Tryz.underlying9 hbs (aI J J J true (fF (a:=bs.getD 0 0) (b:=45) J J) (pu (v:= AI) J (pu (v:= AI) J (a7 (aW J ?_)))))))))))))
    refine sr (mv 1 J (dM (bs:=bs) (i:=0) J J J Tryz.underlying9 hbs (aI J J J true (fF (a:=bs.getD 0 0) (b:=45) J J) (mv 1 J (a7 (aF (mv 1 J (aX (dO (⟨E,true,1⟩:a6×Bool×Nat) ⟨o,h,f,(by omega),p⟩ J ⟨rfl,rfl,rfl,rfl,AT⟩)))))))))
   ·by_cases D:bs.take 3= [226,136,146]
    ·have f:f8 bs=bs.drop 3:=by unfold f8;rw [if_neg q,if_neg r,if_pos D]
     have h:iG bs=true:=by unfold iG;rw [if_neg q,if_neg r,if_pos D]
     obtain⟨h3l,h0v,h1v,h2v⟩:=P9 D
     refine aF (mv 1 J (cS J J (v:= no (((aJ bs).size:Nat):Int)) (v':= no ((bs.length:Nat):Int)) (by rw [cX]) (aI J J J true (eW (a:=bs.length) (b:=0) J J) (mv 2 J (dM (bs:=bs) (i:=0) J J J Tryz.underlying9 hbs (aI J J J false (eR (a:=bs.getD 0 0) (b:=43) J J) (mv 2 J (dM (bs:=bs) (i:=0) J J J Tryz.underlying9 hbs (aI J J J false (eR (a:=bs.getD 0 0) (b:=45) J J) (pu (v:= AS) J (pu (v:= AS) J (a7 (aQ J ?_)))))))))))))
     refine sr (mv 1 J (cS J J (v:= no (((aJ bs).size:Nat):Int)) (v':= no ((bs.length:Nat):Int)) (by rw [cX]) (aI J J J true (eW (a:=bs.length) (b:=2) J J) (mv 2 J (dM (bs:=bs) (i:=0) J J J Tryz.underlying9 hbs (aI J J J true (fF (a:=bs.getD 0 0) (b:=226) J J) (pu (v:= AI) J (mv 2 J (dM (bs:=bs) (i:=1) J J J Tryz.underlying9 hbs (aI J J J true (fF (a:=bs.getD 1 0) (b:=136) J J) (pu (v:= AI) J (mv 2 J (dM (bs:=bs) (i:=2) J J J Tryz.underlying9 hbs ?_)))))))))))))
     refine aI J J J true (fF (a:=bs.getD 2 0) (b:=146) J J) (pu (v:= AI) J (a7 (aW J (sr (mv 1 J (a7 (aF (mv 1 J (aX (dO (⟨E,true,3⟩:a6×Bool×Nat) ⟨o,h,f,(by omega),p⟩ J ⟨rfl,rfl,rfl,rfl,AT⟩))))))))))
    ·have f:f8 bs=bs.drop 0:=by unfold f8;rw [if_neg q,if_neg r,if_neg D];rfl
     have h:iG bs=false:=by unfold iG;rw [if_neg q,if_neg r,if_neg D]
     by_cases aj:bs.length>0
     ·have bm:bs.getD 0 0≠43:=fun e=>q (FO aj e)
      have bu:bs.getD 0 0≠45:=fun e=>r (FO aj e)
      refine aF (mv 1 J (cS J J (v:= no (((aJ bs).size:Nat):Int)) (v':= no ((bs.length:Nat):Int)) (by rw [cX]) (aI J J J true (eW (a:=bs.length) (b:=0) J J) (mv 2 J (dM (bs:=bs) (i:=0) J J J Tryz.underlying9 hbs (aI J J J false (eR (a:=bs.getD 0 0) (b:=43) J J) (mv 2 J (dM (bs:=bs) (i:=0) J J J Tryz.underlying9 hbs (aI J J J false (eR (a:=bs.getD 0 0) (b:=45) J J) (pu (v:= AS) J (pu (v:= AS) J (a7 (aQ J ?_)))))))))))))
      refine aD ?_
      by_cases V:bs.length>2
      ·by_cases F:bs.getD 0 0=226
       ·by_cases G:bs.getD 1 0=136
        ·have h2n:bs.getD 2 0≠146:=fun e=>D (FN V F G e)
         refine aF (mv 1 J (cS J J (v:= no (((aJ bs).size:Nat):Int)) (v':= no ((bs.length:Nat):Int)) (by rw [cX]) (aI J J J true (eW (a:=bs.length) (b:=2) J J) (mv 2 J (dM (bs:=bs) (i:=0) J J J Tryz.underlying9 hbs (aI J J J true (fF (a:=bs.getD 0 0) (b:=226) J J) (pu (v:= AI) J (mv 2 J (dM (bs:=bs) (i:=1) J J J Tryz.underlying9 hbs (aI J J J true (fF (a:=bs.getD 1 0) (b:=136) J J) (pu (v:= AI) J (mv 2 J (dM (bs:=bs) (i:=2) J J J Tryz.underlying9 hbs ?_)))))))))))))
         refine aI J J J false (eR (a:=bs.getD 2 0) (b:=146) J J) (pu (v:= AS) J (a7 (aQ J (aY (dO (⟨E,false,0⟩:a6×Bool×Nat) ⟨o,h,f,(by omega),p⟩ J ⟨rfl,rfl,rfl,rfl,AT⟩)))))
        ·refine aF (mv 1 J (cS J J (v:= no (((aJ bs).size:Nat):Int)) (v':= no ((bs.length:Nat):Int)) (by rw [cX]) (aI J J J true (eW (a:=bs.length) (b:=2) J J) (mv 2 J (dM (bs:=bs) (i:=0) J J J Tryz.underlying9 hbs (aI J J J true (fF (a:=bs.getD 0 0) (b:=226) J J) (pu (v:= AI) J (mv 2 J (dM (bs:=bs) (i:=1) J J J Tryz.underlying9 hbs (aI J J J false (eR (a:=bs.getD 1 0) (b:=136) J J) (pu (v:= AS) J (mv 4 J (pu (v:= AS) J ?_)))))))))))))
         refine a7 (aQ J (aY (dO (⟨E,false,0⟩:a6×Bool×Nat) ⟨o,h,f,(by omega),p⟩ J ⟨rfl,rfl,rfl,rfl,AT⟩)))
       ·refine aF (mv 1 J (cS J J (v:= no (((aJ bs).size:Nat):Int)) (v':= no ((bs.length:Nat):Int)) (by rw [cX]) (aI J J J true (eW (a:=bs.length) (b:=2) J J) (mv 2 J (dM (bs:=bs) (i:=0) J J J Tryz.underlying9 hbs (aI J J J false (eR (a:=bs.getD 0 0) (b:=226) J J) (pu (v:= AS) J (mv 4 J (pu (v:= AS) J (mv 4 J (pu (v:= AS) J (a7 (aQ J ?_)))))))))))))
        refine aY (dO (⟨E,false,0⟩:a6×Bool×Nat) ⟨o,h,f,(by omega),p⟩ J ⟨rfl,rfl,rfl,rfl,AT⟩)
      ·refine aF (mv 1 J (cS J J (v:= no (((aJ bs).size:Nat):Int)) (v':= no ((bs.length:Nat):Int)) (by rw [cX]) (aI J J J false (fS (a:=bs.length) (b:=2) J J) (mv 4 J (pu (v:= AS) J (mv 4 J (pu (v:= AS) J (mv 4 J (pu (v:= AS) J (a7 (aQ J (aY (dO (⟨E,false,0⟩:a6×Bool×Nat) ⟨o,h,f,(by omega),p⟩ J ⟨rfl,rfl,rfl,rfl,AT⟩)))))))))))))
     ·refine aF (mv 1 J (cS J J (v:= no (((aJ bs).size:Nat):Int)) (v':= no ((bs.length:Nat):Int)) (by rw [cX]) (aI J J J false (fS (a:=bs.length) (b:=0) J J) (mv 9 J (pu (v:= AS) J (a7 (aQ J (aD ?_))))))))
      by_cases V:bs.length>2
      ·by_cases F:bs.getD 0 0=226
       ·by_cases G:bs.getD 1 0=136
        ·have h2n:bs.getD 2 0≠146:=fun e=>D (FN V F G e)
         refine aF (mv 1 J (cS J J (v:= no (((aJ bs).size:Nat):Int)) (v':= no ((bs.length:Nat):Int)) (by rw [cX]) (aI J J J true (eW (a:=bs.length) (b:=2) J J) (mv 2 J (dM (bs:=bs) (i:=0) J J J Tryz.underlying9 hbs (aI J J J true (fF (a:=bs.getD 0 0) (b:=226) J J) (pu (v:= AI) J (mv 2 J (dM (bs:=bs) (i:=1) J J J Tryz.underlying9 hbs (aI J J J true (fF (a:=bs.getD 1 0) (b:=136) J J) (pu (v:= AI) J (mv 2 J (dM (bs:=bs) (i:=2) J J J Tryz.underlying9 hbs ?_)))))))))))))
         refine aI J J J false (eR (a:=bs.getD 2 0) (b:=146) J J) (pu (v:= AS) J (a7 (aQ J (aY (dO (⟨E,false,0⟩:a6×Bool×Nat) ⟨o,h,f,(by omega),p⟩ J ⟨rfl,rfl,rfl,rfl,AT⟩)))))
        ·refine aF (mv 1 J (cS J J (v:= no (((aJ bs).size:Nat):Int)) (v':= no ((bs.length:Nat):Int)) (by rw [cX]) (aI J J J true (eW (a:=bs.length) (b:=2) J J) (mv 2 J (dM (bs:=bs) (i:=0) J J J Tryz.underlying9 hbs (aI J J J true (fF (a:=bs.getD 0 0) (b:=226) J J) (pu (v:= AI) J (mv 2 J (dM (bs:=bs) (i:=1) J J J Tryz.underlying9 hbs (aI J J J false (eR (a:=bs.getD 1 0) (b:=136) J J) (pu (v:= AS) J (mv 4 J (pu (v:= AS) J ?_)))))))))))))
         refine a7 (aQ J (aY (dO (⟨E,false,0⟩:a6×Bool×Nat) ⟨o,h,f,(by omega),p⟩ J ⟨rfl,rfl,rfl,rfl,AT⟩)))
       ·refine aF (mv 1 J (cS J J (v:= no (((aJ bs).size:Nat):Int)) (v':= no ((bs.length:Nat):Int)) (by rw [cX]) (aI J J J true (eW (a:=bs.length) (b:=2) J J) (mv 2 J (dM (bs:=bs) (i:=0) J J J Tryz.underlying9 hbs (aI J J J false (eR (a:=bs.getD 0 0) (b:=226) J J) (pu (v:= AS) J (mv 4 J (pu (v:= AS) J (mv 4 J (pu (v:= AS) J (a7 (aQ J ?_)))))))))))))
        refine aY (dO (⟨E,false,0⟩:a6×Bool×Nat) ⟨o,h,f,(by omega),p⟩ J ⟨rfl,rfl,rfl,rfl,AT⟩)
      ·refine aF (mv 1 J (cS J J (v:= no (((aJ bs).size:Nat):Int)) (v':= no ((bs.length:Nat):Int)) (by rw [cX]) (aI J J J false (fS (a:=bs.length) (b:=2) J J) (mv 4 J (pu (v:= AS) J (mv 4 J (pu (v:= AS) J (mv 4 J (pu (v:= AS) J (a7 (aQ J (aY (dO (⟨E,false,0⟩:a6×Bool×Nat) ⟨o,h,f,(by omega),p⟩ J ⟨rfl,rfl,rfl,rfl,AT⟩)))))))))))))
 ·rintro⟨wr,ng,pa⟩ ⟨o,h,f,_,b_2⟩
  refine cR [(0,.string (aJ bs)),(2,i5 g1 0),(4,.bool ng),(5,no pa)] wr J ⟨rfl,rfl,rfl,rfl,AT⟩ (aD ?_)
  have ag:∀b,b∈bs.drop pa→b<256:=fun b hb=>hbs b (List.mem_of_mem_drop hb)
  have ai:(bs.drop pa).length≤17179869184:=by rw [gO];omega
  by_cases hg:eM 10 (bs.drop pa)
  ·have aa:(wd (cB 10 ((bs.drop pa).map dv))).length≤1048576:=a8 (oM (base:=10) hg.2) (by rw [gO];omega)
   refine aF (mv 2 J (pC (bs:=bs) (i:=pa) J J J Tryz.underlying9 (cl (vs:= [.string (aJ (bs.drop pa))]) o ((S2 ag ai hg).mono (Gv.imp (T2.imp (WR.imp o.size) Is.imp))) J (by kernel_rfl) fun _ _ r8 e7 H=>?_)))
   obtain⟨_,_,rfl,⟨ah,ae,ab,rfl,ao,aw⟩,rfl⟩:=r8
   refine mv 1 J (pu (v:= we ah ae ab) J (pu (v:= no 0) J (mv 2 J (a7 (aD (sr (mv 1 J (aI J J J false (by decide) (a7 (aQ J (aY (aO (aD ?_)))))))))))))
   refine aF (mv 2 J ?_)
   have bj:ln (sg ng (cB 10 ((bs.drop pa).map dv)))≤1048576:=by rw [iQ];exact aa
   refine cl (vs:= (a5 ng ah ae ab)) H (jD H.size aw.wi (by rw [ao];exact a8 aa (by decide))) J (by kernel_rfl) fun _ _ bh bf U=>?_
   obtain⟨M,W,Y,X,rfl,az⟩:=bh
   have I:=(b_2.ext (e7.t bf))
   refine so aA I (a5 M W Y X) U Z J J J J fun _ am bd ba=>(mv 1 J (a7 (aV (aU [O M W Y X,I0] J ⟨⟨_,rfl,bH aA am (a5 M W Y X) J (bq J) rfl⟩,rfl,AT⟩ ?_))))
   have hV:rV bs=sg ng (cB 10 ((bs.drop pa).map dv)):=by unfold rV;rw [f,if_pos hg,nA,h,f];cases ng <;> rfl
   have hE:rE bs=0:=by unfold rE;rw [f,if_pos hg]
   exact⟨_,rfl,⟨_,_,rfl,⟨_,_,_,_,rfl,((az.updT I bd)).cast hV.symm⟩,(show dP .i64 (0)=_ by rw [hE])⟩,ba⟩
  ·refine aF (mv 2 J (pC (bs:=bs) (i:=pa) J J J Tryz.underlying9 (cl (vs:= [.string (aJ (bs.drop pa))]) o (S3 ag ai hg) J (by kernel_rfl) fun _ av au ar H=>?_)))
   obtain⟨_,_,rfl,rfl,rfl⟩:=au
   refine mv 1 J (pu (v:= we none 0 0) J (pu (v:= no 7) J (mv 2 J (a7 (aD (sr (mv 1 J (aI J J J true (by decide) (a7 (aW J (sr (pu (v:= .agg #[F0,S0]) J ?_))))))))))))
   have L:=(b_2.ext ar)
   refine so aA L [F0,S0] H Z J J J J fun _ ak bi U=>(mv 1 J (a7 (aV (bR (aU [.agg #[F0,S0],no 7] J ⟨⟨_,rfl,bH aA ak [F0,S0] J (bq J) rfl⟩,rfl,AT⟩ ?_)))))
   have hV:rV bs=0:=by unfold rV;rw [f,if_neg hg]
   have hE:rE bs=7:=by unfold rE;rw [f,if_neg hg]
   exact⟨_,rfl,⟨_,_,rfl,⟨_,_,_,_,rfl,(((Zr.zero (w:=av) (base:=w.heap.size)).updT L bi)).cast hV.symm⟩,(show dP .i64 (7)=_ by rw [hE])⟩,U⟩
theorem D3 (hb:b≤w.heap.size)(hbs:∀b,b∈bs→b<256)(hlen:bs.length≤1048576):aP aN 140 #[.string (aJ bs)] w (Gv w (T2 (ZR b (rV bs)) (Is (no (rE bs))))):=(WP hbs hlen).mono (Gv.imp (T2.imp (ZR.imp hb) Is.imp))
end
section
open Go.RowKit
theorem tF (h:bs.length≤1048576):ln (rV bs)≤1048576:=by
 unfold rV;split
 ·rename_i hg
  have h1:(wd (cB 10 ((f8 bs).map dv))).length≤1048576:=by
   refine a8 (oM (base:=10) hg.2) (a8 ?_ h)
   unfold f8
   split
   ·rw [gO];omega
   ·split
    ·rw [gO];omega
    ·split
     ·rw [gO];omega
     ·exact aZ _
  unfold nA;split
  ·rw [g0,kP];exact h1
  ·rw [kP];exact h1
 ·exact bJ _
theorem JX (hb:b≤w.heap.size)(hx:Zi w s A n cap x)(la:n≤1048576)(hy:Zi w t B m cap' y)(lb:m≤1048576):aP aN 149 #[O s A n cap,O t B m cap'] w (Gv w (T3 (ZR b (qF x y)) (ZR b (rF x y)) (Is (no (eZ y))))):=by
 by_cases h0:y=0
 ·simp only [qF,rF,eZ,if_pos h0]
  exact WC hb hx (a8 la (by decide)) hy (a8 lb (by decide)) h0
 ·refine (KG hb hx (a8 la (by decide)) hy (a8 lb (by decide)) h0).mono ?_
  rintro e w' ⟨q,r,hf,h⟩
  obtain⟨rfl,rfl⟩:=XM h0 hf (yN h0)
  simp only [eZ,if_neg h0]
  exact h
theorem vJ (hb:b≤w.heap.size)(hbs:∀b,b∈bs→b<256)(hlen:bs.length≤1048576:=by omega):aP aN 154 #[.string (aJ bs)] w (Gv w (T2 (ZR b (rV bs)) (Is (no (rE bs))))):=by
 by_cases hg:eM 10 (f8 bs)
 ·simp only [rV,rE,if_pos hg]
  exact QX hb hbs (a8 hlen (by decide)) J hg rfl
 ·simp only [rV,rE,if_neg hg]
  refine (QW hbs (a8 hlen (by decide)) J hg).mono (Gv.imp (T2.imp ?_ Is.imp))
  rintro v w' rfl
  exact⟨_,_,_,_,rfl,Zr.zero⟩
theorem I4 (a:List Nat):rE a=0∨rE a=7:=by unfold rE;split <;> simp
theorem Y3 (hb0:b0≤w.heap.size)(ha:∀x,x∈a→x<256∧x≠47)(hla:a.length≤1048576)(he:rE a=0):aP aN 103 #[.string (aJ a)] w (Gv w (T2 (FR b0 (bP (rV a) 1) (bS (rV a) 1)) (Is (no (bI 1))))):=by
 refine bN Tryz.func103 J (n:=42) J (bq J) (args:= [.string (aJ a)]) (bG [(0,.string (aJ a))] ⟨rfl,AT⟩ (sr (al [F0,S0,F0,S0] (Ext.refl w) (fun _=>by kernel_rfl) J fun _ _ Z aq _ av=>(mv 1 J (a7 (sr (mv 1 J (cl (vs:= [.string (aJ a),.string (aJ ([47]))]) av (KU (a:=a) (b:= []) ha (by omega)) J (by kernel_rfl) fun _ _ r8 e7 ap=>?_))))))))
 obtain⟨_,_,_,rfl,rfl,rfl,rfl⟩:=r8
 refine mv 1 J (pu (v:= .string (aJ a)) J (pu (v:= .string (aJ ([]))) J (pu (v:= AS) J (mv 3 J (a7 (sr (mv 1 J (cl (vs:= [.string (aJ a)]) ap (vJ ap.size (fun b hb=>(ha b hb).1)) J (by kernel_rfl) fun _ _ au ae aw=>?_))))))))
 obtain⟨_,_,rfl,⟨H,r,q,D,rfl,ag⟩,rfl⟩:=au
 refine mv 1 J (pu (v:= O H r q D) J (pu (v:= no (rE a)) J (bL [F0,S0] aw (Z.ext (e7.t ae)).lt (fun _=>by kernel_rfl) J fun _ _ V am _ ab az=>(so aA V (a5 H r q D) az am J J J J fun _ ak ai Y=>(mv 1 J (a7 (aD (sr (mv 1 J (aI J J J false (lI he) (a7 (aQ J (aY ?_)))))))))))))
 refine aO (sr (iO J J (k:=1) (e:=65) [up 1] (fun _=>by kernel_rfl) fun ao _ U=>?_))
 have ar:=O1.mk_ (x:=1) (b:=w.heap.size) U Y.size
 have p:=U.ext
 have aj:=Y.trans p
 have X:=rA ar (show 1≤18446744073709551615 by decide) (show 1≠0 by decide)
 have W:=rL (show 1≤18446744073709551615 by decide) (show 1≠0 by decide)
 refine mv 1 J (a7 (aD (sr (mv 1 J (a7 (aQ J (aY (aO (sr (lo aA (ak.ext p) (a5 H r q D) J J J (mv 1 J (pu (v:= .agg #[F0,we (some ⟨ao,0,none⟩) 1 1]) J (cl (vs:= [O H r q D,.agg #[F0,we (some ⟨ao,0,none⟩) 1 1]]) aj (tN aj.size (((ag.ext ab).updT V ai).ext p).zi (ag.le (a8 (tF hla) (by decide))) (pY W X).zi ((pY W X).le (a8 (show ln ((1:Nat):Int)≤1 by rw [kP];exact (Nat.le_of_eq W.symm)) (by decide)))) J (by kernel_rfl) fun _ _ bf bi ba=>?_)))))))))))))
 obtain⟨_,_,rfl,⟨L,F,G,M,E,o,I,h,rfl,bd,bh⟩,rfl⟩:=bf
 refine pu (v:= a9 L F G M E o I h) J (pu (v:= no (bI ((1:Nat):Int))) J ?_)
 have f:=(((Z.ext (e7.t (ae.t ab))).vN ai).ext (p.t bi))
 refine so bC f [.bool L,we F G M,.bool E,we o I h] ba aq J J J J fun _ ah aa bg=>(mv 1 J (a7 (aV (aU [a9 L F G M E o I h,no (bI ((1:Nat):Int))] J ⟨⟨_,rfl,bH bC ah [.bool L,we F G M,.bool E,we o I h] J (bq J) rfl⟩,rfl,AT⟩ ?_))))
 exact⟨_,rfl,⟨_,_,rfl,⟨_,_,_,_,_,_,_,_,rfl,((bd.updT f aa)).mono hb0,((bh.updT f aa)).mono hb0⟩,rfl⟩,bg⟩
theorem Y4 (hb0:b0≤w.heap.size)(ha:∀x,x∈a→x<256∧x≠47)(hla:a.length≤1048576)(he:rE a=7):aP aN 103 #[.string (aJ a)] w (Gv w (T2 (FR b0 0 0) (Is (no 7)))):=by
 refine bN Tryz.func103 J (n:=42) J (bq J) (args:= [.string (aJ a)]) (bG [(0,.string (aJ a))] ⟨rfl,AT⟩ (sr (al [F0,S0,F0,S0] (Ext.refl w) (fun _=>by kernel_rfl) J fun _ _ f I _ M=>(mv 1 J (a7 (sr (mv 1 J (cl (vs:= [.string (aJ a),.string (aJ ([47]))]) M (KU (a:=a) (b:= []) ha (by omega)) J (by kernel_rfl) fun _ _ r8 Z G=>?_))))))))
 obtain⟨_,_,_,rfl,rfl,rfl,rfl⟩:=r8
 refine mv 1 J (pu (v:= .string (aJ a)) J (pu (v:= .string (aJ ([]))) J (pu (v:= AS) J (mv 3 J (a7 (sr (mv 1 J (cl (vs:= [.string (aJ a)]) G (vJ G.size (fun b hb=>(ha b hb).1)) J (by kernel_rfl) fun _ _ L q U=>?_))))))))
 obtain⟨_,_,rfl,⟨r,o,h,p,rfl,_⟩,rfl⟩:=L
 refine mv 1 J (pu (v:= O r o h p) J (pu (v:= no (rE a)) J (bL [F0,S0] U (f.ext (Z.t q)).lt (fun _=>by kernel_rfl) J fun _ _ F E _ W V=>(so aA F (a5 r o h p) V E J J J J fun _ _ X H=>(mv 1 J (a7 (aD (sr (mv 1 J (aI J J J true (nF) (a7 (aW J (aD ?_)))))))))))))
 refine aF (pu (v:= .agg #[F0,S0,F0,S0]) J (mv 1 J ?_))
 have D:=((f.ext (Z.t (q.t W))).vN X)
 refine so bC D [F0,S0,F0,S0] H I J J J J fun _ e _ Y=>(mv 1 J (a7 (aV (bR (aU [.agg #[F0,S0,F0,S0],no (rE a)] J ⟨⟨_,rfl,bH bC e [F0,S0,F0,S0] J (bq J) rfl⟩,rfl,AT⟩ ?_)))))
 exact⟨_,rfl,⟨_,_,rfl,⟨_,_,_,_,_,_,_,_,rfl,Zr.zero,Zr.zero⟩,(show dP .i64 (rE a)=_ by rw [he])⟩,Y⟩
theorem Y2 {b:List Nat}(hb0:b0≤w.heap.size)(ha:∀x,x∈a→x<256∧x≠47)(hla:a.length≤1048576)(hb:∀x,x∈b→x<256)(hlb:b.length≤1048576)(he:rE a=7):aP aN 103 #[.string (aJ (a++47::b))] w (Gv w (T2 (FR b0 0 0) (Is (no 7)))):=by
 have aa:(a++47::b).length=a.length+1+b.length:=by simp;omega
 refine bN Tryz.func103 J (n:=42) J (bq J) (args:= [.string (aJ (a++47::b))]) (bG [(0,.string (aJ (a++47::b)))] ⟨rfl,AT⟩ (sr (al [F0,S0,F0,S0] (Ext.refl w) (fun _=>by kernel_rfl) J fun _ _ f I _ M=>(mv 1 J (a7 (sr (mv 1 J (cl (vs:= [.string (aJ (a++47::b)),.string (aJ ([47]))]) M (D7 ha) J (by kernel_rfl) fun _ _ r8 Z G=>?_))))))))
 obtain⟨_,_,_,rfl,rfl,rfl,rfl⟩:=r8
 refine mv 1 J (pu (v:= .string (aJ a)) J (pu (v:= .string (aJ b)) J (pu (v:= AI) J (mv 3 J (a7 (sr (mv 1 J (cl (vs:= [.string (aJ a)]) G (vJ G.size (fun b hb=>(ha b hb).1)) J (by kernel_rfl) fun _ _ L q U=>?_))))))))
 obtain⟨_,_,rfl,⟨r,o,h,p,rfl,_⟩,rfl⟩:=L
 refine mv 1 J (pu (v:= O r o h p) J (pu (v:= no (rE a)) J (bL [F0,S0] U (f.ext (Z.t q)).lt (fun _=>by kernel_rfl) J fun _ _ F E _ W V=>(so aA F (a5 r o h p) V E J J J J fun _ _ X H=>(mv 1 J (a7 (aD (sr (mv 1 J (aI J J J true (nF) (a7 (aW J (aD ?_)))))))))))))
 refine aF (pu (v:= .agg #[F0,S0,F0,S0]) J (mv 1 J ?_))
 have D:=((f.ext (Z.t (q.t W))).vN X)
 refine so bC D [F0,S0,F0,S0] H I J J J J fun _ e _ Y=>(mv 1 J (a7 (aV (bR (aU [.agg #[F0,S0,F0,S0],no (rE a)] J ⟨⟨_,rfl,bH bC e [F0,S0,F0,S0] J (bq J) rfl⟩,rfl,AT⟩ ?_)))))
 exact⟨_,rfl,⟨_,_,rfl,⟨_,_,_,_,_,_,_,_,rfl,Zr.zero,Zr.zero⟩,(show dP .i64 (rE a)=_ by rw [he])⟩,Y⟩
theorem XZ {b:List Nat}(hb0:b0≤w.heap.size)(ha:∀x,x∈a→x<256∧x≠47)(hla:a.length≤1048576)(hb:∀x,x∈b→x<256)(hlb:b.length≤1048576)(he:rE a=0)(hg:¬eM 10 b):aP aN 103 #[.string (aJ (a++47::b))] w (Gv w (T2 (FR b0 0 0) (Is (no 7)))):=by
 have ao:(a++47::b).length=a.length+1+b.length:=by simp;omega
 refine bN Tryz.func103 J (n:=42) J (bq J) (args:= [.string (aJ (a++47::b))]) (bG [(0,.string (aJ (a++47::b)))] ⟨rfl,AT⟩ (sr (al [F0,S0,F0,S0] (Ext.refl w) (fun _=>by kernel_rfl) J fun _ _ p U _ X=>(mv 1 J (a7 (sr (mv 1 J (cl (vs:= [.string (aJ (a++47::b)),.string (aJ ([47]))]) X (D7 ha) J (by kernel_rfl) fun _ _ r8 e7 M=>?_))))))))
 obtain⟨_,_,_,rfl,rfl,rfl,rfl⟩:=r8
 refine mv 1 J (pu (v:= .string (aJ a)) J (pu (v:= .string (aJ b)) J (pu (v:= AI) J (mv 3 J (a7 (sr (mv 1 J (cl (vs:= [.string (aJ a)]) M (vJ M.size (fun b hb=>(ha b hb).1)) J (by kernel_rfl) fun _ _ W G Y=>?_))))))))
 obtain⟨_,_,rfl,⟨H,E,r,F,rfl,_⟩,rfl⟩:=W
 refine mv 1 J (pu (v:= O H E r F) J (pu (v:= no (rE a)) J (bL [F0,S0] Y (p.ext (e7.t G)).lt (fun _=>by kernel_rfl) J fun _ _ L I _ ab Z=>(so aA L (a5 H E r F) Z I J J J J fun _ _ ah o=>(mv 1 J (a7 (aD (sr (mv 1 J (aI J J J false (lI he) (a7 (aQ J (aY ?_)))))))))))))
 refine aO (sr (iO J J (k:=1) (e:=65) [up 1] (fun _=>by kernel_rfl) fun _ _ f=>?_))
 have V:=O1.mk_ (x:=1) (b:=w.heap.size) f o.size
 have q:=f.ext
 have ai:=o.trans q
 have am:=rA V (show 1≤18446744073709551615 by decide) (show 1≠0 by decide)
 have aq:=rL (show 1≤18446744073709551615 by decide) (show 1≠0 by decide)
 refine mv 1 J (a7 (aD (sr (mv 1 J (a7 (aW J (sr (mv 1 J (cl (vs:= [.string (aJ b)]) ai (uS hb (by omega) hg) J (by kernel_rfl) fun _ _ ae aj aa=>?_)))))))))
 obtain⟨_,_,rfl,rfl,rfl⟩:=ae
 refine mv 1 J (pu (v:= we none 0 0) J (pu (v:= no 7) J (mv 2 J (a7 (sr (mv 1 J (aI J J J true (by decide) (a7 (aW J (sr (pu (v:= .agg #[F0,S0,F0,S0]) J (mv 1 J ?_))))))))))))
 have D:=(((p.ext (e7.t (G.t ab))).vN ah).ext (q.t aj))
 refine so bC D [F0,S0,F0,S0] aa U J J J J fun _ h _ ag=>(mv 1 J (a7 (aV (bR (aU [.agg #[F0,S0,F0,S0],no 7] J ⟨⟨_,rfl,bH bC h [F0,S0,F0,S0] J (bq J) rfl⟩,rfl,AT⟩ ?_)))))
 exact⟨_,rfl,⟨_,_,rfl,⟨_,_,_,_,_,_,_,_,rfl,Zr.zero,Zr.zero⟩,rfl⟩,ag⟩
theorem XY {b:List Nat}(hb0:b0≤w.heap.size)(ha:∀x,x∈a→x<256∧x≠47)(hla:a.length≤1048576)(hb:∀x,x∈b→x<256)(hlb:b.length≤1048576)(he:rE a=0)(hg:eM 10 b):aP aN 103 #[.string (aJ (a++47::b))] w (Gv w (T2 (FR b0 (bP (rV a) ((cB 10 (b.map dv):Nat):Int)) (bS (rV a) ((cB 10 (b.map dv):Nat):Int))) (Is (no (bI ((cB 10 (b.map dv):Nat):Int)))))):=by
 have ck:(a++47::b).length=a.length+1+b.length:=by simp;omega
 have ba:(wd (cB 10 (b.map dv))).length≤1048576:=a8 (oM (base:=10) hg.2) hlb
 refine bN Tryz.func103 J (n:=42) J (bq J) (args:= [.string (aJ (a++47::b))]) (bG [(0,.string (aJ (a++47::b)))] ⟨rfl,AT⟩ (sr (al [F0,S0,F0,S0] (Ext.refl w) (fun _=>by kernel_rfl) J fun _ _ ab aw _ bj=>(mv 1 J (a7 (sr (mv 1 J (cl (vs:= [.string (aJ (a++47::b)),.string (aJ ([47]))]) bj (D7 ha) J (by kernel_rfl) fun _ _ r8 e7 am=>?_))))))))
 obtain⟨_,_,_,rfl,rfl,rfl,rfl⟩:=r8
 refine mv 1 J (pu (v:= .string (aJ a)) J (pu (v:= .string (aJ b)) J (pu (v:= AI) J (mv 3 J (a7 (sr (mv 1 J (cl (vs:= [.string (aJ a)]) am (vJ am.size (fun b hb=>(ha b hb).1)) J (by kernel_rfl) fun _ _ az aj bd=>?_))))))))
 obtain⟨_,_,rfl,⟨E,M,p,q,rfl,ap⟩,rfl⟩:=az
 refine mv 1 J (pu (v:= O E M p q) J (pu (v:= no (rE a)) J (bL [F0,S0] bd (ab.ext (e7.t aj)).lt (fun _=>by kernel_rfl) J fun _ _ U au _ ai bf=>(so aA U (a5 E M p q) bf au J J J J fun _ ak aq ao=>(mv 1 J (a7 (aD (sr (mv 1 J (aI J J J false (lI he) (a7 (aQ J (aY ?_)))))))))))))
 refine aO (sr (iO J J (k:=1) (e:=65) [up 1] (fun _=>by kernel_rfl) fun _ _ V=>?_))
 have bo:=O1.mk_ (x:=1) (b:=w.heap.size) V ao.size
 have G:=V.ext
 have ar:=ao.trans G
 have cj:=rA bo (show 1≤18446744073709551615 by decide) (show 1≠0 by decide)
 have cm:=rL (show 1≤18446744073709551615 by decide) (show 1≠0 by decide)
 refine mv 1 J (a7 (aD (sr (mv 1 J (a7 (aW J (sr (mv 1 J (cl (vs:= [.string (aJ b)]) ar ((uR hb (by omega) hg).mono (Gv.imp (T2.imp (WR.imp ar.size) Is.imp))) J (by kernel_rfl) fun _ _ bm X ah=>?_)))))))))
 obtain⟨_,_,rfl,⟨W,Y,Z,rfl,ae,aa⟩,rfl⟩:=bm
 refine mv 1 J (pu (v:= we W Y Z) J (pu (v:= no 0) J (mv 2 J (a7 (sr (mv 1 J (aI J J J false (by decide) (a7 (aQ J (aY (aO (sr (lo aA (ak.ext (G.t X)) (a5 E M p q) J J J ?_)))))))))))))
 refine mv 1 J (pu (v:= .agg #[F0,we W Y Z]) J (cl (vs:= [O E M p q,.agg #[F0,we W Y Z]]) ah (tN ah.size (((ap.ext ai).updT U aq).ext (G.t X)).zi (ap.le (a8 (tF hla) (by decide))) (pY ae aa).zi ((pY ae aa).le (a8 (show ln ((cB 10 (b.map dv):Nat):Int)≤1048576 by rw [kP];exact ba) (by decide)))) J (by kernel_rfl) fun _ _ bw bg bi=>?_))
 obtain⟨_,_,rfl,⟨h,L,o,H,I,F,D,r,rfl,bh,bp⟩,rfl⟩:=bw
 refine pu (v:= a9 h L o H I F D r) J (pu (v:= no (bI ((cB 10 (b.map dv):Nat):Int))) J ?_)
 have f:=(((ab.ext (e7.t (aj.t ai))).vN aq).ext (G.t (X.t bg)))
 refine so bC f [.bool h,we L o H,.bool I,we F D r] bi aw J J J J fun _ av ag bu=>(mv 1 J (a7 (aV (aU [a9 h L o H I F D r,no (bI ((cB 10 (b.map dv):Nat):Int))] J ⟨⟨_,rfl,bH bC av [.bool h,we L o H,.bool I,we F D r] J (bq J) rfl⟩,rfl,AT⟩ ?_))))
 exact⟨_,rfl,⟨_,_,rfl,⟨_,_,_,_,_,_,_,_,rfl,((bh.updT f ag)).mono hb0,((bp.updT f ag)).mono hb0⟩,rfl⟩,bu⟩
theorem zA {b:List Nat}(ha:∀x,x∈a→x<256∧x≠47)(h:i<a.length):(a++47::b).getD i 0≠47:=by
 rw [bK,List.getElem?_append_left h,cC h]
 exact (ha _ (mD h)).2
theorem LK (ha:∀x,x∈a→x<256∧x≠47)(h:i<a.length):a.getD i 0≠47:=by
 rw [bK,cC h]
 exact (ha _ (mD h)).2
theorem zB (a b:List Nat):(a++47::b).getD a.length 0=47:=by
 rw [bK,List.getElem?_append_right (aZ _),Nat.sub_self];rfl
theorem DN (a b:List Nat):(a++47::b).drop (a.length+1)=b:=by
 rw [show a++47::b=(a++ [47])++b by simp,show a.length+1=(a++ [47]).length by simp,List.drop_left]
theorem zC {b:List Nat}(ha:∀x,x∈a→x<256∧x≠47)(hb:∀x,x∈b→x<256):∀x,x∈a++47::b→x<256:=by
 intro x hx
 rcases nV.1 hx with h | h
 ·exact (ha x h).1
 ·rcases mW.1 h with h | h
  ·rw [h];decide
  ·exact hb x h
theorem tM (hb:b≤w.heap.size){t:List Nat}(ht:t=bs)(hbs:∀b,b∈bs→b<256)(hlen:bs.length≤1048576:=by omega):aP aN 140 #[.string (aJ t)] w (Gv w (T2 (ZR b (rV bs)) (Is (no (rE bs))))):=by subst ht;exact D3 hb hbs hlen
theorem EN {b:List Nat}(h0:b≠ [])(h:48≤b.getD 0 0∧b.getD 0 0≤57):f8 b=b∧iG b=false:=by
 cases b with
 | nil=>exact absurd rfl h0
 | cons c r=>
  have o:48≤c∧c≤57:=h
  constructor
  ·unfold f8
   have h1:¬(c::r).take 1= [43]:=fun e=>by simp at e;omega
   have h2:¬(c::r).take 1= [45]:=fun e=>by simp at e;omega
   have f:¬(c::r).take 3= [226,136,146]:=fun e=>by simp at e;omega
   rw [if_neg h1,if_neg h2,if_neg f]
  ·unfold iG
   have h1:¬(c::r).take 1= [43]:=fun e=>by simp at e;omega
   have h2:¬(c::r).take 1= [45]:=fun e=>by simp at e;omega
   have f:¬(c::r).take 3= [226,136,146]:=fun e=>by simp at e;omega
   rw [if_neg h1,if_neg h2,if_neg f]
theorem I3 {b:List Nat}(h0:b≠ [])(h:48≤b.getD 0 0∧b.getD 0 0≤57)(hg:eM 10 b):rE b=0∧rV b=((cB 10 (b.map dv):Nat):Int):=by
 obtain⟨h1,h2⟩:=EN h0 h
 unfold rE rV nA
 rw [h1,h2,if_pos hg,if_pos hg,if_neg (by decide)]
 exact⟨rfl,rfl⟩
theorem SP {b:List Nat}(h0:b≠ [])(h:48≤b.getD 0 0∧b.getD 0 0≤57)(hg:¬eM 10 b):rE b=7:=by
 obtain⟨h1,h2⟩:=EN h0 h
 unfold rE
 rw [h1,if_neg hg]
theorem YH (h:dv c<10):48≤c∧c≤57:=by
 unfold dv at h;split at h
 ·assumption
 ·split at h
  ·omega
  ·split at h <;> omega
theorem SZ (hb00:b00≤w.heap.size)(ha:∀x,x∈a→x<256∧x≠47)(hla:a.length≤1048576)(he:rE a=0):aP aN 91 #[.string (aJ a)] w (Gv w (T2 (FR b00 (bP (rV a) 1) (bS (rV a) 1)) (Is (no (bI 1))))):=by
 have bj:∀x,x∈a→x<256:=fun x hx=>(ha x hx).1
 refine bN Tryz.func91 J (n:=73) J (bq J) (args:= [.string (aJ a)]) (bG [(0,.string (aJ a))] ⟨rfl,AT⟩ (sr (al [F0,S0,F0,S0] (Ext.refl w) (fun _=>by kernel_rfl) J fun g1 v2 bi dg _ p=>(mv 1 J (a7 (sr (mv 1 J (cS J J (v:= no (((aJ a).size:Nat):Int)) (v':= no ((a.length:Nat):Int)) (by rw [cX]) (mv 1 J (a7 (aD (sr (mv 1 J ?_)))))))))))))
 refine a7 (bO ?_)
 refine d8 (T:=a6×Nat)
  (fun⟨wr,i⟩=> [(0,.string (aJ a)),(2,i5 g1 0),(4,no ((a.length:Nat):Int)),(5,no i)])
  (fun⟨wr,i⟩=>wr)
  (fun⟨wr,i⟩=>(Ext w wr)∧(Bk wr g1 52 [F0,S0,F0,S0])∧(i≤a.length))
  (fun⟨wr,i⟩=>a.length-i)
  (⟨v2,0⟩:a6×Nat) ⟨p,bi,(bJ _)⟩ J ⟨rfl,rfl,rfl,rfl,AT⟩ ?_
 rintro⟨wr,i⟩ ⟨p,aa,hi⟩
 refine cR [(0,.string (aJ a)),(2,i5 g1 0),(4,no ((a.length:Nat):Int)),(5,no i)] wr J ⟨rfl,rfl,rfl,rfl,AT⟩ (aD (aD ?_))
 by_cases ct:i<a.length
 ·refine aF (mv 2 J (cS J J (v:= no (((aJ a).size:Nat):Int)) (v':= no ((a.length:Nat):Int)) (by rw [cX]) (aI J J J true (eD (a:=i) (b:=a.length) J J) (a7 (aW J (aY (aO (aD (bO (aD ?_))))))))))
  have en:=LK ha ct
  refine aF (mv 2 J (dM (bs:=a) (i:=i) J J J Tryz.underlying9 bj (aI J J J false (eR (a:=a.getD i 0) (b:=47) J J) (a7 (aQ J (aY (bQ (aO (aF (mv 1 J (aR J J J ((i+1:Nat):Int) (cA (a:=i) (b:=1) J J) (mv 1 J (aX ?_)))))))))))))
  refine cM (⟨wr,i+1⟩:a6×Nat) ⟨p,aa,(by omega)⟩ (show a.length-(i+1)<a.length-i by omega) J ⟨rfl,rfl,rfl,rfl,AT⟩
 ·have ey:i=a.length:=by omega
  refine aF (mv 2 J (cS J J (v:= no (((aJ a).size:Nat):Int)) (v':= no ((a.length:Nat):Int)) (by rw [cX]) (aI J J J false (eE (a:=i) (b:=a.length) J J) (a7 (aQ J (d4 (cU (cY (cZ (aO (aD ?_)))))))))))
  have ch:(a).take a.length=a:=by exact List.take_of_length_le (aZ _)
  refine aF (mv 2 J (o8 (bs:=a) (i:=a.length) J J J Tryz.underlying9 (cl (vs:= [.string (aJ (a.take a.length))]) p (tM p.size ch (fun b hb=>(ha b hb).1)) J (by kernel_rfl) fun _ _ r8 e7 dw=>?_)))
  obtain⟨_,_,rfl,⟨r,o,q,h,rfl,aj⟩,rfl⟩:=r8
  refine mv 1 J (pu (v:= O r o q h) J (pu (v:= no (rE a)) J (bL [F0,S0] dw (aa.ext e7).lt (fun _=>by kernel_rfl) J fun _ _ F ai _ ak bm=>(so aA F (a5 r o q h) bm ai J J J J fun _ am ar H=>(mv 1 J (a7 (aD (sr (mv 1 J (aI J J J false (lI he) (a7 (aQ J (aY ?_)))))))))))))
  refine aO (aD (sr (mv 2 J (cS J J (v:= no (((aJ a).size:Nat):Int)) (v':= no ((a.length:Nat):Int)) (by rw [cX]) (aI J J J true (fF (a:=a.length) (b:=a.length) J J) (a7 (aW J (aD ?_))))))))
  refine dG bY 5 [3,4] [Is (O r o q h),ZR w.heap.size (1),T2 (FR w.heap.size (bP (rV a) 1) (bS (rV a) 1)) (Is (no (bI 1))),fun v' w'=>∃s0 A0 n0 c0 s1 A1 n1 c1,v'= a9 s0 A0 n0 c0 s1 A1 n1 c1∧Zr w' w.heap.size s0 A0 n0 c0 (bP (rV a) 1)∧Zr w' w.heap.size s1 A1 n1 c1 (bS (rV a) 1),Is (no (bI 1))] [[],[],[0,1],[2],[2]] [[],[],[0,1],[0,1,2],[0,1,2],[0,1,2,3,4],[0,1,2,3,4,5]] rfl
   (aH J J (aE J J ?_) (aH J J (aE J J ?_) (aH J J (aE J J ?_) (fD J J (fE J ?_) (fD J J (fE J ?_) d9))))) ?_
  ·exact fun _ cu=>aC (lo aA (am.ext cu) (a5 r o q h) J J J (aG J aL J))
  ·intro _ cj
   have f:=H.trans cj
   refine aC (cl (vs:= [no 1]) f (lK (n:=1) f.size) J (by kernel_rfl) fun _ _ df bu W=>?_)
   obtain⟨_,_,_,_,rfl,cv⟩:=df
   exact aG J bu ⟨_,_,_,_,rfl,cv⟩
  ·intro _ bg
   have f:=H.trans bg
   refine dk J J (aT J J fun _ _ ei pU dm=>?_)
   obtain⟨dz,dh,cz,ck,rfl,D⟩:=ei
   have D:=D.ext dm
   refine aC (cl (vs:= [O r o q h,O dz dh cz ck]) f (pL f.size (((aj.ext ak).updT F ar).ext bg).zi (aj.le (a8 (tF hla) (by decide))) D.zi (D.le (a8 (show ln 1≤1 by decide+kernel) (by decide)))) J (by kernel_rfl) fun _ _ ef bp W=>?_)
   obtain⟨_,_,rfl,⟨_,_,_,_,_,_,_,_,rfl,eg,du⟩,rfl⟩:=ef
   exact aG J bp ⟨_,_,rfl,⟨_,_,_,_,_,_,_,_,rfl,eg,du⟩,rfl⟩
  ·intro _ _
   refine aT J J fun _ _ cp _ bd=>?_
   obtain⟨_,_,rfl,⟨dy,eh,dx,bw,dr,de,dt,bo,rfl,ah,V⟩,rfl⟩:=cp
   have ah:=ah.ext bd
   have V:=V.ext bd
   refine aC ?_
   exact⟨a9 dy eh dx bw dr de dt bo,rfl,rfl,fun _=>by kernel_rfl,⟨_,_,_,_,_,_,_,_,rfl,ah,V⟩⟩
  ·intro _ _
   refine aT J J fun _ _ cm _ aq=>?_
   obtain⟨_,_,rfl,⟨_,_,_,_,_,_,_,_,rfl,az,ap⟩,rfl⟩:=cm
   have az:=az.ext aq
   have ap:=ap.ext aq
   refine aC ?_
   exact⟨no (bI 1),rfl,rfl,fun _=>by kernel_rfl,rfl⟩
  ·intro _ ba
   have f:=H.trans ba
   refine dk J J (aT J J fun _ _ ej _ bh=>?_)
   obtain⟨_,_,_,_,rfl,ao⟩:=ej
   have ao:=ao.ext bh
   refine aT J J fun _ _ ci _ bf=>?_
   obtain⟨_,_,rfl,⟨_,_,_,_,_,_,_,_,rfl,aw,au⟩,rfl⟩:=ci
   have aw:=aw.ext bf
   have au:=au.ext bf
   refine aT J J fun _ _ dl _ av=>?_
   obtain⟨ab,L,X,G,ag,Y,Z,I,rfl,ae,U⟩:=dl
   have ae:=ae.ext av
   have U:=U.ext av
   refine dk J J (aC ?_)
   have e:=(((aa.ext (e7.t ak)).vN ar).ext ba)
   refine so bC e [.bool ab,we L X G,.bool ag,we Y Z I] f dg J J J J fun _ M E W=>(mv 1 J (aX (dC (aO (aV (bR (aU [a9 ab L X G ag Y Z I,no (bI 1)] J ⟨⟨_,rfl,bH bC M [.bool ab,we L X G,.bool ag,we Y Z I] J (bq J) rfl⟩,rfl,AT⟩ ?_)))))))
   exact⟨_,rfl,⟨_,_,rfl,⟨_,_,_,_,_,_,_,_,rfl,((ae.updT e E)).mono hb00,((U.updT e E)).mono hb00⟩,rfl⟩,W⟩
theorem T0 (hb00:b00≤w.heap.size)(ha:∀x,x∈a→x<256∧x≠47)(hla:a.length≤1048576)(he:rE a=7):aP aN 91 #[.string (aJ a)] w (Gv w (T2 (FR b00 0 0) (Is (no 7)))):=by
 have L:∀x,x∈a→x<256:=fun x hx=>(ha x hx).1
 refine bN Tryz.func91 J (n:=73) J (bq J) (args:= [.string (aJ a)]) (bG [(0,.string (aJ a))] ⟨rfl,AT⟩ (sr (al [F0,S0,F0,S0] (Ext.refl w) (fun _=>by kernel_rfl) J fun Z v2 I H _ e=>(mv 1 J (a7 (sr (mv 1 J (cS J J (v:= no (((aJ a).size:Nat):Int)) (v':= no ((a.length:Nat):Int)) (by rw [cX]) (mv 1 J (a7 (aD (sr (mv 1 J ?_)))))))))))))
 refine a7 (bO ?_)
 refine d8 (T:=a6×Nat)
  (fun⟨wr,i⟩=> [(0,.string (aJ a)),(2,i5 Z 0),(4,no ((a.length:Nat):Int)),(5,no i)])
  (fun⟨wr,i⟩=>wr)
  (fun⟨wr,i⟩=>(Ext w wr)∧(Bk wr Z 52 [F0,S0,F0,S0])∧(i≤a.length))
  (fun⟨wr,i⟩=>a.length-i)
  (⟨v2,0⟩:a6×Nat) ⟨e,I,(bJ _)⟩ J ⟨rfl,rfl,rfl,rfl,AT⟩ ?_
 rintro⟨wr,i⟩ ⟨e,f,hi⟩
 refine cR [(0,.string (aJ a)),(2,i5 Z 0),(4,no ((a.length:Nat):Int)),(5,no i)] wr J ⟨rfl,rfl,rfl,rfl,AT⟩ (aD (aD ?_))
 by_cases W:i<a.length
 ·refine aF (mv 2 J (cS J J (v:= no (((aJ a).size:Nat):Int)) (v':= no ((a.length:Nat):Int)) (by rw [cX]) (aI J J J true (eD (a:=i) (b:=a.length) J J) (a7 (aW J (aY (aO (aD (bO (aD ?_))))))))))
  have ae:=LK ha W
  refine aF (mv 2 J (dM (bs:=a) (i:=i) J J J Tryz.underlying9 L (aI J J J false (eR (a:=a.getD i 0) (b:=47) J J) (a7 (aQ J (aY (bQ (aO (aF (mv 1 J (aR J J J ((i+1:Nat):Int) (cA (a:=i) (b:=1) J J) (mv 1 J (aX ?_)))))))))))))
  refine cM (⟨wr,i+1⟩:a6×Nat) ⟨e,f,(by omega)⟩ (show a.length-(i+1)<a.length-i by omega) J ⟨rfl,rfl,rfl,rfl,AT⟩
 ·have ah:i=a.length:=by omega
  refine aF (mv 2 J (cS J J (v:= no (((aJ a).size:Nat):Int)) (v':= no ((a.length:Nat):Int)) (by rw [cX]) (aI J J J false (eE (a:=i) (b:=a.length) J J) (a7 (aQ J (d4 (cU (cY (cZ (aO (aD ?_)))))))))))
  have Y:(a).take a.length=a:=by exact List.take_of_length_le (aZ _)
  refine aF (mv 2 J (o8 (bs:=a) (i:=a.length) J J J Tryz.underlying9 (cl (vs:= [.string (aJ (a.take a.length))]) e (tM e.size Y (fun b hb=>(ha b hb).1)) J (by kernel_rfl) fun _ _ r8 e7 aa=>?_)))
  obtain⟨_,_,rfl,⟨r,D,q,p,rfl,_⟩,rfl⟩:=r8
  refine mv 1 J (pu (v:= O r D q p) J (pu (v:= no (rE a)) J (bL [F0,S0] aa (f.ext e7).lt (fun _=>by kernel_rfl) J fun _ _ F h _ X M=>(so aA F (a5 r D q p) M h J J J J fun _ _ V U=>(mv 1 J (a7 (aD (sr (mv 1 J (aI J J J true (nF) (a7 (aW J (aD ?_)))))))))))))
  refine aF (pu (v:= .agg #[F0,S0,F0,S0]) J ?_)
  have E:=((f.ext (e7.t X)).vN V)
  refine so bC E [F0,S0,F0,S0] U H J J J J fun _ o _ G=>(mv 1 J (a7 (aV (bR (aU [.agg #[F0,S0,F0,S0],no 7] J ⟨⟨_,rfl,bH bC o [F0,S0,F0,S0] J (bq J) rfl⟩,rfl,AT⟩ ?_)))))
  exact⟨_,rfl,⟨_,_,rfl,⟨_,_,_,_,_,_,_,_,rfl,Zr.zero,Zr.zero⟩,rfl⟩,G⟩
theorem SY {b:List Nat}(hb00:b00≤w.heap.size)(ha:∀x,x∈a→x<256∧x≠47)(hla:a.length≤1048576)(hb:∀x,x∈b→x<256)(hlb:b.length≤1048576)(he:rE a=7):aP aN 91 #[.string (aJ (a++47::b))] w (Gv w (T2 (FR b00 0 0) (Is (no 7)))):=by
 have ah:(a++47::b).length=a.length+1+b.length:=by simp;omega
 have o:=zC ha hb
 refine bN Tryz.func91 J (n:=73) J (bq J) (args:= [.string (aJ (a++47::b))]) (bG [(0,.string (aJ (a++47::b)))] ⟨rfl,AT⟩ (sr (al [F0,S0,F0,S0] (Ext.refl w) (fun _=>by kernel_rfl) J fun g1 v2 M L _ e=>(mv 1 J (a7 (sr (mv 1 J (cS J J (v:= no (((aJ (a++47::b)).size:Nat):Int)) (v':= no (((a++47::b).length:Nat):Int)) (by rw [cX]) (mv 1 J (a7 (aD (sr (mv 1 J ?_)))))))))))))
 refine a7 (bO ?_)
 refine d8 (T:=a6×Nat)
  (fun⟨wr,i⟩=> [(0,.string (aJ (a++47::b))),(2,i5 g1 0),(4,no (((a++47::b).length:Nat):Int)),(5,no i)])
  (fun⟨wr,i⟩=>wr)
  (fun⟨wr,i⟩=>(Ext w wr)∧(Bk wr g1 52 [F0,S0,F0,S0])∧(i≤a.length))
  (fun⟨wr,i⟩=>a.length-i)
  (⟨v2,0⟩:a6×Nat) ⟨e,M,(bJ _)⟩ J ⟨rfl,rfl,rfl,rfl,AT⟩ ?_
 rintro⟨wr,i⟩ ⟨e,f,hi⟩
 refine cR [(0,.string (aJ (a++47::b))),(2,i5 g1 0),(4,no (((a++47::b).length:Nat):Int)),(5,no i)] wr J ⟨rfl,rfl,rfl,rfl,AT⟩ (aD (sr (mv 2 J (cS J J (v:= no (((aJ (a++47::b)).size:Nat):Int)) (v':= no (((a++47::b).length:Nat):Int)) (by rw [cX]) (aI J J J true (eD (a:=i) (b:=(a++47::b).length) J J) (a7 (aW J (aY (aO (aD (bO (aD ?_))))))))))))
 by_cases X:i<a.length
 ·have ag:=zA (b:=b) ha X
  refine aF (mv 2 J (dM (bs:=a++47::b) (i:=i) J J J Tryz.underlying9 o (aI J J J false (eR (a:=(a++47::b).getD i 0) (b:=47) J J) (a7 (aQ J (aY (bQ (aO (aF (mv 1 J (aR J J J ((i+1:Nat):Int) (cA (a:=i) (b:=1) J J) (mv 1 J (aX ?_)))))))))))))
  refine cM (⟨wr,i+1⟩:a6×Nat) ⟨e,f,(by omega)⟩ (show a.length-(i+1)<a.length-i by omega) J ⟨rfl,rfl,rfl,rfl,AT⟩
 ·have F:i=a.length:=by omega
  have ak:(a++47::b).getD i 0=47:=by rw [F];exact zB a b
  refine aF (mv 2 J (dM (bs:=a++47::b) (i:=i) J J J Tryz.underlying9 o (aI J J J true (fF (a:=(a++47::b).getD i 0) (b:=47) J J) (a7 (aW J (sr (mv 2 J (a7 (d4 (rR (cU (cY (cZ ?_)))))))))))))
  refine aO (aD ?_)
  have Z:(a++47::b).take i=a:=by rw [F,List.take_left]
  refine aF (mv 2 J (o8 (bs:=a++47::b) (i:=i) J J J Tryz.underlying9 (cl (vs:= [.string (aJ ((a++47::b).take i))]) e (tM e.size Z (fun b hb=>(ha b hb).1)) J (by kernel_rfl) fun _ _ r8 e7 ab=>?_)))
  obtain⟨_,_,rfl,⟨D,E,r,q,rfl,_⟩,rfl⟩:=r8
  refine mv 1 J (pu (v:= O D E r q) J (pu (v:= no (rE a)) J (bL [F0,S0] ab (f.ext e7).lt (fun _=>by kernel_rfl) J fun _ _ H h _ Y U=>(so aA H (a5 D E r q) U h J J J J fun _ _ W V=>(mv 1 J (a7 (aD (sr (mv 1 J (aI J J J true (nF) (a7 (aW J (aD ?_)))))))))))))
  refine aF (pu (v:= .agg #[F0,S0,F0,S0]) J ?_)
  have G:=((f.ext (e7.t Y)).vN W)
  refine so bC G [F0,S0,F0,S0] V L J J J J fun _ p _ I=>(mv 1 J (a7 (aV (bR (aU [.agg #[F0,S0,F0,S0],no 7] J ⟨⟨_,rfl,bH bC p [F0,S0,F0,S0] J (bq J) rfl⟩,rfl,AT⟩ ?_)))))
  exact⟨_,rfl,⟨_,_,rfl,⟨_,_,_,_,_,_,_,_,rfl,Zr.zero,Zr.zero⟩,rfl⟩,I⟩
theorem I8 {b:List Nat}(hb00:b00≤w.heap.size)(ha:∀x,x∈a→x<256∧x≠47)(hla:a.length≤1048576)(hb:∀x,x∈b→x<256)(hlb:b.length≤1048576)(he:rE a=0)(hf:b= []∨b.getD 0 0<48∨57<b.getD 0 0):aP aN 91 #[.string (aJ (a++47::b))] w (Gv w (T2 (FR b00 0 0) (Is (no 7)))):=by
 have au:(a++47::b).length=a.length+1+b.length:=by simp;omega
 have V:=zC ha hb
 refine bN Tryz.func91 J (n:=73) J (bq J) (args:= [.string (aJ (a++47::b))]) (bG [(0,.string (aJ (a++47::b)))] ⟨rfl,AT⟩ (sr (al [F0,S0,F0,S0] (Ext.refl w) (fun _=>by kernel_rfl) J fun g1 v2 ai F _ o=>(mv 1 J (a7 (sr (mv 1 J (cS J J (v:= no (((aJ (a++47::b)).size:Nat):Int)) (v':= no (((a++47::b).length:Nat):Int)) (by rw [cX]) (mv 1 J (a7 (aD (sr (mv 1 J ?_)))))))))))))
 refine a7 (bO ?_)
 refine d8 (T:=a6×Nat)
  (fun⟨wr,i⟩=> [(0,.string (aJ (a++47::b))),(2,i5 g1 0),(4,no (((a++47::b).length:Nat):Int)),(5,no i)])
  (fun⟨wr,i⟩=>wr)
  (fun⟨wr,i⟩=>(Ext w wr)∧(Bk wr g1 52 [F0,S0,F0,S0])∧(i≤a.length))
  (fun⟨wr,i⟩=>a.length-i)
  (⟨v2,0⟩:a6×Nat) ⟨o,ai,(bJ _)⟩ J ⟨rfl,rfl,rfl,rfl,AT⟩ ?_
 rintro⟨wr,i⟩ ⟨o,r,hi⟩
 refine cR [(0,.string (aJ (a++47::b))),(2,i5 g1 0),(4,no (((a++47::b).length:Nat):Int)),(5,no i)] wr J ⟨rfl,rfl,rfl,rfl,AT⟩ (aD (sr (mv 2 J (cS J J (v:= no (((aJ (a++47::b)).size:Nat):Int)) (v':= no (((a++47::b).length:Nat):Int)) (by rw [cX]) (aI J J J true (eD (a:=i) (b:=(a++47::b).length) J J) (a7 (aW J (aY (aO (aD (bO (aD ?_))))))))))))
 by_cases ao:i<a.length
 ·have ar:=zA (b:=b) ha ao
  refine aF (mv 2 J (dM (bs:=a++47::b) (i:=i) J J J Tryz.underlying9 V (aI J J J false (eR (a:=(a++47::b).getD i 0) (b:=47) J J) (a7 (aQ J (aY (bQ (aO (aF (mv 1 J (aR J J J ((i+1:Nat):Int) (cA (a:=i) (b:=1) J J) (mv 1 J (aX ?_)))))))))))))
  refine cM (⟨wr,i+1⟩:a6×Nat) ⟨o,r,(by omega)⟩ (show a.length-(i+1)<a.length-i by omega) J ⟨rfl,rfl,rfl,rfl,AT⟩
 ·have I:i=a.length:=by omega
  have bd:(a++47::b).getD i 0=47:=by rw [I];exact zB a b
  refine aF (mv 2 J (dM (bs:=a++47::b) (i:=i) J J J Tryz.underlying9 V (aI J J J true (fF (a:=(a++47::b).getD i 0) (b:=47) J J) (a7 (aW J (sr (mv 2 J (a7 (d4 (rR (cU (cY (cZ ?_)))))))))))))
  refine aO (aD ?_)
  have ap:(a++47::b).take i=a:=by rw [I,List.take_left]
  refine aF (mv 2 J (o8 (bs:=a++47::b) (i:=i) J J J Tryz.underlying9 (cl (vs:= [.string (aJ ((a++47::b).take i))]) o (tM o.size ap (fun b hb=>(ha b hb).1)) J (by kernel_rfl) fun _ _ r8 e7 aq=>?_)))
  obtain⟨_,_,rfl,⟨D,E,p,q,rfl,_⟩,rfl⟩:=r8
  refine mv 1 J (pu (v:= O D E p q) J (pu (v:= no (rE a)) J (bL [F0,S0] aq (r.ext e7).lt (fun _=>by kernel_rfl) J fun aj _ ae M _ L am=>(so aA ae (a5 D E p q) am M J J J J fun _ _ H G=>(mv 1 J (a7 (aD (sr (mv 1 J (aI J J J false (lI he) (a7 (aQ J (aY ?_)))))))))))))
  refine aO (aD (sr (mv 2 J (cS J J (v:= no (((aJ (a++47::b)).size:Nat):Int)) (v':= no (((a++47::b).length:Nat):Int)) (by rw [cX]) (aI J J J false (eR (a:=i) (b:=(a++47::b).length) J J) (a7 (aQ J (aY (aO (sr (mv 2 J (aR J J J ((i+1:Nat):Int) (cA (a:=i) (b:=1) J J) (pC (bs:=a++47::b) (i:=i+1) J J J Tryz.underlying9 ?_)))))))))))))
  refine mv 1 J (a7 (aD (aD ?_)))
  have ak:(a++47::b).drop (i+1)=b:=by rw [I];exact DN a b
  refine bG [(0,.string (aJ (a++47::b))),(2,i5 g1 0),(4,no i),(5,no i),(13,no i),(14,.string (aJ (a++47::b))),(15,no (((a++47::b).length:Nat):Int)),(16,AI),(19,.string (aJ (a++47::b))),(20,no i),(21,.int .u8 (((a++47::b).getD i 0:Nat):Int)),(22,AI),(23,no i),(25,.string (aJ (a++47::b))),(26,no i),(27,.string (aJ ((a++47::b).take i))),(28,.tuple #[O D E p q,no (rE a)]),(24,.tuple #[O D E p q,no (rE a)]),(29,O D E p q),(30,no (rE a)),(6,i5 aj 0),(7,no (rE a)),(31,no (rE a)),(32,AS),(34,no i),(35,.string (aJ (a++47::b))),(36,no (((a++47::b).length:Nat):Int)),(37,AS),(43,.string (aJ (a++47::b))),(44,no i),(45,no ((i+1:Nat):Int)),(46,.string (aJ ((a++47::b).drop (i+1)))),(8,.string (aJ ((a++47::b).drop (i+1))))] ⟨rfl,rfl,rfl,rfl,rfl,rfl,rfl,rfl,rfl,rfl,rfl,rfl,rfl,rfl,rfl,rfl,rfl,rfl,rfl,rfl,rfl,rfl,rfl,rfl,rfl,rfl,rfl,rfl,rfl,rfl,rfl,rfl,rfl,AT⟩ ?_
  rw [ak]
  by_cases e:b= []
  ·refine aF (mv 1 J (mH (a:=b) (b:= []) J J J hb true (xE (e)) (mv 4 J (pu (v:= AI) J (mv 4 J (pu (v:= AI) J (a7 (aW J (sr (pu (v:= .agg #[F0,S0,F0,S0]) J ?_))))))))))
   have ab:=((r.ext (e7.t L)).vN H)
   refine so bC ab [F0,S0,F0,S0] G F J J J J fun _ Y _ f=>(mv 1 J (a7 (aV (bR (aU [.agg #[F0,S0,F0,S0],no 7] J ⟨⟨_,rfl,bH bC Y [F0,S0,F0,S0] J (bq J) rfl⟩,rfl,AT⟩ ?_)))))
   exact⟨_,rfl,⟨_,_,rfl,⟨_,_,_,_,_,_,_,_,rfl,Zr.zero,Zr.zero⟩,rfl⟩,f⟩
  ·by_cases ba:b.getD 0 0<48
   ·have W:0<b.length:=List.length_pos_iff.2 e
    refine aF (mv 1 J (mH (a:=b) (b:= []) J J J hb false (qR (e)) (mv 2 J (dM (bs:=b) (i:=0) J J J Tryz.underlying9 hb (aI J J J true (eD (a:=b.getD 0 0) (b:=48) J J) (pu (v:= AI) J (mv 4 J (pu (v:= AI) J (a7 (aW J (sr (pu (v:= .agg #[F0,S0,F0,S0]) J ?_))))))))))))
    have U:=((r.ext (e7.t L)).vN H)
    refine so bC U [F0,S0,F0,S0] G F J J J J fun _ Z _ f=>(mv 1 J (a7 (aV (bR (aU [.agg #[F0,S0,F0,S0],no 7] J ⟨⟨_,rfl,bH bC Z [F0,S0,F0,S0] J (bq J) rfl⟩,rfl,AT⟩ ?_)))))
    exact⟨_,rfl,⟨_,_,rfl,⟨_,_,_,_,_,_,_,_,rfl,Zr.zero,Zr.zero⟩,rfl⟩,f⟩
   ·have az:57<b.getD 0 0:=by rcases hf with h | h | h;exact absurd h e;omega;exact h
    have W:0<b.length:=List.length_pos_iff.2 e
    refine aF (mv 1 J (mH (a:=b) (b:= []) J J J hb false (qR (e)) (mv 2 J (dM (bs:=b) (i:=0) J J J Tryz.underlying9 hb (aI J J J false (eE (a:=b.getD 0 0) (b:=48) J J) (pu (v:= AS) J (mv 2 J (dM (bs:=b) (i:=0) J J J Tryz.underlying9 hb (aI J J J true (eW (a:=b.getD 0 0) (b:=57) J J) (pu (v:= AI) J (a7 (aW J (aD ?_)))))))))))))
    refine aF (pu (v:= .agg #[F0,S0,F0,S0]) J ?_)
    have aa:=((r.ext (e7.t L)).vN H)
    refine so bC aa [F0,S0,F0,S0] G F J J J J fun _ X _ f=>(mv 1 J (a7 (aV (bR (aU [.agg #[F0,S0,F0,S0],no 7] J ⟨⟨_,rfl,bH bC X [F0,S0,F0,S0] J (bq J) rfl⟩,rfl,AT⟩ ?_)))))
    exact⟨_,rfl,⟨_,_,rfl,⟨_,_,_,_,_,_,_,_,rfl,Zr.zero,Zr.zero⟩,rfl⟩,f⟩
theorem SX {b:List Nat}(hb00:b00≤w.heap.size)(ha:∀x,x∈a→x<256∧x≠47)(hla:a.length≤1048576)(hb:∀x,x∈b→x<256)(hlb:b.length≤1048576)(he:rE a=0)(hb0:b≠ [])(hd:48≤b.getD 0 0∧b.getD 0 0≤57)(hg:¬eM 10 b):aP aN 91 #[.string (aJ (a++47::b))] w (Gv w (T2 (FR b00 0 0) (Is (no 7)))):=by
 have bi:(a++47::b).length=a.length+1+b.length:=by simp;omega
 have L:=zC ha hb
 refine bN Tryz.func91 J (n:=73) J (bq J) (args:= [.string (aJ (a++47::b))]) (bG [(0,.string (aJ (a++47::b)))] ⟨rfl,AT⟩ (sr (al [F0,S0,F0,S0] (Ext.refl w) (fun _=>by kernel_rfl) J fun g1 v2 aj ag _ e=>(mv 1 J (a7 (sr (mv 1 J (cS J J (v:= no (((aJ (a++47::b)).size:Nat):Int)) (v':= no (((a++47::b).length:Nat):Int)) (by rw [cX]) (mv 1 J (a7 (aD (sr (mv 1 J ?_)))))))))))))
 refine a7 (bO ?_)
 refine d8 (T:=a6×Nat)
  (fun⟨wr,i⟩=> [(0,.string (aJ (a++47::b))),(2,i5 g1 0),(4,no (((a++47::b).length:Nat):Int)),(5,no i)])
  (fun⟨wr,i⟩=>wr)
  (fun⟨wr,i⟩=>(Ext w wr)∧(Bk wr g1 52 [F0,S0,F0,S0])∧(i≤a.length))
  (fun⟨wr,i⟩=>a.length-i)
  (⟨v2,0⟩:a6×Nat) ⟨e,aj,(bJ _)⟩ J ⟨rfl,rfl,rfl,rfl,AT⟩ ?_
 rintro⟨wr,i⟩ ⟨e,D,hi⟩
 refine cR [(0,.string (aJ (a++47::b))),(2,i5 g1 0),(4,no (((a++47::b).length:Nat):Int)),(5,no i)] wr J ⟨rfl,rfl,rfl,rfl,AT⟩ (aD (sr (mv 2 J (cS J J (v:= no (((aJ (a++47::b)).size:Nat):Int)) (v':= no (((a++47::b).length:Nat):Int)) (by rw [cX]) (aI J J J true (eD (a:=i) (b:=(a++47::b).length) J J) (a7 (aW J (aY (aO (aD (bO (aD ?_))))))))))))
 by_cases ar:i<a.length
 ·have bh:=zA (b:=b) ha ar
  refine aF (mv 2 J (dM (bs:=a++47::b) (i:=i) J J J Tryz.underlying9 L (aI J J J false (eR (a:=(a++47::b).getD i 0) (b:=47) J J) (a7 (aQ J (aY (bQ (aO (aF (mv 1 J (aR J J J ((i+1:Nat):Int) (cA (a:=i) (b:=1) J J) (mv 1 J (aX ?_)))))))))))))
  refine cM (⟨wr,i+1⟩:a6×Nat) ⟨e,D,(by omega)⟩ (show a.length-(i+1)<a.length-i by omega) J ⟨rfl,rfl,rfl,rfl,AT⟩
 ·have E:i=a.length:=by omega
  have bo:(a++47::b).getD i 0=47:=by rw [E];exact zB a b
  refine aF (mv 2 J (dM (bs:=a++47::b) (i:=i) J J J Tryz.underlying9 L (aI J J J true (fF (a:=(a++47::b).getD i 0) (b:=47) J J) (a7 (aW J (sr (mv 2 J (a7 (d4 (rR (cU (cY (cZ ?_)))))))))))))
  refine aO (aD ?_)
  have ba:(a++47::b).take i=a:=by rw [E,List.take_left]
  refine aF (mv 2 J (o8 (bs:=a++47::b) (i:=i) J J J Tryz.underlying9 (cl (vs:= [.string (aJ ((a++47::b).take i))]) e (tM e.size ba (fun b hb=>(ha b hb).1)) J (by kernel_rfl) fun _ _ r8 e7 bd=>?_)))
  obtain⟨_,_,rfl,⟨p,q,o,f,rfl,_⟩,rfl⟩:=r8
  refine mv 1 J (pu (v:= O p q o f) J (pu (v:= no (rE a)) J (bL [F0,S0] bd (D.ext e7).lt (fun _=>by kernel_rfl) J fun ak _ Z G _ au ao=>(so aA Z (a5 p q o f) ao G J J J J fun _ X ap M=>(mv 1 J (a7 (aD (sr (mv 1 J (aI J J J false (lI he) (a7 (aQ J (aY ?_)))))))))))))
  refine aO (aD (sr (mv 2 J (cS J J (v:= no (((aJ (a++47::b)).size:Nat):Int)) (v':= no (((a++47::b).length:Nat):Int)) (by rw [cX]) (aI J J J false (eR (a:=i) (b:=(a++47::b).length) J J) (a7 (aQ J (aY (aO (sr (mv 2 J (aR J J J ((i+1:Nat):Int) (cA (a:=i) (b:=1) J J) (pC (bs:=a++47::b) (i:=i+1) J J J Tryz.underlying9 ?_)))))))))))))
  refine mv 1 J (a7 (aD (aD ?_)))
  have am:(a++47::b).drop (i+1)=b:=by rw [E];exact DN a b
  refine bG [(0,.string (aJ (a++47::b))),(2,i5 g1 0),(4,no i),(5,no i),(13,no i),(14,.string (aJ (a++47::b))),(15,no (((a++47::b).length:Nat):Int)),(16,AI),(19,.string (aJ (a++47::b))),(20,no i),(21,.int .u8 (((a++47::b).getD i 0:Nat):Int)),(22,AI),(23,no i),(25,.string (aJ (a++47::b))),(26,no i),(27,.string (aJ ((a++47::b).take i))),(28,.tuple #[O p q o f,no (rE a)]),(24,.tuple #[O p q o f,no (rE a)]),(29,O p q o f),(30,no (rE a)),(6,i5 ak 0),(7,no (rE a)),(31,no (rE a)),(32,AS),(34,no i),(35,.string (aJ (a++47::b))),(36,no (((a++47::b).length:Nat):Int)),(37,AS),(43,.string (aJ (a++47::b))),(44,no i),(45,no ((i+1:Nat):Int)),(46,.string (aJ ((a++47::b).drop (i+1)))),(8,.string (aJ ((a++47::b).drop (i+1))))] ⟨rfl,rfl,rfl,rfl,rfl,rfl,rfl,rfl,rfl,rfl,rfl,rfl,rfl,rfl,rfl,rfl,rfl,rfl,rfl,rfl,rfl,rfl,rfl,rfl,rfl,rfl,rfl,rfl,rfl,rfl,rfl,rfl,rfl,AT⟩ ?_
  rw [am]
  have bf:0<b.length:=List.length_pos_iff.2 hb0
  refine aF (mv 1 J (mH (a:=b) (b:= []) J J J hb false (qR (hb0)) (mv 2 J (dM (bs:=b) (i:=0) J J J Tryz.underlying9 hb (aI J J J false (eE (a:=b.getD 0 0) (b:=48) J J) (pu (v:= AS) J (mv 2 J (dM (bs:=b) (i:=0) J J J Tryz.underlying9 hb (aI J J J false (fS (a:=b.getD 0 0) (b:=57) J J) (pu (v:= AS) J (a7 (aQ J (aY ?_)))))))))))))
  refine aO (sr (mv 1 J (dQ J J (vs:= [.string (aJ b)]) (by kernel_rfl) (by decide) (by have h:=D3 (b:=w.heap.size) M.size hb hlb;rw [SP hb0 hd hg] at h;exact h) ?_)))
  rintro _ _ ⟨_,rfl,ai,r⟩
  refine dR ?_
  have ae:=M.trans r
  obtain⟨_,_,rfl,⟨W,H,I,aa,rfl,_⟩,rfl⟩:=ai
  refine mv 1 J (pu (v:= O W H I aa) J (pu (v:= no 7) J (bL [F0,S0] ae (X.ext r).lt (fun _=>by kernel_rfl) J fun _ _ U V _ ah az=>(so aA U (a5 W H I aa) az V J J J J fun _ _ aw aq=>(mv 1 J (a7 (aD (sr (mv 1 J (aI J J J true (by decide) (a7 (aW J (aD ?_)))))))))))))
  refine aF (pu (v:= .agg #[F0,S0,F0,S0]) J ?_)
  have F:=((((D.ext (e7.t au)).vN ap).ext (r.t ah)).vN aw)
  refine so bC F [F0,S0,F0,S0] aq ag J J J J fun _ Y _ av=>(mv 1 J (a7 (aV (bR (aU [.agg #[F0,S0,F0,S0],no 7] J ⟨⟨_,rfl,bH bC Y [F0,S0,F0,S0] J (bq J) rfl⟩,rfl,AT⟩ ?_)))))
  exact⟨_,rfl,⟨_,_,rfl,⟨_,_,_,_,_,_,_,_,rfl,Zr.zero,Zr.zero⟩,rfl⟩,av⟩
theorem SW {b:List Nat}(hb00:b00≤w.heap.size)(ha:∀x,x∈a→x<256∧x≠47)(hla:a.length≤1048576)(hb:∀x,x∈b→x<256)(hlb:b.length≤1048576)(he:rE a=0)(hb0:b≠ [])(hd:48≤b.getD 0 0∧b.getD 0 0≤57)(hg:eM 10 b):aP aN 91 #[.string (aJ (a++47::b))] w (Gv w (T2 (FR b00 (bP (rV a) ((cB 10 (b.map dv):Nat):Int)) (bS (rV a) ((cB 10 (b.map dv):Nat):Int))) (Is (no (bI ((cB 10 (b.map dv):Nat):Int)))))):=by
 have dg:(a++47::b).length=a.length+1+b.length:=by simp;omega
 have am:=zC ha hb
 have bh:ln ((cB 10 (b.map dv):Nat):Int)≤1048576:=by rw [kP];exact a8 (oM (base:=10) hg.2) hlb
 refine bN Tryz.func91 J (n:=73) J (bq J) (args:= [.string (aJ (a++47::b))]) (bG [(0,.string (aJ (a++47::b)))] ⟨rfl,AT⟩ (sr (al [F0,S0,F0,S0] (Ext.refl w) (fun _=>by kernel_rfl) J fun g1 v2 bg bf _ D=>(mv 1 J (a7 (sr (mv 1 J (cS J J (v:= no (((aJ (a++47::b)).size:Nat):Int)) (v':= no (((a++47::b).length:Nat):Int)) (by rw [cX]) (mv 1 J (a7 (aD (sr (mv 1 J ?_)))))))))))))
 refine a7 (bO ?_)
 refine d8 (T:=a6×Nat)
  (fun⟨wr,i⟩=> [(0,.string (aJ (a++47::b))),(2,i5 g1 0),(4,no (((a++47::b).length:Nat):Int)),(5,no i)])
  (fun⟨wr,i⟩=>wr)
  (fun⟨wr,i⟩=>(Ext w wr)∧(Bk wr g1 52 [F0,S0,F0,S0])∧(i≤a.length))
  (fun⟨wr,i⟩=>a.length-i)
  (⟨v2,0⟩:a6×Nat) ⟨D,bg,(bJ _)⟩ J ⟨rfl,rfl,rfl,rfl,AT⟩ ?_
 rintro⟨wr,i⟩ ⟨D,ah,hi⟩
 refine cR [(0,.string (aJ (a++47::b))),(2,i5 g1 0),(4,no (((a++47::b).length:Nat):Int)),(5,no i)] wr J ⟨rfl,rfl,rfl,rfl,AT⟩ (aD (sr (mv 2 J (cS J J (v:= no (((aJ (a++47::b)).size:Nat):Int)) (v':= no (((a++47::b).length:Nat):Int)) (by rw [cX]) (aI J J J true (eD (a:=i) (b:=(a++47::b).length) J J) (a7 (aW J (aY (aO (aD (bO (aD ?_))))))))))))
 by_cases cp:i<a.length
 ·have df:=zA (b:=b) ha cp
  refine aF (mv 2 J (dM (bs:=a++47::b) (i:=i) J J J Tryz.underlying9 am (aI J J J false (eR (a:=(a++47::b).getD i 0) (b:=47) J J) (a7 (aQ J (aY (bQ (aO (aF (mv 1 J (aR J J J ((i+1:Nat):Int) (cA (a:=i) (b:=1) J J) (mv 1 J (aX ?_)))))))))))))
  refine cM (⟨wr,i+1⟩:a6×Nat) ⟨D,ah,(by omega)⟩ (show a.length-(i+1)<a.length-i by omega) J ⟨rfl,rfl,rfl,rfl,AT⟩
 ·have ai:i=a.length:=by omega
  have de:(a++47::b).getD i 0=47:=by rw [ai];exact zB a b
  refine aF (mv 2 J (dM (bs:=a++47::b) (i:=i) J J J Tryz.underlying9 am (aI J J J true (fF (a:=(a++47::b).getD i 0) (b:=47) J J) (a7 (aW J (sr (mv 2 J (a7 (d4 (rR (cU (cY (cZ ?_)))))))))))))
  refine aO (aD ?_)
  have bu:(a++47::b).take i=a:=by rw [ai,List.take_left]
  refine aF (mv 2 J (o8 (bs:=a++47::b) (i:=i) J J J Tryz.underlying9 (cl (vs:= [.string (aJ ((a++47::b).take i))]) D (tM D.size bu (fun b hb=>(ha b hb).1)) J (by kernel_rfl) fun _ _ r8 e7 bw=>?_)))
  obtain⟨_,_,rfl,⟨f,o,p,e,rfl,ak⟩,rfl⟩:=r8
  refine mv 1 J (pu (v:= O f o p e) J (pu (v:= no (rE a)) J (bL [F0,S0] bw (ah.ext e7).lt (fun _=>by kernel_rfl) J fun cj _ ag aj _ ar bj=>(so aA ag (a5 f o p e) bj aj J J J J fun _ ae av ap=>(mv 1 J (a7 (aD (sr (mv 1 J (aI J J J false (lI he) (a7 (aQ J (aY ?_)))))))))))))
  refine aO (aD (sr (mv 2 J (cS J J (v:= no (((aJ (a++47::b)).size:Nat):Int)) (v':= no (((a++47::b).length:Nat):Int)) (by rw [cX]) (aI J J J false (eR (a:=i) (b:=(a++47::b).length) J J) (a7 (aQ J (aY (aO (sr (mv 2 J (aR J J J ((i+1:Nat):Int) (cA (a:=i) (b:=1) J J) (pC (bs:=a++47::b) (i:=i+1) J J J Tryz.underlying9 ?_)))))))))))))
  refine mv 1 J (a7 (aD (aD ?_)))
  have bi:(a++47::b).drop (i+1)=b:=by rw [ai];exact DN a b
  refine bG [(0,.string (aJ (a++47::b))),(2,i5 g1 0),(4,no i),(5,no i),(13,no i),(14,.string (aJ (a++47::b))),(15,no (((a++47::b).length:Nat):Int)),(16,AI),(19,.string (aJ (a++47::b))),(20,no i),(21,.int .u8 (((a++47::b).getD i 0:Nat):Int)),(22,AI),(23,no i),(25,.string (aJ (a++47::b))),(26,no i),(27,.string (aJ ((a++47::b).take i))),(28,.tuple #[O f o p e,no (rE a)]),(24,.tuple #[O f o p e,no (rE a)]),(29,O f o p e),(30,no (rE a)),(6,i5 cj 0),(7,no (rE a)),(31,no (rE a)),(32,AS),(34,no i),(35,.string (aJ (a++47::b))),(36,no (((a++47::b).length:Nat):Int)),(37,AS),(43,.string (aJ (a++47::b))),(44,no i),(45,no ((i+1:Nat):Int)),(46,.string (aJ ((a++47::b).drop (i+1)))),(8,.string (aJ ((a++47::b).drop (i+1))))] ⟨rfl,rfl,rfl,rfl,rfl,rfl,rfl,rfl,rfl,rfl,rfl,rfl,rfl,rfl,rfl,rfl,rfl,rfl,rfl,rfl,rfl,rfl,rfl,rfl,rfl,rfl,rfl,rfl,rfl,rfl,rfl,rfl,rfl,AT⟩ ?_
  rw [bi]
  have cz:0<b.length:=List.length_pos_iff.2 hb0
  refine aF (mv 1 J (mH (a:=b) (b:= []) J J J hb false (qR (hb0)) (mv 2 J (dM (bs:=b) (i:=0) J J J Tryz.underlying9 hb (aI J J J false (eE (a:=b.getD 0 0) (b:=48) J J) (pu (v:= AS) J (mv 2 J (dM (bs:=b) (i:=0) J J J Tryz.underlying9 hb (aI J J J false (fS (a:=b.getD 0 0) (b:=57) J J) (pu (v:= AS) J (a7 (aQ J (aY ?_)))))))))))))
  refine aO (sr (mv 1 J (dQ J J (vs:= [.string (aJ b)]) (by kernel_rfl) (by decide) (by have h:=D3 (b:=w.heap.size) ap.size hb hlb;rw [(I3 hb0 hd hg).1,(I3 hb0 hd hg).2] at h;exact h) ?_)))
  rintro _ _ ⟨_,rfl,ci,q⟩
  refine dR ?_
  have ch:=ap.trans q
  obtain⟨_,_,rfl,⟨M,W,X,V,rfl,aw⟩,rfl⟩:=ci
  refine mv 1 J (pu (v:= O M W X V) J (pu (v:= no 0) J (bL [F0,S0] ch (ae.ext q).lt (fun _=>by kernel_rfl) J fun _ _ r az _ H ct=>(so aA r (a5 M W X V) ct az J J J J fun _ au Z aq=>(mv 1 J (a7 (aD (sr (mv 1 J (aI J J J false (by decide) (a7 (aQ J (aY ?_)))))))))))))
  refine aO (sr (lo aA ((ae.ext (q.t H)).vN Z) (a5 f o p e) J J J (lo aA au (a5 M W X V) J J J (cl (vs:= [O f o p e,O M W X V]) aq (pL aq.size ((((ak.ext ar).updT ag av).ext (q.t H)).updT r Z).zi (ak.le (a8 (tF hla) (by decide))) ((aw.ext H).updT r Z).zi (aw.le (aK bh J))) J (by kernel_rfl) fun _ _ cu bm bp=>?_))))
  obtain⟨_,_,rfl,⟨F,ab,G,Y,aa,U,L,I,rfl,bo,ck⟩,rfl⟩:=cu
  refine pu (v:= a9 F ab G Y aa U L I) J (pu (v:= no (bI ((cB 10 (b.map dv):Nat):Int))) J ?_)
  have E:=(((((ah.ext (e7.t ar)).vN av).ext (q.t H)).vN Z).ext bm)
  refine so bC E [.bool F,we ab G Y,.bool aa,we U L I] bp bf J J J J fun _ ba ao cm=>(mv 1 J (a7 (aV (aU [a9 F ab G Y aa U L I,no (bI ((cB 10 (b.map dv):Nat):Int))] J ⟨⟨_,rfl,bH bC ba [.bool F,we ab G Y,.bool aa,we U L I] J (bq J) rfl⟩,rfl,AT⟩ ?_))))
  exact⟨_,rfl,⟨_,_,rfl,⟨_,_,_,_,_,_,_,_,rfl,((bo.updT E ao)).mono hb00,((ck.updT E ao)).mono hb00⟩,rfl⟩,cm⟩
theorem OH (m:Nat):(wd m).getD 0 0%2=m%2:=by
 have h:=dA m
 cases hw:wd m with
 | nil=>rw [hw] at h;rw [←h];rfl
 | cons a r=>
  rw [hw] at h
  have e:nv (a::r)=a+WB*nv r:=rfl
  rw [e] at h
  show a%2=m%2
  rw [cP] at h
  omega
theorem Y8 {nd:Nat}(hx:Zi w sa Aa na ca x)(la:na≤1048576)(hy:Zi w sd Ad nd cd y)(ld:nd≤1048576):aP aN 100 #[a9 sa Aa na ca sd Ad nd cd] w (Gv w (T2 (ZR w.heap.size (qF x y)) (Is (no (eZ y))))):=by
 have Lx:ln x≤1048576:=a8 hx.ln la
 have Ly:ln y≤1048576:=a8 hy.ln ld
 refine bN Tryz.func100 J (n:=18) J (bq J) (args:= [a9 sa Aa na ca sd Ad nd cd]) (bG [(0,a9 sa Aa na ca sd Ad nd cd)] ⟨rfl,AT⟩ (sr (bx [.bool sa,we Aa na ca,.bool sd,we Ad nd cd] (Ext.refl w) J J J fun g1 _ F _ _ av=>(bL [F0,S0] av F.lt (fun _=>by kernel_rfl) J fun _ _ Z ae _ e8 p=>(mv 1 J (a7 (sr (pf g1 0 J (lo aA (F.ext e8) (a5 sa Aa na ca) J J J (pf g1 2 J (lo aA (F.ext e8) (a5 sd Ad nd cd) J J J (cl (vs:= [O sa Aa na ca,O sd Ad nd cd]) p (JX p.size (hx.ext p) (aK la J) (hy.ext p) (aK ld J)) J (by kernel_rfl) fun _ _ au Y ak=>?_))))))))))))
 obtain⟨_,_,_,rfl,⟨h,e,f,o,rfl,aj⟩,⟨ab,W,aa,M,rfl,_⟩,rfl⟩:=au
 refine mv 1 J (pu (v:= O h e f o) J (pu (v:= O ab W aa M) J (pu (v:= no (eZ y)) J (bL [F0,S0] ak (Z.ext Y).lt (fun _=>by kernel_rfl) J fun _ _ D U _ X am=>(bL [F0,S0] am D.lt (fun _=>by kernel_rfl) J fun _ _ ah V _ I ai=>?_)))))
 have r:=(D.ext I)
 refine so aA r (a5 h e f o) ai U J J J J fun _ ag H aq=>?_
 have E:=(ah.vN H)
 refine so aA E (a5 ab W aa M) aq V J J J J fun _ _ G ao=>(mv 1 J (a7 (sr (lo aA (ag.vN G) (a5 h e f o) J J J (mv 1 J ?_)))))
 have q:=(((Z.ext (Y.t (X.t I))).vN H).vN G)
 refine so aA q (a5 h e f o) ao ae J J J J fun _ L ar ap=>(mv 1 J (a7 (aV (aU [O h e f o,no (eZ y)] J ⟨⟨_,rfl,bH aA L (a5 h e f o) J (bq J) rfl⟩,rfl,AT⟩ ?_))))
 exact⟨_,rfl,⟨_,_,rfl,⟨_,_,_,_,rfl,((((aj.ext (X.t I)).updT r H).updT E G).updT q ar)⟩,rfl⟩,ap⟩
theorem Y5 {nd:Nat}(hx:Zi w sa Aa na ca x)(la:na≤1048576)(hy:Zi w sd Ad nd cd y)(ld:nd≤1048576)(h0:y=0):aP aN 101 #[a9 sa Aa na ca sd Ad nd cd] w (Gv w (T2 (ZR w.heap.size 0) (Is (no 4)))):=by
 have Lx:ln x≤1048576:=a8 hx.ln la
 have Ly:ln y≤1048576:=a8 hy.ln ld
 refine bN Tryz.func101 J (n:=63) J (bq J) (args:= [a9 sa Aa na ca sd Ad nd cd]) (bG [(0,a9 sa Aa na ca sd Ad nd cd)] ⟨rfl,AT⟩ (sr (bx [.bool sa,we Aa na ca,.bool sd,we Ad nd cd] (Ext.refl w) J J J fun g1 _ e _ _ ag=>(bL [F0,S0] ag e.lt (fun _=>by kernel_rfl) J fun _ _ H M _ e8 f=>(mv 1 J (a7 (sr (pf g1 0 J (lo aA (e.ext e8) (a5 sa Aa na ca) J J J (pf g1 2 J (lo aA (e.ext e8) (a5 sd Ad nd cd) J J J (cl (vs:= [O sa Aa na ca,O sd Ad nd cd]) f (D5 f.size (hy.ext f) (aK ld J) h0) J (by kernel_rfl) fun _ _ ae G X=>?_))))))))))))
 obtain⟨_,_,rfl,⟨q,h,p,F,o,V,U,r,rfl,_,_⟩,rfl⟩:=ae
 refine mv 1 J (pu (v:= a9 q h p F o V U r) J (pu (v:= no 4) J (bL [F0,S0,F0,S0] X (H.ext G).lt (fun _=>by kernel_rfl) J fun _ _ E L _ aa Y=>(so bC E [.bool q,we h p F,.bool o,we V U r] Y L J J J J fun _ _ Z W=>(mv 1 J (a7 (aD (sr (mv 1 J (aI J J J true (by decide) (a7 (aW J (aD ?_)))))))))))))
 refine aF (pu (v:= .agg #[F0,S0]) J (mv 1 J ?_))
 have D:=((H.ext (G.t aa)).vN Z)
 refine so aA D [F0,S0] W M J J J J fun _ I _ ab=>(mv 1 J (a7 (aV (bR (aU [.agg #[F0,S0],no 4] J ⟨⟨_,rfl,bH aA I [F0,S0] J (bq J) rfl⟩,rfl,AT⟩ ?_)))))
 exact⟨_,rfl,⟨_,_,rfl,⟨_,_,_,_,rfl,Zr.zero⟩,rfl⟩,ab⟩
theorem Y6 {p:Int}{nd:Nat}(hx:Zi w sa Aa na ca x)(la:na≤1048576)(hy:Zi w sd Ad nd cd y)(ld:nd≤1048576)(hlow:Low p q x y):aP aN 101 #[a9 sa Aa na ca sd Ad nd cd] w (Gv w (T2 (ZR w.heap.size (iK p q)) (Is (no 0)))):=by
 have Lx:ln x≤1048576:=a8 hx.ln la
 have Ly:ln y≤1048576:=a8 hy.ln ld
 have Lp:ln p≤1048576:=a8 (dZ hlow.np) Lx
 have Lq:ln q≤1048576:=a8 (dZ hlow.nq) Ly
 have aa:=hlow.pos
 refine bN Tryz.func101 J (n:=63) J (bq J) (args:= [a9 sa Aa na ca sd Ad nd cd]) (bG [(0,a9 sa Aa na ca sd Ad nd cd)] ⟨rfl,AT⟩ (sr (bx [.bool sa,we Aa na ca,.bool sd,we Ad nd cd] (Ext.refl w) J J J fun g1 _ fj _ _ ct=>(bL [F0,S0] ct fj.lt (fun _=>by kernel_rfl) J fun g6 _ dx bj _ e8 M=>(mv 1 J (a7 (sr (pf g1 0 J (lo aA (fj.ext e8) (a5 sa Aa na ca) J J J (pf g1 2 J (lo aA (fj.ext e8) (a5 sd Ad nd cd) J J J (cl (vs:= [O sa Aa na ca,O sd Ad nd cd]) M (KT M.size hlow (hx.ext M) (aK la J) (hy.ext M) (aK ld J)) J (by kernel_rfl) fun _ _ ki dw G=>?_))))))))))))
 obtain⟨_,_,rfl,⟨ci,bp,bw,ck,ar,ap,aq,ao,rfl,de,cv⟩,rfl⟩:=ki
 refine mv 1 J (pu (v:= a9 ci bp bw ck ar ap aq ao) J (pu (v:= no 0) J (bL [F0,S0,F0,S0] G (dx.ext dw).lt (fun _=>by kernel_rfl) J fun bi _ X jr _ ab am=>(so bC X [.bool ci,we bp bw ck,.bool ar,we ap aq ao] am jr J J J J fun _ ak ae cj=>(mv 1 J (a7 (aD (sr (mv 1 J (aI J J J false (by decide) (a7 (aQ J (aY ?_)))))))))))))
 refine aO (sr (pf bi 0 J (lo aA ak (a5 ci bp bw ck) J J J (pf bi 2 J (lo aA ak (a5 ar ap aq ao) J J J (dQ J J (vs:= [O ci bp bw ck,O ar ap aq ao]) (by kernel_rfl) (by decide) (by have h:=JX cj.size ((de.ext ab).updT X ae).zi (de.le (aK Lp J)) ((cv.ext ab).updT X ae).zi (cv.le (aK Lq J));rw [show eZ q=0 from if_neg (by omega)] at h;exact h) ?_))))))
 rintro _ _ ⟨_,rfl,kp,Y⟩
 refine dR ?_
 have ka:=cj.trans Y
 obtain⟨_,_,_,rfl,⟨U,V,o,W,rfl,ch⟩,⟨ag,ai,ah,aj,rfl,fm⟩,rfl⟩:=kp
 refine mv 1 J (pu (v:= O U V o W) J (pu (v:= O ag ai ah aj) J (pu (v:= no 0) J (bL [F0,S0] ka (ak.ext Y).lt (fun _=>by kernel_rfl) J fun az _ em cm _ L kr=>(bL [F0,S0] kr em.lt (fun _=>by kernel_rfl) J fun fp _ ig fx _ I kg=>?_)))))
 have D:=(em.ext I)
 refine so aA D (a5 U V o W) kg cm J J J J fun _ Z H jz=>?_
 have E:=(ig.vN H)
 refine so aA E (a5 ag ai ah aj) jz fx J J J J fun fi cz f cu=>(mv 1 J (a7 (rU (T:=a6×Bool) (fun⟨wr,od⟩=> [(2,i5 g6 0),(4,i5 bi 0),(6,i5 az 0),(7,i5 fp 0),(9,.bool od)]) (fun⟨wr,od⟩=>wr) (fun⟨wr,od⟩=>(Ext w wr)∧(od=decide (qF p q%2≠0))∧(Bk wr g6 24 [F0,S0])∧(Bk wr bi 52 [.bool ci,we bp bw ck,.bool ar,we ap aq ao])∧(Bk wr az 24 (a5 U V o W))∧(Bk wr fp 24 (a5 ag ai ah aj))∧(Zr wr w.heap.size ci bp bw ck p)∧(Zr wr w.heap.size ar ap aq ao q)∧(Zr wr w.heap.size U V o W (qF p q))∧(Zr wr w.heap.size ag ai ah aj (rF p q))) ?_ ?_)))
 ·have jl:=((((ch.ext (L.t I)).updT D H).updT E f)).len
  by_cases fo:qF p q=0
  ·have kk:o=0:=by rw [jl,fo];rfl
   have fk:¬qF p q%2≠0:=by rw [fo];decide
   refine aF (pf az 1 J (bB J J (bM dS (Z.vN f) J) (pu (v:= no o) J (aI J J J false (fS (a:=o) (b:=0) J J) (mv 7 J (pu (v:= AS) J (mv 1 J (aX (dO (⟨fi,false⟩:a6×Bool) ⟨cu,(decide_eq_false fk).symm,(((((dx.ext (dw.t ab)).vN ae).ext (Y.t (L.t I))).vN H).vN f),(((ak.ext (Y.t (L.t I))).vN H).vN f),(Z.vN f),cz,(((((de.ext ab).updT X ae).ext (Y.t (L.t I))).updT D H).updT E f),(((((cv.ext ab).updT X ae).ext (Y.t (L.t I))).updT D H).updT E f),(((ch.ext (L.t I)).updT D H).updT E f),(((fm.ext (L.t I)).updT D H).updT E f)⟩ J ⟨rfl,rfl,rfl,rfl,rfl,AT⟩)))))))))
  ·have kk:0<o:=by rw [jl];exact Nat.pos_of_ne_zero fun e=>fo (by have h:=dA (Int.natAbs (qF p q));rw [uD e] at h;have h2:nv []=0:=rfl;omega)
   have lh:=OH (Int.natAbs (qF p q))
   have en:(wd (Int.natAbs (qF p q))).getD 0 0≤18446744073709551615:=by have:=tV (oS (Int.natAbs (qF p q))) 0;rw [cP] at this;omega
   by_cases el:qF p q%2≠0
   ·have bu:qF p q%2≠0:=el
    refine aF (pf az 1 J (bB J J (bM dS (Z.vN f) J) (pu (v:= no o) J (aI J J J true (eW (a:=o) (b:=0) J J) (mv 1 J (pf az 1 J (bB J J (bM dS (Z.vN f) J) ?_)))))))
    have fv:=((((ch.ext (L.t I)).updT D H).updT E f)).rd
    obtain⟨kj,ji,jd,_⟩:=(fv).at (i:=0) (by omega)
    refine cD J J J bU bT 0 J kj ji (bB J J (dF cT jd) (nB J J J (r:= up ((((wd (Int.natAbs (qF p q))).getD 0 0)%2:Nat):Int)) J (fun w=>FG (x:=(wd (Int.natAbs (qF p q))).getD 0 0) (by first | omega | exact en) _ _ w) (aI J J J true (fF (a:=((wd (Int.natAbs (qF p q))).getD 0 0)%2) (b:=1) J J) (pu (v:= AI) J (mv 1 J (aX (dO (⟨fi,true⟩:a6×Bool) ⟨cu,(decide_eq_true bu).symm,(((((dx.ext (dw.t ab)).vN ae).ext (Y.t (L.t I))).vN H).vN f),(((ak.ext (Y.t (L.t I))).vN H).vN f),(Z.vN f),cz,(((((de.ext ab).updT X ae).ext (Y.t (L.t I))).updT D H).updT E f),(((((cv.ext ab).updT X ae).ext (Y.t (L.t I))).updT D H).updT E f),(((ch.ext (L.t I)).updT D H).updT E f),(((fm.ext (L.t I)).updT D H).updT E f)⟩ J ⟨rfl,rfl,rfl,rfl,rfl,AT⟩)))))))
   ·have fk:¬qF p q%2≠0:=el
    refine aF (pf az 1 J (bB J J (bM dS (Z.vN f) J) (pu (v:= no o) J (aI J J J true (eW (a:=o) (b:=0) J J) (mv 1 J (pf az 1 J (bB J J (bM dS (Z.vN f) J) ?_)))))))
    have ir:=((((ch.ext (L.t I)).updT D H).updT E f)).rd
    obtain⟨jw,iq,ft,_⟩:=(ir).at (i:=0) (by omega)
    refine cD J J J bU bT 0 J jw iq (bB J J (dF cT ft) (nB J J J (r:= up ((((wd (Int.natAbs (qF p q))).getD 0 0)%2:Nat):Int)) J (fun w=>FG (x:=(wd (Int.natAbs (qF p q))).getD 0 0) (by first | omega | exact en) _ _ w) (aI J J J false (eR (a:=((wd (Int.natAbs (qF p q))).getD 0 0)%2) (b:=1) J J) (pu (v:= AS) J (mv 1 J (aX (dO (⟨fi,false⟩:a6×Bool) ⟨cu,(decide_eq_false fk).symm,(((((dx.ext (dw.t ab)).vN ae).ext (Y.t (L.t I))).vN H).vN f),(((ak.ext (Y.t (L.t I))).vN H).vN f),(Z.vN f),cz,(((((de.ext ab).updT X ae).ext (Y.t (L.t I))).updT D H).updT E f),(((((cv.ext ab).updT X ae).ext (Y.t (L.t I))).updT D H).updT E f),(((ch.ext (L.t I)).updT D H).updT E f),(((fm.ext (L.t I)).updT D H).updT E f)⟩ J ⟨rfl,rfl,rfl,rfl,rfl,AT⟩)))))))
 ·rintro⟨wr,od⟩ ⟨ct,ei,b_2,b_4,b_6,b_7,_,go,zq,zr⟩
  refine cR [(2,i5 g6 0),(4,i5 bi 0),(6,i5 az 0),(7,i5 fp 0),(9,.bool od)] wr J ⟨rfl,rfl,rfl,rfl,rfl,AT⟩ (aD ?_)
  have kf:ln (rF p q+rF p q)≤1048577:=a8 (dN (lZ aa Lq) (lZ aa Lq)) (by decide)
  refine dG bY 6 [] [Is (O ag ai ah aj),Is (O ag ai ah aj),ZR w.heap.size (rF p q+rF p q),Is (i5 bi 2),Is (O ar ap aq ao),Is (no (bE (rF p q+rF p q) q))] [[],[],[0,1],[],[3],[2,4]] [[],[],[0,1],[],[3],[0,1,2,3,4],[0,1,2,3,4,5]] rfl
   (aH J J (aE J J ?_) (aH J J (aE J J ?_) (aH J J (aE J J ?_) (aH J J (aE J J ?_) (aH J J (aE J J ?_) (aH J J (aE J J ?_) d9)))))) ?_
  ·exact fun _ jv=>aC (lo aA (b_7.ext jv) (a5 ag ai ah aj) J J J (aG J aL J))
  ·exact fun _ kd=>aC (lo aA (b_7.ext kd) (a5 ag ai ah aj) J J J (aG J aL J))
  ·intro _ fb
   have M:=ct.trans fb
   refine dk J J (dk J J (aC ?_))
   have kz:ln (rF p q+rF p q)≤1048577:=a8 (dN (lZ aa Lq) (lZ aa Lq)) (by decide)
   refine cl (vs:= [O ag ai ah aj,O ag ai ah aj]) M (vM M.size (zr.ext fb).zi (zr.le (a8 (lZ aa Lq) (by decide))) (zr.ext fb).zi (zr.le (a8 (lZ aa Lq) (by decide)))) J (by kernel_rfl) fun _ _ ko kq G=>?_
   obtain⟨_,_,_,_,rfl,ju⟩:=ko
   exact aG J kq ⟨_,_,_,_,rfl,ju⟩
  ·exact fun _ _=>aC (pf bi 2 J (aG J aL J))
  ·exact fun _ ke=>dk J J (aC (lo aA (b_4.ext ke) (a5 ar ap aq ao) J J J (aG J aL J)))
  ·intro _ gx
   have M:=ct.trans gx
   refine aT J J fun _ _ kb _ kn=>?_
   obtain⟨ks,jx,kc,jt,rfl,dy⟩:=kb
   have dy:=dy.ext kn
   refine dk J J (aC (cl (vs:= [O ks jx kc jt,O ar ap aq ao]) M (kR dy.zi (dy.le (aK kf J)) (go.ext gx).zi (go.le (aK Lq J))) J (by kernel_rfl) fun _ _ jm gb G=>?_))
   obtain rfl:=jm
   exact aG J gb rfl
  ·intro _ F
   have M:=ct.trans F
   refine dk J J (dk J J (aT J J fun _ _ ic _ fw=>?_))
   obtain⟨_,_,_,_,rfl,ey⟩:=ic
   have ey:=ey.ext fw
   refine dk J J (dk J J (dk J J (aC (mv 1 J (aX (dC (aO (aD (aD ?_)))))))))
   by_cases dz:0<bE (rF p q+rF p q) q
   ·refine aF (mv 1 J (aI J J J true (vK dz) (mv 6 J (pu (v:= AI) J (a7 (aW J ?_))))))
    have kv:ln (qF p q+1)≤1048577:=a8 (dN (jU aa Lp) (show ln (1)≤1 by decide+kernel)) (by decide)
    refine dG bY 3 [] [Is (O U V o W),ZR w.heap.size (1),ZR w.heap.size (qF p q+1)] [[],[],[0,1]] [[],[],[0,1],[0,1,2]] rfl
     (aH J J (aE J J ?_) (aH J J (aE J J ?_) (aH J J (aE J J ?_) d9))) ?_
    ·exact fun _ jg=>aC (lo aA (b_6.ext (F.t jg)) (a5 U V o W) J J J (aG J aL J))
    ·intro _ jc
     have G:=M.trans jc
     refine aC (cl (vs:= [no 1]) G (kE G.size (by decide) (by decide)) J (by kernel_rfl) fun _ _ gj gg am=>?_)
     obtain⟨_,_,_,_,rfl,jo⟩:=gj
     exact aG J gg ⟨_,_,_,_,rfl,jo⟩
    ·intro _ ew
     have G:=M.trans ew
     refine dk J J (aT J J fun _ _ im _ gf=>?_)
     obtain⟨ib,ia,gi,gn,rfl,bo⟩:=im
     have bo:=bo.ext gf
     refine aC ?_
     have ku:ln (qF p q+1)≤1048577:=a8 (dN (jU aa Lp) (show ln (1)≤1 by decide+kernel)) (by decide)
     refine cl (vs:= [O U V o W,O ib ia gi gn]) G (vM G.size (zq.ext (F.t ew)).zi (zq.le (a8 (jU aa Lp) (by decide))) bo.zi (bo.le (a8 (show ln (1)≤1 by decide+kernel) (by decide)))) J (by kernel_rfl) fun _ _ jq iy am=>?_
     obtain⟨_,_,_,_,rfl,ga⟩:=jq
     exact aG J iy ⟨_,_,_,_,rfl,ga⟩
    ·intro _ dh
     have G:=M.trans dh
     refine dk J J (aT J J fun _ _ iz _ ge=>?_)
     obtain⟨_,_,_,_,rfl,eg⟩:=iz
     have eg:=eg.ext ge
     refine aT J J fun _ _ gk _ jh=>?_
     obtain⟨au,ba,aw,bf,rfl,da⟩:=gk
     have da:=da.ext jh
     refine aC ?_
     have dm:=(b_6.ext (F.t dh))
     refine so aA dm (a5 au ba aw bf) G cm J J J J fun _ fe eh am=>(aX (dC (aO (sr (lo aA fe (a5 au ba aw bf) J J J ?_)))))
     have dg:=((b_2.ext (F.t dh)).vN eh)
     refine so aA dg (a5 au ba aw bf) am bj J J J J fun _ fg je cj=>(mv 1 J (a7 (aV (aU [O au ba aw bf,I0] J ⟨⟨_,rfl,bH aA fg (a5 au ba aw bf) J (bq J) rfl⟩,rfl,AT⟩ ?_))))
     exact⟨_,rfl,⟨_,_,rfl,⟨_,_,_,_,rfl,(((da.updT dm eh).updT dg je)).cast (show _=iK p q by unfold iK;rw [if_pos (cH dz)])⟩,rfl⟩,cj⟩
   ·by_cases hz:bE (rF p q+rF p q) q=0
    ·by_cases bu:qF p q%2≠0
     ·obtain rfl:od=true:=ei.trans (decide_eq_true bu)
      refine aF (mv 1 J (aI J J J false (oN) (mv 2 J (aI J J J true (eP hz) (mv 2 J (pu (v:= AI) J (pu (v:= AI) J (a7 (aW J ?_)))))))))
      have kt:ln (qF p q+1)≤1048577:=a8 (dN (jU aa Lp) (show ln (1)≤1 by decide+kernel)) (by decide)
      refine dG bY 3 [] [Is (O U V o W),ZR w.heap.size (1),ZR w.heap.size (qF p q+1)] [[],[],[0,1]] [[],[],[0,1],[0,1,2]] rfl
       (aH J J (aE J J ?_) (aH J J (aE J J ?_) (aH J J (aE J J ?_) d9))) ?_
      ·exact fun _ ij=>aC (lo aA (b_6.ext (F.t ij)) (a5 U V o W) J J J (aG J aL J))
      ·intro _ jb
       have G:=M.trans jb
       refine aC (cl (vs:= [no 1]) G (kE G.size (by decide) (by decide)) J (by kernel_rfl) fun _ _ jk fq am=>?_)
       obtain⟨_,_,_,_,rfl,jj⟩:=jk
       exact aG J fq ⟨_,_,_,_,rfl,jj⟩
      ·intro _ ef
       have G:=M.trans ef
       refine dk J J (aT J J fun _ _ iv _ gy=>?_)
       obtain⟨ix,ik,il,fy,rfl,bm⟩:=iv
       have bm:=bm.ext gy
       refine aC ?_
       have ky:ln (qF p q+1)≤1048577:=a8 (dN (jU aa Lp) (show ln (1)≤1 by decide+kernel)) (by decide)
       refine cl (vs:= [O U V o W,O ix ik il fy]) G (vM G.size (zq.ext (F.t ef)).zi (zq.le (a8 (jU aa Lp) (by decide))) bm.zi (bm.le (a8 (show ln (1)≤1 by decide+kernel) (by decide)))) J (by kernel_rfl) fun _ _ gr jf am=>?_
       obtain⟨_,_,_,_,rfl,ie⟩:=gr
       exact aG J jf ⟨_,_,_,_,rfl,ie⟩
      ·intro _ dl
       have G:=M.trans dl
       refine dk J J (aT J J fun _ _ iw _ fz=>?_)
       obtain⟨_,_,_,_,rfl,ez⟩:=iw
       have ez:=ez.ext fz
       refine aT J J fun _ _ jn _ iu=>?_
       obtain⟨bg,bh,av,bd,rfl,df⟩:=jn
       have df:=df.ext iu
       refine aC ?_
       have cp:=(b_6.ext (F.t dl))
       refine so aA cp (a5 bg bh av bd) G cm J J J J fun _ fh ej am=>(aX (dC (aO (sr (lo aA fh (a5 bg bh av bd) J J J ?_)))))
       have dr:=((b_2.ext (F.t dl)).vN ej)
       refine so aA dr (a5 bg bh av bd) am bj J J J J fun _ fc gc cj=>(mv 1 J (a7 (aV (aU [O bg bh av bd,I0] J ⟨⟨_,rfl,bH aA fc (a5 bg bh av bd) J (bq J) rfl⟩,rfl,AT⟩ ?_))))
       exact⟨_,rfl,⟨_,_,rfl,⟨_,_,_,_,rfl,(((df.updT cp ej).updT dr gc)).cast (show _=iK p q by unfold iK;rw [if_pos (cO ⟨hz,bu⟩)])⟩,rfl⟩,cj⟩
     ·obtain rfl:od=false:=ei.trans (decide_eq_false bu)
      refine aF (mv 1 J (aI J J J false (oN) (mv 2 J (aI J J J true (eP hz) (mv 2 J (pu (v:= AS) J (pu (v:= AS) J (a7 (aQ J (aY (aO (sr (lo aA (b_6.ext F) (a5 U V o W) J J J ?_)))))))))))))
      have du:=(b_2.ext F)
      refine so aA du (a5 U V o W) M bj J J J J fun _ fd io G=>(mv 1 J (a7 (aV (aU [O U V o W,I0] J ⟨⟨_,rfl,bH aA fd (a5 U V o W) J (bq J) rfl⟩,rfl,AT⟩ ?_))))
      exact⟨_,rfl,⟨_,_,rfl,⟨_,_,_,_,rfl,(((zq.ext F).updT du io)).cast (show _=iK p q by unfold iK;rw [if_neg (fun h=>h.elim dz (fun h=>bu h.2))])⟩,rfl⟩,G⟩
    ·refine aF (mv 1 J (aI J J J false (oN) (mv 2 J (aI J J J false (fA hz) (mv 2 J (pu (v:= AS) J (pu (v:= AS) J (a7 (aQ J (aY (aO (sr (lo aA (b_6.ext F) (a5 U V o W) J J J ?_)))))))))))))
     have dt:=(b_2.ext F)
     refine so aA dt (a5 U V o W) M bj J J J J fun _ fa ja G=>(mv 1 J (a7 (aV (aU [O U V o W,I0] J ⟨⟨_,rfl,bH aA fa (a5 U V o W) J (bq J) rfl⟩,rfl,AT⟩ ?_))))
     exact⟨_,rfl,⟨_,_,rfl,⟨_,_,_,_,rfl,(((zq.ext F).updT dt ja)).cast (show _=iK p q by unfold iK;rw [if_neg (fun h=>h.elim dz (fun h=>hz h.1))])⟩,rfl⟩,G⟩
theorem XF (hb:b≤w.heap.size)(hl0:Zl w A n cap zs ms)(hln:n≤1048576)(hms:∀i,ms.getD i 0≤1048576)(hnd:∀k,ln (nd (zs.drop k)).1≤2097153∧ln (nd (zs.drop k)).2≤2097153)(hn0:0<n)(hf:mS zs)(hD:0<(nd zs).2):aP aN 105 #[we A n cap] w (Gv w (T2 (FR b ((nd zs).1) ((nd zs).2)) (Is (no 0)))):=by
 refine Calls.mono (R:=Gv w (T2 (FR w.heap.size ((nd zs).1) ((nd zs).2)) (Is (no 0)))) ?_ (Gv.imp (T2.imp (FR.imp hb) Is.imp))
 obtain⟨a,rfl⟩:=hl0.some hn0
 have hl:=hl0
 have Z:=hl.len
 have gr:=hl.le
 have kj:=hl.max
 rw [eG] at kj
 refine bN Tryz.func105 J (n:=47) J (bq J) (args:= [we (some a) n cap]) (bG [(0,we (some a) n cap)] ⟨rfl,AT⟩ (sr (al [F0,S0,F0,S0] (Ext.refl w) (fun _=>by kernel_rfl) J fun g1 v2 go iz _ h=>(mv 1 J (a7 (aD (sr (mv 1 J (pu (v:= no n) J (aI J J J false (fA (by omega)) (a7 (aQ J (aY ?_)))))))))))))
 refine aO (aD (aD ?_))
 by_cases jg:cap=1
 ·refine aF (mv 1 J (mI J J pT aA.size (lo:=1) (hi:=n) J J (by omega) gr (v:= we (some a) (n-1) (cap-1)) (by rw [if_pos jg]) (by decide) (pu (v:= no (((n-1):Nat):Int)) J (mv 1 J (a7 (bO ?_))))))
  refine d8 (T:=a6×Nat)
   (fun⟨wr,i⟩=> [(0,we (some a) n cap),(2,i5 g1 0),(3,no 0),(14,we (some a) (n-1) (cap-1)),(15,no (((n-1):Nat):Int)),(16,no (i:Int))])
   (fun⟨wr,i⟩=>wr)
   (fun⟨wr,i⟩=>(Ext w wr)∧(i≤n-1)∧(Bk wr g1 52 [F0,S0,F0,S0]))
   (fun⟨wr,i⟩=>n-i)
   (⟨v2,0⟩:a6×Nat) ⟨h,bJ _,go⟩ J ⟨rfl,rfl,rfl,rfl,rfl,rfl,AT⟩ ?_
  rintro⟨wr,i⟩ ⟨h,kf,b_2⟩
  refine cR [(0,we (some a) n cap),(2,i5 g1 0),(3,no 0),(14,we (some a) (n-1) (cap-1)),(15,no (((n-1):Nat):Int)),(16,no (i:Int))] wr J ⟨rfl,rfl,rfl,rfl,rfl,rfl,AT⟩ (aD ?_)
  by_cases gy:i<n-1
  ·omega
  ·refine aF (aI J J J false (JC (by omega)) (a7 (aD (aQ J (d4 (cU (cY (cZ (aO (sr (cl (vs:= [no 1]) h (kE h.size (by decide) (by decide)) J (by kernel_rfl) fun _ _ r8 e7 f=>?_)))))))))))
   obtain⟨s9,A9,n9,c9,rfl,z9⟩:=r8
   refine cl (vs:= [I0]) f (kE f.size (by decide) (by decide)) J (by kernel_rfl) fun _ _ ju fg o=>?_
   obtain⟨gk,ib,ge,iw,rfl,kg⟩:=ju
   refine bL [F0,S0] o (b_2.ext (e7.t fg)).lt (fun _=>by kernel_rfl) J fun ga _ dm el _ fa q=>(bL [F0,S0] q dm.lt (fun _=>by kernel_rfl) J fun fq _ ia dh _ cz fy=>?_)
   have bh:=(dm.ext cz)
   refine so aA bh (a5 s9 A9 n9 c9) fy el J J J J fun _ ix cu fp=>?_
   have cp:=(ia.vN cu)
   refine so aA cp (a5 gk ib ge iw) fp dh J J J J fun kc jp cv fv=>(a7 (aD (sr (mv 1 J (pu (v:= no n) J (aR J J J (((n:Nat):Int)-1) (eL J) (mv 1 J (a7 (bO ?_)))))))))
   refine d8 (T:=a6×Nat×Int×ZC×ZC)
    (fun⟨wr,k,ii,e,k1⟩=> [(0,we (some a) n cap),(2,i5 g1 0),(3,no 0),(6,i5 ga 0),(7,i5 fq 0),(8,no ii)])
    (fun⟨wr,k,ii,e,k1⟩=>wr)
    (fun⟨wr,k,ii,e,k1⟩=>(Ext w wr)∧(k≤n)∧(ii=(k:Int)-1)∧(Bk wr g1 52 [F0,S0,F0,S0])∧(Bk wr ga 24 (a5 e.s e.A e.n e.c))∧(Bk wr fq 24 (a5 k1.s k1.A k1.n k1.c))∧(Zr wr w.heap.size e.s e.A e.n e.c (nd (zs.drop k)).1)∧(Zr wr w.heap.size k1.s k1.A k1.n k1.c (nd (zs.drop k)).2))
    (fun⟨wr,k,ii,e,k1⟩=>k)
    (⟨kc,n,_,⟨s9,A9,n9,c9⟩,⟨gk,ib,ge,iw⟩⟩:a6×Nat×Int×ZC×ZC) ⟨fv,aZ _,rfl,(((b_2.ext (e7.t (fg.t (fa.t cz)))).vN cu).vN cv),(ix.vN cv),jp,((((z9.ext (fg.t (fa.t cz))).updT bh cu).updT cp cv)).cast (by rw [List.drop_of_length_le (Nat.le_of_eq Z)];rfl),((((kg.ext (fa.t cz)).updT bh cu).updT cp cv)).cast (by rw [List.drop_of_length_le (Nat.le_of_eq Z)];rfl)⟩ J ⟨rfl,rfl,rfl,rfl,rfl,rfl,AT⟩ ?_
   rintro⟨wr,k,ii,e,k1⟩ ⟨h,hk,jx,b_2,b_6,b_7,p,r⟩
   refine cR [(0,we (some a) n cap),(2,i5 g1 0),(3,no 0),(6,i5 ga 0),(7,i5 fq 0),(8,no ii)] wr J ⟨rfl,rfl,rfl,rfl,rfl,rfl,AT⟩ (aD (aD ?_))
   by_cases ka:0<k
   ·obtain⟨j,rfl⟩:∃j,k=j+1:=⟨k-1,by omega⟩
    obtain rfl:ii=(j:Int):=by omega
    refine aF (mv 1 J (aI J J J true (rN) (a7 (aW J (aY (aO (aD (bO ?_))))))))
    obtain⟨iy,jj,ik,jh,kd⟩:=hl.elem (i:=j) (by omega)
    have kx:ln ((zs.getD (j) 0)*((nd (zs.drop (j+1))).1)+((nd (zs.drop (j+1))).2))≤3145730:=a8 (dN (cK (a8 (hl.ln (j) (by omega)) (hms _)) (hnd (j+1)).1) (hnd (j+1)).2) (by decide)
    refine dG bY 8 [] [Is (we (some a) n cap),Is (no (j:Int)),Is (.pointer (some (a.add ((j)*2)))),Is (.agg #[.bool iy,we jj (ms.getD (j) 0) ik]),Is (O e.s e.A e.n e.c),Is (O k1.s k1.A k1.n k1.c),ZR w.heap.size ((zs.getD (j) 0)*((nd (zs.drop (j+1))).1)+((nd (zs.drop (j+1))).2)),Is (O e.s e.A e.n e.c)] [[],[],[0,1],[2],[],[],[3,4,5],[]] [[],[],[0,1],[0,1,2],[],[],[0,1,2,3,4,5],[],[0,1,2,3,4,5,6,7],[0,1,2,3,4,5,6,7,8]] rfl
     (aH J J (aE J J ?_) (aH J J (aE J J ?_) (aH J J (aE J J ?_) (aH J J (aE J J ?_) (aH J J (aE J J ?_) (aH J J (aE J J ?_) (aH J J (aE J J ?_) (aH J J (aE J J ?_) d9)))))))) ?_
    ·exact fun _ _=>aC (mv 1 J (aG J aL J))
    ·exact fun _ _=>aC (mv 1 J (aG J aL J))
    ·exact fun _ _=>dk J J (dk J J (aC (wX J J J pT aA.size (a.add ((j)*2)) J (aG J aL J))))
    ·intro _ jy
     have f:=h.trans jy
     refine dk J J (aC (bB J J (jh _ f _ _ aA) ?_))
     exact aG J aL rfl
    ·exact fun _ jz=>aC (lo aA (b_6.ext jz) (a5 e.s e.A e.n e.c) J J J (aG J aL J))
    ·exact fun _ ke=>aC (lo aA (b_7.ext ke) (a5 k1.s k1.A k1.n k1.c) J J J (aG J aL J))
    ·intro _ fi
     have f:=h.trans fi
     refine dk J J (dk J J (dk J J (aC ?_)))
     have ku:ln ((zs.getD (j) 0)*((nd (zs.drop (j+1))).1)+((nd (zs.drop (j+1))).2))≤3145730:=a8 (dN (cK (a8 (hl.ln (j) (by omega)) (hms _)) (hnd (j+1)).1) (hnd (j+1)).2) (by decide)
     refine cl (vs:= [.agg #[.bool iy,we jj (ms.getD (j) 0) ik],O e.s e.A e.n e.c,O k1.s k1.A k1.n k1.c]) f (D1 f.size (kd.ext f) (a8 (hms _) (by decide)) (p.ext fi).zi (p.le (a8 (hnd (j+1)).1 (by decide))) (r.ext fi).zi (r.le (a8 (hnd (j+1)).2 (by decide)))) J (by kernel_rfl) fun _ _ jw jv o=>?_
     obtain⟨_,_,_,_,rfl,kb⟩:=jw
     exact aG J jv ⟨_,_,_,_,rfl,kb⟩
    ·exact fun _ ki=>aC (lo aA (b_6.ext ki) (a5 e.s e.A e.n e.c) J J J (aG J aL J))
    ·intro _ bm
     have f:=h.trans bm
     refine dk J J (dk J J (dk J J (dk J J (dk J J (dk J J (aT J J fun _ _ jl _ ir=>?_))))))
     obtain⟨ez,du,dl,dx,rfl,bo⟩:=jl
     have bo:=bo.ext ir
     refine dk J J (aC ?_)
     have M:=(b_6.ext bm)
     refine so aA M (a5 ez du dl dx) f el J J J J fun _ gb aw o=>?_
     have U:=((b_7.ext bm).vN aw)
     refine so aA U (a5 e.s e.A e.n e.c) o dh J J J J fun jq fm aj q=>(aX (dC (bQ (aO (aF (mv 1 J (aR J J J ((j:Int)-1) (eL J) (mv 1 J (aX (cM (⟨jq,j,(j:Int)-1,⟨ez,du,dl,dx⟩,⟨e.s,e.A,e.n,e.c⟩⟩:a6×Nat×Int×ZC×ZC) ⟨q,(by omega),rfl,(((b_2.ext bm).vN aw).vN aj),(gb.vN aj),fm,(((bo.updT M aw).updT U aj)).cast (by rw [rS (zs:=zs) (i:=j)];rfl),((((p.ext bm).updT M aw).updT U aj)).cast (by rw [rS (zs:=zs) (i:=j)];rfl)⟩ (show j<j+1 by omega) J ⟨rfl,rfl,rfl,rfl,rfl,rfl,AT⟩))))))))))
   ·obtain rfl:k=0:=by omega
    refine aF (mv 1 J (aI J J J false (kQ) (a7 (aQ J (d4 (cU (cY (cZ (aO (sr (lo aA b_6 (a5 e.s e.A e.n e.c) J J J (lo aA b_7 (a5 k1.s k1.A k1.n k1.c) J J J (cl (vs:= [O e.s e.A e.n e.c,O k1.s k1.A k1.n k1.c]) h (KS h.size p.zi (p.le (a8 (hnd 0).1 (by decide))) r.zi (r.le (a8 (hnd 0).2 (by decide))) hD (xW zs)) J (by kernel_rfl) fun _ _ jn jd f=>?_)))))))))))))
    obtain⟨_,_,rfl,⟨W,av,az,Y,aq,ap,ar,ai,rfl,gn,jo⟩,rfl⟩:=jn
    refine pu (v:= a9 W av az Y aq ap ar ai) J (pu (v:= no 0) J ?_)
    have I:=(b_2.ext jd)
    refine so bC I [.bool W,we av az Y,.bool aq,we ap ar ai] f iz J J J J fun _ fz ey o=>(mv 1 J (a7 (aV (aU [a9 W av az Y aq ap ar ai,I0] J ⟨⟨_,rfl,bH bC fz [.bool W,we av az Y,.bool aq,we ap ar ai] J (bq J) rfl⟩,rfl,AT⟩ ?_))))
    exact⟨_,rfl,⟨_,_,rfl,⟨_,_,_,_,_,_,_,_,rfl,(gn.updT I ey),(jo.updT I ey)⟩,rfl⟩,o⟩
 ·refine aF (mv 1 J (mI J J pT aA.size (lo:=1) (hi:=n) J J (by omega) gr (v:= we (some (a.add 2)) (n-1) (cap-1)) (by rw [if_neg jg];rfl) (by decide) (pu (v:= no (((n-1):Nat):Int)) J (mv 1 J (a7 (bO ?_))))))
  refine d8 (T:=a6×Nat)
   (fun⟨wr,i⟩=> [(0,we (some a) n cap),(2,i5 g1 0),(3,no 0),(14,we (some (a.add 2)) (n-1) (cap-1)),(15,no (((n-1):Nat):Int)),(16,no (i:Int))])
   (fun⟨wr,i⟩=>wr)
   (fun⟨wr,i⟩=>(Ext w wr)∧(i≤n-1)∧(Bk wr g1 52 [F0,S0,F0,S0]))
   (fun⟨wr,i⟩=>n-i)
   (⟨v2,0⟩:a6×Nat) ⟨h,bJ _,go⟩ J ⟨rfl,rfl,rfl,rfl,rfl,rfl,AT⟩ ?_
  rintro⟨wr,i⟩ ⟨h,kf,b_2⟩
  refine cR [(0,we (some a) n cap),(2,i5 g1 0),(3,no 0),(14,we (some (a.add 2)) (n-1) (cap-1)),(15,no (((n-1):Nat):Int)),(16,no (i:Int))] wr J ⟨rfl,rfl,rfl,rfl,rfl,rfl,AT⟩ (aD ?_)
  by_cases gy:i<n-1
  ·refine aF (aI J J J true (JB gy) (a7 (aD (aW J (aY (aO (aD (bO (sr ?_)))))))))
   obtain⟨ch,bw,bg,fk,ja⟩:=hl.elem (i:=i+1) (by omega)
   refine wX J J J pT aA.size (a.add ((i+1)*2)) (by rw [tU];congr 1;omega) (bB J J (fk _ h _ _ aA) (bL [F0,S0] h b_2.lt (fun _=>by kernel_rfl) J fun _ _ fh fo _ gj f=>(so aA fh [.bool ch,we bw (ms.getD (i+1) 0) bg] f fo J J J J fun _ fw jm o=>(a7 (sr (lo aA fw [.bool ch,we bw (ms.getD (i+1) 0) bg] J J J (cl (vs:= [.agg #[.bool ch,we bw (ms.getD (i+1) 0) bg]]) o (iE (ja.ext o) (a8 (hms _) (by decide))) J (by kernel_rfl) fun _ jc iu gi q=>?_)))))))
   obtain rfl:=iu
   refine aI J J J false (BL (hf.2 (i+1) (by omega) (by omega))) (a7 (aQ J (aY (bQ (aO (aF (aR J J J ((i+1:Nat):Int) (tT) (mv 1 J (aX (cM (⟨jc,i+1⟩:a6×Nat) ⟨q,(by omega),(((b_2.ext gj).vN jm).ext gi)⟩ (show n-(i+1)<n-i by omega) J ⟨rfl,rfl,rfl,rfl,rfl,rfl,AT⟩))))))))))
  ·refine aF (aI J J J false (JC (by omega)) (a7 (aD (aQ J (d4 (cU (cY (cZ (aO (sr (cl (vs:= [no 1]) h (kE h.size (by decide) (by decide)) J (by kernel_rfl) fun _ _ gg eg f=>?_)))))))))))
   obtain⟨en,dr,dt,ew,rfl,iq⟩:=gg
   refine cl (vs:= [I0]) f (kE f.size (by decide) (by decide)) J (by kernel_rfl) fun _ _ im ck o=>?_
   obtain⟨ej,dg,em,dz,rfl,ij⟩:=im
   refine bL [F0,S0] o (b_2.ext (eg.t ck)).lt (fun _=>by kernel_rfl) J fun bj _ bu cj _ ct q=>(bL [F0,S0] q bu.lt (fun _=>by kernel_rfl) J fun ci _ fc cm _ V fy=>?_)
   have E:=(bu.ext V)
   refine so aA E (a5 en dr dt ew) fy cj J J J J fun _ ft ba fp=>?_
   have L:=(fc.vN ba)
   refine so aA L (a5 ej dg em dz) fp cm J J J J fun io fe ak fv=>(a7 (aD (sr (mv 1 J (pu (v:= no n) J (aR J J J (((n:Nat):Int)-1) (eL J) (mv 1 J (a7 (bO ?_)))))))))
   refine d8 (T:=a6×Nat×Int×ZC×ZC)
    (fun⟨wr,k,ii,e,k1⟩=> [(0,we (some a) n cap),(2,i5 g1 0),(3,no 0),(6,i5 bj 0),(7,i5 ci 0),(8,no ii)])
    (fun⟨wr,k,ii,e,k1⟩=>wr)
    (fun⟨wr,k,ii,e,k1⟩=>(Ext w wr)∧(k≤n)∧(ii=(k:Int)-1)∧(Bk wr g1 52 [F0,S0,F0,S0])∧(Bk wr bj 24 (a5 e.s e.A e.n e.c))∧(Bk wr ci 24 (a5 k1.s k1.A k1.n k1.c))∧(Zr wr w.heap.size e.s e.A e.n e.c (nd (zs.drop k)).1)∧(Zr wr w.heap.size k1.s k1.A k1.n k1.c (nd (zs.drop k)).2))
    (fun⟨wr,k,ii,e,k1⟩=>k)
    (⟨io,n,_,⟨en,dr,dt,ew⟩,⟨ej,dg,em,dz⟩⟩:a6×Nat×Int×ZC×ZC) ⟨fv,aZ _,rfl,(((b_2.ext (eg.t (ck.t (ct.t V)))).vN ba).vN ak),(ft.vN ak),fe,((((iq.ext (ck.t (ct.t V))).updT E ba).updT L ak)).cast (by rw [List.drop_of_length_le (Nat.le_of_eq Z)];rfl),((((ij.ext (ct.t V)).updT E ba).updT L ak)).cast (by rw [List.drop_of_length_le (Nat.le_of_eq Z)];rfl)⟩ J ⟨rfl,rfl,rfl,rfl,rfl,rfl,AT⟩ ?_
   rintro⟨wr,k,ii,e,k1⟩ ⟨h,hk,jx,b_2,b_6,b_7,p,r⟩
   refine cR [(0,we (some a) n cap),(2,i5 g1 0),(3,no 0),(6,i5 bj 0),(7,i5 ci 0),(8,no ii)] wr J ⟨rfl,rfl,rfl,rfl,rfl,rfl,AT⟩ (aD (aD ?_))
   by_cases ka:0<k
   ·obtain⟨j,rfl⟩:∃j,k=j+1:=⟨k-1,by omega⟩
    obtain rfl:ii=(j:Int):=by omega
    refine aF (mv 1 J (aI J J J true (rN) (a7 (aW J (aY (aO (aD (bO ?_))))))))
    obtain⟨dy,ei,dw,fb,jf⟩:=hl.elem (i:=j) (by omega)
    have kr:ln ((zs.getD (j) 0)*((nd (zs.drop (j+1))).1)+((nd (zs.drop (j+1))).2))≤3145730:=a8 (dN (cK (a8 (hl.ln (j) (by omega)) (hms _)) (hnd (j+1)).1) (hnd (j+1)).2) (by decide)
    refine dG bY 8 [] [Is (we (some a) n cap),Is (no (j:Int)),Is (.pointer (some (a.add ((j)*2)))),Is (.agg #[.bool dy,we ei (ms.getD (j) 0) dw]),Is (O e.s e.A e.n e.c),Is (O k1.s k1.A k1.n k1.c),ZR w.heap.size ((zs.getD (j) 0)*((nd (zs.drop (j+1))).1)+((nd (zs.drop (j+1))).2)),Is (O e.s e.A e.n e.c)] [[],[],[0,1],[2],[],[],[3,4,5],[]] [[],[],[0,1],[0,1,2],[],[],[0,1,2,3,4,5],[],[0,1,2,3,4,5,6,7],[0,1,2,3,4,5,6,7,8]] rfl
     (aH J J (aE J J ?_) (aH J J (aE J J ?_) (aH J J (aE J J ?_) (aH J J (aE J J ?_) (aH J J (aE J J ?_) (aH J J (aE J J ?_) (aH J J (aE J J ?_) (aH J J (aE J J ?_) d9)))))))) ?_
    ·exact fun _ _=>aC (mv 1 J (aG J aL J))
    ·exact fun _ _=>aC (mv 1 J (aG J aL J))
    ·exact fun _ _=>dk J J (dk J J (aC (wX J J J pT aA.size (a.add ((j)*2)) J (aG J aL J))))
    ·intro _ gx
     have f:=h.trans gx
     refine dk J J (aC (bB J J (fb _ f _ _ aA) ?_))
     exact aG J aL rfl
    ·exact fun _ il=>aC (lo aA (b_6.ext il) (a5 e.s e.A e.n e.c) J J J (aG J aL J))
    ·exact fun _ ic=>aC (lo aA (b_7.ext ic) (a5 k1.s k1.A k1.n k1.c) J J J (aG J aL J))
    ·intro _ bp
     have f:=h.trans bp
     refine dk J J (dk J J (dk J J (aC ?_)))
     have kq:ln ((zs.getD (j) 0)*((nd (zs.drop (j+1))).1)+((nd (zs.drop (j+1))).2))≤3145730:=a8 (dN (cK (a8 (hl.ln (j) (by omega)) (hms _)) (hnd (j+1)).1) (hnd (j+1)).2) (by decide)
     refine cl (vs:= [.agg #[.bool dy,we ei (ms.getD (j) 0) dw],O e.s e.A e.n e.c,O k1.s k1.A k1.n k1.c]) f (D1 f.size (jf.ext f) (a8 (hms _) (by decide)) (p.ext bp).zi (p.le (a8 (hnd (j+1)).1 (by decide))) (r.ext bp).zi (r.le (a8 (hnd (j+1)).2 (by decide)))) J (by kernel_rfl) fun _ _ jt ji o=>?_
     obtain⟨_,_,_,_,rfl,gf⟩:=jt
     exact aG J ji ⟨_,_,_,_,rfl,gf⟩
    ·exact fun _ je=>aC (lo aA (b_6.ext je) (a5 e.s e.A e.n e.c) J J J (aG J aL J))
    ·intro _ D
     have f:=h.trans D
     refine dk J J (dk J J (dk J J (dk J J (dk J J (dk J J (aT J J fun _ _ gc _ jk=>?_))))))
     obtain⟨da,eh,ef,df,rfl,bi⟩:=gc
     have bi:=bi.ext jk
     refine dk J J (aC ?_)
     have H:=(b_6.ext D)
     refine so aA H (a5 da eh ef df) f cj J J J J fun _ fd ag o=>?_
     have G:=((b_7.ext D).vN ag)
     refine so aA G (a5 e.s e.A e.n e.c) o cm J J J J fun jr fj X q=>(aX (dC (bQ (aO (aF (mv 1 J (aR J J J ((j:Int)-1) (eL J) (mv 1 J (aX (cM (⟨jr,j,(j:Int)-1,⟨da,eh,ef,df⟩,⟨e.s,e.A,e.n,e.c⟩⟩:a6×Nat×Int×ZC×ZC) ⟨q,(by omega),rfl,(((b_2.ext D).vN ag).vN X),(fd.vN X),fj,(((bi.updT H ag).updT G X)).cast (by rw [rS (zs:=zs) (i:=j)];rfl),((((p.ext D).updT H ag).updT G X)).cast (by rw [rS (zs:=zs) (i:=j)];rfl)⟩ (show j<j+1 by omega) J ⟨rfl,rfl,rfl,rfl,rfl,rfl,AT⟩))))))))))
   ·obtain rfl:k=0:=by omega
    refine aF (mv 1 J (aI J J J false (kQ) (a7 (aQ J (d4 (cU (cY (cZ (aO (sr (lo aA b_6 (a5 e.s e.A e.n e.c) J J J (lo aA b_7 (a5 k1.s k1.A k1.n k1.c) J J J (cl (vs:= [O e.s e.A e.n e.c,O k1.s k1.A k1.n k1.c]) h (KS h.size p.zi (p.le (a8 (hnd 0).1 (by decide))) r.zi (r.le (a8 (hnd 0).2 (by decide))) hD (xW zs)) J (by kernel_rfl) fun _ _ iv ie f=>?_)))))))))))))
    obtain⟨_,_,rfl,⟨au,ao,ab,aa,bd,ae,ah,am,rfl,ig,jb⟩,rfl⟩:=iv
    refine pu (v:= a9 au ao ab aa bd ae ah am) J (pu (v:= no 0) J ?_)
    have F:=(b_2.ext ie)
    refine so bC F [.bool au,we ao ab aa,.bool bd,we ae ah am] f iz J J J J fun _ fx de o=>(mv 1 J (a7 (aV (aU [a9 au ao ab aa bd ae ah am,I0] J ⟨⟨_,rfl,bH bC fx [.bool au,we ao ab aa,.bool bd,we ae ah am] J (bq J) rfl⟩,rfl,AT⟩ ?_))))
    exact⟨_,rfl,⟨_,_,rfl,⟨_,_,_,_,_,_,_,_,rfl,(ig.updT F de),(jb.updT F de)⟩,rfl⟩,o⟩
theorem XE (hb:b≤w.heap.size)(hl0:Zl w A n cap zs ms)(hln:n≤1048576)(hms:∀i,ms.getD i 0≤1048576)(hf:¬mS zs):aP aN 105 #[we A n cap] w (Gv w (T2 (FR b (0) (0)) (Is (no 3)))):=by
 refine Calls.mono (R:=Gv w (T2 (FR w.heap.size (0) (0)) (Is (no 3)))) ?_ (Gv.imp (T2.imp (FR.imp hb) Is.imp))
 refine bN Tryz.func105 J (n:=47) J (bq J) (args:= [we A n cap]) (bG [(0,we A n cap)] ⟨rfl,AT⟩ (sr (al [F0,S0,F0,S0] (Ext.refl w) (fun _=>by kernel_rfl) J fun I v2 F M _ f=>(mv 1 J (a7 (aD (aD ?_)))))))
 by_cases hz:n=0
 ·subst hz
  refine aF (mv 1 J (pu (v:= no 0) J (pu (v:= AI) J (a7 (aW J (sr (pu (v:= .agg #[F0,S0,F0,S0]) J (so bC F [F0,S0,F0,S0] f M J J J J fun v6 aj _ H=>(mv 1 J (a7 (aV (bR (aU [.agg #[F0,S0,F0,S0],no 3] J ⟨⟨_,rfl,bH bC aj [F0,S0,F0,S0] J (bq J) rfl⟩,rfl,AT⟩ ?_)))))))))))))
  exact⟨_,rfl,⟨_,_,rfl,⟨_,_,_,_,_,_,_,_,rfl,(Zr.zero (w:=v6) (base:=w.heap.size)),(Zr.zero (w:=v6) (base:=w.heap.size))⟩,rfl⟩,H⟩
 ·obtain⟨a,rfl⟩:=hl0.some (by omega)
  have hl:=hl0
  have h:=hl.len
  have W:=hl.le
  have ar:=hl.max
  rw [eG] at ar
  have ba:0<n:=by omega
  refine aF (mv 1 J (pu (v:= no n) J (aI J J J false (fA (by omega)) (a7 (aQ J (aY (aO (aD (aD ?_)))))))))
  by_cases ag:cap=1
  ·refine aF (mv 1 J (mI J J pT aA.size (lo:=1) (hi:=n) J J (by omega) W (v:= we (some a) (n-1) (cap-1)) (by rw [if_pos ag]) (by decide) (pu (v:= no (((n-1):Nat):Int)) J (mv 1 J (a7 (bO ?_))))))
   refine d8 (T:=a6×Nat)
    (fun⟨wr,i⟩=> [(0,we (some a) n cap),(2,i5 I 0),(3,no 0),(14,we (some a) (n-1) (cap-1)),(15,no (((n-1):Nat):Int)),(16,no (i:Int))])
    (fun⟨wr,i⟩=>wr)
    (fun⟨wr,i⟩=>(Ext w wr)∧(i≤n-1)∧(∀j,1≤j→j<i+1→0<zs.getD j 0)∧(Bk wr I 52 [F0,S0,F0,S0]))
    (fun⟨wr,i⟩=>n-i)
    (⟨v2,0⟩:a6×Nat) ⟨f,bJ _,(fun j h1 h2=>by omega),F⟩ J ⟨rfl,rfl,rfl,rfl,rfl,rfl,AT⟩ ?_
   rintro⟨wr,i⟩ ⟨f,am,o,b_2⟩
   refine cR [(0,we (some a) n cap),(2,i5 I 0),(3,no 0),(14,we (some a) (n-1) (cap-1)),(15,no (((n-1):Nat):Int)),(16,no (i:Int))] wr J ⟨rfl,rfl,rfl,rfl,rfl,rfl,AT⟩ (aD ?_)
   by_cases aa:i<n-1
   ·omega
   ·exact absurd ⟨fun e=>by rw [e] at h;simp at h;omega,fun j h1 h2=>o j h1 (by omega)⟩ hf
  ·refine aF (mv 1 J (mI J J pT aA.size (lo:=1) (hi:=n) J J (by omega) W (v:= we (some (a.add 2)) (n-1) (cap-1)) (by rw [if_neg ag];rfl) (by decide) (pu (v:= no (((n-1):Nat):Int)) J (mv 1 J (a7 (bO ?_))))))
   refine d8 (T:=a6×Nat)
    (fun⟨wr,i⟩=> [(0,we (some a) n cap),(2,i5 I 0),(3,no 0),(14,we (some (a.add 2)) (n-1) (cap-1)),(15,no (((n-1):Nat):Int)),(16,no (i:Int))])
    (fun⟨wr,i⟩=>wr)
    (fun⟨wr,i⟩=>(Ext w wr)∧(i≤n-1)∧(∀j,1≤j→j<i+1→0<zs.getD j 0)∧(Bk wr I 52 [F0,S0,F0,S0]))
    (fun⟨wr,i⟩=>n-i)
    (⟨v2,0⟩:a6×Nat) ⟨f,bJ _,(fun j h1 h2=>by omega),F⟩ J ⟨rfl,rfl,rfl,rfl,rfl,rfl,AT⟩ ?_
   rintro⟨wr,i⟩ ⟨f,am,o,b_2⟩
   refine cR [(0,we (some a) n cap),(2,i5 I 0),(3,no 0),(14,we (some (a.add 2)) (n-1) (cap-1)),(15,no (((n-1):Nat):Int)),(16,no (i:Int))] wr J ⟨rfl,rfl,rfl,rfl,rfl,rfl,AT⟩ (aD ?_)
   by_cases aa:i<n-1
   ·refine aF (aI J J J true (JB aa) (a7 (aD (aW J (aY (aO (aD (bO (sr ?_)))))))))
    obtain⟨r,q,p,ah,Y⟩:=hl.elem (i:=i+1) (by omega)
    refine wX J J J pT aA.size (a.add ((i+1)*2)) (by rw [tU];congr 1;omega) (bB J J (ah _ f _ _ aA) (bL [F0,S0] f b_2.lt (fun _=>by kernel_rfl) J fun _ _ Z U _ X H=>(so aA Z [.bool r,we q (ms.getD (i+1) 0) p] H U J J J J fun _ E V D=>(a7 (aD ?_)))))
    by_cases hx:zs.getD (i+1) 0≤0
    ·refine aF (lo aA E [.bool r,we q (ms.getD (i+1) 0) p] J J J (cl (vs:= [.agg #[.bool r,we q (ms.getD (i+1) 0) p]]) D (iE (Y.ext D) (a8 (hms _) (by decide))) J (by kernel_rfl) fun _ _ ap fL G=>?_))
     obtain rfl:=ap
     refine aI J J J true (G9 hx) (a7 (aW J (sr (pu (v:= .agg #[F0,S0,F0,S0]) J ?_))))
     have ae:=(((b_2.ext X).vN V).ext fL)
     refine so bC ae [F0,S0,F0,S0] G M J J J J fun ab L _ ai=>(mv 1 J (a7 (aV (fK (bR (m5 (fK (bR (aU [.agg #[F0,S0,F0,S0],no 3] J ⟨⟨_,rfl,bH bC L [F0,S0,F0,S0] J (bq J) rfl⟩,rfl,AT⟩ ?_)))))))))
     exact⟨_,rfl,⟨_,_,rfl,⟨_,_,_,_,_,_,_,_,rfl,(Zr.zero (w:=ab) (base:=w.heap.size)),(Zr.zero (w:=ab) (base:=w.heap.size))⟩,rfl⟩,ai⟩
    ·refine aF (lo aA E [.bool r,we q (ms.getD (i+1) 0) p] J J J (cl (vs:= [.agg #[.bool r,we q (ms.getD (i+1) 0) p]]) D (iE (Y.ext D) (a8 (hms _) (by decide))) J (by kernel_rfl) fun _ aq ak ao G=>?_))
     obtain rfl:=ak
     refine aI J J J false (BL (by omega)) (a7 (aQ J (aY (bQ (aO (aF (aR J J J ((i+1:Nat):Int) (tT) (mv 1 J (aX (cM (⟨aq,i+1⟩:a6×Nat) ⟨G,(by omega),(fun j h1 h2=>by rcases Nat.lt_or_ge j (i+1) with h3 | h3;exact o j h1 h3;obtain rfl:j=i+1:=(by omega);omega),(((b_2.ext X).vN V).ext ao)⟩ (show n-(i+1)<n-i by omega) J ⟨rfl,rfl,rfl,rfl,rfl,rfl,AT⟩))))))))))
   ·exact absurd ⟨fun e=>by rw [e] at h;simp at h;omega,fun j h1 h2=>o j h1 (by omega)⟩ hf
theorem C0 {m r:Int}(hm:0<m)(k:Nat):∀(f:Nat) (x y t u:Int),RecI m r x y t u→(hJ k f x y t u).1.natAbs≤m.natAbs∧(hJ k f x y t u).2.natAbs≤m.natAbs
 | 0,x,y,t,u,h=>⟨by have:=h.y0;have:=h.yx;have:=h.xm;show y.natAbs≤_;omega,by
   show u.natAbs≤_
   have h1:=h.det
   have h2:1≤x.natAbs:=by have:=h.yx;have:=h.y0;omega
   have h3:u.natAbs≤x.natAbs*u.natAbs:=Nat.le_mul_of_pos_left _ h2
   omega⟩
 | f+1,x,y,t,u,h=>by
  rw [hJ]
  split
  ·exact C0 hm k f _ _ _ _ (h.step (by omega))
  ·exact C0 hm k 0 x y t u h
theorem JG {m:Int}(hm:0<m)(h:ln m≤N):ln (iP m r).1≤N∧ln (iP m r).2≤N:=by
 have h1:=C0 hm (rK m) (r%m).toNat _ _ _ _ (RecI.init8 (r:=r) hm)
 have e:mM m r=hJ (rK m) (r%m).toNat m (r%m) 0 1:=rfl
 rw [←e] at h1
 unfold iP;split
 ·exact⟨by rw [g0];exact a8 (dZ h1.1) h,by rw [g0];exact a8 (dZ h1.2) h⟩
 ·exact⟨a8 (dZ h1.1) h,a8 (dZ h1.2) h⟩
theorem B7:∀c,c∈gQ x→c<256:=by
 intro c e
 unfold gQ at e
 split at e
 ·rcases nV.1 e with h | h
  ·rw [oY] at h;omega
  ·exact FI (by decide) (by decide) c h
 ·exact FI (by decide) (by decide) c e
theorem KX (h:mS zs):0<(nd zs).2:=by
 cases zs with
 | nil=>exact absurd rfl h.1
 | cons z r=>
  refine UB z r fun y e=>?_
  obtain⟨i,hi,rfl⟩:=List.mem_iff_getElem.1 e
  have:=h.2 (i+1) (by omega) (by rw [List.length_cons];omega)
  rw [bK,List.getElem?_cons_succ,cC hi] at this
  exact this
def zT (zs:List Int):Prop:=∀k,ln (nd (zs.drop k)).1≤2097153∧ln (nd (zs.drop k)).2≤2097153
noncomputable def lH (x y:Int):Int:=if y=0 then 0 else iK (bP x y) (bS x y)
noncomputable def j5 (x y:Int):List Nat:=if y=0 then [] else lA (bP x y) (bS x y)
noncomputable def jI (x y:Int):List Int:=if y=0 then [] else dD (bP x y) (bS x y)
noncomputable def mJ (zs:List Int):Int:=open Classical in if mS zs then (nd zs).1 else 0
noncomputable def mK (zs:List Int):Int:=open Classical in if mS zs then (nd zs).2 else 0
noncomputable def l9 (zs:List Int):Int:=open Classical in if mS zs then 0 else 3
theorem JD:LRF K b lb [] (we none 0 0) w:=⟨none,0,rfl,Lz.nil _ _ _ _ _⟩
theorem OX {p:Int}:∀c,c∈lA p q→c<256:=by
 intro c e
 unfold lA at e
 split at e
 ·exact B7 c e
 ·rcases nV.1 e with h | h
  ·rcases nV.1 h with h | h
   ·exact B7 c h
   ·rw [oY] at h;omega
  ·exact B7 c h
theorem FJ:∀c,c∈j5 x y→c<256:=by
 unfold j5;split
 ·intro c e;cases e
 ·exact OX
theorem LW (hx:ln x≤1048576)(hy:ln y≤1048576):(jI x y).length≤200000000:=by
 unfold jI;split
 ·exact bJ _
 ·rename_i h0
  rw [LT (oH h0)]
  exact (ZV h0 hx hy J).2.1
theorem JJ (hx:ln x≤1048576):ln (lH x y)≤1048577:=by
 unfold lH;split
 ·decide
 ·rename_i h0
  have e:=(oH (x:=x) h0).pos
  have h1:=jU e (fR (y:=y) hx)
  unfold iK;split
  ·exact a8 (dN h1 (show ln 1≤1 by decide+kernel)) (by decide)
  ·omega
theorem yD (hnd:∀k,ln (nd (zs.drop k)).1≤2097153∧ln (nd (zs.drop k)).2≤2097153):ln (mJ zs)≤2097153∧ln (mK zs)≤2097153:=by
 have h:=hnd 0
 rw [List.drop_zero] at h
 unfold mJ mK;split
 ·exact h
 ·exact⟨by decide,by decide⟩
theorem yE {m:Int}(h:ln m≤N):ln (kB m r)≤N∧ln (kC m r)≤N:=by
 unfold kB kC
 constructor
 ·split
  ·rename_i e;exact (JG e.1 h).1
  ·exact bJ _
 ·split
  ·rename_i e;exact (JG e.1 h).2
  ·exact bJ _
theorem PD (hb:b≤w.heap.size){nd:Nat}(hx:Zi w sa Aa na ca x)(la:na≤1048576)(hy:Zi w sd Ad nd cd y)(ld:nd≤1048576):aP aN 89 #[a9 sa Aa na ca sd Ad nd cd] w (Gv w (T2 (ZR b (lH x y)) (Is (no (bI y))))):=by
 by_cases h0:y=0
 ·have h:=(T1 hx la hy ld h0)
  rw [←oI h0] at h
  unfold lH;rw [if_pos h0];exact h.mono (Gv.imp (T2.imp (ZR.imp hb) Is.imp))
 ·have h:=(T4 hx la hy ld (oH h0))
  rw [←nE h0] at h
  unfold lH;rw [if_neg h0];exact h.mono (Gv.imp (T2.imp (ZR.imp hb) Is.imp))
theorem PI (hb:b≤w.heap.size){nd:Nat}(hx:Zi w sa Aa na ca x)(la:na≤1048576)(hy:Zi w sd Ad nd cd y)(ld:nd≤1048576):aP aN 101 #[a9 sa Aa na ca sd Ad nd cd] w (Gv w (T2 (ZR b (lH x y)) (Is (no (bI y))))):=by
 by_cases h0:y=0
 ·have h:=(Y5 hx la hy ld h0)
  rw [←oI h0] at h
  unfold lH;rw [if_pos h0];exact h.mono (Gv.imp (T2.imp (ZR.imp hb) Is.imp))
 ·have h:=(Y6 hx la hy ld (oH h0))
  rw [←nE h0] at h
  unfold lH;rw [if_neg h0];exact h.mono (Gv.imp (T2.imp (ZR.imp hb) Is.imp))
theorem PC {nd:Nat}(hx:Zi w sa Aa na ca x)(la:na≤1048576)(hy:Zi w sd Ad nd cd y)(ld:nd≤1048576):aP aN 90 #[a9 sa Aa na ca sd Ad nd cd] w (Gv w (T2 (Is (.string (aJ (j5 x y)))) (Is (no (bI y))))):=by
 by_cases h0:y=0
 ·unfold j5;rw [if_pos h0,oI h0];exact (ST hx la hy ld h0)
 ·unfold j5;rw [if_neg h0,nE h0];exact (SU hx la hy ld (oH h0))
theorem PH {nd:Nat}(hx:Zi w sa Aa na ca x)(la:na≤1048576)(hy:Zi w sd Ad nd cd y)(ld:nd≤1048576)(hS:Signs w):aP aN 102 #[a9 sa Aa na ca sd Ad nd cd] w (Gv w (T2 (Is (.string (aJ (j5 x y)))) (Is (no (bI y))))):=by
 by_cases h0:y=0
 ·unfold j5;rw [if_pos h0,oI h0];exact (X9 hx la hy ld h0)
 ·unfold j5;rw [if_neg h0,nE h0];exact (XA hx la hy ld hS (oH h0))
theorem PF (hb:b≤w.heap.size){nd:Nat}(hx:Zi w sa Aa na ca x)(la:na≤1048576)(hy:Zi w sd Ad nd cd y)(ld:nd≤1048576):aP aN 92 #[a9 sa Aa na ca sd Ad nd cd] w (Gv w (T2 (LRF 1048579 b w.heap.size (jI x y)) (Is (no (bI y))))):=by
 by_cases h0:y=0
 ·unfold jI;rw [if_pos h0,oI h0]
  exact (T9 hx la hy ld h0).mono (Gv.imp (T2.imp (fun v _ h=>by rw [show v= .slice none 0 0 from h];exact JD) Is.imp))
 ·unfold jI;rw [if_neg h0,nE h0];exact (TA hx la hy ld (oH h0)).mono (Gv.imp (T2.imp (fun _ _ h=>h.imp hb) Is.imp))
theorem PL (hb:b≤w.heap.size){nd:Nat}(hx:Zi w sa Aa na ca x)(la:na≤1048576)(hy:Zi w sd Ad nd cd y)(ld:nd≤1048576):aP aN 104 #[a9 sa Aa na ca sd Ad nd cd] w (Gv w (T2 (LRF 1048579 b w.heap.size (jI x y)) (Is (no (bI y))))):=by
 by_cases h0:y=0
 ·unfold jI;rw [if_pos h0,oI h0]
  exact (XH hx la hy ld h0).mono (Gv.imp (T2.imp (fun v _ h=>by rw [show v= .slice none 0 0 from h];exact JD) Is.imp))
 ·unfold jI;rw [if_neg h0,nE h0];exact (XI (aZ _) hx la hy ld (LT (oH h0)) h0).mono (Gv.imp (T2.imp (fun _ _ h=>h.imp hb) Is.imp))
theorem PB (hb:b≤w.heap.size)(hl:Zl w A n cap zs ms)(hn:n≤1048576)(hmb:∀i,ms.getD i 0≤1048576)(hnd:∀k,ln (nd (zs.drop k)).1≤2097153∧ln (nd (zs.drop k)).2≤2097153):aP aN 93 #[we A n cap] w (Gv w (T2 (FR b (mJ zs) (mK zs)) (Is (no (l9 zs))))):=by
 by_cases hf:mS zs
 ·unfold mJ mK l9;rw [if_pos hf,if_pos hf,if_pos hf];exact SS hb hl hn hmb hnd hf (KX hf)
 ·unfold mJ mK l9;rw [if_neg hf,if_neg hf,if_neg hf];exact SR hb hl hn hmb hf
theorem PG (hb:b≤w.heap.size)(hl:Zl w A n cap zs ms)(hn:n≤1048576)(hmb:∀i,ms.getD i 0≤1048576)(hnd:∀k,ln (nd (zs.drop k)).1≤2097153∧ln (nd (zs.drop k)).2≤2097153):aP aN 105 #[we A n cap] w (Gv w (T2 (FR b (mJ zs) (mK zs)) (Is (no (l9 zs))))):=by
 by_cases hf:mS zs
 ·unfold mJ mK l9;rw [if_pos hf,if_pos hf,if_pos hf];exact XF hb hl hn hmb hnd (by rw [←hl.len];exact List.length_pos_iff.2 hf.1) hf (KX hf)
 ·unfold mJ mK l9;rw [if_neg hf,if_neg hf,if_neg hf];exact XE hb hl hn hmb hf
theorem PE (hb:b≤w.heap.size){nd:Nat}(hx:Zi w sa Aa na ca x)(la:na≤1048576)(hy:Zi w sd Ad nd cd y)(ld:nd≤1048576):aP aN 88 #[a9 sa Aa na ca sd Ad nd cd] w (Gv w (T2 (ZR b (qF x y)) (Is (no (eZ y))))):=(T6 hx la hy ld).mono (Gv.imp (T2.imp (ZR.imp hb) Is.imp))
theorem PJ (hb:b≤w.heap.size){nd:Nat}(hx:Zi w sa Aa na ca x)(la:na≤1048576)(hy:Zi w sd Ad nd cd y)(ld:nd≤1048576):aP aN 100 #[a9 sa Aa na ca sd Ad nd cd] w (Gv w (T2 (ZR b (qF x y)) (Is (no (eZ y))))):=(Y8 hx la hy ld).mono (Gv.imp (T2.imp (ZR.imp hb) Is.imp))
theorem LL:∀bs:List Nat,∃a,(∀x,x∈a→x≠47)∧(bs=a∨∃b,bs=a++47::b)
 | []=>⟨[],(fun x h=>by cases h),cH rfl⟩
 | c::r=>by
  by_cases hc:c=47
  ·exact⟨[],(fun x h=>by cases h),cO ⟨r,by rw [hc];rfl⟩⟩
  ·obtain⟨a,h1,h2⟩:=LL r
   refine⟨c::a,fun x h=>?_,?_⟩
   ·rcases mW.1 h with h | h
    ·rw [h];exact hc
    ·exact h1 x h
   ·rcases h2 with h2 | ⟨b,h2⟩
    ·left;rw [h2]
    ·right;exact⟨b,by rw [h2];rfl⟩
theorem V2 {b:List Nat}(hg:eM 10 b)(hl:b.length≤1048576):ln ((cB 10 (b.map dv):Nat):Int)≤1048576:=by rw [kP];exact a8 (oM (base:=10) hg.2) hl
theorem DV (h1:∀b,b∈bs→b<256)(h2:bs.length≤1048576):∃p:Int×Int×Int,ln p.1≤1048576∧ln p.2.1≤1048576∧∀{w:a6}{b:Nat},b≤w.heap.size→
  aP aN 91 #[.string (aJ bs)] w (Gv w (T2 (FR b p.1 p.2.1) (Is (no p.2.2))))∧aP aN 103 #[.string (aJ bs)] w (Gv w (T2 (FR b p.1 p.2.1) (Is (no p.2.2)))):=by
 obtain⟨a,E,rfl | ⟨b,rfl⟩⟩:=LL bs
 ·have e:∀x,x∈bs→x<256∧x≠47:=fun x hx=>⟨h1 x hx,E x hx⟩
  rcases I4 bs with he | he
  ·exact⟨(bP (rV bs) 1,bS (rV bs) 1,bI 1),(show ln (bP (rV bs) 1)≤1048576 from fR (tF h2)),(show ln (bS (rV bs) 1)≤1048576 from fY (show ln 1≤1048576 by decide+kernel)),fun hb=>⟨SZ hb e h2 he,Y3 hb e h2 he⟩⟩
  ·exact⟨(0,0,7),by decide,by decide,fun hb=>⟨T0 hb e h2 he,Y4 hb e h2 he⟩⟩
 ·have hl:(a++47::b).length=a.length+1+b.length:=by simp;omega
  have e:∀x,x∈a→x<256∧x≠47:=fun x hx=>⟨h1 x (List.mem_append_left _ hx),E x hx⟩
  have o:∀x,x∈b→x<256:=fun x hx=>h1 x (List.mem_append_right _ (List.mem_cons_of_mem _ hx))
  have h:a.length≤1048576:=by omega
  have f:b.length≤1048576:=by omega
  rcases I4 a with he | he
  ·by_cases hg:eM 10 b
   ·have D:48≤b.getD 0 0∧b.getD 0 0≤57:=by
     cases b with
     | nil=>exact absurd rfl hg.1
     | cons c r=>exact YH (hg.2 c List.mem_cons_self)
    exact⟨(bP (rV a) ((cB 10 (b.map dv):Nat):Int),bS (rV a) ((cB 10 (b.map dv):Nat):Int),bI ((cB 10 (b.map dv):Nat):Int)),(show ln (bP (rV a) ((cB 10 (b.map dv):Nat):Int))≤1048576 from fR (tF h)),(show ln (bS (rV a) ((cB 10 (b.map dv):Nat):Int))≤1048576 from fY (V2 hg f)),fun hb=>⟨SW hb e h o f he hg.1 D hg,XY hb e h o f he hg⟩⟩
   ·refine⟨(0,0,7),by decide,by decide,fun hb=>⟨?_,XZ hb e h o f he hg⟩⟩
    by_cases q:b= []
    ·exact I8 hb e h o f he (cH q)
    ·by_cases D:48≤b.getD 0 0∧b.getD 0 0≤57
     ·exact SX hb e h o f he q D hg
     ·exact I8 hb e h o f he (cO (by omega))
  ·exact⟨(0,0,7),by decide,by decide,fun hb=>⟨SY hb e h o f he,Y2 hb e h o f he⟩⟩
noncomputable def eO (bs:List Nat):Int×Int×Int:=open Classical in if h:(∀b,b∈bs→b<256)∧bs.length≤1048576 then wP (DV h.1 h.2) else (0,0,0)
theorem t7 (h1:∀b,b∈bs→b<256)(h2:bs.length≤1048576):ln (eO bs).1≤1048576∧ln (eO bs).2.1≤1048576∧∀{w:a6}{b:Nat},b≤w.heap.size→
  aP aN 91 #[.string (aJ bs)] w (Gv w (T2 (FR b (eO bs).1 (eO bs).2.1) (Is (no (eO bs).2.2))))∧aP aN 103 #[.string (aJ bs)] w (Gv w (T2 (FR b (eO bs).1 (eO bs).2.1) (Is (no (eO bs).2.2)))):=by
 have h:=EK (DV h1 h2)
 have e:eO bs=wP (DV h1 h2):=by unfold eO;rw [dif_pos ⟨h1,h2⟩]
 rw [e];exact h
section
variable {P:Program}
theorem RP {t ty:aS}(ht:P.underlying t=some (.slice e))(hinfo:(P.info? e).map (fun i=>(i.zero,i.size,i.bytes))=some (some z,1,bytes))(hzs:z.cells.size=1)(hby:bytes≤64)(hg:base≤g)(hb:base≤w.heap.size)(hk:Bk w g e [])(hr:Rv w 1 S m c news)(h1:∀u∈news,u.oneCell'=true)(hm:m≤1099511627776):∃A' cap' w',(qK #[t,t] ty #[we (some ⟨g,0,none⟩) 0 0,we S m c]).run P w= .ok (we A' m cap') w'∧Own w' base e 1 A' m cap' news∧Ext w w':=by
 obtain⟨i,hi,L,D,E⟩:=info_parts hinfo
 have f:Own w base e 1 (some ⟨g,0,none⟩) 0 0 []:=Own.mk_ hg hk (aZ _) (bJ _) J rfl
 have hl:=hr.len
 have o:m=0→news= []:=fun h=>uD (by rw [hl,h])
 cases S with
 | none=>
  have h0:m=0:=by
   rcases Nat.eq_zero_or_pos m with h0 | h0
   ·exact h0
   ·obtain⟨ad,h,_⟩:=hr.get 0 (by omega)
    cases h
  rw [o h0,h0]
  exact⟨_,_,w,GQ (P:=P) w base t ty e i 1 ht hi _ 0 [] f.row c,f,Ext.refl w⟩
 | some a=>
  by_cases h0:m=0
  ·rw [o h0,h0]
   have F:=run_firstCells_some (P:=P) (w:=w) i.size 0 a 0 c [] (by simp) (by simp)
   exact⟨_,_,w,by simp [qK,run_underlying ht,sizeOf,typeInfo,hi,Builtin.lenOf,F,storeCells],f,Ext.refl w⟩
  ·obtain⟨v',w',q,h2,I⟩:=run_append_arg_grows (P:=P) w t ty e i z 1 bytes ht hi L D E hzs (by decide) ⟨g,0,none⟩ 0 0 [] J (fun j u r=>by simp at r) a m c news hl
    (fun j u G=>by
     have r:j<news.length:=(List.getElem?_eq_some_iff.1 G).1
     obtain⟨a',ha',M⟩:=hr.get j (by rw [←hl];exact r)
     cases ha'
     rw [M,←G,bK,cC r]
     rfl) (by omega) (by rw [eG];omega) (by
     have:(0+m)*bytes≤1099511627776*64:=Nat.mul_le_mul (by omega) hby
     omega)
   obtain⟨A',cap',rfl,H⟩:=Own.of_row h2
   rw [eJ,List.nil_append] at H
   rw [eJ] at q
   exact⟨A',cap',w',q,H.mono hb,(UpdO.of (A:=none) I).ext (Ext.refl w) (fun p U=>by cases U)⟩
variable {Q:Exit→Act→a6→Prop}{n:Nat}{l:Fr}{w:a6}{ops:Array Oper}{rest:List Oper}{d:Nat}{ty:aS}{pos:String}{af:Array Edge}{gd:Option (Nat×Bool)}
theorem OE {x y:Operand}{t:aS}(hw:dB ops l gd=some true)(hx:bV l x=some (we (some ⟨g,0,none⟩) 0 0))(hy:bV l y=some (we S m c))(ht:P.underlying t=some (.slice e))(hinfo:(P.info? e).map (fun i=>(i.zero,i.size,i.bytes))=some (some z,1,bytes))(hzs:z.cells.size=1)(hby:bytes≤64)(hg:base≤g)(hb:base≤w.heap.size)(hk:Bk w g e [])(hr:Rv w 1 S m c news)(h1:∀u∈news,u.oneCell'=true)(hm:m≤1099511627776)(hn:d<n)(h:∀A' cap' w',Own w' base e 1 A' m cap' news→Ext w w'→wl P ops Q n rest ((d,we A' m cap')::l) w'):wl P ops Q n (⟨some d,.call {callee:= .builtin .append,args:= #[x,y],argTypes:= #[t,t]},ty,pos,af,gd⟩::rest) l w:=by
 obtain⟨A',cap',w',hr,h2,o⟩:=RP (P:=P) (ty:=ty) ht hinfo hzs hby hg hb hk hr h1 hm
 refine fW hw hn (fun a' f=>?_) (h A' cap' w' h2 o)
 unfold execOp
 simp only [resolve,invoke,builtin,cE,Sem.run_pure,Result.andThen_ok,List.map_toArray,jZ,List.map_nil,f.ev hx,f.ev hy]
 rw [hr]
 rfl
end
theorem UT (k:Nat):(madeCells (Value.agg #[.bool false,.slice none 0 0]).cells (k*2)).toList=iU (cJ k ZC.zero):=by
 refine List.ext_getElem ?_ fun j h1 h2=>?_
 ·rw [Array.length_toList,size_madeCells,AQ,List.length_replicate]
 ·have q:j<k*2:=by simpa [size_madeCells] using h1
  have p:(madeCells (Value.agg #[.bool false,.slice none 0 0]).cells (k*2)).toList[j]= #[Value.bool false,we none 0 0][j%2]!:=by
   simp [madeCells,Value.cells]
  rw [p]
  have f:j/2<(cJ k ZC.zero).length:=by rw [List.length_replicate];omega
  have o:(cJ k ZC.zero).getD (j/2) ZC.zero=ZC.zero:=by
   rw [bK,List.getElem?_replicate];split <;> rfl
  rcases Nat.mod_two_eq_zero_or_one j with h | h
  ·have e:=wS (cJ k ZC.zero) (j/2) f
   rw [show j/2*2=j by omega,cC h2,o] at e
   injection e with e
   rw [e,h];rfl
  ·have e:=wR (cJ k ZC.zero) (j/2) f
   rw [show j/2*2+1=j by omega,cC h2,o] at e
   injection e with e
   rw [e,h];rfl
section
variable {Q:Exit→Act→a6→Prop}{N:Nat}{l:Fr}{w:a6}{ops:Array Oper}{rest:List Oper}{d:Nat}{ty:aS}{pos:String}{af:Array Edge}{gd:Option (Nat×Bool)}
theorem O6 {x y:Operand}(m:Option a6)(K b:Nat)(hw:dB ops l gd=some true)(hx:bV l x=some (no (k:Int)))(hy:bV l y=some (no (k:Int)))(hk:k≤1099511627776)(hd:d<N)(h:∀g w',w.heap.size=g→Lz m K b w' g (some ⟨g,0,none⟩) k k (cJ k 0)→Ext w w'→wl aN ops Q N rest ((d,we (some ⟨g,0,none⟩) k k)::l) w'):wl aN ops Q N (⟨some d,.makeSlice 25 x y,ty,pos,af,gd⟩::rest) l w:=by
 obtain⟨i,hi,o,q,D⟩:=info_parts K0
 have hr:=run_make (P:=aN) w 25 24 i _ mP hi o .i64 .i64 (k:Int) (k:Int) (by omega) (by omega) (by rw [D];omega) (by omega)
 rw [Int.toNat_natCast,q] at hr
 obtain⟨cs,p,f⟩:∃cs:List aM,madeCells (Value.agg #[.bool false,.slice none 0 0]).cells (k*2)=cs.toArray∧cs=iU (cJ k ZC.zero):=⟨(madeCells (Value.agg #[.bool false,.slice none 0 0]).cells (k*2)).toList,Array.toArray_toList.symm,UT k⟩
 rw [p] at hr
 have e:cs.length=k*2:=by rw [f,AQ,List.length_replicate]
 refine fW hw hd (fun a' E=>?_) (h _ (w.alloc (.cells cs.toArray 24)) J ⟨cJ k ZC.zero,cO ⟨w.heap.size,cs,rfl,aZ _,Bk.new _ _ _,aZ _,by rw [eG];omega,e,by rw [List.take_of_length_le (by omega)];exact f⟩,List.length_replicate ..,List.length_replicate ..,fun i hi=>?_⟩ ((Ext.refl w).alloc _))
 ·have e':(qJ 25 (a'.eval x) (a'.eval y)).run aN w= .ok (we (some ⟨w.heap.size,0,none⟩) k k) (w.alloc (.cells cs.toArray 24)):=by rw [E.ev hx,E.ev hy];exact hr
  show ((qJ 25 (a'.eval x) (a'.eval y)>>=fun r=>pure (Next.value r):Sem Next)).run aN w=_
  rw [cE,e'];rfl
 ·have F:(cJ k ZC.zero).getD i ZC.zero=ZC.zero:=by rw [bK,List.getElem?_replicate];split <;> rfl
  have G:(cJ k (0:Int)).getD i 0=0:=by rw [bK,List.getElem?_replicate];split <;> rfl
  rw [F,G]
  exact⟨bJ _,cH Zr.zero⟩
end
def oC (zs:List Int)(n k:Nat):List Int:=zs.take k++cJ (n-k) 0
theorem OP (zs:List Int)(n:Nat):cJ n 0=oC zs n 0:=by simp [oC]
theorem OR (h:zs.length=n):oC zs n n=zs:=by simp [oC,←h]
theorem OQ (h:zs.length=n)(hk:k<n):(oC zs n k).set k (zs.getD k 0)=oC zs n (k+1):=by
 unfold oC
 rw [List.set_append_right _ _ (by rw [dH];omega),dH,Nat.min_eq_left (by omega),Nat.sub_self,show n-k=(n-(k+1))+1 by omega,List.replicate_succ,List.set_cons_zero]
 rw [show zs.take (k+1)=zs.take k++ [zs.getD k 0] by rw [List.take_add_one,bK,cC (by omega)];rfl,List.append_assoc]
 rfl
def ZOR (b:Nat)(s:Bool)(n:Nat)(z:Int)(v:aM)(w:a6):Prop:=∃A c,v= O s A n c∧Zo w b s A n c z
theorem ZOR.imp {z:Int}(h:b'≤b):∀v w,ZOR b s n z v w→ZOR b' s n z v w:=fun _ _ ⟨A,c,h1,h2⟩=>⟨A,c,h1,h2.mono h⟩
theorem rZ:AggT aN 54 15:=⟨fun _=>by kernel_rfl,fun _=>by kernel_rfl⟩
theorem m7:AggT aN 57 10:=⟨fun _=>by kernel_rfl,fun _=>by kernel_rfl⟩
def Op8 (w:a6)(k x y u v p q:Int)(bs:List Nat)(zs:List Int)(n:Nat)(vv:aM):Prop:=
 ∃sa Aa na ca sb Ab nb cb sd Ad nd cd se Ae ne ce sf Af nf cf sg Ag ng cg C c ms,vv= .agg #[no k,.bool sa,we Aa na ca,.bool sb,we Ab nb cb,.bool sd,we Ad nd cd,.bool se,we Ae ne ce,.bool sf,we Af nf cf,.bool sg,we Ag ng cg,.string (aJ bs),we C n c]∧
  Zi w sa Aa na ca x∧na≤1048576∧Zi w sb Ab nb cb y∧nb≤1048576∧Zi w sd Ad nd cd u∧nd≤1048576∧Zi w se Ae ne ce v∧ne≤1048576∧Zi w sf Af nf cf p∧nf≤1048576∧Zi w sg Ag ng cg q∧ng≤1048576∧Zl w C n c zs ms∧n≤1048576∧(∀i,ms.getD i 0≤1048576)∧zT zs
def MU (b:Nat)(k x y u v p q:Int)(bs:List Nat)(l:aM)(vv:aM)(w:a6):Prop:=
 ∃sa Aa na ca sb Ab nb cb sd Ad nd cd se Ae ne ce sf Af nf cf sg Ag ng cg,vv= .agg #[no k,.bool sa,we Aa na ca,.bool sb,we Ab nb cb,.bool sd,we Ad nd cd,.bool se,we Ae ne ce,.bool sf,we Af nf cf,.bool sg,we Ag ng cg,.string (aJ bs),l]∧Zo w b sa Aa na ca x∧na≤1048576∧Zo w b sb Ab nb cb y∧nb≤1048576∧Zo w b sd Ad nd cd u∧nd≤1048576∧Zo w b se Ae ne ce v∧ne≤1048576∧Zo w b sf Af nf cf p∧nf≤1048576∧Zo w b sg Ag ng cg q∧ng≤1048576
structure Ans8 where
 F:Int
 G:Int
 X:Int
 L:List Int
 N:Int
 S:List Nat
 E:Int
def AnsR8 (b:Nat)(t:Ans8)(v:aM)(w:a6):Prop:=
 ∃s A n c s' A' n' c' s2 A2 n2 c2 B d,v= .agg #[.bool s,we A n c,.bool s',we A' n' c',.bool s2,we A2 n2 c2,we B t.L.length d,no t.N,.string (aJ t.S),no t.E]∧Zr w b s A n c t.F∧Zr w b s' A' n' c' t.G∧Zr w b s2 A2 n2 c2 t.X∧Lz none 1048579 b w b B t.L.length d t.L∧ln t.F≤1099511627776∧ln t.G≤1099511627776∧ln t.X≤1099511627776∧(∀c,c∈t.S→c<256)∧t.L.length≤200000000
theorem AnsR8.of {t t':Ans8}{v:aM}(h:t'=t)(k:AnsR8 b t v w):AnsR8 b t' v w:=h▸k
theorem AnsR8.imp {t:Ans8}(h:b'≤b):∀v w,AnsR8 b t v w→AnsR8 b' t v w:=fun _ _ ⟨s,A,n,c,s',A',n',c',s2,q,o,D,B,d,h1,h2,e,p,r,f⟩=>⟨s,A,n,c,s',A',n',c',s2,q,o,D,B,d,h1,h2.mono h,e.mono h,p.mono h,r.mono (aZ _) h h,f⟩
noncomputable def d6 (k x y u v p q:Int)(bs:List Nat)(zs:List Int):Ans8:=
 if k=1 then ⟨bP p q,bS p q,0,[],0,[],bI q⟩ else if k=2 then ⟨bP (x*v+u*y) (y*v),bS (x*v+u*y) (y*v),0,[],0,[],bI (y*v)⟩ else if k=3 then ⟨bP (x*v+ -u*y) (y*v),bS (x*v+ -u*y) (y*v),0,[],0,[],bI (y*v)⟩ else
 if k=4 then ⟨bP (x*u) (y*v),bS (x*u) (y*v),0,[],0,[],bI (y*v)⟩ else if k=5 then ⟨jE x y u v,jG x y u v,0,[],0,[],jF y u v⟩ else if k=6 then ⟨0,0,0,[],bE (bP (x*v+ -u*y) (y*v)) 0,[],bI (y*v)⟩ else
 if k=7 then ⟨0,0,qF x y,[],0,[],eZ y⟩ else if k=8 then ⟨0,0,lH x y,[],0,[],bI y⟩ else if k=9 then ⟨0,0,0,[],0,j5 x y,bI y⟩ else if k=10 then ⟨(eO bs).1,(eO bs).2.1,0,[],0,[],(eO bs).2.2⟩ else
 if k=11 then ⟨0,0,0,jI x y,0,[],bI y⟩ else if k=12 then ⟨mJ zs,mK zs,0,[],0,[],l9 zs⟩ else if k=13 then ⟨kB q p,kC q p,0,[],0,[],j9 q p⟩ else ⟨0,0,0,[],0,[],0⟩
theorem gF:Lz none K b w lb none 0 0 []:=Lz.nil _ _ _ _ _
theorem JM (hx:ln x≤N)(hv:ln v≤M):ln (jE x y u v)≤N+M:=by
 unfold jE;split
 ·exact bJ _
 ·exact fR (cK hx hv)
theorem JN (hy:ln y≤N)(hu:ln u≤M):ln (jG x y u v)≤N+M:=by
 unfold jG;split
 ·exact bJ _
 ·exact fY (cK hy hu)
end
section
open Go.ChangeShapes Go.WideShapes Go.ChangeAt Go.RowKit
theorem TX {enc:aS×aM→H}{v:aM}{d:DataW H}(hf:DataW.trod enc aN W 0 (fun _=>true) true fuel 25 [v]=some (d,p)):∃A n cap zs ms,v= we A n cap∧Zl W A n cap zs ms∧n+ms.sum≤Rows.uptoBulk d:=by
 rcases Go.Deep.open_slice Tryz.underlying25 hf with⟨f,hx⟩ | ⟨a,n,cap,m,k,D,Pl,f,_,hl,X,h,hx,hi⟩
 ·obtain rfl:=List.singleton_inj.1 f
  exact⟨none,0,0,[],[],rfl,⟨rfl,rfl,aZ _,by decide,fun i hi=>by omega⟩,by simp⟩
 ·obtain rfl:=List.singleton_inj.1 f
  simp only [if_true] at h
  have hmm':=h.symm
  subst hmm'
  simp only [Prod.mk.injEq] at hx
  obtain⟨rfl,rfl⟩:=hx
  rw [vT] at hi
  have F:∀i,i<cap→∃(q:Bool×Option aB×Nat×Nat×Int),W.cell? (a.add (i*2))=some (.bool q.1)∧W.cell? (a.add (i*2+1))=some (we q.2.1 q.2.2.1 q.2.2.2.1)∧Zi W q.1 q.2.1 q.2.2.1 q.2.2.2.1 q.2.2.2.2∧q.2.2.1+1≤Rows.uptoBulk (D i):=by
   intro i E
   obtain⟨cs',Z,ht'⟩:=hi i E
   obtain⟨_,G,o⟩:=World.cells?_some Z
   obtain⟨V,Y,rfl⟩:=YD G
   have r:DataW.trod enc aN W 0 (fun _=>true) true k 24 [V,Y]=some (D i,Pl i):=ht'
   obtain⟨s,B,nb,c,z,rfl,rfl,L,hb,rx⟩:=uW r
   refine⟨(s,B,nb,c,z),?_,?_,L,hb⟩
   ·have:=o 0 (by simp)
    simpa [Go.Deep.add_add] using this
   ·have:=o 1 (by simp)
    simpa [Go.Deep.add_add] using this
  obtain⟨Q,I⟩:=Go.Deep.choose_lt F
  refine⟨some a,n,cap,(gE n).map (fun i=>(Q i).2.2.2.2),(gE n).map (fun i=>(Q i).2.2.1),rfl,⟨by simp,by simp,hl,X,fun i e=>?_⟩,?_⟩
  ·obtain⟨h1,h2,U,_⟩:=I i (by omega)
   have M:((gE n).map (fun i=>(Q i).2.2.1)).getD i 0=(Q i).2.2.1:=by simp [bK,e]
   have e2:((gE n).map (fun i=>(Q i).2.2.2.2)).getD i 0=(Q i).2.2.2.2:=by simp [bK,e]
   rw [M,e2]
   exact⟨a,_,_,_,rfl,h1,h2,U⟩
  ·have:=PM D (fun i=>(Q i).2.2.1) n (fun i e=>(I i (by omega)).2.2.2)
   simp only [Rows.uptoBulk]
   omega
theorem QK {α:Type}{l:List α}(h:l.length=7):∃a b c d e f g,l= [a,b,c,d,e,f,g]:=by
 match l,h with
 | [a,b,c,d,e,f,g],_=>exact⟨a,b,c,d,e,f,g,rfl⟩
theorem XT {α:Type}{l:List α}(h:l.length=15):∃a b c d e f g i j k m n o p q,l= [a,b,c,d,e,f,g,i,j,k,m,n,o,p,q]:=by
 match l,h with
 | [a,b,c,d,e,f,g,i,j,k,m,n,o,p,q],_=>exact⟨a,b,c,d,e,f,g,i,j,k,m,n,o,p,q,rfl⟩
theorem XU:∃f0 f1 f2 f3 f4 f5 f6:Field,Tryz.prog.underlying 54=some (.struct #[f0,f1,f2,f3,f4,f5,f6])∧(f0.type=3∧f0.offset=0)∧(f1.type=52∧f1.offset=1)∧(f2.type=52∧f2.offset=5)∧(f3.type=24∧f3.offset=9)∧(f4.type=24∧f4.offset=11)∧(f5.type=9∧f5.offset=13)∧(f6.type=25∧f6.offset=14):=
 ⟨_,_,_,_,_,_,_,Tryz.underlying54,⟨rfl,rfl⟩,⟨rfl,rfl⟩,⟨rfl,rfl⟩,⟨rfl,rfl⟩,⟨rfl,rfl⟩,⟨rfl,rfl⟩,⟨rfl,rfl⟩⟩
theorem M0:Tryz.prog.cellsOf 54=15:=by kernel_rfl
theorem ZY:Tryz.prog.cellsOf 9=1:=by kernel_rfl
theorem ZZ:Tryz.prog.cellsOf 3=1:=by kernel_rfl
theorem ZX:Tryz.prog.cellsOf 25=1:=by kernel_rfl
theorem IM {enc:aS×aM→H}{c0 c1 c2 c3:aM}{d:DataW H}(hf':DataW.trod enc aN W 0 (fun _=>true) true fuel 52 [c0,c1,c2,c3]=some (d,p)):∃s A n cap s' A' n' cap' x y,c0= .bool s∧c1= we A n cap∧c2= .bool s'∧c3= we A' n' cap'∧Zi W s A n cap x∧Zi W s' A' n' cap' y∧n+n'≤Rows.uptoBulk d:=by
 obtain⟨_,f1,f,r,o,t1,q⟩:=XW
 obtain⟨y0,y1,n,e,hl,h0,h1⟩:=trod_struct2 f hf'
 rw [r,o,vT] at h0
 rw [t1,q,vT] at h1
 have E:(([c0,c1,c2,c3]:List aM).drop 0).take 2= [c0,c1]:=rfl
 have D:(([c0,c1,c2,c3]:List aM).drop 2).take 2= [c2,c3]:=rfl
 rw [E] at h0
 rw [D] at h1
 obtain⟨s,A,k,cap,z,rfl,rfl,h,hb,_⟩:=uW h0
 obtain⟨s',A',k',cap',z',rfl,rfl,hz',hb',_⟩:=uW h1
 simp only [Prod.mk.injEq] at e
 obtain⟨rfl,rfl⟩:=e
 refine⟨s,A,k,cap,s',A',k',cap',z,z',rfl,rfl,rfl,rfl,h,hz',?_⟩
 simp only [Rows.uptoBulk,Rows.uptoBulkAll];omega
def tX (w:a6)(us:List aM):Prop:=
 ∃k x y u v p q bs zs n,Op8 w k x y u v p q bs zs n (.agg us.toArray)∧(∀b,b∈bs→b<256)∧bs.length≤1048576
theorem U1 {enc:aS×aM→H}{x:DataW H×List MemPlace}(h:DataW.trod enc aN W 0 (fun _=>true) true fuel 54 cs=some x)(hle:Rows.uptoBulk x.1≤1048576):tX W cs:=by
 obtain⟨f0,f1,f2,f3,f4,f5,f6,hu,⟨t0,o0⟩,⟨t1,o1⟩,⟨t2,o2⟩,⟨t3,o3⟩,⟨t4,o4⟩,⟨t5,o5⟩,⟨t6,o6⟩⟩:=XU
 obtain⟨ys,n,_,rfl,e,U,hf⟩:=DataW.trod_struct hu h
 rw [M0] at e
 obtain⟨c0,c1,c2,c3,c4,c5,c6,c7,c8,c9,D,G,L,X,E,rfl⟩:=XT e
 obtain⟨y0,y1,V,y3,y4,y5,I,rfl⟩:=QK (show ys.length=7 from U)
 have Z:=hf 0 f0 rfl
 have g1:=hf 1 f1 rfl
 have g2:=hf 2 f2 rfl
 have g3:=hf 3 f3 rfl
 have g4:=hf 4 f4 rfl
 have Y:=hf 5 f5 rfl
 have g6:=hf 6 f6 rfl
 rw [t0,o0,ZZ] at Z
 rw [t1,o1,M1] at g1
 rw [t2,o2,M1] at g2
 rw [t3,o3,vT] at g3
 rw [t4,o4,vT] at g4
 rw [t5,o5,ZY] at Y
 rw [t6,o6,ZX] at g6
 obtain⟨k,hk,_,_⟩:=DataW.trod_int Tryz.underlying3 (show DataW.trod enc aN W 0 (fun _=>true) true n 3 [c0]=some y0 from Z)
 obtain⟨sa,Aa,na,ca,sb,Ab,nb,cb,x,y,rfl,rfl,rfl,rfl,hx,hy,_⟩:=IM (d:=y1.1) (p:=y1.2) (show DataW.trod enc aN W 0 (fun _=>true) true n 52 [c1,c2,c3,c4]=some y1 from g1)
 obtain⟨sd,Ad,nd,cd,se,Ae,ne,ce,u,v,rfl,rfl,rfl,rfl,r,hv,_⟩:=IM (d:=V.1) (p:=V.2) (show DataW.trod enc aN W 0 (fun _=>true) true n 52 [c5,c6,c7,c8]=some V from g2)
 obtain⟨sf,Af,nf,cf,p,rfl,rfl,hp,_,_⟩:=uW (show DataW.trod enc aN W 0 (fun _=>true) true n 24 [c9,D]=some y3 from g3)
 obtain⟨sg,Ag,ng,cg,q,rfl,rfl,hq,_,_⟩:=uW (show DataW.trod enc aN W 0 (fun _=>true) true n 24 [G,L]=some y4 from g4)
 obtain⟨s,hs,M,_⟩:=DataW.trod_string Tryz.underlying9 (show DataW.trod enc aN W 0 (fun _=>true) true n 9 [X]=some y5 from Y)
 obtain⟨C,n1,c1q,zs,ms,rfl,hl,_⟩:=TX (d:=I.1) (p:=I.2) (show DataW.trod enc aN W 0 (fun _=>true) true n 25 [E]=some I from g6)
 obtain rfl:=List.singleton_inj.1 hk
 obtain rfl:=List.singleton_inj.1 hs
 obtain⟨bs,rfl,F,_⟩:=PP s
 simp only [Rows.uptoBulk,jZ,Rows.uptoBulkAll,M] at hle
 have bj:(aJ bs).data.toList.length=(aJ bs).size:=Array.length_toList
 have o:n1≤1048576:=by omega
 have f:ms.sum≤1048576:=by omega
 exact⟨k,x,y,u,v,p,q,bs,zs,n1,⟨_,_,_,_,_,_,_,_,_,_,_,_,_,_,_,_,_,_,_,_,_,_,_,_,_,_,_,rfl,hx,by omega,hy,by omega,r,by omega,hv,by omega,hp,by omega,hq,by omega,hl,o,fun i=>a8 (KA _ _) f,fun k=>V7 hl k o f⟩,F,by omega⟩
theorem TZ {enc:aS×aM→H}{v:aM}{d:DataW H}(hval:Value.okWide aN W .any base 50 v)(h:DataW.Trod enc aN W 0 (fun _=>true) true 50 v d pl):∃A n cap,v= we A n cap∧(Rows.uptoBulk d≤1048576→Al 15 tX W A n)∧n≤Rows.uptoBulk d:=by
 obtain⟨A,n,cap,h1,h2,o⟩:=U2 (ok:=fun W cs=>Rows.uptoBulk d≤1048576→tX W cs) Tryz.underlying50 M0 (fun _ _ _ hx f e=>U1 hx (a8 f e)) hval h
 refine⟨A,n,cap,h1,fun e i hi=>?_,o⟩
 obtain⟨p,us,k1,k2,r,q⟩:=h2 i hi
 exact⟨p,us,k1,k2,r,q e⟩
theorem Al.at15 (h:Al 15 tX w A n)(hi:i<n):∃(a:aB) (vv:aM) (k x y u v p q:Int) (bs:List Nat) (zs:List Int) (n1:Nat),A.map (·.add (i*15))=some a∧(∀w',Ext w w'→(loadVar 54 a).run aN w'= .ok vv w')∧Op8 w k x y u v p q bs zs n1 vv∧(∀b,b∈bs→b<256)∧bs.length≤1048576:=by
 obtain⟨a,us,h1,h2,f,k,x,y,u,v,p,q,bs,zs,n1,r,o⟩:=h i hi
 exact⟨a,.agg us.toArray,k,x,y,u,v,p,q,bs,zs,n1,h1,fun w' e=>yC rZ us h2 (fun j _=>e.cell (f j (by omega))),r,o⟩
end
section
open Go.RowKit
theorem XC {k:Int}{nb:Nat}{nd:Nat}{nf cf:Nat}{p:Int}{sg:Bool}{ng cg:Nat}(hx:Zi w sa Aa na ca x)(la:na≤1048576)(hy:Zi w sb Ab nb cb y)(lb:nb≤1048576)(hu:Zi w sd Ad nd cd u)(ld:nd≤1048576)(hv:Zi w se Ae ne ce v)(le:ne≤1048576)(hp:Zi w sf Af nf cf p)(lf:nf≤1048576)(hq:Zi w sg Ag ng cg q)(lg:ng≤1048576)(hl:Zl w C n c zs ms)(hn:n≤1048576)(hmb:∀i,ms.getD i 0≤1048576)(hnd:zT zs)(hbs:∀b,b∈bs→b<256)(hlen:bs.length≤1048576)(hS:Signs w):aP aN 24 #[.agg #[no k,.bool sa,we Aa na ca,.bool sb,we Ab nb cb,.bool sd,we Ad nd cd,.bool se,we Ae ne ce,.bool sf,we Af nf cf,.bool sg,we Ag ng cg,.string (aJ bs),we C n c]] w (Gv w (AnsR8 w.heap.size (d6 k x y u v p q bs zs))):=by
 have Lx:ln x≤1048576:=a8 hx.ln la
 have Ly:ln y≤1048576:=a8 hy.ln lb
 have Lu:ln u≤1048576:=a8 hu.ln ld
 have Lv:ln v≤1048576:=a8 hv.ln le
 have Lp:ln p≤1048576:=a8 hp.ln lf
 have Lq:ln q≤1048576:=a8 hq.ln lg
 refine bN Tryz.func24 J (n:=152) J (bq J) (args:= [.agg #[no k,.bool sa,we Aa na ca,.bool sb,we Ab nb cb,.bool sd,we Ad nd cd,.bool se,we Ae ne ce,.bool sf,we Af nf cf,.bool sg,we Ag ng cg,.string (aJ bs),we C n c]]) (bG [(0,.agg #[no k,.bool sa,we Aa na ca,.bool sb,we Ab nb cb,.bool sd,we Ad nd cd,.bool se,we Ae ne ce,.bool sf,we Af nf cf,.bool sg,we Ag ng cg,.string (aJ bs),we C n c])] ⟨rfl,AT⟩ (sr (bx [no k,.bool sa,we Aa na ca,.bool sb,we Ab nb cb,.bool sd,we Ad nd cd,.bool se,we Ae ne ce,.bool sf,we Af nf cf,.bool sg,we Ag ng cg,.string (aJ bs),we C n c] (Ext.refl w) J J J fun g1 _ L _ _ kw=>(bL [F0,S0,F0,S0,F0,S0,S0,I0,.string ⟨#[]⟩,I0] kw L.lt (fun _=>by kernel_rfl) J fun g6 v7 M my _ e8 li=>(a7 (sr (pu (v:= .agg #[F0,S0,F0,S0,F0,S0,S0,I0,.string ⟨#[]⟩,I0]) J (bL [F0,S0,F0,S0,F0,S0,S0,I0,.string ⟨#[]⟩,I0] li M.lt (fun _=>by kernel_rfl) J fun D _ r o _ f pg=>(so m7 r [F0,S0,F0,S0,F0,S0,S0,I0,.string ⟨#[]⟩,I0] pg o J J J J fun dm I e h=>(a7 ?_))))))))))
 obtain⟨iq,E,_,lk,_,_,_⟩:∃lb,lb≤dm.heap.size∧dm.heap.size≤lb∧w.heap.size≤lb∧g1<lb∧g6<lb∧D<lb:=⟨dm.heap.size,aZ _,aZ _,h.size,((L.ext (e8.t f)).vN e).lt,((M.ext f).vN e).lt,I.lt⟩
 refine rU (T:=a6×Ans8×ZC×ZC×ZC×Option aB×Nat) (fun⟨wr,t,k1,k2,X,B,d⟩=> [(2,i5 g6 0),(3,i5 D 0)]) (fun⟨wr,t,k1,k2,X,B,d⟩=>wr) (fun⟨wr,t,k1,k2,X,B,d⟩=>(Ext w wr)∧(d6 k x y u v p q bs zs=t)∧(Bk wr g6 57 [F0,S0,F0,S0,F0,S0,S0,I0,.string ⟨#[]⟩,I0])∧(Bk wr D 57 [.bool k1.s,we k1.A k1.n k1.c,.bool k2.s,we k2.A k2.n k2.c,.bool X.s,we X.A X.n X.c,we B t.L.length d,no t.N,.string (aJ t.S),no t.E])∧(Zr wr w.heap.size k1.s k1.A k1.n k1.c t.F)∧(Zr wr w.heap.size k2.s k2.A k2.n k2.c t.G)∧(Zr wr w.heap.size X.s X.A X.n X.c t.X)∧(Lz none 1048579 w.heap.size wr iq B t.L.length d t.L)∧(iq≤wr.heap.size)∧(ln t.F≤1099511627776∧ln t.G≤1099511627776∧ln t.X≤1099511627776∧(∀c,c∈t.S→c<256)∧t.L.length≤200000000)) ?_ ?_
 ·refine sr (pf g1 0 J (bB J J (bM (fun _=>by kernel_rfl) ((L.ext (e8.t f)).vN e) J) (a7 (bO (aD ?_)))))
  by_cases U:k=1
  ·refine aF (aI J J J true (eP U) (mv 1 J (a7 (aW J (aF (pf g1 9 J (lo aA ((L.ext (e8.t f)).vN e) (a5 sf Af nf cf) J J J (pf g1 11 J (lo aA ((L.ext (e8.t f)).vN e) (a5 sg Ag ng cg) J J J ?_)))))))))
   have py:ln (bP p q)≤1048576:=fR Lp
   have pt:ln (bS p q)≤1048576:=fY Lq
   refine cl (vs:= [O sf Af nf cf,O sg Ag ng cg]) h (tN h.size (hp.ext h) (aK lf J) (hq.ext h) (aK lg J)) J (by kernel_rfl) fun _ _ qf ix H=>?_
   obtain⟨_,_,rfl,⟨jv,iy,ka,jd,kk,jf,ja,jb,rfl,ny,oy⟩,rfl⟩:=qf
   refine mv 1 J (pu (v:= a9 jv iy ka jd kk jf ja jb) J (pu (v:= no (bI q)) J (pf D 0 J ?_)))
   have fz:=(I.ext ix)
   refine so bC fz [.bool jv,we iy ka jd,.bool kk,we jf ja jb,F0,S0,S0,I0,.string ⟨#[]⟩,I0] H o J J J J fun _ ia iu F=>(pf D 9 J (dE J J J (fun _=>by kernel_rfl) J ia (bq J) J [.bool jv,we iy ka jd,.bool kk,we jf ja jb,F0,S0,S0,I0,.string ⟨#[]⟩,no (bI q)] J fun pq nm ik _=>?_))
   have G:=ik.ext F o
   refine aX (bQ (dO (⟨pq,⟨bP p q,bS p q,0,[],0,[],bI q⟩,⟨jv,iy,ka,jd⟩,⟨kk,jf,ja,jb⟩,⟨false,none,0,0⟩,none,0⟩:a6×Ans8×ZC×ZC×ZC×Option aB×Nat) ⟨G,(by unfold d6;rw [if_pos U]),(((((M.ext f).vN e).ext ix).vN iu).vN ik),nm,((ny.updT fz iu).updT ia ik),((oy.updT fz iu).updT ia ik),((((((Zr.zero (w:=v7) (base:=w.heap.size)).ext f).updT r e).ext ix).updT fz iu).updT ia ik),gF,(a8 (a8 (a8 E ix.size) iu.by_.size) ik.by_.size),⟨(aK py J),(aK pt J),(a8 (by decide:ln 0≤0) (by decide)),(fun c Z=>absurd Z (by simp)),(bJ _)⟩⟩ J ⟨rfl,rfl,AT⟩))
  ·refine aF (aI J J J false (fA U) (mv 1 J (a7 (aQ J (aD ?_)))))
   by_cases V:k=2
   ·refine aF (aI J J J true (eP V) (mv 1 J (a7 (aW J (aF (pf g1 1 J (lo bC ((L.ext (e8.t f)).vN e) [.bool sa,we Aa na ca,.bool sb,we Ab nb cb] J J J (pf g1 5 J (lo bC ((L.ext (e8.t f)).vN e) [.bool sd,we Ad nd cd,.bool se,we Ae ne ce] J J J ?_)))))))))
    have nz:ln (bP (x*v+u*y) (y*v))≤2097153:=fR (a8 (dN (cK Lx Lv) (cK Lu Ly)) (by decide))
    have pz:ln (bS (x*v+u*y) (y*v))≤2097152:=fY (cK Ly Lv)
    refine cl (vs:= [a9 sa Aa na ca sb Ab nb cb,a9 sd Ad nd cd se Ae ne ce]) h (L0 h.size (hx.ext h) (aK la J) (hy.ext h) (aK lb J) (hu.ext h) (aK ld J) (hv.ext h) (aK le J)) J (by kernel_rfl) fun _ _ om jh H=>?_
    obtain⟨_,_,rfl,⟨jp,jk,ji,je,kp,jz,jl,kn,rfl,pe,px⟩,rfl⟩:=om
    refine mv 1 J (pu (v:= a9 jp jk ji je kp jz jl kn) J (pu (v:= no (bI (y*v))) J (pf D 0 J ?_)))
    have eh:=(I.ext jh)
    refine so bC eh [.bool jp,we jk ji je,.bool kp,we jz jl kn,F0,S0,S0,I0,.string ⟨#[]⟩,I0] H o J J J J fun _ ic ir F=>(pf D 9 J (dE J J J (fun _=>by kernel_rfl) J ic (bq J) J [.bool jp,we jk ji je,.bool kp,we jz jl kn,F0,S0,S0,I0,.string ⟨#[]⟩,no (bI (y*v))] J fun pk nk ig _=>?_))
    have G:=ig.ext F o
    refine aX (bQ (dO (⟨pk,⟨bP (x*v+u*y) (y*v),bS (x*v+u*y) (y*v),0,[],0,[],bI (y*v)⟩,⟨jp,jk,ji,je⟩,⟨kp,jz,jl,kn⟩,⟨false,none,0,0⟩,none,0⟩:a6×Ans8×ZC×ZC×ZC×Option aB×Nat) ⟨G,(by unfold d6;rw [if_neg U,if_pos V]),(((((M.ext f).vN e).ext jh).vN ir).vN ig),nk,((pe.updT eh ir).updT ic ig),((px.updT eh ir).updT ic ig),((((((Zr.zero (w:=v7) (base:=w.heap.size)).ext f).updT r e).ext jh).updT eh ir).updT ic ig),gF,(a8 (a8 (a8 E jh.size) ir.by_.size) ig.by_.size),⟨(aK nz J),(aK pz J),(a8 (by decide:ln 0≤0) (by decide)),(fun c Z=>absurd Z (by simp)),(bJ _)⟩⟩ J ⟨rfl,rfl,AT⟩))
   ·refine aF (aI J J J false (fA V) (mv 1 J (a7 (aQ J (aD ?_)))))
    by_cases W:k=3
    ·refine aF (aI J J J true (eP W) (mv 1 J (a7 (aW J (aF (pf g1 1 J (lo bC ((L.ext (e8.t f)).vN e) [.bool sa,we Aa na ca,.bool sb,we Ab nb cb] J J J (pf g1 5 J (lo bC ((L.ext (e8.t f)).vN e) [.bool sd,we Ad nd cd,.bool se,we Ae ne ce] J J J ?_)))))))))
     have po:ln (bP (x*v+ -u*y) (y*v))≤2097153:=fR (a8 (dN (cK Lx Lv) (cK (show ln (-u)≤1048576 by rw [g0];exact Lu) Ly)) (by decide))
     have oi:ln (bS (x*v+ -u*y) (y*v))≤2097152:=fY (cK Ly Lv)
     refine cl (vs:= [a9 sa Aa na ca sb Ab nb cb,a9 sd Ad nd cd se Ae ne ce]) h (KZ h.size (hx.ext h) (aK la J) (hy.ext h) (aK lb J) (hu.ext h) (aK ld J) (hv.ext h) (aK le J)) J (by kernel_rfl) fun _ _ pj jn H=>?_
     obtain⟨_,_,rfl,⟨iz,iw,jm,jj,ke,kg,jo,kt,rfl,ow,oq⟩,rfl⟩:=pj
     refine mv 1 J (pu (v:= a9 iz iw jm jj ke kg jo kt) J (pu (v:= no (bI (y*v))) J (pf D 0 J ?_)))
     have ew:=(I.ext jn)
     refine so bC ew [.bool iz,we iw jm jj,.bool ke,we kg jo kt,F0,S0,S0,I0,.string ⟨#[]⟩,I0] H o J J J J fun _ gx iv F=>(pf D 9 J (dE J J J (fun _=>by kernel_rfl) J gx (bq J) J [.bool iz,we iw jm jj,.bool ke,we kg jo kt,F0,S0,S0,I0,.string ⟨#[]⟩,no (bI (y*v))] J fun oo md ij _=>?_))
     have G:=ij.ext F o
     refine aX (bQ (dO (⟨oo,⟨bP (x*v+ -u*y) (y*v),bS (x*v+ -u*y) (y*v),0,[],0,[],bI (y*v)⟩,⟨iz,iw,jm,jj⟩,⟨ke,kg,jo,kt⟩,⟨false,none,0,0⟩,none,0⟩:a6×Ans8×ZC×ZC×ZC×Option aB×Nat) ⟨G,(by unfold d6;rw [if_neg U,if_neg V,if_pos W]),(((((M.ext f).vN e).ext jn).vN iv).vN ij),md,((ow.updT ew iv).updT gx ij),((oq.updT ew iv).updT gx ij),((((((Zr.zero (w:=v7) (base:=w.heap.size)).ext f).updT r e).ext jn).updT ew iv).updT gx ij),gF,(a8 (a8 (a8 E jn.size) iv.by_.size) ij.by_.size),⟨(aK po J),(aK oi J),(a8 (by decide:ln 0≤0) (by decide)),(fun c Z=>absurd Z (by simp)),(bJ _)⟩⟩ J ⟨rfl,rfl,AT⟩))
    ·refine aF (aI J J J false (fA W) (mv 1 J (a7 (aQ J (aD ?_)))))
     by_cases Y:k=4
     ·refine aF (aI J J J true (eP Y) (mv 1 J (a7 (aW J (aF (pf g1 1 J (lo bC ((L.ext (e8.t f)).vN e) [.bool sa,we Aa na ca,.bool sb,we Ab nb cb] J J J (pf g1 5 J (lo bC ((L.ext (e8.t f)).vN e) [.bool sd,we Ad nd cd,.bool se,we Ae ne ce] J J J ?_)))))))))
      have ox:ln (bP (x*u) (y*v))≤2097152:=fR (cK Lx Lu)
      have nx:ln (bS (x*u) (y*v))≤2097152:=fY (cK Ly Lv)
      refine cl (vs:= [a9 sa Aa na ca sb Ab nb cb,a9 sd Ad nd cd se Ae ne ce]) h (Y7 h.size (hx.ext h) (aK la J) (hy.ext h) (aK lb J) (hu.ext h) (aK ld J) (hv.ext h) (aK le J)) J (by kernel_rfl) fun _ _ qe jt H=>?_
      obtain⟨_,_,rfl,⟨jr,kb,kf,jc,jy,kr,kc,ks,rfl,og,ov⟩,rfl⟩:=qe
      refine mv 1 J (pu (v:= a9 jr kb kf jc jy kr kc ks) J (pu (v:= no (bI (y*v))) J (pf D 0 J ?_)))
      have fe:=(I.ext jt)
      refine so bC fe [.bool jr,we kb kf jc,.bool jy,we kr kc ks,F0,S0,S0,I0,.string ⟨#[]⟩,I0] H o J J J J fun _ ib im F=>(pf D 9 J (dE J J J (fun _=>by kernel_rfl) J ib (bq J) J [.bool jr,we kb kf jc,.bool jy,we kr kc ks,F0,S0,S0,I0,.string ⟨#[]⟩,no (bI (y*v))] J fun oh me il _=>?_))
      have G:=il.ext F o
      refine aX (bQ (dO (⟨oh,⟨bP (x*u) (y*v),bS (x*u) (y*v),0,[],0,[],bI (y*v)⟩,⟨jr,kb,kf,jc⟩,⟨jy,kr,kc,ks⟩,⟨false,none,0,0⟩,none,0⟩:a6×Ans8×ZC×ZC×ZC×Option aB×Nat) ⟨G,(by unfold d6;rw [if_neg U,if_neg V,if_neg W,if_pos Y]),(((((M.ext f).vN e).ext jt).vN im).vN il),me,((og.updT fe im).updT ib il),((ov.updT fe im).updT ib il),((((((Zr.zero (w:=v7) (base:=w.heap.size)).ext f).updT r e).ext jt).updT fe im).updT ib il),gF,(a8 (a8 (a8 E jt.size) im.by_.size) il.by_.size),⟨(aK ox J),(aK nx J),(a8 (by decide:ln 0≤0) (by decide)),(fun c Z=>absurd Z (by simp)),(bJ _)⟩⟩ J ⟨rfl,rfl,AT⟩))
     ·refine aF (aI J J J false (fA Y) (mv 1 J (a7 (aQ J (aD ?_)))))
      by_cases aa:k=5
      ·refine aF (aI J J J true (eP aa) (mv 1 J (a7 (aW J (aF (pf g1 1 J (lo bC ((L.ext (e8.t f)).vN e) [.bool sa,we Aa na ca,.bool sb,we Ab nb cb] J J J (pf g1 5 J (lo bC ((L.ext (e8.t f)).vN e) [.bool sd,we Ad nd cd,.bool se,we Ae ne ce] J J J ?_)))))))))
       have pr:ln (jE x y u v)≤2097152:=JM Lx Lv
       have ot:ln (jG x y u v)≤2097152:=JN Ly Lu
       refine cl (vs:= [a9 sa Aa na ca sb Ab nb cb,a9 sd Ad nd cd se Ae ne ce]) h (Y9 h.size (hx.ext h) (aK la J) (hy.ext h) (aK lb J) (hu.ext h) (aK ld J) (hv.ext h) (aK le J)) J (by kernel_rfl) fun _ _ oe ko H=>?_
       obtain⟨_,_,rfl,⟨jw,kq,jg,kj,jx,kd,ki,ju,rfl,pd,qd⟩,rfl⟩:=oe
       refine mv 1 J (pu (v:= a9 jw kq jg kj jx kd ki ju) J (pu (v:= no (jF y u v)) J (pf D 0 J ?_)))
       have cp:=(I.ext ko)
       refine so bC cp [.bool jw,we kq jg kj,.bool jx,we kd ki ju,F0,S0,S0,I0,.string ⟨#[]⟩,I0] H o J J J J fun _ ct ef F=>(pf D 9 J (dE J J J (fun _=>by kernel_rfl) J ct (bq J) J [.bool jw,we kq jg kj,.bool jx,we kd ki ju,F0,S0,S0,I0,.string ⟨#[]⟩,no (jF y u v)] J fun mq kx av _=>?_))
       have G:=av.ext F o
       refine aX (bQ (dO (⟨mq,⟨jE x y u v,jG x y u v,0,[],0,[],jF y u v⟩,⟨jw,kq,jg,kj⟩,⟨jx,kd,ki,ju⟩,⟨false,none,0,0⟩,none,0⟩:a6×Ans8×ZC×ZC×ZC×Option aB×Nat) ⟨G,(by unfold d6;rw [if_neg U,if_neg V,if_neg W,if_neg Y,if_pos aa]),(((((M.ext f).vN e).ext ko).vN ef).vN av),kx,((pd.updT cp ef).updT ct av),((qd.updT cp ef).updT ct av),((((((Zr.zero (w:=v7) (base:=w.heap.size)).ext f).updT r e).ext ko).updT cp ef).updT ct av),gF,(a8 (a8 (a8 E ko.size) ef.by_.size) av.by_.size),⟨(aK pr J),(aK ot J),(a8 (by decide:ln 0≤0) (by decide)),(fun c Z=>absurd Z (by simp)),(bJ _)⟩⟩ J ⟨rfl,rfl,AT⟩))
      ·refine aF (aI J J J false (fA aa) (mv 1 J (a7 (aQ J (aD ?_)))))
       by_cases ae:k=6
       ·refine aF (aI J J J true (eP ae) (mv 1 J (a7 (aW J (aF (pf g1 1 J (lo bC ((L.ext (e8.t f)).vN e) [.bool sa,we Aa na ca,.bool sb,we Ab nb cb] J J J (pf g1 5 J (lo bC ((L.ext (e8.t f)).vN e) [.bool sd,we Ad nd cd,.bool se,we Ae ne ce] J J J (cl (vs:= [a9 sa Aa na ca sb Ab nb cb,a9 sd Ad nd cd se Ae ne ce]) h (YA (hx.ext h) (aK la J) (hy.ext h) (aK lb J) (hu.ext h) (aK ld J) (hv.ext h) (aK le J)) J (by kernel_rfl) fun _ _ mf ar H=>?_))))))))))
        obtain⟨_,_,rfl,rfl,rfl⟩:=mf
        refine mv 1 J (pu (v:= no (bE (bP (x*v+ -u*y) (y*v)) 0)) J (pu (v:= no (bI (y*v))) J (pf D 7 J ?_)))
        have dg:=(I.ext ar)
        refine dE J J J (fun _=>by kernel_rfl) J dg (bq J) J [F0,S0,F0,S0,F0,S0,S0,no (bE (bP (x*v+ -u*y) (y*v)) 0),.string ⟨#[]⟩,I0] J fun _ cm bg _=>?_
        have F:=bg.ext H o
        refine pf D 9 J (dE J J J (fun _=>by kernel_rfl) J cm (bq J) J [F0,S0,F0,S0,F0,S0,S0,no (bE (bP (x*v+ -u*y) (y*v)) 0),.string ⟨#[]⟩,no (bI (y*v))] J fun mn lp aw _=>?_)
        have G:=aw.ext F o
        refine aX (bQ (dO (⟨mn,⟨0,0,0,[],bE (bP (x*v+ -u*y) (y*v)) 0,[],bI (y*v)⟩,⟨false,none,0,0⟩,⟨false,none,0,0⟩,⟨false,none,0,0⟩,none,0⟩:a6×Ans8×ZC×ZC×ZC×Option aB×Nat) ⟨G,(by unfold d6;rw [if_neg U,if_neg V,if_neg W,if_neg Y,if_neg aa,if_pos ae]),(((((M.ext f).vN e).ext ar).vN bg).vN aw),lp,((((((Zr.zero (w:=v7) (base:=w.heap.size)).ext f).updT r e).ext ar).updT dg bg).updT cm aw),((((((Zr.zero (w:=v7) (base:=w.heap.size)).ext f).updT r e).ext ar).updT dg bg).updT cm aw),((((((Zr.zero (w:=v7) (base:=w.heap.size)).ext f).updT r e).ext ar).updT dg bg).updT cm aw),gF,(a8 (a8 (a8 E ar.size) bg.by_.size) aw.by_.size),⟨(a8 (by decide:ln 0≤0) (by decide)),(a8 (by decide:ln 0≤0) (by decide)),(a8 (by decide:ln 0≤0) (by decide)),(fun c Z=>absurd Z (by simp)),(bJ _)⟩⟩ J ⟨rfl,rfl,AT⟩))
       ·refine aF (aI J J J false (fA ae) (mv 1 J (a7 (aQ J (aD ?_)))))
        by_cases aq:k=7
        ·refine aF (aI J J J true (eP aq) (mv 1 J (a7 (aW J (aF (pf g1 1 J (lo bC ((L.ext (e8.t f)).vN e) [.bool sa,we Aa na ca,.bool sb,we Ab nb cb] J J J ?_)))))))
         have ml:ln (qF x y)≤1048578:=JH Lx
         refine cl (vs:= [a9 sa Aa na ca sb Ab nb cb]) h (PJ h.size (hx.ext h) (aK la J) (hy.ext h) (aK lb J)) J (by kernel_rfl) fun _ _ mt dr H=>?_
         obtain⟨_,_,rfl,⟨fo,en,gg,ge,rfl,mz⟩,rfl⟩:=mt
         refine mv 1 J (pu (v:= O fo en gg ge) J (pu (v:= no (eZ y)) J (pf D 4 J ?_)))
         have ch:=(I.ext dr)
         refine so aA ch [F0,S0,F0,S0,.bool fo,we en gg ge,S0,I0,.string ⟨#[]⟩,I0] H o J J J J fun _ cv dz F=>(pf D 9 J (dE J J J (fun _=>by kernel_rfl) J cv (bq J) J [F0,S0,F0,S0,.bool fo,we en gg ge,S0,I0,.string ⟨#[]⟩,no (eZ y)] J fun nj ll bo _=>?_))
         have G:=bo.ext F o
         refine aX (bQ (dO (⟨nj,⟨0,0,qF x y,[],0,[],eZ y⟩,⟨false,none,0,0⟩,⟨false,none,0,0⟩,⟨fo,en,gg,ge⟩,none,0⟩:a6×Ans8×ZC×ZC×ZC×Option aB×Nat) ⟨G,(by unfold d6;rw [if_neg U,if_neg V,if_neg W,if_neg Y,if_neg aa,if_neg ae,if_pos aq]),(((((M.ext f).vN e).ext dr).vN dz).vN bo),ll,((((((Zr.zero (w:=v7) (base:=w.heap.size)).ext f).updT r e).ext dr).updT ch dz).updT cv bo),((((((Zr.zero (w:=v7) (base:=w.heap.size)).ext f).updT r e).ext dr).updT ch dz).updT cv bo),((mz.updT ch dz).updT cv bo),gF,(a8 (a8 (a8 E dr.size) dz.by_.size) bo.by_.size),⟨(a8 (by decide:ln 0≤0) (by decide)),(a8 (by decide:ln 0≤0) (by decide)),(aK ml J),(fun c Z=>absurd Z (by simp)),(bJ _)⟩⟩ J ⟨rfl,rfl,AT⟩))
        ·refine aF (aI J J J false (fA aq) (mv 1 J (a7 (aQ J (aD ?_)))))
         by_cases ck:k=8
         ·refine aF (aI J J J true (eP ck) (mv 1 J (a7 (aW J (aF (pf g1 1 J (lo bC ((L.ext (e8.t f)).vN e) [.bool sa,we Aa na ca,.bool sb,we Ab nb cb] J J J ?_)))))))
          have nc:ln (lH x y)≤1048577:=JJ Lx
          refine cl (vs:= [a9 sa Aa na ca sb Ab nb cb]) h (PI h.size (hx.ext h) (aK la J) (hy.ext h) (aK lb J)) J (by kernel_rfl) fun _ _ mr dl H=>?_
          obtain⟨_,_,rfl,⟨ga,gj,gy,gn,rfl,ma⟩,rfl⟩:=mr
          refine mv 1 J (pu (v:= O ga gj gy gn) J (pu (v:= no (bI y)) J (pf D 4 J ?_)))
          have ci:=(I.ext dl)
          refine so aA ci [F0,S0,F0,S0,.bool ga,we gj gy gn,S0,I0,.string ⟨#[]⟩,I0] H o J J J J fun _ df dh F=>(pf D 9 J (dE J J J (fun _=>by kernel_rfl) J df (bq J) J [F0,S0,F0,S0,.bool ga,we gj gy gn,S0,I0,.string ⟨#[]⟩,no (bI y)] J fun mg lu bj _=>?_))
          have G:=bj.ext F o
          refine aX (bQ (dO (⟨mg,⟨0,0,lH x y,[],0,[],bI y⟩,⟨false,none,0,0⟩,⟨false,none,0,0⟩,⟨ga,gj,gy,gn⟩,none,0⟩:a6×Ans8×ZC×ZC×ZC×Option aB×Nat) ⟨G,(by unfold d6;rw [if_neg U,if_neg V,if_neg W,if_neg Y,if_neg aa,if_neg ae,if_neg aq,if_pos ck]),(((((M.ext f).vN e).ext dl).vN dh).vN bj),lu,((((((Zr.zero (w:=v7) (base:=w.heap.size)).ext f).updT r e).ext dl).updT ci dh).updT df bj),((((((Zr.zero (w:=v7) (base:=w.heap.size)).ext f).updT r e).ext dl).updT ci dh).updT df bj),((ma.updT ci dh).updT df bj),gF,(a8 (a8 (a8 E dl.size) dh.by_.size) bj.by_.size),⟨(a8 (by decide:ln 0≤0) (by decide)),(a8 (by decide:ln 0≤0) (by decide)),(aK nc J),(fun c Z=>absurd Z (by simp)),(bJ _)⟩⟩ J ⟨rfl,rfl,AT⟩))
         ·refine aF (aI J J J false (fA ck) (mv 1 J (a7 (aQ J (aD ?_)))))
          by_cases du:k=9
          ·refine aF (aI J J J true (eP du) (mv 1 J (a7 (aW J (aF (pf g1 1 J (lo bC ((L.ext (e8.t f)).vN e) [.bool sa,we Aa na ca,.bool sb,we Ab nb cb] J J J (cl (vs:= [a9 sa Aa na ca sb Ab nb cb]) h (PH (hx.ext h) (aK la J) (hy.ext h) (aK lb J) (hS.ext h)) J (by kernel_rfl) fun _ _ mw ba H=>?_))))))))
           obtain⟨_,_,rfl,rfl,rfl⟩:=mw
           refine mv 1 J (pu (v:= .string (aJ (j5 x y))) J (pu (v:= no (bI y)) J (pf D 8 J ?_)))
           have cz:=(I.ext ba)
           refine dE J J J (fun _=>by kernel_rfl) J cz (bq J) J [F0,S0,F0,S0,F0,S0,S0,I0,.string (aJ (j5 x y)),I0] J fun _ cu bi _=>?_
           have F:=bi.ext H o
           refine pf D 9 J (dE J J J (fun _=>by kernel_rfl) J cu (bq J) J [F0,S0,F0,S0,F0,S0,S0,I0,.string (aJ (j5 x y)),no (bI y)] J fun nl lh az _=>?_)
           have G:=az.ext F o
           refine aX (bQ (dO (⟨nl,⟨0,0,0,[],0,j5 x y,bI y⟩,⟨false,none,0,0⟩,⟨false,none,0,0⟩,⟨false,none,0,0⟩,none,0⟩:a6×Ans8×ZC×ZC×ZC×Option aB×Nat) ⟨G,(by unfold d6;rw [if_neg U,if_neg V,if_neg W,if_neg Y,if_neg aa,if_neg ae,if_neg aq,if_neg ck,if_pos du]),(((((M.ext f).vN e).ext ba).vN bi).vN az),lh,((((((Zr.zero (w:=v7) (base:=w.heap.size)).ext f).updT r e).ext ba).updT cz bi).updT cu az),((((((Zr.zero (w:=v7) (base:=w.heap.size)).ext f).updT r e).ext ba).updT cz bi).updT cu az),((((((Zr.zero (w:=v7) (base:=w.heap.size)).ext f).updT r e).ext ba).updT cz bi).updT cu az),gF,(a8 (a8 (a8 E ba.size) bi.by_.size) az.by_.size),⟨(a8 (by decide:ln 0≤0) (by decide)),(a8 (by decide:ln 0≤0) (by decide)),(a8 (by decide:ln 0≤0) (by decide)),FJ,(bJ _)⟩⟩ J ⟨rfl,rfl,AT⟩))
          ·refine aF (aI J J J false (fA du) (mv 1 J (a7 (aQ J (aD ?_)))))
           by_cases ak:k=10
           ·refine aF (aI J J J true (eP ak) (mv 1 J (a7 (aW J (aF (pf g1 13 J (bB J J (bM (fun _=>by kernel_rfl) ((L.ext (e8.t f)).vN e) J) (dQ J J (vs:= [.string (aJ bs)]) (by kernel_rfl) (by decide) ((t7 hbs hlen).2.2 h.size).2 ?_))))))))
            rintro _ _ ⟨_,rfl,mh,dt⟩
            refine dR ?_
            have H:=h.trans dt
            obtain⟨_,_,rfl,⟨fh,gf,fb,ie,ei,gk,fp,fy,rfl,nu,mi⟩,rfl⟩:=mh
            refine mv 1 J (pu (v:= a9 fh gf fb ie ei gk fp fy) J (pu (v:= no ((eO bs).2.2)) J (pf D 0 J ?_)))
            have cj:=(I.ext dt)
            refine so bC cj [.bool fh,we gf fb ie,.bool ei,we gk fp fy,F0,S0,S0,I0,.string ⟨#[]⟩,I0] H o J J J J fun _ bw dy F=>(pf D 9 J (dE J J J (fun _=>by kernel_rfl) J bw (bq J) J [.bool fh,we gf fb ie,.bool ei,we gk fp fy,F0,S0,S0,I0,.string ⟨#[]⟩,no ((eO bs).2.2)] J fun ni kz bm _=>?_))
            have G:=bm.ext F o
            refine aX (bQ (dO (⟨ni,⟨(eO bs).1,(eO bs).2.1,0,[],0,[],(eO bs).2.2⟩,⟨fh,gf,fb,ie⟩,⟨ei,gk,fp,fy⟩,⟨false,none,0,0⟩,none,0⟩:a6×Ans8×ZC×ZC×ZC×Option aB×Nat) ⟨G,(by unfold d6;rw [if_neg U,if_neg V,if_neg W,if_neg Y,if_neg aa,if_neg ae,if_neg aq,if_neg ck,if_neg du,if_pos ak]),(((((M.ext f).vN e).ext dt).vN dy).vN bm),kz,((nu.updT cj dy).updT bw bm),((mi.updT cj dy).updT bw bm),((((((Zr.zero (w:=v7) (base:=w.heap.size)).ext f).updT r e).ext dt).updT cj dy).updT bw bm),gF,(a8 (a8 (a8 E dt.size) dy.by_.size) bm.by_.size),⟨(a8 (t7 hbs hlen).1 (by decide)),(a8 (t7 hbs hlen).2.1 (by decide)),(a8 (by decide:ln 0≤0) (by decide)),(fun c Z=>absurd Z (by simp)),(bJ _)⟩⟩ J ⟨rfl,rfl,AT⟩))
           ·refine aF (aI J J J false (fA ak) (mv 1 J (a7 (aQ J (aD ?_)))))
            by_cases au:k=11
            ·refine aF (aI J J J true (eP au) (mv 1 J (a7 (aW J (aF (pf g1 1 J (lo bC ((L.ext (e8.t f)).vN e) [.bool sa,we Aa na ca,.bool sb,we Ab nb cb] J J J ?_)))))))
             have qg:g1<dm.heap.size:=((L.ext (e8.t f)).vN e).lt
             have qh:g6<dm.heap.size:=((M.ext f).vN e).lt
             have qi:D<dm.heap.size:=I.lt
             have mx:iq≤dm.heap.size:=E
             refine cl (vs:= [a9 sa Aa na ca sb Ab nb cb]) h (PL h.size (hx.ext h) (aK la J) (hy.ext h) (aK lb J)) J (by kernel_rfl) fun _ _ nh bd H=>?_
             obtain⟨_,_,rfl,⟨go,fg,rfl,io⟩,r190_1⟩:=nh
             have ez:=io.block
             obtain rfl:=r190_1
             refine mv 1 J (pu (v:= we go ((jI x y).length) fg) J (pu (v:= no (bI y)) J (pf D 6 J ?_)))
             have ah:=(I.ext bd)
             refine dE J J J (fun _=>by kernel_rfl) J ah (bq J) J [F0,S0,F0,S0,F0,S0,we go ((jI x y).length) fg,I0,.string ⟨#[]⟩,I0] J fun _ aj ap _=>?_
             have F:=ap.ext H o
             refine pf D 9 J (dE J J J (fun _=>by kernel_rfl) J aj (bq J) J [F0,S0,F0,S0,F0,S0,we go ((jI x y).length) fg,I0,.string ⟨#[]⟩,no (bI y)] J fun mo ku am _=>?_)
             have G:=am.ext F o
             refine aX (bQ (dO (⟨mo,⟨0,0,0,jI x y,0,[],bI y⟩,⟨false,none,0,0⟩,⟨false,none,0,0⟩,⟨false,none,0,0⟩,go,fg⟩:a6×Ans8×ZC×ZC×ZC×Option aB×Nat) ⟨G,(by unfold d6;rw [if_neg U,if_neg V,if_neg W,if_neg Y,if_neg aa,if_neg ae,if_neg aq,if_neg ck,if_neg du,if_neg ak,if_pos au]),(((((M.ext f).vN e).ext bd).vN ap).vN am),ku,((((((Zr.zero (w:=v7) (base:=w.heap.size)).ext f).updT r e).ext bd).updT ah ap).updT aj am),((((((Zr.zero (w:=v7) (base:=w.heap.size)).ext f).updT r e).ext bd).updT ah ap).updT aj am),((((((Zr.zero (w:=v7) (base:=w.heap.size)).ext f).updT r e).ext bd).updT ah ap).updT aj am),((((io.updT ah ap (fun p hp=>by have:=ez p hp;omega)).updT aj am (fun p hp=>by have:=ez p hp;omega))).mono (aZ _) (aZ _) mx),(a8 (a8 (a8 E bd.size) ap.by_.size) am.by_.size),⟨(a8 (by decide:ln 0≤0) (by decide)),(a8 (by decide:ln 0≤0) (by decide)),(a8 (by decide:ln 0≤0) (by decide)),(fun c Z=>absurd Z (by simp)),(LW Lx Ly)⟩⟩ J ⟨rfl,rfl,AT⟩))
            ·refine aF (aI J J J false (fA au) (mv 1 J (a7 (aQ J (aD ?_)))))
             by_cases dw:k=12
             ·refine aF (aI J J J true (eP dw) (mv 1 J (a7 (aW J (aF (pf g1 14 J (bB J J (bM (fun _=>by kernel_rfl) ((L.ext (e8.t f)).vN e) J) (cl (vs:= [we C n c]) h (PG h.size (hl.ext h) hn hmb hnd) J (by kernel_rfl) fun _ _ lw ft H=>?_))))))))
              obtain⟨_,_,rfl,⟨em,fi,fj,fc,fd,gi,fq,fx,rfl,lz,mb⟩,rfl⟩:=lw
              refine mv 1 J (pu (v:= a9 em fi fj fc fd gi fq fx) J (pu (v:= no (l9 zs)) J (pf D 0 J ?_)))
              have de:=(I.ext ft)
              refine so bC de [.bool em,we fi fj fc,.bool fd,we gi fq fx,F0,S0,S0,I0,.string ⟨#[]⟩,I0] H o J J J J fun _ bu dx F=>(pf D 9 J (dE J J J (fun _=>by kernel_rfl) J bu (bq J) J [.bool em,we fi fj fc,.bool fd,we gi fq fx,F0,S0,S0,I0,.string ⟨#[]⟩,no (l9 zs)] J fun mc kv bf _=>?_))
              have G:=bf.ext F o
              refine aX (bQ (dO (⟨mc,⟨mJ zs,mK zs,0,[],0,[],l9 zs⟩,⟨em,fi,fj,fc⟩,⟨fd,gi,fq,fx⟩,⟨false,none,0,0⟩,none,0⟩:a6×Ans8×ZC×ZC×ZC×Option aB×Nat) ⟨G,(by unfold d6;rw [if_neg U,if_neg V,if_neg W,if_neg Y,if_neg aa,if_neg ae,if_neg aq,if_neg ck,if_neg du,if_neg ak,if_neg au,if_pos dw]),(((((M.ext f).vN e).ext ft).vN dx).vN bf),kv,((lz.updT de dx).updT bu bf),((mb.updT de dx).updT bu bf),((((((Zr.zero (w:=v7) (base:=w.heap.size)).ext f).updT r e).ext ft).updT de dx).updT bu bf),gF,(a8 (a8 (a8 E ft.size) dx.by_.size) bf.by_.size),⟨(a8 (yD hnd).1 (by decide)),(a8 (yD hnd).2 (by decide)),(a8 (by decide:ln 0≤0) (by decide)),(fun c Z=>absurd Z (by simp)),(bJ _)⟩⟩ J ⟨rfl,rfl,AT⟩))
             ·refine aF (aI J J J false (fA dw) (mv 1 J (a7 (aQ J (aD ?_)))))
              by_cases gr:k=13
              ·refine aF (aI J J J true (eP gr) (mv 1 J (a7 (aW J (aF (pf g1 9 J (lo aA ((L.ext (e8.t f)).vN e) (a5 sf Af nf cf) J J J (pf g1 11 J (lo aA ((L.ext (e8.t f)).vN e) (a5 sg Ag ng cg) J J J (cl (vs:= [O sf Af nf cf,O sg Ag ng cg]) h (XX h.size (hp.ext h) (aK lf J) (hq.ext h) (aK lg J)) J (by kernel_rfl) fun _ _ mu ej H=>?_))))))))))
               obtain⟨_,_,rfl,⟨gc,fv,fw,ey,fm,el,gb,fk,rfl,nt,mj⟩,rfl⟩:=mu
               refine mv 1 J (pu (v:= a9 gc fv fw ey fm el gb fk) J (pu (v:= no (j9 q p)) J (pf D 0 J ?_)))
               have bp:=(I.ext ej)
               refine so bC bp [.bool gc,we fv fw ey,.bool fm,we el gb fk,F0,S0,S0,I0,.string ⟨#[]⟩,I0] H o J J J J fun _ da eg F=>(pf D 9 J (dE J J J (fun _=>by kernel_rfl) J da (bq J) J [.bool gc,we fv fw ey,.bool fm,we el gb fk,F0,S0,S0,I0,.string ⟨#[]⟩,no (j9 q p)] J fun mp lj bh _=>?_))
               have G:=bh.ext F o
               refine aX (bQ (dO (⟨mp,⟨kB q p,kC q p,0,[],0,[],j9 q p⟩,⟨gc,fv,fw,ey⟩,⟨fm,el,gb,fk⟩,⟨false,none,0,0⟩,none,0⟩:a6×Ans8×ZC×ZC×ZC×Option aB×Nat) ⟨G,(by unfold d6;rw [if_neg U,if_neg V,if_neg W,if_neg Y,if_neg aa,if_neg ae,if_neg aq,if_neg ck,if_neg du,if_neg ak,if_neg au,if_neg dw,if_pos gr]),(((((M.ext f).vN e).ext ej).vN eg).vN bh),lj,((nt.updT bp eg).updT da bh),((mj.updT bp eg).updT da bh),((((((Zr.zero (w:=v7) (base:=w.heap.size)).ext f).updT r e).ext ej).updT bp eg).updT da bh),gF,(a8 (a8 (a8 E ej.size) eg.by_.size) bh.by_.size),⟨(a8 (yE Lq).1 (by decide)),(a8 (yE Lq).2 (by decide)),(a8 (by decide:ln 0≤0) (by decide)),(fun c Z=>absurd Z (by simp)),(bJ _)⟩⟩ J ⟨rfl,rfl,AT⟩))
              ·refine aF (aI J J J false (fA gr) (mv 1 J (a7 (aQ J (aY (bQ (dO (⟨dm,⟨0,0,0,[],0,[],0⟩,⟨false,none,0,0⟩,⟨false,none,0,0⟩,⟨false,none,0,0⟩,none,0⟩:a6×Ans8×ZC×ZC×ZC×Option aB×Nat) ⟨h,(by unfold d6;rw [if_neg U,if_neg V,if_neg W,if_neg Y,if_neg aa,if_neg ae,if_neg aq,if_neg ck,if_neg du,if_neg ak,if_neg au,if_neg dw,if_neg gr]),((M.ext f).vN e),I,(((Zr.zero (w:=v7) (base:=w.heap.size)).ext f).updT r e),(((Zr.zero (w:=v7) (base:=w.heap.size)).ext f).updT r e),(((Zr.zero (w:=v7) (base:=w.heap.size)).ext f).updT r e),gF,E,⟨(a8 (by decide:ln 0≤0) (by decide)),(a8 (by decide:ln 0≤0) (by decide)),(a8 (by decide:ln 0≤0) (by decide)),(fun c Z=>absurd Z (by simp)),(bJ _)⟩⟩ J ⟨rfl,rfl,AT⟩)))))))
 ·rintro⟨wr,t,k1,k2,X,B,d⟩ ⟨kw,ht,b_2,b_3,oa,ou,oz,jq,_,ph⟩
  refine cR [(2,i5 g6 0),(3,i5 D 0)] wr J ⟨rfl,rfl,AT⟩ ?_
  have nw:=jq.block
  have ky:∀p,B=some p→p.block≠g6:=fun p hp=>by have:=jq.block p hp;omega
  have pm:∀p,B=some p→p.block≠D:=fun p hp=>by have:=jq.block p hp;omega
  refine sr (lo m7 b_3 [.bool k1.s,we k1.A k1.n k1.c,.bool k2.s,we k2.A k2.n k2.c,.bool X.s,we X.A X.n X.c,we B t.L.length d,no t.N,.string (aJ t.S),no t.E] J J J ?_)
  have ag:=b_2
  refine so m7 ag [.bool k1.s,we k1.A k1.n k1.c,.bool k2.s,we k2.A k2.n k2.c,.bool X.s,we X.A X.n X.c,we B t.L.length d,no t.N,.string (aJ t.S),no t.E] kw my J J J J fun _ lm fa li=>(a7 (aV (aU [.agg #[.bool k1.s,we k1.A k1.n k1.c,.bool k2.s,we k2.A k2.n k2.c,.bool X.s,we X.A X.n X.c,we B t.L.length d,no t.N,.string (aJ t.S),no t.E]] J ⟨⟨_,rfl,bH m7 lm [.bool k1.s,we k1.A k1.n k1.c,.bool k2.s,we k2.A k2.n k2.c,.bool X.s,we X.A X.n X.c,we B t.L.length d,no t.N,.string (aJ t.S),no t.E] J (bq J) rfl⟩,AT⟩ ?_)))
  exact⟨_,rfl,AnsR8.of ht ⟨_,_,_,_,_,_,_,_,_,_,_,_,_,_,rfl,(oa.updT ag fa),(ou.updT ag fa),(oz.updT ag fa),(((jq.updT ag fa ky)).mono (aZ _) (aZ _) lk),ph⟩,li⟩
theorem XD (hb:b≤w.heap.size){k p:Int}(h:Op8 w k x y u v p q bs zs n vv)(hbs:∀b,b∈bs→b<256)(hlen:bs.length≤1048576)(hS:Signs w):aP aN 24 #[vv] w (Gv w (AnsR8 b (d6 k x y u v p q bs zs))):=by
 obtain⟨sa,Aa,na,ca,sb,Ab,nb,cb,sd,Ad,nd,cd,se,Ae,ne,ce,sf,Af,nf,cf,sg,Ag,ng,cg,C,c,ms,rfl,h1,h2,L,I,V,U,M,H,G,f,D,r,e,E,o,F⟩:=h
 exact (XC h1 h2 L I V U M H G f D r e E o F hbs hlen hS).mono (Gv.imp (AnsR8.imp hb))
end
end Go.Proofs.YtkepckmdjncehaaGreatDoor
