/- Parts Top, Txr, Lx1, Lx2, Rxd, Rt, Ru, Rxe, Rv, joined. -/
import Derived.Test.YtnpbbknemflpnaaGreatDoorX2
import Derived.Laws.DeepStrings4
import Derived.Test.YtnpbbknemflpnaaGreatDoorShelf

open Go renaming Addr → a8, Calls → aU, Oper → aX, Operand → bW, Program → bT, TypeId → aQ, Value → aC, World → a6, run_underlying → gM
open Go.Instr renaming makeSlice → mQ
open Int renaming toNat_natCast → gC
open List renaming append_nil → fA, getD_eq_getElem?_getD → bE, getElem?_eq_getElem → bS, getElem?_map → gR, getElem?_take → iC, getElem_mem → jA, length_append → cK, length_drop → fN, length_eq_zero_iff → kU, length_take → cV, map_take → j9, mem_append → eQ, mem_map → iQ, mem_of_mem_drop → sK, mem_of_mem_take → oB, mem_singleton → fT, take_append_drop → kT
open Nat renaming add_zero → dF, div_le_self → f5, div_lt_self → iB, le_refl → aZ, le_trans → aN, lt_of_le_of_lt → jY, lt_of_lt_of_le → cU, min_eq_left → fK, mod_lt → fM, mul_assoc → cI, mul_one → eI, mul_pos → gO, pow_add → dQ, pow_le_pow_right → fJ, pow_pos → eT, pow_succ → dK, zero_add → dY, zero_le → cE
open Go.Next renaming value → eP
open Option.some renaming injEq → dR
open Or renaming inr → cA
open Go.Sem renaming run_bind → bQ
open Go.Proofs.Tryz renaming prog → aG
open Go.Value renaming int → bP
open Go.World renaming block_lt_of_cell? → mJ
namespace Go.Proofs.YtnpbbknemflpnaaGreatDoor
set_option maxHeartbeats 4000000
set_option maxRecDepth 20000
variable {A Aa Ay B PA:Option a8}{C R:Int}{N ac an b b_a b_y base c c' ca cap capa d g i ip j k lb m m' n n' na o p pb pn r s tn u unit v width x y z:Nat}{P:bT}{T e ty:aQ}{X:Option (List Nat)}{af:Array Edge}{bs cs ds pl pre rs t tx xs ys:List Nat}{dn l q:List Pc}{gd:Option (Nat×Bool)}{kf:FuncId}{ops:Array aX}{rest:List aX}{sa sy:Bool}{ts:List Tk}{us vs:List aC}{w w' w0:a6}{zs:List Int}
open Go.RowKit
theorem KZ {x:Int}(hx:Zi w sa Aa na ca x)(la:na≤1048576):aU aG 36 #[G sa Aa na ca] w (Gv w (ZOR w.heap.size sa na x)):=by
 have ba:=hx
 obtain⟨xs,ae,bd⟩:=ba
 have Lx:ln x≤1048576:=aN hx.ln la
 refine bJ Tryz.func36 E (n:=10) E (bq E) (args:= [G sa Aa na ca]) (bH [(0,G sa Aa na ca)] ⟨rfl,i3⟩ (sr (bx (J sa Aa na ca) aF E E E fun g1 _ O _ _ ax=>(jT [F0,S0] ax O.lt (fun _=>by kernel_rfl) E fun _ v7 bf U _ e8 H=>(a7 (aD ?_))))))
 refine fG eR 7 [] [Is (a1 g1 0),Is (.bool sa),fun v' w'=>∃g,v'= a9 (some ⟨g,0,none⟩) 0 0∧v7.heap.size≤g∧Bk w' g 50 [],Is (a1 g1 1),Is (a9 Aa na ca),fun v' w'=>∃A c,v'= a9 A na c∧Own w' w.heap.size 50 1 A na c (xs.map bG),ZOR w.heap.size sa na x] [[],[0],[],[],[3],[2,4],[1,5]] [[],[0],[],[],[3],[2,3,4],[0,1,2,3,4,5],[0,1,2,3,4,5,6]] rfl
  (aP E E (aK E E ?_) (aP E E (aK E E ?_) (aP E E (aK E E ?_) (aP E E (aK E E ?_) (aP E E (aK E E ?_) (aP E E (aK E E ?_) (aP E E (aK E E ?_) fE))))))) ?_
 ·exact fun _ _=>aL (pf g1 0 E (aO E aF E))
 ·exact fun _ aq=>dk E E (aL (aH E E (aS rV (O.ext (e8.t aq)) E) (aO E aF E)))
 ·intro _ am
  have f:=H.trans am
  refine aL (dN E E (k:=0) (e:=50) [] (fun _=>by kernel_rfl) fun bi _ nb=>?_)
  have V:=nb.bk
  have ab:=nb.ext
  have Y:v7.heap.size≤bi:=by rw [←nb.at_];exact am.size
  clear nb
  have I:=f.trans ab
  exact aO E ab ⟨_,rfl,Y,V⟩
 ·exact fun _ _=>aL (pf g1 1 E (aO E aF E))
 ·exact fun _ ar=>dk E E (aL (aH E E (aS j3 (O.ext (e8.t ar)) E) (aO E aF E)))
 ·intro _ aw
  have f:=H.trans aw
  refine eE E E fun _ _ az _ ay=>?_
  obtain⟨_,rfl,M,p⟩:=az
  have p:=p.ext ay
  refine dk E E (aL (EL E E E Tryz.underlying44 kF E (by decide) (aN H.size M) f.size p (ae.ext f).rv (s8 xs) (by omega) (by decide) fun _ _ _ ak X=>?_))
  have I:=f.trans X
  exact aO E X ⟨_,_,rfl,ak⟩
 ·intro _ _
  refine dk E E (eE E E fun _ _ au _ bh=>?_)
  obtain⟨aj,W,rfl,r⟩:=au
  have r:=r.ext bh
  refine aL (pu (v:= G sa aj na W) E ?_)
  exact aO E aF ⟨_,_,rfl,(show Zo _ _ sa _ _ _ x from⟨xs,r,ae.wf,bd⟩)⟩
 ·intro _ ah
  have f:=H.trans ah
  refine dk E E (dk E E (eE E E fun _ _ bg _ av=>?_))
  obtain⟨_,rfl,_,q⟩:=bg
  have q:=q.ext av
  refine dk E E (dk E E (eE E E fun _ _ ag _ aa=>?_))
  obtain⟨_,_,rfl,F⟩:=ag
  have F:=F.ext aa
  refine eE E E fun _ _ ai _ Z=>?_
  obtain⟨j,o,rfl,h⟩:=ai
  have h:=h.ext Z
  refine aL ?_
  have D:=(bf.ext ah)
  refine so eB D (J sa j na o) f U E E E E fun _ L ao I=>(bA (fF (aJ (aW (aV [G sa j na o] E ⟨⟨_,rfl,gH eB L (J sa j na o) E (bq E) rfl⟩,i3⟩ ?_)))))
  exact⟨_,rfl,⟨_,_,rfl,(h.updT D ao)⟩,I⟩
theorem L0 (hb:b≤w.heap.size){x:Int}(hx:Zi w sa Aa na ca x)(la:na≤1048576):aU aG 36 #[G sa Aa na ca] w (Gv w (ZOR b sa na x)):=(KZ hx la).mono (Gv.imp (ZOR.imp hb))
theorem KY (hb:b≤w.heap.size)(hlb:lb≤w.heap.size)(hw0:Ext w0 w)(hxa:ZF w Aa na capa 1048576 zs)(hna:na≤1048576):aU aG 17 #[a9 Aa na capa] w (Gv w (LE (some w0) 1048576 b lb na zs)):=by
 obtain⟨msa,I,aa⟩:=hxa
 refine bJ Tryz.func17 E (n:=23) E (bq E) (args:= [a9 Aa na capa]) (bH [(0,a9 Aa na capa)] ⟨rfl,i3⟩ (sr (mv 1 E (a7 (sr (mv 1 E (pu (v:= a4 na) E (t7 (k:=na) (some w0) 1048576 w.heap.size E E E fun o v2 Y kD e5=>?_))))))))
 have H:o≤v2.heap.size:=by have:=(kD.block _ E).2;exact Nat.le_of_lt this
 have L:w.heap.size≤o:=by rw [←Y];exact (Ext.refl w).size
 clear Y
 have f:=(Ext.refl w).trans e5
 have az:=kD.block
 refine mv 1 E (a7 (aD (sr (mv 1 E (a7 (bI ?_))))))
 have O:=kD
 rw [xL zs na] at O
 refine dJ (T:=a6×Nat) (fun⟨wr,i⟩=> [(0,a9 Aa na capa),(2,a9 none 0 0),(3,a9 (some ⟨o,0,none⟩) na na),(4,a4 i),(5,a9 Aa na capa),(6,a4 na),(7,a9 (some ⟨o,0,none⟩) na na)]) (fun⟨wr,i⟩=>wr) (fun⟨wr,i⟩=>(Ext w wr)∧(i≤na)∧(o≤wr.heap.size)∧(Lz (some w0) 1048576 w.heap.size wr o (some ⟨o,0,none⟩) na na (iU zs na i))) (fun⟨wr,i⟩=>na-i)
  (⟨v2,0⟩:a6×Nat) ⟨f,(by omega),H,O⟩ E ⟨rfl,rfl,rfl,rfl,rfl,rfl,rfl,i3⟩ ?_
 rintro⟨wr,i⟩ ⟨f,_,l_someg10noneb,l_someg10none⟩
 refine d9 [(0,a9 Aa na capa),(2,a9 none 0 0),(3,a9 (some ⟨o,0,none⟩) na na),(4,a4 i),(5,a9 Aa na capa),(6,a4 na),(7,a9 (some ⟨o,0,none⟩) na na)] wr E ⟨rfl,rfl,rfl,rfl,rfl,rfl,rfl,i3⟩ ?_
 have ae:=l_someg10none.block
 refine aD (aD ?_)
 by_cases au:i<na
 ·refine aE (mv 2 E (pu (v:= a4 na) E (aA E E E true (d5 (a:=i) (b:=na) E E) (a7 (b8 E (aY (aJ (aD (bI (aE (mv 4 E ?_)))))))))))
  obtain⟨ap,ab,aq,aw,am,Z,av⟩:=I.at (i:=i) (by omega)
  refine cG E E E kG eB.size i E ap am (aH E E (Z _ f _ _ eB) (cl (vs:= [.agg #[.bool ab,a9 aq (msa.getD i 0) aw]]) f (L0 f.size (av.ext f) (aN (aa i) (by decide))) E (by kernel_rfl) fun _ _ ar D V=>?_))
  obtain⟨aj,W,rfl,ak⟩:=ar
  obtain⟨U,_,_,_,_,h,_,F,X⟩:=((l_someg10none.ext D)).at (i:=i) (by omega)
  have ax:ln ((iU zs na i).getD i 0)≤1048576:=aN (X.zi (hw0.trans V)).ln F
  refine cG E E E kG eB.size i E U h ?_
  have r:=(l_someg10none.ext D)
  obtain⟨_,_⟩:=r.own
  refine x9 (e:=⟨ab,aj,(msa.getD i 0),W⟩) (z:=zs.getD i 0) E E E h (by omega) r (cA ⟨_,rfl,cA ak⟩) (aN (aa i) (by decide)) fun ai M q=>?_
  have ao:=q.ext V (fun p hp=>by have:=ae p hp;omega)
  have j:o≤ai.heap.size:=aN (aN l_someg10noneb D.size) q.size
  refine bA (bU (aJ (aE (mv 1 E (bF E E E ((i+1:Nat):Int) (d6 (a:=i) (b:=1) E E) (mv 1 E (bA ?_)))))))
  have ag:=M
  rw [xM I.len au] at ag
  refine cW (⟨ai,i+1⟩:a6×Nat) ⟨ao,(by omega),j,ag⟩ (show na-(i+1)<na-i by omega) E ⟨rfl,rfl,rfl,rfl,rfl,rfl,rfl,i3⟩
 ·refine aE (mv 2 E (pu (v:= a4 na) E (aA E E E false (f8 (a:=i) (b:=na) E E) (a7 (aI E (dA (d7 (dG (d8 (aJ (sr (mv 2 E (bA ?_)))))))))))))
  refine aJ (aW (aV [a9 (some ⟨o,0,none⟩) na na] E ⟨rfl,i3⟩ ?_))
  have ah:=(l_someg10none).mono (aZ _) hb (aN hlb L)
  rw [show i=na by omega,xN I.len] at ah
  exact⟨_,rfl,⟨_,_,rfl,ah⟩,f⟩
theorem uX (hb:b≤w.heap.size)(hlb:lb≤w.heap.size)(hw0:Ext w0 w)(hxa:ZF w Aa na capa 1048576 zs)(hna:na≤1048576:=by omega):aU aG 6 #[.agg #[a4 R,a4 C,a9 Aa na capa]] w (Gv w (MQ R C (LE (some w0) 1048576 b lb na zs))):=by
 obtain⟨msa,au,az⟩:=hxa
 refine bJ Tryz.func6 E (n:=11) E (bq E) (args:= [.agg #[a4 R,a4 C,a9 Aa na capa]]) (bH [(0,.agg #[a4 R,a4 C,a9 Aa na capa])] ⟨rfl,i3⟩ (sr (bx [a4 R,a4 C,a9 Aa na capa] aF E E E fun U _ D _ _ av=>(jT [I0,I0,S0] av D.lt (fun _=>by kernel_rfl) E fun g6 v7 ah W _ e8 M=>(a7 (aD ?_))))))
 obtain⟨H,O,_,V,_,_⟩:∃lb,lb≤v7.heap.size∧v7.heap.size≤lb∧w.heap.size≤lb∧U<lb∧g6<lb:=⟨v7.heap.size,aZ _,aZ _,M.size,(D.ext e8).lt,ah.lt⟩
 refine fG eR 8 [] [Is (a1 U 0),Is (a4 R),Is (a1 U 1),Is (a4 C),Is (a1 U 2),Is (a9 Aa na capa),LE (some w0) 1048576 w.heap.size H na zs,MQ R C (LE (some w0) 1048576 w.heap.size H na zs)] [[],[0],[],[2],[],[4],[5],[1,3,6]] [[],[0],[],[2],[],[4],[4,5],[0,1,2,3,4,5,6],[0,1,2,3,4,5,6,7]] rfl
  (aP E E (aK E E ?_) (aP E E (aK E E ?_) (aP E E (aK E E ?_) (aP E E (aK E E ?_) (aP E E (aK E E ?_) (aP E E (aK E E ?_) (aP E E (aK E E ?_) (aP E E (aK E E ?_) fE)))))))) ?_
 ·exact fun _ _=>aL (pf U 0 E (aO E aF E))
 ·exact fun _ bf=>dk E E (aL (aH E E (aS bL (D.ext (e8.t bf)) E) (aO E aF E)))
 ·exact fun _ _=>aL (pf U 1 E (aO E aF E))
 ·exact fun _ ax=>dk E E (aL (aH E E (aS bL (D.ext (e8.t ax)) E) (aO E aF E)))
 ·exact fun _ _=>aL (pf U 2 E (aO E aF E))
 ·exact fun _ ay=>dk E E (aL (aH E E (aS jS (D.ext (e8.t ay)) E) (aO E aF E)))
 ·intro _ aa
  have q:=M.trans aa
  refine dk E E (aL (cl (vs:= [a9 Aa na capa]) q (KY (w0:=w0) q.size (aN O aa.size) (hw0.trans q) ((show ZF w _ _ _ _ _ from⟨msa,au,az⟩).ext q) (by omega)) E (by kernel_rfl) fun _ _ ba ar X=>?_))
  obtain⟨_,_,rfl,I⟩:=ba
  have bg:=I.block
  exact aO E ar ⟨_,_,rfl,I⟩
 ·intro _ _
  refine dk E E (dk E E (eE E E fun _ _ bd _ ap=>?_))
  obtain⟨Y,ak,rfl,o⟩:=bd
  have aw:=o.block
  have o:=o.ext ap
  refine aL (pu (v:= .agg #[a4 R,a4 C,a9 Y na ak]) E ?_)
  exact aO E aF ⟨_,rfl,⟨_,_,rfl,o⟩⟩
 ·intro _ ag
  have q:=M.trans ag
  refine dk E E (dk E E (dk E E (dk E E (dk E E (dk E E (eE E E fun _ _ ab _ ae=>?_))))))
  obtain⟨_,_,rfl,j⟩:=ab
  have am:=j.block
  have j:=j.ext ae
  refine eE E E fun _ _ Z _ aj=>?_
  obtain⟨_,rfl,⟨f,h,rfl,e⟩⟩:=Z
  have F:=e.block
  have e:=e.ext aj
  refine aL ?_
  have r:=(ah.ext ag)
  refine so dP r [a4 R,a4 C,a9 f na h] q W E E E E fun _ L ai X=>(bA (fF (aJ (aW (aV [.agg #[a4 R,a4 C,a9 f na h]] E ⟨⟨_,rfl,gH dP L [a4 R,a4 C,a9 f na h] E (bq E) rfl⟩,i3⟩ ?_)))))
  exact⟨_,rfl,⟨_,rfl,⟨_,_,rfl,((e.updT r ai (show∀p:a8,f=some p→p.block≠g6 from fun p hp=>by have:=F p hp;omega))).mono (aZ _) hb (aN hlb V)⟩⟩,X⟩
theorem rL (hb:b≤w.heap.size)(hx:x≤18446744073709551615:=by decide):aU aG 16 #[a5 x] w (Gv w (ZR b (((x:Nat):Int)))):=by
 refine bJ Tryz.func16 E (n:=9) E (bq E) (args:= [a5 x]) (bH [(0,a5 x)] ⟨rfl,i3⟩ (sr (al [F0,S0] aF (fun _=>by kernel_rfl) E fun _ _ F D _ o=>(a7 (aD (aD ?_))))))
 by_cases q:x=0
 ·refine aE (mv 1 E (aA E E E true (dB (a:=x) (b:=0) E E) (a7 (b8 E (sr (pu (v:= .agg #[F0,S0]) E (so eB F [F0,S0] o D E E E E fun W U _ p=>(a7 (aW (bO (aV [.agg #[F0,S0]] E ⟨⟨_,rfl,gH eB U [F0,S0] E (bq E) rfl⟩,i3⟩ ?_)))))))))))
  exact⟨_,rfl,⟨_,_,_,_,rfl,(((Zr.zero (w:=W) (base:=w.heap.size))).cast (by rw [q];rfl)).mono hb⟩,p⟩
 ·refine aE (mv 1 E (aA E E E false (bV (a:=x) (b:=0) E E) (a7 (aI E (aY (aJ (sr (mv 1 E (dN E E (k:=1) (e:=50) [a5 x] (fun _=>by kernel_rfl) fun f _ j=>?_)))))))))
  have M:=O1.mk_ (x:=x) (b:=w.heap.size) j o.size
  have H:=j.ext
  have p:=o.trans H
  have I:=oT M hx q
  have O:=oY hx q
  refine pu (v:= .agg #[F0,a9 (some ⟨f,0,none⟩) 1 1]) E ?_
  have h:=(F.ext H)
  refine so eB h [F0,a9 (some ⟨f,0,none⟩) 1 1] p D E E E E fun _ r V L=>(a7 (aW (aV [.agg #[F0,a9 (some ⟨f,0,none⟩) 1 1]] E ⟨⟨_,rfl,gH eB r [F0,a9 (some ⟨f,0,none⟩) 1 1] E (bq E) rfl⟩,i3⟩ ?_)))
  exact⟨_,rfl,⟨_,_,_,_,rfl,((pO O I).updT h V).mono hb⟩,L⟩
theorem BH (hb:b≤w.heap.size)(hlb:lb≤w.heap.size):aU aG 5 #[] w (Gv w (MQ 2 2 (LE none 1 b lb 4 ([2,4,6,8])))):=by
 refine bJ Tryz.func5 E (n:=7) E (bq E) (args:= []) (bH [] i3 (sr (al [I0,I0,S0] aF (fun _=>by kernel_rfl) E fun g1 _ W ae _ V=>(a7 (sr (cl (vs:= [a5 2]) V ((rL (x:=2) V.size)) E (by kernel_rfl) fun _ _ r8 e7 I=>?_))))))
 obtain⟨s9,A9,n9,c9,rfl,z9⟩:=r8
 refine cl (vs:= [a5 4]) I ((rL (x:=4) I.size)) E (by kernel_rfl) fun _ _ ar r H=>?_
 obtain⟨aq,ag,au,ak,rfl,L⟩:=ar
 refine cl (vs:= [a5 6]) H ((rL (x:=6) H.size)) E (by kernel_rfl) fun _ _ ax q F=>?_
 obtain⟨ah,av,Z,aa,rfl,D⟩:=ax
 refine cl (vs:= [a5 8]) F ((rL (x:=8) F.size)) E (by kernel_rfl) fun _ _ ao o X=>?_
 obtain⟨ap,aj,aw,am,rfl,M⟩:=ao
 refine dN E E (k:=4) (e:=46) [.bool s9,a9 A9 n9 c9,.bool aq,a9 ag au ak,.bool ah,a9 av Z aa,.bool ap,a9 aj aw am] (fun _=>by kernel_rfl) fun j _ nb=>?_
 have O:=nb.bk
 have Y:w.heap.size≤j:=by rw [←nb.at_];exact X.size
 have bi:g1<j:=by rw [←nb.at_];exact (W.ext (e7.t (r.t (q.t o)))).lt
 have h:=nb.ext
 clear nb
 have ab:=X.trans h
 refine pu (v:= .agg #[a4 2,a4 2,a9 (some ⟨j,0,none⟩) 4 4]) E ?_
 have f:=(W.ext (e7.t (r.t (q.t (o.t h)))))
 refine so dP f [a4 2,a4 2,a9 (some ⟨j,0,none⟩) 4 4] ab ae E E E E fun _ U p ai=>(a7 (aW (aV [.agg #[a4 2,a4 2,a9 (some ⟨j,0,none⟩) 4 4]] E ⟨⟨_,rfl,gH dP U [a4 2,a4 2,a9 (some ⟨j,0,none⟩) 4 4] E (bq E) rfl⟩,i3⟩ ?_)))
 exact⟨_,rfl,⟨_,rfl,⟨_,_,rfl,kD (aN hlb Y) (O.vN p) (((z9.ext (r.t (q.t (o.t h)))).updT f p).mono hb) (((L.ext (q.t (o.t h))).updT f p).mono hb) (((D.ext (o.t h)).updT f p).mono hb) (((M.ext h).updT f p).mono hb) (z9.le (aN (show ln ((2:Nat):Int)≤1 from lA (by decide)) (by decide))) (L.le (aN (show ln ((4:Nat):Int)≤1 from lA (by decide)) (by decide))) (D.le (aN (show ln ((6:Nat):Int)≤1 from lA (by decide)) (by decide))) (M.le (aN (show ln ((8:Nat):Int)≤1 from lA (by decide)) (by decide)))⟩⟩,ai⟩
theorem BJ {x:Int}(ha:Zr w b_a sa Aa na ca x):aU aG 75 #[G sa Aa na ca] w (Gv w (Is (gx))):=by
 refine bJ Tryz.func75 E (n:=19) E (bq E) (args:= [G sa Aa na ca]) (bH [(0,G sa Aa na ca)] ⟨rfl,i3⟩ (sr (bx (J sa Aa na ca) aF E E E fun p _ f _ I j=>(mv 1 E (a7 (aD ?_))))))
 have hn:=ha.len
 have L:=ha.rd.rv.le
 have F:=ha.rd.rv.max
 rw [eX] at F
 by_cases h:x=0
 ·have D:na=0:=by rw [hn,h];rfl
  obtain rfl:sa=false:=by rw [ha.sgn,h];rfl
  refine aE (pf p 1 E (aH E E (aS j3 f E) (pu (v:= a4 na) E (mv 1 E (a7 (aD (sr (mv 1 E (aA E E E true (dB (a:=na) (b:=0) E E) (a7 (b8 E (sr (pf p 0 E ?_)))))))))))))
  refine aH E E (aS rV f E) (pu (v:= gx) E (mv 1 E (a7 (aW (bO (aV [gx] E ⟨rfl,i3⟩ ?_))))))
  exact⟨_,rfl,rfl,j⟩
 ·have D:na≠0:=fun e=>h (AJ (by rw [←hn,e]))
  have o:=EM h
  rw [←hn] at o
  refine aE (pf p 1 E (aH E E (aS j3 f E) (pu (v:= a4 na) E (mv 1 E (a7 (aD (sr (mv 1 E (aA E E E false (bV (a:=na) (b:=0) E E) (a7 (aI E (aY (aJ ?_)))))))))))))
  refine sr (pf p 1 E (aH E E (aS j3 f E) (mv 1 E (bF E E E ((na-1:Nat):Int) (kK (a:=na) (b:=1) E E) ?_))))
  obtain⟨H,q,r,_⟩:=((ha.ext I)).rd.at (i:=na-1) (by omega)
  refine cG E E E lW mX (na-1) E H q (aH E E (cO nS r) (aA E E E true (iL (a:=(wd (Int.natAbs x)).getD (na-1) 0) (b:=0) E E) (mv 1 E (a7 (aW (aV [gx] E ⟨rfl,i3⟩ ?_))))))
  exact⟨_,rfl,rfl,j⟩
theorem KW {x:Int}(ha:Zr w b_a sa Aa na ca x){ny cy:Nat}(hy:Zr w b_y sy Ay ny cy x):aU aG 48 #[G sa Aa na ca,G sy Ay ny cy] w (Gv w (Is (gx))):=by
 obtain rfl:sa=sy:=by rw [hy.sgn,ha.sgn]
 have ai:=ha.len
 have aj:=hy.len
 have am:=ha.rd.rv.le
 have ae:=ha.rd.rv.max
 have ab:=hy.rd.rv.max
 rw [eX] at ae ab
 refine bJ Tryz.func48 E (n:=48) E (bq E) (args:= [G sa Aa na ca,G sa Ay ny cy]) (bH [(0,G sa Aa na ca),(1,G sa Ay ny cy)] ⟨rfl,rfl,i3⟩ (sr (bx (J sa Aa na ca) aF E E E fun e _ o _ W r=>(OK (J sa Ay ny cy) r o.lt E E E fun h _ q _ _ D H=>(mv 1 E (a7 (aD (sr (pf e 0 E (aH E E (aS rV (o.ext D) E) (pf h 0 E (aH E E (aS rV q E) (eH E E (v:= .bool (!(sa==sa))) (v':= ik) (by simp) ?_)))))))))))))
 refine mv 1 E (pf e 1 E (aH E E (aS j3 (o.ext D) E) (pu (v:= a4 na) E (pf h 1 E (aH E E (aS j3 q E) (pu (v:= a4 ny) E (aA E E E false (lJ (a:=na) (b:=ny) E E) (pu (v:= ik) E (mv 1 E (lo eB (o.ext D) (J sa Aa na ca) E E E (cl (vs:= [G sa Aa na ca]) H (BJ (ha.ext (W.t D))) E (by kernel_rfl) fun _ _ ag j Z=>?_)))))))))))
 obtain rfl:=ag
 refine pu (v:= ik) E (pu (v:= ik) E (mv 1 E (lo eB (q.ext j) (J sa Ay ny cy) E E E (cl (vs:= [G sa Ay ny cy]) Z (BJ (hy.ext (W.t (D.t j)))) E (by kernel_rfl) fun _ aa X p Y=>?_))))
 obtain rfl:=X
 refine pu (v:= ik) E (pu (v:= ik) E (a7 (aI E (aY (aJ (aD (sr (mv 1 E (a7 (bI ?_))))))))))
 refine dJ (T:=a6×Nat) (fun⟨wr,i⟩=> [(0,G sa Aa na ca),(1,G sa Ay ny cy),(2,a1 e 0),(3,a1 h 0),(4,ik),(5,a4 i),(6,a1 e 0),(7,.bool sa),(8,a1 h 0),(9,.bool sa),(10,ik),(11,ik),(12,a1 e 1),(13,a9 Aa na ca),(14,a4 na),(15,a1 h 1),(16,a9 Ay ny cy),(17,a4 ny),(18,ik),(19,ik),(20,ik),(21,G sa Aa na ca),(22,gx),(23,ik),(24,ik),(25,ik),(26,G sa Ay ny cy),(27,gx),(28,ik),(29,ik)]) (fun⟨wr,i⟩=>wr) (fun⟨wr,i⟩=>(Ext w wr)∧(i≤na)∧(Bk wr e 46 (J sa Aa na ca))∧(Zr wr b_a sa Aa na ca (x))∧(Bk wr h 46 (J sa Ay ny cy))∧(Zr wr b_y sa Ay ny cy (x))) (fun⟨wr,i⟩=>na-i)
  (⟨aa,0⟩:a6×Nat) ⟨Y,(by omega),(o.ext (D.t (j.t p))),(ha.ext (W.t (D.t (j.t p)))),(q.ext (j.t p)),(hy.ext (W.t (D.t (j.t p))))⟩ E ⟨rfl,rfl,rfl,rfl,rfl,rfl,rfl,rfl,rfl,rfl,rfl,rfl,rfl,rfl,rfl,rfl,rfl,rfl,rfl,rfl,rfl,rfl,rfl,rfl,rfl,rfl,rfl,rfl,rfl,rfl,i3⟩ ?_
 rintro⟨wr,i⟩ ⟨r,_,b_g1,z_g1,b_g6,z_g6⟩
 refine d9 [(0,G sa Aa na ca),(1,G sa Ay ny cy),(2,a1 e 0),(3,a1 h 0),(4,ik),(5,a4 i),(6,a1 e 0),(7,.bool sa),(8,a1 h 0),(9,.bool sa),(10,ik),(11,ik),(12,a1 e 1),(13,a9 Aa na ca),(14,a4 na),(15,a1 h 1),(16,a9 Ay ny cy),(17,a4 ny),(18,ik),(19,ik),(20,ik),(21,G sa Aa na ca),(22,gx),(23,ik),(24,ik),(25,ik),(26,G sa Ay ny cy),(27,gx),(28,ik),(29,ik)] wr E ⟨rfl,rfl,rfl,rfl,rfl,rfl,rfl,rfl,rfl,rfl,rfl,rfl,rfl,rfl,rfl,rfl,rfl,rfl,rfl,rfl,rfl,rfl,rfl,rfl,rfl,rfl,rfl,rfl,rfl,rfl,i3⟩ (aD (aD ?_))
 by_cases ak:i<na
 ·refine aE (mv 1 E (pf e 1 E (aH E E (aS j3 b_g1 E) (pu (v:= a4 na) E (aA E E E true (d5 (a:=i) (b:=na) E E) (a7 (b8 E (aY (aJ (aD (bI (aD (bH [(0,G sa Aa na ca),(1,G sa Ay ny cy),(2,a1 e 0),(3,a1 h 0),(4,ik),(5,a4 i),(6,a1 e 0),(7,.bool sa),(8,a1 h 0),(9,.bool sa),(10,ik),(11,ik),(12,a1 e 1),(13,a9 Aa na ca),(14,a4 na),(15,a1 h 1),(16,a9 Ay ny cy),(17,a4 ny),(18,ik),(19,ik),(20,ik),(21,G sa Aa na ca),(22,gx),(23,ik),(24,ik),(25,ik),(26,G sa Ay ny cy),(27,gx),(28,ik),(29,ik),(30,a4 i),(31,a1 e 1),(32,a9 Aa na ca),(33,a4 na),(34,gx)] ⟨rfl,rfl,rfl,rfl,rfl,rfl,rfl,rfl,rfl,rfl,rfl,rfl,rfl,rfl,rfl,rfl,rfl,rfl,rfl,rfl,rfl,rfl,rfl,rfl,rfl,rfl,rfl,rfl,rfl,rfl,rfl,rfl,rfl,rfl,rfl,i3⟩ ?_)))))))))))))
  obtain⟨L,hv,f⟩:∃v,v=wr.drew∧Ext wr v:=⟨_,rfl,(Ext.refl _).drew⟩
  have H:=r.trans f
  obtain⟨F,V,M,_⟩:=((z_g1.ext f)).rd.at (i:=i) (by omega)
  obtain⟨I,O,U,_⟩:=((z_g6.ext f)).rd.at (i:=i) (by omega)
  refine vJ eR (w:=L) [a1 e 1,a9 Aa na ca,a4 i,.pointer (some F),a5 (((wd (Int.natAbs x)).getD i 0:Nat):Int),a1 h 1,a9 Ay ny cy,a4 i,.pointer (some I),a5 (((wd (Int.natAbs x)).getD i 0:Nat):Int),F0] [L] [] [[],[0],[],[1,2],[3],[],[5],[],[6,7],[8],[4,9]] [[],[0],[],[0,1,2],[0,1,2,3],[],[5],[],[5,6,7],[5,6,7,8],[0,1,2,3,4,5,6,7,8,9]] [(0,0),(1,0),(2,0),(3,0),(4,0),(5,0),(6,0),(7,0),(8,0),(9,0),(10,0)] E hv ?_ ?_
  ·refine dH _ E E E E E (fX E) (dH _ E E E E E (iY E (aS j3 (b_g1.ext f) E)) (dH _ E E E E E (jF E) (dH _ E E E E E (qX E E lW mX i E F V) (dH _ E E E E E (iY E (cO nS M)) (dH _ E E E E E (fX E) (dH _ E E E E E (iY E (aS j3 (b_g6.ext f) E)) (dH _ E E E E E (jF E) (dH _ E E E E E (qX E E lW mX i E I O) (dH _ E E E E E (iY E (cO nS U)) (dH _ E E E E E (I1 E E false (lJ (a:=(wd (Int.natAbs x)).getD i 0) (b:=(wd (Int.natAbs x)).getD i 0) E E)) ?_))))))))))
   exact vD
  clear hv
  refine rO [(0,G sa Aa na ca),(1,G sa Ay ny cy),(2,a1 e 0),(3,a1 h 0),(4,ik),(5,a4 i),(6,a1 e 0),(7,.bool sa),(8,a1 h 0),(9,.bool sa),(10,ik),(11,ik),(12,a1 e 1),(13,a9 Aa na ca),(14,a4 na),(15,a1 h 1),(16,a9 Ay ny cy),(17,a4 ny),(18,ik),(19,ik),(20,ik),(21,G sa Aa na ca),(22,gx),(23,ik),(24,ik),(25,ik),(26,G sa Ay ny cy),(27,gx),(28,ik),(29,ik),(30,a4 i),(31,a1 e 1),(32,a9 Aa na ca),(33,a4 na),(34,gx),(37,a1 e 1),(38,a9 Aa na ca),(39,a4 i),(40,.pointer (some F)),(41,a5 (((wd (Int.natAbs x)).getD i 0:Nat):Int)),(42,a1 h 1),(43,a9 Ay ny cy),(44,a4 i),(45,.pointer (some I)),(46,a5 (((wd (Int.natAbs x)).getD i 0:Nat):Int)),(47,ik)] ⟨rfl,rfl,rfl,rfl,rfl,rfl,rfl,rfl,rfl,rfl,rfl,rfl,rfl,rfl,rfl,rfl,rfl,rfl,rfl,rfl,rfl,rfl,rfl,rfl,rfl,rfl,rfl,rfl,rfl,rfl,rfl,rfl,rfl,rfl,rfl,rfl,rfl,rfl,rfl,rfl,rfl,rfl,rfl,rfl,rfl,rfl,i3⟩ (aJ (aI E (aY (bU (aJ (aE (mv 1 E (bF E E E ((i+1:Nat):Int) (d6 (a:=i) (b:=1) E E) (mv 1 E (bA (cW (⟨L,i+1⟩:a6×Nat) ⟨H,(by omega),(b_g1.ext f),(z_g1.ext f),(b_g6.ext f),(z_g6.ext f)⟩ (show na-(i+1)<na-i by omega) E ⟨rfl,rfl,rfl,rfl,rfl,rfl,rfl,rfl,rfl,rfl,rfl,rfl,rfl,rfl,rfl,rfl,rfl,rfl,rfl,rfl,rfl,rfl,rfl,rfl,rfl,rfl,rfl,rfl,rfl,rfl,i3⟩)))))))))))
 ·refine aE (mv 1 E (pf e 1 E (aH E E (aS j3 b_g1 E) (pu (v:= a4 na) E (aA E E E false (f8 (a:=i) (b:=na) E E) (a7 (aI E (dA (d7 (dG (d8 (aJ (aD ?_)))))))))))))
  refine aE (mv 1 E (a7 (aW (aV [gx] E ⟨rfl,i3⟩ ?_))))
  exact⟨_,rfl,rfl,r⟩
theorem BI (hs:jV R C na):aU aG 7 #[.agg #[a4 R,a4 C,a9 Aa na capa]] w (Gv w (Is (gx))):=by
 refine bJ Tryz.func7 E (n:=32) E (bq E) (args:= [.agg #[a4 R,a4 C,a9 Aa na capa]]) (bH [(0,.agg #[a4 R,a4 C,a9 Aa na capa])] ⟨rfl,i3⟩ (sr (bx [a4 R,a4 C,a9 Aa na capa] aF E E E fun f _ e _ _ h=>(mv 1 E (a7 (aD ?_))))))
 have h1:=hs.1
 have j:=hs.2.1
 refine aE (pf f 0 E (aH E E (aS bL e E) (aA E E E true (lI hs.1.1) (mv 1 E (pf f 0 E (aH E E (aS bL e E) (aA E E E true (kI hs.1.2) (pu (v:= gx) E (mv 1 E (pf f 1 E (aH E E (aS bL e E) (aA E E E true (lI hs.2.1.1) (pu (v:= gx) E ?_)))))))))))))
 refine mv 1 E (pf f 1 E (aH E E (aS bL e E) (aA E E E true (kI hs.2.1.2) (pu (v:= gx) E (mv 1 E (pf f 2 E (aH E E (aS jS e E) (pu (v:= a4 na) E (pf f 0 E (aH E E (aS bL e E) (pf f 1 E (aH E E (aS bL e E) (bF E E E (R*C) (D6 hs.1 hs.2.1) ?_)))))))))))))
 refine aA E E E true (O6 hs.2.2) (pu (v:= gx) E (mv 1 E (a7 (aW (aV [gx] E ⟨rfl,i3⟩ ?_)))))
 exact⟨_,rfl,rfl,h⟩
theorem KU (hs:¬jV R C na):aU aG 7 #[.agg #[a4 R,a4 C,a9 Aa na capa]] w (Gv w (Is (ik))):=by
 refine bJ Tryz.func7 E (n:=32) E (bq E) (args:= [.agg #[a4 R,a4 C,a9 Aa na capa]]) (bH [(0,.agg #[a4 R,a4 C,a9 Aa na capa])] ⟨rfl,i3⟩ (sr (bx [a4 R,a4 C,a9 Aa na capa] aF E E E fun h _ f _ _ j=>(mv 1 E (a7 (aD ?_))))))
 by_cases h0:R≥0
 ·by_cases h1:R≤64
  ·by_cases h2:C≥0
   ·by_cases o:C≤64
    ·have p:((na:Nat):Int)≠R*C:=fun e=>hs ⟨⟨h0,h1⟩,⟨h2,o⟩,e⟩
     refine aE (pf h 0 E (aH E E (aS bL f E) (aA E E E true (lI h0) (mv 1 E (pf h 0 E (aH E E (aS bL f E) (aA E E E true (kI h1) (pu (v:= gx) E (mv 1 E (pf h 1 E (aH E E (aS bL f E) (aA E E E true (lI h2) (pu (v:= gx) E ?_)))))))))))))
     refine mv 1 E (pf h 1 E (aH E E (aS bL f E) (aA E E E true (kI o) (pu (v:= gx) E (mv 1 E (pf h 2 E (aH E E (aS jS f E) (pu (v:= a4 na) E (pf h 0 E (aH E E (aS bL f E) (pf h 1 E (aH E E (aS bL f E) (bF E E E (R*C) (D6 ⟨h0,h1⟩ ⟨h2,o⟩) ?_)))))))))))))
     refine aA E E E false (O7 p) (pu (v:= ik) E (mv 1 E (a7 (aW (aV [F0] E ⟨rfl,i3⟩ ?_)))))
     exact⟨_,rfl,rfl,j⟩
    ·refine aE (pf h 0 E (aH E E (aS bL f E) (aA E E E true (lI h0) (mv 1 E (pf h 0 E (aH E E (aS bL f E) (aA E E E true (kI h1) (pu (v:= gx) E (mv 1 E (pf h 1 E (aH E E (aS bL f E) (aA E E E true (lI h2) (pu (v:= gx) E ?_)))))))))))))
     refine mv 1 E (pf h 1 E (aH E E (aS bL f E) (aA E E E false (rU o) (pu (v:= ik) E (mv 10 E (pu (v:= ik) E (mv 1 E (a7 (aW (aV [F0] E ⟨rfl,i3⟩ ?_))))))))))
     exact⟨_,rfl,rfl,j⟩
   ·refine aE (pf h 0 E (aH E E (aS bL f E) (aA E E E true (lI h0) (mv 1 E (pf h 0 E (aH E E (aS bL f E) (aA E E E true (kI h1) (pu (v:= gx) E (mv 1 E (pf h 1 E (aH E E (aS bL f E) (aA E E E false (CW h2) (pu (v:= ik) E ?_)))))))))))))
    refine mv 4 E (pu (v:= ik) E (mv 10 E (pu (v:= ik) E (mv 1 E (a7 (aW (aV [F0] E ⟨rfl,i3⟩ ?_)))))))
    exact⟨_,rfl,rfl,j⟩
  ·refine aE (pf h 0 E (aH E E (aS bL f E) (aA E E E true (lI h0) (mv 1 E (pf h 0 E (aH E E (aS bL f E) (aA E E E false (rU h1) (pu (v:= ik) E (mv 4 E (pu (v:= ik) E (mv 4 E (pu (v:= ik) E (mv 1 E ?_)))))))))))))
   refine mv 9 E (pu (v:= ik) E (mv 1 E (a7 (aW (aV [F0] E ⟨rfl,i3⟩ ?_)))))
   exact⟨_,rfl,rfl,j⟩
 ·refine aE (pf h 0 E (aH E E (aS bL f E) (aA E E E false (CW h0) (mv 4 E (pu (v:= ik) E (mv 4 E (pu (v:= ik) E (mv 4 E (pu (v:= ik) E (mv 10 E (pu (v:= ik) E (mv 1 E (bA ?_)))))))))))))
  refine aJ (aW (aV [F0] E ⟨rfl,i3⟩ ?_))
  exact⟨_,rfl,rfl,j⟩
theorem y4 (hb:∀b,b∈bs→b<256)(hi:i<bs.length):((aB bs).get! i).toNat=bs.getD i 0:=by
 have h:i<(aB bs).size:=by rw [eD];exact hi
 have e:(aB bs).get! i=(aB bs)[i]'h:=get_at (aB bs) i h
 rw [e];exact oJ hb hi h
theorem NR (hr:∀c,c∈rs→Rch c)(hk:k<rs.length):Utf8.decode (aB (bM rs)) (cD rs k)=(rs.getD k 0,(enc (rs.getD k 0)).length):=by
 have H:=BC hr hk
 have hb:=MR hr
 have e:=zD hk
 have h0:=C9 hk (j:=0) (CB _)
 rw [dF] at h0
 by_cases hl:rs.getD k 0<128
 ·rw [CC hl] at h0⊢
  rw [CL hb e (by rw [h0];exact hl),h0];rfl
 ·have h2:enc (rs.getD k 0)= [192+rs.getD k 0/64,128+rs.getD k 0%64]:=if_neg hl
  have f:(enc (rs.getD k 0)).length=2:=by rw [h2];rfl
  have h1:=C9 hk (j:=1) (by rw [f];decide)
  have O:=uD hk
  have D:=oU rs (k+1)
  rw [h2] at h0 h1
  have q:((aB (bM rs)).get! (cD rs k+0)).toNat=192+rs.getD k 0/64:=by rw [dF,y4 hb e,h0];rfl
  have h:((aB (bM rs)).get! (cD rs k+1)).toNat=128+rs.getD k 0%64:=by rw [y4 hb (by omega),h1];rfl
  have L:cD rs k+1<(aB (bM rs)).size:=by rw [eD];omega
  rw [f]
  have M:=H.lt
  generalize rs.getD k 0=r at*
  simp only [Utf8.decode,q,h,L,decide_true,Bool.true_and]
  have o:¬192+r/64<128:=by omega
  have I:(192+r/64)/32=6:=by omega
  have p:(128+r%64)/64=2:=by omega
  have F:(192+r/64)%32*64+(128+r%64)%64=r:=by omega
  rw [if_neg o,I,p,F]
  rw [if_pos (by decide),if_pos (by omega)]
section
variable {P:bT}{Q:Exit→Act→a6→Prop}{n:Nat}{l:Fr}{w:a6}{ops:Array aX}{rest:List aX}{d:Nat}{ty:aQ}{pos:String}{af:Array Edge}{gd:Option (Nat×Bool)}
theorem EG {x:bW}(hr:∀c,c∈rs→Rch c)(hw:cF ops l gd=some true)(hx:bK l x=some (a1 g 0))(h:It w g (bM rs) (cD rs k))(hk:k<rs.length)(hn:d<n)(K:∀w',It w' g (bM rs) (cD rs (k+1))→Upd g w w'→wl P ops Q n rest ((d,.tuple #[gx,a4 ((cD rs k:Nat):Int),.int .i32 ((rs.getD k 0:Nat):Int)])::l) w'):wl P ops Q n (⟨some d,.next x true,ty,pos,af,gd⟩::rest) l w:=
 xC hw hx h (zD hk) hn fun w' h1 h2=>by
  rw [NR hr hk] at h1⊢
  rw [←uD hk] at h1
  exact K w' h1 h2
theorem EF {x:bW}(hw:cF ops l gd=some true)(hx:bK l x=some (a1 g 0))(h:It w g (bM rs) (cD rs k))(hk:rs.length≤k)(hn:d<n)(K:wl P ops Q n rest ((d,.tuple #[ik])::l) w):wl P ops Q n (⟨some d,.next x true,ty,pos,af,gd⟩::rest) l w:=
 t6 hw hx h (by rw [IQ rs hk];exact Nat.lt_irrefl _) hn K
theorem EC {x y z:bW}{t:aQ}(hw:cF ops l gd=some true)(hx:bK l x=some (.string (aB bs)))(hy:bK l y=some (a4 (i:Int)))(hz:bK l z=some (a4 (j:Int)))(ht:P.underlying t=some .string)(hi:i≤j)(hj:j≤bs.length)(hn:d<n)(h:wl P ops Q n rest ((d,.string (aB ((bs.take j).drop i)))::l) w):wl P ops Q n (⟨some d,.slice t x (some y) (some z) none,ty,pos,af,gd⟩::rest) l w:=
 dU hw hn (fun a' f=>by
  have e:(Instr.sliceAt t (a'.eval x) ((some y).map a'.eval) ((some z).map a'.eval) (Option.map a'.eval none)).run P w= .ok (.string (aB ((bs.take j).drop i))) w:=by
   show (Instr.sliceAt t (a'.eval x) (some (a'.eval y)) (some (a'.eval z)) none).run P w=_
   rw [f.ev hx,f.ev hy,f.ev hz,yH ht,run_slice_string_if w t (aB bs) .i64 .i64 (i:Int) (j:Int) ht,if_pos ⟨by omega,by rw [eD];omega⟩,if_pos ⟨by omega,by omega⟩,gC,gC]
   congr 2
   unfold aB
   apply ByteArray.ext
   simp [ByteArray.data_extract,j9,List.map_drop,List.take_drop,Nat.add_sub_cancel' hi]
  show ((Instr.sliceAt t (a'.eval x) ((some y).map a'.eval) ((some z).map a'.eval) (Option.map a'.eval none)>>=fun r=>pure (eP r):Sem Next)).run P w=_
  rw [bQ,e];rfl) h
theorem ED {x:bW}{s t:aQ}(hw:cF ops l gd=some true)(hx:bK l x=some (.int .i32 ((r:Nat):Int)))(hs:P.underlying s=some (.int .i32))(ht:P.underlying t=some .string)(hr:r<128)(hn:d<n)(h:wl P ops Q n rest ((d,.string (aB [r]))::l) w):wl P ops Q n (⟨some d,.convert s t x,ty,pos,af,gd⟩::rest) l w:=by
 refine dU hw hn (fun a' f=>?_) h
 have e:(convert s t (a'.eval x)).run P w= .ok (.string (aB [r])) w:=by
  rw [f.ev hx]
  have h1:(underlying s).run P w= .ok (.int .i32) w:=gM hs w
  have h2:(underlying t).run P w= .ok .string w:=gM ht w
  unfold convert
  simp only [bQ,h1,h2,Result.andThen_ok,Conv.intToString,Sem.run_pure]
  have o:Utf8.valid ((r:Nat):Int)=true:=by
   unfold Utf8.valid
   simp
   omega
  have j:Utf8.encode ((r:Nat):Int)=aB [r]:=by
   unfold Utf8.encode
   simp only [o,if_true,gC]
   rw [if_pos (by omega)]
   rfl
  rw [j]
 show ((convert s t (a'.eval x)>>=fun r=>pure (eP r):Sem Next)).run P w=_
 rw [bQ,e];rfl
end
def eL (n:Nat)(f:Nat→Nat→aC):List aC:=(List.range (n*3)).map fun q=>f (q/3) (q%3)
theorem MI {f:Nat→Nat→aC}(hi:i<n)(hj:j<3):(eL n f).getD (i*3+j) undef=f i j:=by
 have h:i*3+j<n*3:=by omega
 rw [bE,eL,gR,List.getElem?_range h]
 show f _ _=_
 rw [show (i*3+j)/3=i by omega,show (i*3+j)%3=j by omega]
theorem C4 (n:Nat)(f:Nat→Nat→aC):eL (n+1) f=eL n f++ [f n 0,f n 1,f n 2]:=by
 unfold eL
 rw [Nat.succ_mul,List.range_add,List.map_append]
 congr 1
 show [f ((n*3+0)/3) ((n*3+0)%3),f ((n*3+1)/3) ((n*3+1)%3),f ((n*3+2)/3) ((n*3+2)%3)]=_
 rw [show (n*3+0)/3=n by omega,show (n*3+1)/3=n by omega,show (n*3+2)/3=n by omega,show (n*3+0)%3=0 by omega,show (n*3+1)%3=1 by omega,show (n*3+2)%3=2 by omega]
theorem MJ {f g:Nat→Nat→aC}(h:∀i j,i<n→f i j=g i j):eL n f=eL n g:=by
 unfold eL
 refine List.map_congr_left fun q e=>?_
 have:=List.mem_range.1 e
 exact h _ _ (by omega)
theorem Rv.at3 {f:Nat→Nat→aC}(h:Rv w 3 A n cap (eL n f))(hi:i<n):∃p,A.map (·.add (i*3))=some p∧w.cell? p=some (f i 0)∧w.cell? (p.add 1)=some (f i 1)∧w.cell? (p.add 2)=some (f i 2):=by
 obtain⟨a,rfl,h0⟩:=h.get (i*3+0) (by omega)
 obtain⟨a',e,h1⟩:=h.get (i*3+1) (by omega)
 cases e
 obtain⟨a',e,h2⟩:=h.get (i*3+2) (by omega)
 cases e
 rw [MI hi (by decide)] at h0 h1 h2
 exact⟨a.add (i*3),rfl,h0,by rw [pL];exact h1,by rw [pL];exact h2⟩
theorem j1 {p:a8}{u0 u1 u2:aC}(hT:AggT P T 3)(h0:w.cell? p=some u0)(h1:w.cell? (p.add 1)=some u1)(h2:w.cell? (p.add 2)=some u2):(loadVar T p).run P w= .ok (.agg #[u0,u1,u2]) w:=
 uN hT [u0,u1,u2] E (fun j e=>by
  match j,e with
  | 0,_=>rw [OW];exact h0
  | 1,_=>exact h1
  | 2,_=>exact h2)
def iA (rs:List Nat)(i j:Nat):aC:=if j=0 then a4 ((aM (rs.getD i 0):Nat):Int) else if j=1 then .int .i32 ((rs.getD i 0:Nat):Int) else a4 ((cD rs i:Nat):Int)
def jC (ts:List Tk)(cs:List Nat)(i j:Nat):aC:=if j=0 then a4 (((ts.getD i (0,[])).1:Nat):Int) else if j=1 then .string (aB (ts.getD i (0,[])).2) else a4 ((cs.getD i 0:Nat):Int)
theorem EV:Tryz.prog.underlying 113=some (.slice 116):=by kernel_rfl
theorem gV (w:a6):(sizeOf 116).run aG w= .ok 3 w:=by kernel_rfl
theorem JY:(Tryz.prog.info? 116).map (fun i=>(i.zero,i.size,i.bytes))=some (some (.agg #[a4 0,.int .i32 0,a4 0]),3,24):=by kernel_rfl
theorem iO:AggT aG 116 3:=⟨fun _=>by kernel_rfl,fun _=>by kernel_rfl⟩
theorem tG:Tryz.prog.underlying 62=some (.slice 97):=by kernel_rfl
theorem m3 (w:a6):(sizeOf 97).run aG w= .ok 3 w:=by kernel_rfl
theorem uT:(Tryz.prog.info? 97).map (fun i=>(i.zero,i.size,i.bytes))=some (some (.agg #[a4 0,.string ⟨#[]⟩,a4 0]),3,32):=by kernel_rfl
theorem f9:AggT aG 97 3:=⟨fun _=>by kernel_rfl,fun _=>by kernel_rfl⟩
theorem xO:Tryz.prog.underlying 35=some (.slice 40):=by kernel_rfl
theorem iG (w:a6):(sizeOf 40).run aG w= .ok 3 w:=by kernel_rfl
theorem AX:(Tryz.prog.info? 40).map (fun i=>(i.zero,i.size,i.bytes))=some (some (.agg #[a4 0,.string ⟨#[]⟩,a9 none 0 0]),3,48):=by kernel_rfl
theorem iN:AggT aG 40 3:=⟨fun _=>by kernel_rfl,fun _=>by kernel_rfl⟩
theorem qL:Tryz.prog.underlying 43=some (.slice 9):=by kernel_rfl
theorem FH (w:a6):(sizeOf 9).run aG w= .ok 1 w:=by kernel_rfl
theorem uU:(Tryz.prog.info? 9).map (fun i=>(i.zero,i.size,i.bytes))=some (some (.string ⟨#[]⟩),1,16):=by kernel_rfl
def gG:List Nat:= [43,45,42,94,39,40,41,91,93,123,125,44,59,58,61]
theorem K0:∀r:Nat,r<128→decide (0≤Lib.indexByte (aB gG).data.toList (r:Int).toNat.toUInt8)=decide (r∈gG):=by decide+kernel
theorem BX (h:r<128):aU aG 110 #[.string (aB gG),.int .i32 ((r:Nat):Int)] w (Gv w (Is (.bool (decide (r∈gG))))):=
 (Tryz.strings_ContainsRune_ascii (aB gG) r w (by omega) (by omega)).mono fun e w' ⟨j,f⟩=>by
  subst j f
  rw [K0 r h]
  exact⟨_,rfl,rfl,Ext.refl _⟩
theorem lG (hm:r∈gG)(h:r<128:=by omega):aU aG 110 #[.string (aB [43,45,42,94,39,40,41,91,93,123,125,44,59,58,61]),.int .i32 ((r:Nat):Int)] w (Gv w (Is (gx))):=by
 have h1:=BX (w:=w) h;rw [decide_eq_true hm] at h1;exact h1
theorem lH (hm:¬r∈gG)(h:r<128:=by omega):aU aG 110 #[.string (aB [43,45,42,94,39,40,41,91,93,123,125,44,59,58,61]),.int .i32 ((r:Nat):Int)] w (Gv w (Is (ik))):=by
 have h1:=BX (w:=w) h;rw [decide_eq_false hm] at h1;exact h1
theorem Upd.newU {a:a6}(h:Upd g a w)(u:Upd k w w')(hk:a.heap.size≤k):Upd g a w':=
 ⟨⟨u.by_.os.trans h.by_.os,u.by_.tape.trans h.by_.tape,u.by_.output.trans h.by_.output,aN h.by_.size u.by_.size,
  fun i hi f=>(u.by_.block i (cU hi h.by_.size) (fun e=>by injection e with e;omega)).trans (h.by_.block i hi f)⟩⟩
theorem Upd.newO {a:a6}(h:Upd g a w)(u:UpdO A w w')(hA:∀p,A=some p→a.heap.size≤p.block):Upd g a w':=
 ⟨⟨u.by_.os.trans h.by_.os,u.by_.tape.trans h.by_.tape,u.by_.output.trans h.by_.output,aN h.by_.size u.by_.size,
  fun i hi f=>(u.by_.block i (cU hi h.by_.size) (fun e=>by
   cases A with
   | none=>cases e
   | some p=>injection e with e;have h1:=hA p rfl;have h2:i=p.block:=e;omega)).trans (h.by_.block i hi f)⟩⟩
theorem AR (h:Kept w none A)(hg:g<w.heap.size):∀p,A=some p→p.block≠g:=fun p f e=>by
 rcases h p f with⟨a,j,_⟩ | h
 ·cases j
 ·omega
theorem iI (h:Bk w g T vs):∀j u,vs[j]?=some u→w.cell? ((⟨g,0,none⟩:a8).add j)=some u:=fun j u e=>by
 have hl:=(List.getElem?_eq_some_iff.1 e).1
 rw [g7,dY,h.cell hl,bE,e];rfl
theorem It.updN {pos:Nat}(h:It w g bs pos)(e:Upd k w w')(hne:g≠k):It w' g bs pos:=h.upd e hne
theorem It.vN {pos:Nat}(h:It w g bs pos)(e:Upd k w w')(hne:g≠k:=by omega):It w' g bs pos:=h.upd e hne
theorem NX (hij:i≤j):((bM rs).take (cD rs j)).drop (cD rs i)=bM ((rs.take j).drop i):=by
 have h1:(bM rs).take (cD rs j)=bM (rs.take j):=by
  have:bM rs=bM (rs.take j)++bM (rs.drop j):=by rw [←nP,kT]
  rw [this];exact List.take_left
 have h2:cD rs i=cD (rs.take j) i:=by unfold cD;rw [List.take_take,fK hij]
 rw [h1,h2,vB]
theorem IP (rs:List Nat)(h:i≤j):cD rs i≤cD rs j:=by
 have h2:cD rs i=cD (rs.take j) i:=by unfold cD;rw [List.take_take,fK h]
 rw [h2];exact oU _ _
theorem M1 (hr:Rch r):aU aG 90 #[.int .i32 ((r:Nat):Int)] w (Gv w (Is (a4 ((aM r:Nat):Int)))):=by
 refine bJ Tryz.func90 E (n:=76) E (bq E) (args:= [.int .i32 ((r:Nat):Int)]) (bH [(0,.int .i32 ((r:Nat):Int))] ⟨rfl,i3⟩ (sr (mv 1 E (a7 (aD (bI (aD ?_)))))))
 by_cases aj:r=32
 ·refine aE (mv 1 E (aA E E E true (dB (a:=r) (b:=32) E E) (mv 3 E (pu (v:= gx) E (mv 3 E (pu (v:= gx) E (mv 1 E (a7 (b8 E (sr (mv 1 E (a7 (aW ?_)))))))))))))
  refine bZ (bO (aV [a4 1] E ⟨rfl,i3⟩ ?_))
  exact⟨_,rfl,(show bP .i64 (1:Int)=_ by rw [show aM r=1 by unfold aM;(repeat' split) <;> first | rfl | omega | (exfalso;rename_i f;first | exact e f | exact f e)];rfl),aF⟩
 ·by_cases h9:r=9
  ·refine aE (mv 1 E (aA E E E false (bV (a:=r) (b:=32) E E) (mv 2 E (aA E E E true (dB (a:=r) (b:=9) E E) (pu (v:= gx) E (mv 3 E (pu (v:= gx) E (mv 1 E (a7 (b8 E (sr (mv 1 E (bA ?_)))))))))))))
   refine aJ (aW (bZ (bO (aV [a4 1] E ⟨rfl,i3⟩ ?_))))
   exact⟨_,rfl,(show bP .i64 (1:Int)=_ by rw [show aM r=1 by unfold aM;(repeat' split) <;> first | rfl | omega | (exfalso;rename_i f;first | exact e f | exact f e)];rfl),aF⟩
  ·by_cases ag:r=160
   ·refine aE (mv 1 E (aA E E E false (bV (a:=r) (b:=32) E E) (mv 2 E (aA E E E false (bV (a:=r) (b:=9) E E) (pu (v:= ik) E (mv 2 E (aA E E E true (dB (a:=r) (b:=160) E E) (pu (v:= gx) E (mv 1 E (a7 (b8 E (sr (mv 1 E ?_)))))))))))))
    refine a7 (aW (bZ (bO (aV [a4 1] E ⟨rfl,i3⟩ ?_))))
    exact⟨_,rfl,(show bP .i64 (1:Int)=_ by rw [show aM r=1 by unfold aM;(repeat' split) <;> first | rfl | omega | (exfalso;rename_i f;first | exact e f | exact f e)];rfl),aF⟩
   ·refine aE (mv 1 E (aA E E E false (bV (a:=r) (b:=32) E E) (mv 2 E (aA E E E false (bV (a:=r) (b:=9) E E) (pu (v:= ik) E (mv 2 E (aA E E E false (bV (a:=r) (b:=160) E E) (pu (v:= ik) E (mv 1 E (a7 (aI E (aD ?_))))))))))))
    by_cases ao:r=35
    ·refine aE (mv 1 E (aA E E E true (dB (a:=r) (b:=35) E E) (mv 1 E (a7 (b8 E (sr (mv 1 E (a7 (aW (bZ (bO (aV [a4 2] E ⟨rfl,i3⟩ ?_))))))))))))
     exact⟨_,rfl,(show bP .i64 (2:Int)=_ by rw [show aM r=2 by unfold aM;(repeat' split) <;> first | rfl | omega | (exfalso;rename_i f;first | exact e f | exact f e)];rfl),aF⟩
    ·refine aE (mv 1 E (aA E E E false (bV (a:=r) (b:=35) E E) (mv 1 E (a7 (aI E (aD ?_))))))
     by_cases ap:r≥48
     ·by_cases am:r≤57
      ·refine aE (mv 1 E (aA E E E true (cJ (a:=r) (b:=48) E E) (mv 2 E (aA E E E true (eM (a:=r) (b:=57) E E) (pu (v:= gx) E (mv 1 E (a7 (b8 E (sr (mv 1 E (a7 (aW (bZ ?_)))))))))))))
       refine bO (aV [a4 3] E ⟨rfl,i3⟩ ?_)
       exact⟨_,rfl,(show bP .i64 (3:Int)=_ by rw [show aM r=3 by unfold aM;(repeat' split) <;> first | rfl | omega | (exfalso;rename_i f;first | exact e f | exact f e)];rfl),aF⟩
      ·refine aE (mv 1 E (aA E E E true (cJ (a:=r) (b:=48) E E) (mv 2 E (aA E E E false (dX (a:=r) (b:=57) E E) (pu (v:= ik) E (mv 1 E (a7 (aI E (aD ?_)))))))))
       by_cases U:r≥97
       ·by_cases ae:r≤122
        ·refine aE (mv 1 E (aA E E E true (cJ (a:=r) (b:=97) E E) (mv 2 E (aA E E E true (eM (a:=r) (b:=122) E E) (pu (v:= gx) E (mv 7 E (pu (v:= gx) E (mv 3 E (pu (v:= gx) E (mv 1 E (a7 (b8 E (aD ?_)))))))))))))
         refine aE (mv 1 E (a7 (aW (bZ (bO (aV [a4 4] E ⟨rfl,i3⟩ ?_))))))
         exact⟨_,rfl,(show bP .i64 (4:Int)=_ by rw [show aM r=4 by unfold aM;(repeat' split) <;> first | rfl | omega | (exfalso;rename_i f;first | exact e f | exact f e)];rfl),aF⟩
        ·by_cases p:r≥65
         ·by_cases D:r≤90
          ·refine aE (mv 1 E (aA E E E true (cJ (a:=r) (b:=97) E E) (mv 2 E (aA E E E false (dX (a:=r) (b:=122) E E) (pu (v:= ik) E (mv 2 E (aA E E E true (cJ (a:=r) (b:=65) E E) (mv 2 E (aA E E E true (eM (a:=r) (b:=90) E E) (pu (v:= gx) E (pu (v:= gx) E (mv 3 E (pu (v:= gx) E ?_)))))))))))))
           refine mv 1 E (a7 (b8 E (sr (mv 1 E (a7 (aW (bZ (bO (aV [a4 4] E ⟨rfl,i3⟩ ?_)))))))))
           exact⟨_,rfl,(show bP .i64 (4:Int)=_ by rw [show aM r=4 by unfold aM;(repeat' split) <;> first | rfl | omega | (exfalso;rename_i f;first | exact e f | exact f e)];rfl),aF⟩
          ·by_cases q:r=95
           ·refine aE (mv 1 E (aA E E E true (cJ (a:=r) (b:=97) E E) (mv 2 E (aA E E E false (dX (a:=r) (b:=122) E E) (pu (v:= ik) E (mv 2 E (aA E E E true (cJ (a:=r) (b:=65) E E) (mv 2 E (aA E E E false (dX (a:=r) (b:=90) E E) (pu (v:= ik) E (pu (v:= ik) E (mv 2 E (aA E E E true (dB (a:=r) (b:=95) E E) ?_)))))))))))))
            refine pu (v:= gx) E (mv 1 E (a7 (b8 E (sr (mv 1 E (a7 (aW (bZ (bO (aV [a4 4] E ⟨rfl,i3⟩ ?_))))))))))
            exact⟨_,rfl,(show bP .i64 (4:Int)=_ by rw [show aM r=4 by unfold aM;(repeat' split) <;> first | rfl | omega | (exfalso;rename_i f;first | exact e f | exact f e)];rfl),aF⟩
           ·refine aE (mv 1 E (aA E E E true (cJ (a:=r) (b:=97) E E) (mv 2 E (aA E E E false (dX (a:=r) (b:=122) E E) (pu (v:= ik) E (mv 2 E (aA E E E true (cJ (a:=r) (b:=65) E E) (mv 2 E (aA E E E false (dX (a:=r) (b:=90) E E) (pu (v:= ik) E (pu (v:= ik) E (mv 2 E (aA E E E false (bV (a:=r) (b:=95) E E) ?_)))))))))))))
            refine pu (v:= ik) E (mv 1 E (a7 (aI E (aD ?_))))
            have o:r<128∨r=160∨r=233:=hr
            refine aE (mv 1 E (aA E E E false (bV (a:=r) (b:=8722) E E) (mv 2 E (aA E E E false (bV (a:=r) (b:=215) E E) (pu (v:= ik) E (mv 1 E (a7 (aI E (aD ?_)))))))))
            by_cases j:r≥192
            ·refine aE (mv 1 E (aA E E E true (cJ (a:=r) (b:=192) E E) (mv 2 E (aA E E E true (eM (a:=r) (b:=687) E E) (pu (v:= gx) E (mv 2 E (aA E E E true (iL (a:=r) (b:=247) E E) (pu (v:= gx) E (mv 7 E (pu (v:= gx) E (mv 1 E (a7 (b8 E ?_)))))))))))))
             refine sr (mv 1 E (a7 (aW (bZ (bO (aV [a4 4] E ⟨rfl,i3⟩ ?_))))))
             exact⟨_,rfl,(show bP .i64 (4:Int)=_ by rw [show aM r=4 by unfold aM;(repeat' split) <;> first | rfl | omega | (exfalso;rename_i f;first | exact e f | exact f e)];rfl),aF⟩
            ·refine aE (mv 1 E (aA E E E false (cR (a:=r) (b:=192) E E) (mv 3 E (pu (v:= ik) E (mv 3 E (pu (v:= ik) E (mv 2 E (aA E E E false (cR (a:=r) (b:=880) E E) (mv 3 E (pu (v:= ik) E (pu (v:= ik) E (mv 1 E (bA ?_)))))))))))))
             refine aJ (aI E (aD ?_))
             by_cases e:r∈gG
             ·refine aE (mv 1 E (aA E E E true (d5 (a:=r) (b:=128) E E) (mv 2 E (cl (vs:= [.string (aB ([43,45,42,94,39,40,41,91,93,123,125,44,59,58,61])),.int .i32 ((r:Nat):Int)]) aF (lG e) E (by kernel_rfl) fun _ _ r3 _ h=>?_))))
              obtain rfl:=r3
              refine pu (v:= gx) E (mv 1 E (a7 (b8 E (sr (mv 1 E (a7 (aW (bZ (bO (aV [a4 5] E ⟨rfl,i3⟩ ?_))))))))))
              exact⟨_,rfl,(show bP .i64 (5:Int)=_ by rw [show aM r=5 by unfold aM;(repeat' split) <;> first | rfl | omega | (exfalso;rename_i f;first | exact e f | exact f e)];rfl),h⟩
             ·refine aE (mv 1 E (aA E E E true (d5 (a:=r) (b:=128) E E) (mv 2 E (cl (vs:= [.string (aB ([43,45,42,94,39,40,41,91,93,123,125,44,59,58,61])),.int .i32 ((r:Nat):Int)]) aF (lH e) E (by kernel_rfl) fun _ _ r6 _ h=>?_))))
              obtain rfl:=r6
              refine pu (v:= ik) E (mv 1 E (a7 (aI E (aY (bU (aJ (sr (mv 1 E (a7 (aW (aV [a4 6] E ⟨rfl,i3⟩ ?_)))))))))))
              exact⟨_,rfl,(show bP .i64 (6:Int)=_ by rw [show aM r=6 by unfold aM;(repeat' split) <;> first | rfl | omega | (exfalso;rename_i f;first | exact e f | exact f e)];rfl),h⟩
         ·by_cases q:r=95
          ·refine aE (mv 1 E (aA E E E true (cJ (a:=r) (b:=97) E E) (mv 2 E (aA E E E false (dX (a:=r) (b:=122) E E) (pu (v:= ik) E (mv 2 E (aA E E E false (cR (a:=r) (b:=65) E E) (mv 3 E (pu (v:= ik) E (pu (v:= ik) E (mv 2 E (aA E E E true (dB (a:=r) (b:=95) E E) (pu (v:= gx) E ?_)))))))))))))
           refine mv 1 E (a7 (b8 E (sr (mv 1 E (a7 (aW (bZ (bO (aV [a4 4] E ⟨rfl,i3⟩ ?_)))))))))
           exact⟨_,rfl,(show bP .i64 (4:Int)=_ by rw [show aM r=4 by unfold aM;(repeat' split) <;> first | rfl | omega | (exfalso;rename_i f;first | exact e f | exact f e)];rfl),aF⟩
          ·refine aE (mv 1 E (aA E E E true (cJ (a:=r) (b:=97) E E) (mv 2 E (aA E E E false (dX (a:=r) (b:=122) E E) (pu (v:= ik) E (mv 2 E (aA E E E false (cR (a:=r) (b:=65) E E) (mv 3 E (pu (v:= ik) E (pu (v:= ik) E (mv 2 E (aA E E E false (bV (a:=r) (b:=95) E E) (pu (v:= ik) E ?_)))))))))))))
           refine mv 1 E (a7 (aI E (aD ?_)))
           have o:r<128∨r=160∨r=233:=hr
           refine aE (mv 1 E (aA E E E false (bV (a:=r) (b:=8722) E E) (mv 2 E (aA E E E false (bV (a:=r) (b:=215) E E) (pu (v:= ik) E (mv 1 E (a7 (aI E (aD ?_)))))))))
           by_cases j:r≥192
           ·refine aE (mv 1 E (aA E E E true (cJ (a:=r) (b:=192) E E) (mv 2 E (aA E E E true (eM (a:=r) (b:=687) E E) (pu (v:= gx) E (mv 2 E (aA E E E true (iL (a:=r) (b:=247) E E) (pu (v:= gx) E (mv 7 E (pu (v:= gx) E (mv 1 E (a7 (b8 E ?_)))))))))))))
            refine sr (mv 1 E (a7 (aW (bZ (bO (aV [a4 4] E ⟨rfl,i3⟩ ?_))))))
            exact⟨_,rfl,(show bP .i64 (4:Int)=_ by rw [show aM r=4 by unfold aM;(repeat' split) <;> first | rfl | omega | (exfalso;rename_i f;first | exact e f | exact f e)];rfl),aF⟩
           ·refine aE (mv 1 E (aA E E E false (cR (a:=r) (b:=192) E E) (mv 3 E (pu (v:= ik) E (mv 3 E (pu (v:= ik) E (mv 2 E (aA E E E false (cR (a:=r) (b:=880) E E) (mv 3 E (pu (v:= ik) E (pu (v:= ik) E (mv 1 E (bA ?_)))))))))))))
            refine aJ (aI E (aD ?_))
            by_cases e:r∈gG
            ·refine aE (mv 1 E (aA E E E true (d5 (a:=r) (b:=128) E E) (mv 2 E (cl (vs:= [.string (aB ([43,45,42,94,39,40,41,91,93,123,125,44,59,58,61])),.int .i32 ((r:Nat):Int)]) aF (lG e) E (by kernel_rfl) fun _ _ r9 _ h=>?_))))
             obtain rfl:=r9
             refine pu (v:= gx) E (mv 1 E (a7 (b8 E (sr (mv 1 E (a7 (aW (bZ (bO (aV [a4 5] E ⟨rfl,i3⟩ ?_))))))))))
             exact⟨_,rfl,(show bP .i64 (5:Int)=_ by rw [show aM r=5 by unfold aM;(repeat' split) <;> first | rfl | omega | (exfalso;rename_i f;first | exact e f | exact f e)];rfl),h⟩
            ·refine aE (mv 1 E (aA E E E true (d5 (a:=r) (b:=128) E E) (mv 2 E (cl (vs:= [.string (aB ([43,45,42,94,39,40,41,91,93,123,125,44,59,58,61])),.int .i32 ((r:Nat):Int)]) aF (lH e) E (by kernel_rfl) fun _ _ aa _ h=>?_))))
             obtain rfl:=aa
             refine pu (v:= ik) E (mv 1 E (a7 (aI E (aY (bU (aJ (sr (mv 1 E (a7 (aW (aV [a4 6] E ⟨rfl,i3⟩ ?_)))))))))))
             exact⟨_,rfl,(show bP .i64 (6:Int)=_ by rw [show aM r=6 by unfold aM;(repeat' split) <;> first | rfl | omega | (exfalso;rename_i f;first | exact e f | exact f e)];rfl),h⟩
       ·by_cases p:r≥65
        ·by_cases D:r≤90
         ·refine aE (mv 1 E (aA E E E false (cR (a:=r) (b:=97) E E) (mv 3 E (pu (v:= ik) E (mv 2 E (aA E E E true (cJ (a:=r) (b:=65) E E) (mv 2 E (aA E E E true (eM (a:=r) (b:=90) E E) (pu (v:= gx) E (pu (v:= gx) E (mv 3 E (pu (v:= gx) E (mv 1 E ?_)))))))))))))
          refine a7 (b8 E (sr (mv 1 E (a7 (aW (bZ (bO (aV [a4 4] E ⟨rfl,i3⟩ ?_))))))))
          exact⟨_,rfl,(show bP .i64 (4:Int)=_ by rw [show aM r=4 by unfold aM;(repeat' split) <;> first | rfl | omega | (exfalso;rename_i f;first | exact e f | exact f e)];rfl),aF⟩
         ·by_cases q:r=95
          ·refine aE (mv 1 E (aA E E E false (cR (a:=r) (b:=97) E E) (mv 3 E (pu (v:= ik) E (mv 2 E (aA E E E true (cJ (a:=r) (b:=65) E E) (mv 2 E (aA E E E false (dX (a:=r) (b:=90) E E) (pu (v:= ik) E (pu (v:= ik) E (mv 2 E (aA E E E true (dB (a:=r) (b:=95) E E) (pu (v:= gx) E ?_)))))))))))))
           refine mv 1 E (a7 (b8 E (sr (mv 1 E (a7 (aW (bZ (bO (aV [a4 4] E ⟨rfl,i3⟩ ?_)))))))))
           exact⟨_,rfl,(show bP .i64 (4:Int)=_ by rw [show aM r=4 by unfold aM;(repeat' split) <;> first | rfl | omega | (exfalso;rename_i f;first | exact e f | exact f e)];rfl),aF⟩
          ·refine aE (mv 1 E (aA E E E false (cR (a:=r) (b:=97) E E) (mv 3 E (pu (v:= ik) E (mv 2 E (aA E E E true (cJ (a:=r) (b:=65) E E) (mv 2 E (aA E E E false (dX (a:=r) (b:=90) E E) (pu (v:= ik) E (pu (v:= ik) E (mv 2 E (aA E E E false (bV (a:=r) (b:=95) E E) (pu (v:= ik) E ?_)))))))))))))
           refine mv 1 E (a7 (aI E (aD ?_)))
           have o:r<128∨r=160∨r=233:=hr
           refine aE (mv 1 E (aA E E E false (bV (a:=r) (b:=8722) E E) (mv 2 E (aA E E E false (bV (a:=r) (b:=215) E E) (pu (v:= ik) E (mv 1 E (a7 (aI E (aD ?_)))))))))
           by_cases j:r≥192
           ·refine aE (mv 1 E (aA E E E true (cJ (a:=r) (b:=192) E E) (mv 2 E (aA E E E true (eM (a:=r) (b:=687) E E) (pu (v:= gx) E (mv 2 E (aA E E E true (iL (a:=r) (b:=247) E E) (pu (v:= gx) E (mv 7 E (pu (v:= gx) E (mv 1 E (a7 (b8 E ?_)))))))))))))
            refine sr (mv 1 E (a7 (aW (bZ (bO (aV [a4 4] E ⟨rfl,i3⟩ ?_))))))
            exact⟨_,rfl,(show bP .i64 (4:Int)=_ by rw [show aM r=4 by unfold aM;(repeat' split) <;> first | rfl | omega | (exfalso;rename_i f;first | exact e f | exact f e)];rfl),aF⟩
           ·refine aE (mv 1 E (aA E E E false (cR (a:=r) (b:=192) E E) (mv 3 E (pu (v:= ik) E (mv 3 E (pu (v:= ik) E (mv 2 E (aA E E E false (cR (a:=r) (b:=880) E E) (mv 3 E (pu (v:= ik) E (pu (v:= ik) E (mv 1 E (bA ?_)))))))))))))
            refine aJ (aI E (aD ?_))
            by_cases e:r∈gG
            ·refine aE (mv 1 E (aA E E E true (d5 (a:=r) (b:=128) E E) (mv 2 E (cl (vs:= [.string (aB ([43,45,42,94,39,40,41,91,93,123,125,44,59,58,61])),.int .i32 ((r:Nat):Int)]) aF (lG e) E (by kernel_rfl) fun _ _ I _ h=>?_))))
             obtain rfl:=I
             refine pu (v:= gx) E (mv 1 E (a7 (b8 E (sr (mv 1 E (a7 (aW (bZ (bO (aV [a4 5] E ⟨rfl,i3⟩ ?_))))))))))
             exact⟨_,rfl,(show bP .i64 (5:Int)=_ by rw [show aM r=5 by unfold aM;(repeat' split) <;> first | rfl | omega | (exfalso;rename_i f;first | exact e f | exact f e)];rfl),h⟩
            ·refine aE (mv 1 E (aA E E E true (d5 (a:=r) (b:=128) E E) (mv 2 E (cl (vs:= [.string (aB ([43,45,42,94,39,40,41,91,93,123,125,44,59,58,61])),.int .i32 ((r:Nat):Int)]) aF (lH e) E (by kernel_rfl) fun _ _ V _ h=>?_))))
             obtain rfl:=V
             refine pu (v:= ik) E (mv 1 E (a7 (aI E (aY (bU (aJ (sr (mv 1 E (a7 (aW (aV [a4 6] E ⟨rfl,i3⟩ ?_)))))))))))
             exact⟨_,rfl,(show bP .i64 (6:Int)=_ by rw [show aM r=6 by unfold aM;(repeat' split) <;> first | rfl | omega | (exfalso;rename_i f;first | exact e f | exact f e)];rfl),h⟩
        ·by_cases q:r=95
         ·refine aE (mv 1 E (aA E E E false (cR (a:=r) (b:=97) E E) (mv 3 E (pu (v:= ik) E (mv 2 E (aA E E E false (cR (a:=r) (b:=65) E E) (mv 3 E (pu (v:= ik) E (pu (v:= ik) E (mv 2 E (aA E E E true (dB (a:=r) (b:=95) E E) (pu (v:= gx) E (mv 1 E ?_)))))))))))))
          refine a7 (b8 E (sr (mv 1 E (a7 (aW (bZ (bO (aV [a4 4] E ⟨rfl,i3⟩ ?_))))))))
          exact⟨_,rfl,(show bP .i64 (4:Int)=_ by rw [show aM r=4 by unfold aM;(repeat' split) <;> first | rfl | omega | (exfalso;rename_i f;first | exact e f | exact f e)];rfl),aF⟩
         ·refine aE (mv 1 E (aA E E E false (cR (a:=r) (b:=97) E E) (mv 3 E (pu (v:= ik) E (mv 2 E (aA E E E false (cR (a:=r) (b:=65) E E) (mv 3 E (pu (v:= ik) E (pu (v:= ik) E (mv 2 E (aA E E E false (bV (a:=r) (b:=95) E E) (pu (v:= ik) E (mv 1 E ?_)))))))))))))
          refine a7 (aI E (aD ?_))
          have o:r<128∨r=160∨r=233:=hr
          refine aE (mv 1 E (aA E E E false (bV (a:=r) (b:=8722) E E) (mv 2 E (aA E E E false (bV (a:=r) (b:=215) E E) (pu (v:= ik) E (mv 1 E (a7 (aI E (aD ?_)))))))))
          by_cases j:r≥192
          ·refine aE (mv 1 E (aA E E E true (cJ (a:=r) (b:=192) E E) (mv 2 E (aA E E E true (eM (a:=r) (b:=687) E E) (pu (v:= gx) E (mv 2 E (aA E E E true (iL (a:=r) (b:=247) E E) (pu (v:= gx) E (mv 7 E (pu (v:= gx) E (mv 1 E (a7 (b8 E ?_)))))))))))))
           refine sr (mv 1 E (a7 (aW (bZ (bO (aV [a4 4] E ⟨rfl,i3⟩ ?_))))))
           exact⟨_,rfl,(show bP .i64 (4:Int)=_ by rw [show aM r=4 by unfold aM;(repeat' split) <;> first | rfl | omega | (exfalso;rename_i f;first | exact e f | exact f e)];rfl),aF⟩
          ·refine aE (mv 1 E (aA E E E false (cR (a:=r) (b:=192) E E) (mv 3 E (pu (v:= ik) E (mv 3 E (pu (v:= ik) E (mv 2 E (aA E E E false (cR (a:=r) (b:=880) E E) (mv 3 E (pu (v:= ik) E (pu (v:= ik) E (mv 1 E (bA ?_)))))))))))))
           refine aJ (aI E (aD ?_))
           by_cases e:r∈gG
           ·refine aE (mv 1 E (aA E E E true (d5 (a:=r) (b:=128) E E) (mv 2 E (cl (vs:= [.string (aB ([43,45,42,94,39,40,41,91,93,123,125,44,59,58,61])),.int .i32 ((r:Nat):Int)]) aF (lG e) E (by kernel_rfl) fun _ _ W _ h=>?_))))
            obtain rfl:=W
            refine pu (v:= gx) E (mv 1 E (a7 (b8 E (sr (mv 1 E (a7 (aW (bZ (bO (aV [a4 5] E ⟨rfl,i3⟩ ?_))))))))))
            exact⟨_,rfl,(show bP .i64 (5:Int)=_ by rw [show aM r=5 by unfold aM;(repeat' split) <;> first | rfl | omega | (exfalso;rename_i f;first | exact e f | exact f e)];rfl),h⟩
           ·refine aE (mv 1 E (aA E E E true (d5 (a:=r) (b:=128) E E) (mv 2 E (cl (vs:= [.string (aB ([43,45,42,94,39,40,41,91,93,123,125,44,59,58,61])),.int .i32 ((r:Nat):Int)]) aF (lH e) E (by kernel_rfl) fun _ _ X _ h=>?_))))
            obtain rfl:=X
            refine pu (v:= ik) E (mv 1 E (a7 (aI E (aY (bU (aJ (sr (mv 1 E (a7 (aW (aV [a4 6] E ⟨rfl,i3⟩ ?_)))))))))))
            exact⟨_,rfl,(show bP .i64 (6:Int)=_ by rw [show aM r=6 by unfold aM;(repeat' split) <;> first | rfl | omega | (exfalso;rename_i f;first | exact e f | exact f e)];rfl),h⟩
     ·refine aE (mv 1 E (aA E E E false (cR (a:=r) (b:=48) E E) (mv 3 E (pu (v:= ik) E (mv 1 E (a7 (aI E (aD ?_))))))))
      by_cases U:r≥97
      ·by_cases ae:r≤122
       ·refine aE (mv 1 E (aA E E E true (cJ (a:=r) (b:=97) E E) (mv 2 E (aA E E E true (eM (a:=r) (b:=122) E E) (pu (v:= gx) E (mv 7 E (pu (v:= gx) E (mv 3 E (pu (v:= gx) E (mv 1 E (a7 (b8 E (aD ?_)))))))))))))
        refine aE (mv 1 E (a7 (aW (bZ (bO (aV [a4 4] E ⟨rfl,i3⟩ ?_))))))
        exact⟨_,rfl,(show bP .i64 (4:Int)=_ by rw [show aM r=4 by unfold aM;(repeat' split) <;> first | rfl | omega | (exfalso;rename_i f;first | exact e f | exact f e)];rfl),aF⟩
       ·by_cases p:r≥65
        ·by_cases D:r≤90
         ·refine aE (mv 1 E (aA E E E true (cJ (a:=r) (b:=97) E E) (mv 2 E (aA E E E false (dX (a:=r) (b:=122) E E) (pu (v:= ik) E (mv 2 E (aA E E E true (cJ (a:=r) (b:=65) E E) (mv 2 E (aA E E E true (eM (a:=r) (b:=90) E E) (pu (v:= gx) E (pu (v:= gx) E (mv 3 E (pu (v:= gx) E ?_)))))))))))))
          refine mv 1 E (a7 (b8 E (sr (mv 1 E (a7 (aW (bZ (bO (aV [a4 4] E ⟨rfl,i3⟩ ?_)))))))))
          exact⟨_,rfl,(show bP .i64 (4:Int)=_ by rw [show aM r=4 by unfold aM;(repeat' split) <;> first | rfl | omega | (exfalso;rename_i f;first | exact e f | exact f e)];rfl),aF⟩
         ·by_cases q:r=95
          ·refine aE (mv 1 E (aA E E E true (cJ (a:=r) (b:=97) E E) (mv 2 E (aA E E E false (dX (a:=r) (b:=122) E E) (pu (v:= ik) E (mv 2 E (aA E E E true (cJ (a:=r) (b:=65) E E) (mv 2 E (aA E E E false (dX (a:=r) (b:=90) E E) (pu (v:= ik) E (pu (v:= ik) E (mv 2 E (aA E E E true (dB (a:=r) (b:=95) E E) ?_)))))))))))))
           refine pu (v:= gx) E (mv 1 E (a7 (b8 E (sr (mv 1 E (a7 (aW (bZ (bO (aV [a4 4] E ⟨rfl,i3⟩ ?_))))))))))
           exact⟨_,rfl,(show bP .i64 (4:Int)=_ by rw [show aM r=4 by unfold aM;(repeat' split) <;> first | rfl | omega | (exfalso;rename_i f;first | exact e f | exact f e)];rfl),aF⟩
          ·refine aE (mv 1 E (aA E E E true (cJ (a:=r) (b:=97) E E) (mv 2 E (aA E E E false (dX (a:=r) (b:=122) E E) (pu (v:= ik) E (mv 2 E (aA E E E true (cJ (a:=r) (b:=65) E E) (mv 2 E (aA E E E false (dX (a:=r) (b:=90) E E) (pu (v:= ik) E (pu (v:= ik) E (mv 2 E (aA E E E false (bV (a:=r) (b:=95) E E) ?_)))))))))))))
           refine pu (v:= ik) E (mv 1 E (a7 (aI E (aD ?_))))
           have o:r<128∨r=160∨r=233:=hr
           refine aE (mv 1 E (aA E E E false (bV (a:=r) (b:=8722) E E) (mv 2 E (aA E E E false (bV (a:=r) (b:=215) E E) (pu (v:= ik) E (mv 1 E (a7 (aI E (aD ?_)))))))))
           by_cases j:r≥192
           ·refine aE (mv 1 E (aA E E E true (cJ (a:=r) (b:=192) E E) (mv 2 E (aA E E E true (eM (a:=r) (b:=687) E E) (pu (v:= gx) E (mv 2 E (aA E E E true (iL (a:=r) (b:=247) E E) (pu (v:= gx) E (mv 7 E (pu (v:= gx) E (mv 1 E (a7 (b8 E ?_)))))))))))))
            refine sr (mv 1 E (a7 (aW (bZ (bO (aV [a4 4] E ⟨rfl,i3⟩ ?_))))))
            exact⟨_,rfl,(show bP .i64 (4:Int)=_ by rw [show aM r=4 by unfold aM;(repeat' split) <;> first | rfl | omega | (exfalso;rename_i f;first | exact e f | exact f e)];rfl),aF⟩
           ·refine aE (mv 1 E (aA E E E false (cR (a:=r) (b:=192) E E) (mv 3 E (pu (v:= ik) E (mv 3 E (pu (v:= ik) E (mv 2 E (aA E E E false (cR (a:=r) (b:=880) E E) (mv 3 E (pu (v:= ik) E (pu (v:= ik) E (mv 1 E (bA ?_)))))))))))))
            refine aJ (aI E (aD ?_))
            by_cases e:r∈gG
            ·refine aE (mv 1 E (aA E E E true (d5 (a:=r) (b:=128) E E) (mv 2 E (cl (vs:= [.string (aB ([43,45,42,94,39,40,41,91,93,123,125,44,59,58,61])),.int .i32 ((r:Nat):Int)]) aF (lG e) E (by kernel_rfl) fun _ _ L _ h=>?_))))
             obtain rfl:=L
             refine pu (v:= gx) E (mv 1 E (a7 (b8 E (sr (mv 1 E (a7 (aW (bZ (bO (aV [a4 5] E ⟨rfl,i3⟩ ?_))))))))))
             exact⟨_,rfl,(show bP .i64 (5:Int)=_ by rw [show aM r=5 by unfold aM;(repeat' split) <;> first | rfl | omega | (exfalso;rename_i f;first | exact e f | exact f e)];rfl),h⟩
            ·refine aE (mv 1 E (aA E E E true (d5 (a:=r) (b:=128) E E) (mv 2 E (cl (vs:= [.string (aB ([43,45,42,94,39,40,41,91,93,123,125,44,59,58,61])),.int .i32 ((r:Nat):Int)]) aF (lH e) E (by kernel_rfl) fun _ _ O _ h=>?_))))
             obtain rfl:=O
             refine pu (v:= ik) E (mv 1 E (a7 (aI E (aY (bU (aJ (sr (mv 1 E (a7 (aW (aV [a4 6] E ⟨rfl,i3⟩ ?_)))))))))))
             exact⟨_,rfl,(show bP .i64 (6:Int)=_ by rw [show aM r=6 by unfold aM;(repeat' split) <;> first | rfl | omega | (exfalso;rename_i f;first | exact e f | exact f e)];rfl),h⟩
        ·by_cases q:r=95
         ·refine aE (mv 1 E (aA E E E true (cJ (a:=r) (b:=97) E E) (mv 2 E (aA E E E false (dX (a:=r) (b:=122) E E) (pu (v:= ik) E (mv 2 E (aA E E E false (cR (a:=r) (b:=65) E E) (mv 3 E (pu (v:= ik) E (pu (v:= ik) E (mv 2 E (aA E E E true (dB (a:=r) (b:=95) E E) (pu (v:= gx) E ?_)))))))))))))
          refine mv 1 E (a7 (b8 E (sr (mv 1 E (a7 (aW (bZ (bO (aV [a4 4] E ⟨rfl,i3⟩ ?_)))))))))
          exact⟨_,rfl,(show bP .i64 (4:Int)=_ by rw [show aM r=4 by unfold aM;(repeat' split) <;> first | rfl | omega | (exfalso;rename_i f;first | exact e f | exact f e)];rfl),aF⟩
         ·refine aE (mv 1 E (aA E E E true (cJ (a:=r) (b:=97) E E) (mv 2 E (aA E E E false (dX (a:=r) (b:=122) E E) (pu (v:= ik) E (mv 2 E (aA E E E false (cR (a:=r) (b:=65) E E) (mv 3 E (pu (v:= ik) E (pu (v:= ik) E (mv 2 E (aA E E E false (bV (a:=r) (b:=95) E E) (pu (v:= ik) E ?_)))))))))))))
          refine mv 1 E (a7 (aI E (aD ?_)))
          have o:r<128∨r=160∨r=233:=hr
          refine aE (mv 1 E (aA E E E false (bV (a:=r) (b:=8722) E E) (mv 2 E (aA E E E false (bV (a:=r) (b:=215) E E) (pu (v:= ik) E (mv 1 E (a7 (aI E (aD ?_)))))))))
          by_cases j:r≥192
          ·refine aE (mv 1 E (aA E E E true (cJ (a:=r) (b:=192) E E) (mv 2 E (aA E E E true (eM (a:=r) (b:=687) E E) (pu (v:= gx) E (mv 2 E (aA E E E true (iL (a:=r) (b:=247) E E) (pu (v:= gx) E (mv 7 E (pu (v:= gx) E (mv 1 E (a7 (b8 E ?_)))))))))))))
           refine sr (mv 1 E (a7 (aW (bZ (bO (aV [a4 4] E ⟨rfl,i3⟩ ?_))))))
           exact⟨_,rfl,(show bP .i64 (4:Int)=_ by rw [show aM r=4 by unfold aM;(repeat' split) <;> first | rfl | omega | (exfalso;rename_i f;first | exact e f | exact f e)];rfl),aF⟩
          ·refine aE (mv 1 E (aA E E E false (cR (a:=r) (b:=192) E E) (mv 3 E (pu (v:= ik) E (mv 3 E (pu (v:= ik) E (mv 2 E (aA E E E false (cR (a:=r) (b:=880) E E) (mv 3 E (pu (v:= ik) E (pu (v:= ik) E (mv 1 E (bA ?_)))))))))))))
           refine aJ (aI E (aD ?_))
           by_cases e:r∈gG
           ·refine aE (mv 1 E (aA E E E true (d5 (a:=r) (b:=128) E E) (mv 2 E (cl (vs:= [.string (aB ([43,45,42,94,39,40,41,91,93,123,125,44,59,58,61])),.int .i32 ((r:Nat):Int)]) aF (lG e) E (by kernel_rfl) fun _ _ H _ h=>?_))))
            obtain rfl:=H
            refine pu (v:= gx) E (mv 1 E (a7 (b8 E (sr (mv 1 E (a7 (aW (bZ (bO (aV [a4 5] E ⟨rfl,i3⟩ ?_))))))))))
            exact⟨_,rfl,(show bP .i64 (5:Int)=_ by rw [show aM r=5 by unfold aM;(repeat' split) <;> first | rfl | omega | (exfalso;rename_i f;first | exact e f | exact f e)];rfl),h⟩
           ·refine aE (mv 1 E (aA E E E true (d5 (a:=r) (b:=128) E E) (mv 2 E (cl (vs:= [.string (aB ([43,45,42,94,39,40,41,91,93,123,125,44,59,58,61])),.int .i32 ((r:Nat):Int)]) aF (lH e) E (by kernel_rfl) fun _ _ F _ h=>?_))))
            obtain rfl:=F
            refine pu (v:= ik) E (mv 1 E (a7 (aI E (aY (bU (aJ (sr (mv 1 E (a7 (aW (aV [a4 6] E ⟨rfl,i3⟩ ?_)))))))))))
            exact⟨_,rfl,(show bP .i64 (6:Int)=_ by rw [show aM r=6 by unfold aM;(repeat' split) <;> first | rfl | omega | (exfalso;rename_i f;first | exact e f | exact f e)];rfl),h⟩
      ·by_cases p:r≥65
       ·by_cases D:r≤90
        ·refine aE (mv 1 E (aA E E E false (cR (a:=r) (b:=97) E E) (mv 3 E (pu (v:= ik) E (mv 2 E (aA E E E true (cJ (a:=r) (b:=65) E E) (mv 2 E (aA E E E true (eM (a:=r) (b:=90) E E) (pu (v:= gx) E (pu (v:= gx) E (mv 3 E (pu (v:= gx) E (mv 1 E ?_)))))))))))))
         refine a7 (b8 E (sr (mv 1 E (a7 (aW (bZ (bO (aV [a4 4] E ⟨rfl,i3⟩ ?_))))))))
         exact⟨_,rfl,(show bP .i64 (4:Int)=_ by rw [show aM r=4 by unfold aM;(repeat' split) <;> first | rfl | omega | (exfalso;rename_i f;first | exact e f | exact f e)];rfl),aF⟩
        ·by_cases q:r=95
         ·refine aE (mv 1 E (aA E E E false (cR (a:=r) (b:=97) E E) (mv 3 E (pu (v:= ik) E (mv 2 E (aA E E E true (cJ (a:=r) (b:=65) E E) (mv 2 E (aA E E E false (dX (a:=r) (b:=90) E E) (pu (v:= ik) E (pu (v:= ik) E (mv 2 E (aA E E E true (dB (a:=r) (b:=95) E E) (pu (v:= gx) E ?_)))))))))))))
          refine mv 1 E (a7 (b8 E (sr (mv 1 E (a7 (aW (bZ (bO (aV [a4 4] E ⟨rfl,i3⟩ ?_)))))))))
          exact⟨_,rfl,(show bP .i64 (4:Int)=_ by rw [show aM r=4 by unfold aM;(repeat' split) <;> first | rfl | omega | (exfalso;rename_i f;first | exact e f | exact f e)];rfl),aF⟩
         ·refine aE (mv 1 E (aA E E E false (cR (a:=r) (b:=97) E E) (mv 3 E (pu (v:= ik) E (mv 2 E (aA E E E true (cJ (a:=r) (b:=65) E E) (mv 2 E (aA E E E false (dX (a:=r) (b:=90) E E) (pu (v:= ik) E (pu (v:= ik) E (mv 2 E (aA E E E false (bV (a:=r) (b:=95) E E) (pu (v:= ik) E ?_)))))))))))))
          refine mv 1 E (a7 (aI E (aD ?_)))
          have o:r<128∨r=160∨r=233:=hr
          refine aE (mv 1 E (aA E E E false (bV (a:=r) (b:=8722) E E) (mv 2 E (aA E E E false (bV (a:=r) (b:=215) E E) (pu (v:= ik) E (mv 1 E (a7 (aI E (aD ?_)))))))))
          by_cases j:r≥192
          ·refine aE (mv 1 E (aA E E E true (cJ (a:=r) (b:=192) E E) (mv 2 E (aA E E E true (eM (a:=r) (b:=687) E E) (pu (v:= gx) E (mv 2 E (aA E E E true (iL (a:=r) (b:=247) E E) (pu (v:= gx) E (mv 7 E (pu (v:= gx) E (mv 1 E (a7 (b8 E ?_)))))))))))))
           refine sr (mv 1 E (a7 (aW (bZ (bO (aV [a4 4] E ⟨rfl,i3⟩ ?_))))))
           exact⟨_,rfl,(show bP .i64 (4:Int)=_ by rw [show aM r=4 by unfold aM;(repeat' split) <;> first | rfl | omega | (exfalso;rename_i f;first | exact e f | exact f e)];rfl),aF⟩
          ·refine aE (mv 1 E (aA E E E false (cR (a:=r) (b:=192) E E) (mv 3 E (pu (v:= ik) E (mv 3 E (pu (v:= ik) E (mv 2 E (aA E E E false (cR (a:=r) (b:=880) E E) (mv 3 E (pu (v:= ik) E (pu (v:= ik) E (mv 1 E (bA ?_)))))))))))))
           refine aJ (aI E (aD ?_))
           by_cases e:r∈gG
           ·refine aE (mv 1 E (aA E E E true (d5 (a:=r) (b:=128) E E) (mv 2 E (cl (vs:= [.string (aB ([43,45,42,94,39,40,41,91,93,123,125,44,59,58,61])),.int .i32 ((r:Nat):Int)]) aF (lG e) E (by kernel_rfl) fun _ _ Z _ h=>?_))))
            obtain rfl:=Z
            refine pu (v:= gx) E (mv 1 E (a7 (b8 E (sr (mv 1 E (a7 (aW (bZ (bO (aV [a4 5] E ⟨rfl,i3⟩ ?_))))))))))
            exact⟨_,rfl,(show bP .i64 (5:Int)=_ by rw [show aM r=5 by unfold aM;(repeat' split) <;> first | rfl | omega | (exfalso;rename_i f;first | exact e f | exact f e)];rfl),h⟩
           ·refine aE (mv 1 E (aA E E E true (d5 (a:=r) (b:=128) E E) (mv 2 E (cl (vs:= [.string (aB ([43,45,42,94,39,40,41,91,93,123,125,44,59,58,61])),.int .i32 ((r:Nat):Int)]) aF (lH e) E (by kernel_rfl) fun _ _ Y _ h=>?_))))
            obtain rfl:=Y
            refine pu (v:= ik) E (mv 1 E (a7 (aI E (aY (bU (aJ (sr (mv 1 E (a7 (aW (aV [a4 6] E ⟨rfl,i3⟩ ?_)))))))))))
            exact⟨_,rfl,(show bP .i64 (6:Int)=_ by rw [show aM r=6 by unfold aM;(repeat' split) <;> first | rfl | omega | (exfalso;rename_i f;first | exact e f | exact f e)];rfl),h⟩
       ·by_cases q:r=95
        ·refine aE (mv 1 E (aA E E E false (cR (a:=r) (b:=97) E E) (mv 3 E (pu (v:= ik) E (mv 2 E (aA E E E false (cR (a:=r) (b:=65) E E) (mv 3 E (pu (v:= ik) E (pu (v:= ik) E (mv 2 E (aA E E E true (dB (a:=r) (b:=95) E E) (pu (v:= gx) E (mv 1 E ?_)))))))))))))
         refine a7 (b8 E (sr (mv 1 E (a7 (aW (bZ (bO (aV [a4 4] E ⟨rfl,i3⟩ ?_))))))))
         exact⟨_,rfl,(show bP .i64 (4:Int)=_ by rw [show aM r=4 by unfold aM;(repeat' split) <;> first | rfl | omega | (exfalso;rename_i f;first | exact e f | exact f e)];rfl),aF⟩
        ·refine aE (mv 1 E (aA E E E false (cR (a:=r) (b:=97) E E) (mv 3 E (pu (v:= ik) E (mv 2 E (aA E E E false (cR (a:=r) (b:=65) E E) (mv 3 E (pu (v:= ik) E (pu (v:= ik) E (mv 2 E (aA E E E false (bV (a:=r) (b:=95) E E) (pu (v:= ik) E (mv 1 E ?_)))))))))))))
         refine a7 (aI E (aD ?_))
         have o:r<128∨r=160∨r=233:=hr
         refine aE (mv 1 E (aA E E E false (bV (a:=r) (b:=8722) E E) (mv 2 E (aA E E E false (bV (a:=r) (b:=215) E E) (pu (v:= ik) E (mv 1 E (a7 (aI E (aD ?_)))))))))
         by_cases j:r≥192
         ·refine aE (mv 1 E (aA E E E true (cJ (a:=r) (b:=192) E E) (mv 2 E (aA E E E true (eM (a:=r) (b:=687) E E) (pu (v:= gx) E (mv 2 E (aA E E E true (iL (a:=r) (b:=247) E E) (pu (v:= gx) E (mv 7 E (pu (v:= gx) E (mv 1 E (a7 (b8 E ?_)))))))))))))
          refine sr (mv 1 E (a7 (aW (bZ (bO (aV [a4 4] E ⟨rfl,i3⟩ ?_))))))
          exact⟨_,rfl,(show bP .i64 (4:Int)=_ by rw [show aM r=4 by unfold aM;(repeat' split) <;> first | rfl | omega | (exfalso;rename_i f;first | exact e f | exact f e)];rfl),aF⟩
         ·refine aE (mv 1 E (aA E E E false (cR (a:=r) (b:=192) E E) (mv 3 E (pu (v:= ik) E (mv 3 E (pu (v:= ik) E (mv 2 E (aA E E E false (cR (a:=r) (b:=880) E E) (mv 3 E (pu (v:= ik) E (pu (v:= ik) E (mv 1 E (bA ?_)))))))))))))
          refine aJ (aI E (aD ?_))
          by_cases e:r∈gG
          ·refine aE (mv 1 E (aA E E E true (d5 (a:=r) (b:=128) E E) (mv 2 E (cl (vs:= [.string (aB ([43,45,42,94,39,40,41,91,93,123,125,44,59,58,61])),.int .i32 ((r:Nat):Int)]) aF (lG e) E (by kernel_rfl) fun _ _ M _ h=>?_))))
           obtain rfl:=M
           refine pu (v:= gx) E (mv 1 E (a7 (b8 E (sr (mv 1 E (a7 (aW (bZ (bO (aV [a4 5] E ⟨rfl,i3⟩ ?_))))))))))
           exact⟨_,rfl,(show bP .i64 (5:Int)=_ by rw [show aM r=5 by unfold aM;(repeat' split) <;> first | rfl | omega | (exfalso;rename_i f;first | exact e f | exact f e)];rfl),h⟩
          ·refine aE (mv 1 E (aA E E E true (d5 (a:=r) (b:=128) E E) (mv 2 E (cl (vs:= [.string (aB ([43,45,42,94,39,40,41,91,93,123,125,44,59,58,61])),.int .i32 ((r:Nat):Int)]) aF (lH e) E (by kernel_rfl) fun _ _ ab _ h=>?_))))
           obtain rfl:=ab
           refine pu (v:= ik) E (mv 1 E (a7 (aI E (aY (bU (aJ (sr (mv 1 E (a7 (aW (aV [a4 6] E ⟨rfl,i3⟩ ?_)))))))))))
           exact⟨_,rfl,(show bP .i64 (6:Int)=_ by rw [show aM r=6 by unfold aM;(repeat' split) <;> first | rfl | omega | (exfalso;rename_i f;first | exact e f | exact f e)];rfl),h⟩
def PB (b:Nat)(rs:List Nat)(v:aC)(w:a6):Prop:=∃A c,v= a9 A rs.length c∧Own w b 116 3 A rs.length c (eL rs.length (iA rs))
theorem BT (hr:∀c,c∈rs→Rch c)(hl:rs.length≤549755813888):aU aG 66 #[.string (aB (bM rs))] w (Gv w (PB w.heap.size rs)):=by
 refine bJ Tryz.func66 E (n:=33) E (bq E) (args:= [.string (aB (bM rs))]) (bH [(0,.string (aB (bM rs)))] ⟨rfl,i3⟩ (sr (mv 1 E (a7 (sr (mv 1 E (a7 (aD (sr (mv 1 E (sZ (bs:=bM rs) E E Tryz.underlying9 fun g1 v2 ab aw e5=>?_)))))))))))
 have am:w.heap.size≤g1:=by rw [←ab];exact (Ext.refl w).size
 clear ab
 have q:=(Ext.refl w).trans e5
 refine a7 (bI ?_)
 refine dJ (T:=a6×Nat×Option a8×Nat) (fun⟨wr,k,CA,cc⟩=> [(0,.string (aB (bM rs))),(3,a9 CA k cc),(8,a1 g1 0)]) (fun⟨wr,k,CA,cc⟩=>wr) (fun⟨wr,k,CA,cc⟩=>(Ext w wr)∧(k≤rs.length)∧(Own wr w.heap.size 116 3 CA k cc (eL k (iA rs)))∧(It wr g1 (bM rs) (cD rs k))) (fun⟨wr,k,CA,cc⟩=>rs.length-k)
  (⟨v2,0,none,0⟩:a6×Nat×Option a8×Nat) ⟨q,(cE _),(Own.nil _ _ _ _),aw⟩ E ⟨rfl,rfl,rfl,i3⟩ ?_
 rintro⟨wr,k,CA,cc⟩ ⟨q,_,hO,hI⟩
 refine d9 [(0,.string (aB (bM rs))),(3,a9 CA k cc),(8,a1 g1 0)] wr E ⟨rfl,rfl,rfl,i3⟩ (aD ?_)
 by_cases ap:k<rs.length
 ·have Z:=BC hr ap
  refine aE ?_
  have M:=hI
  refine EG (k:=k) (rs:=rs) hr E E M (by omega) (by decide) fun _ L I=>?_
  have au:=I.ext q am
  refine pu (v:= gx) E (a7 (aD (b8 E (aY (aJ (bI (sr (pu (v:= a4 ((cD rs k:Nat):Int)) E (pu (v:= .int .i32 ((rs.getD k 0:Nat):Int)) E (mv 2 E (a7 (sr (mv 1 E ?_)))))))))))))
  refine cl (vs:= [.int .i32 ((rs.getD k 0:Nat):Int)]) au (M1 Z) E (by kernel_rfl) fun _ _ ay j Y=>?_
  obtain rfl:=ay
  refine mv 2 E (pu (v:= .agg #[a4 ((aM (rs.getD k 0):Nat):Int),.int .i32 ((rs.getD k 0:Nat):Int),a4 ((cD rs k:Nat):Int)]) E (eK E (z:= .agg #[I0,.int .i32 0,I0]) (vs:= [I0,.int .i32 0,I0]) (fun _=>by kernel_rfl) E fun r _ nb=>?_))
  have V:=nb.bk
  have X:w.heap.size≤r:=by rw [←nb.at_];exact Y.size
  have bj:g1<r:=by rw [←nb.at_];exact (L.ext j).lt
  have O:∀p:a8,CA=some p→p.block<r:=fun p hp=>by have:=((((hO.updI M I).ext j)).block p hp).2;have:=nb.at_;omega
  have H:∀p:a8,CA=some p→p.block≠r:=fun p hp=>Nat.ne_of_lt (O p hp)
  have o:=nb.ext
  clear nb
  have ar:=Y.trans o
  refine so iO V [a4 ((aM (rs.getD k 0):Nat):Int),.int .i32 ((rs.getD k 0:Nat):Int),a4 ((cD rs k:Nat):Int)] ar X E E E E fun _ D U ba=>(a7 (aD (aD ?_)))
  have bh:=Z.lt
  refine aE (mv 1 E (aA E E E false (bV (a:=rs.getD k 0) (b:=65533) E E) (mv 6 E (pu (v:= ik) E (a7 (aI E (aY (aJ (aE (mv 1 E (lo iO D [a4 ((aM (rs.getD k 0):Nat):Int),.int .i32 ((rs.getD k 0:Nat):Int),a4 ((cD rs k:Nat):Int)] E E E (dN E E (k:=1) (e:=116) [a4 ((aM (rs.getD k 0):Nat):Int),.int .i32 ((rs.getD k 0:Nat):Int),a4 ((cD rs k:Nat):Int)] (fun _=>by kernel_rfl) fun _ _ nb=>?_))))))))))))
  have ai:=nb.bk
  have h:=nb.ext
  clear nb
  have W:=ba.trans h
  have f:=((((hO.updI M I).ext (j.t o)).upd U H).ext h)
  refine fB E E E EV JY E f W.size [a4 ((aM (rs.getD k 0):Nat):Int),.int .i32 ((rs.getD k 0:Nat):Int),a4 ((cD rs k:Nat):Int)] E (iI ai) E fun az ao aq ae F ak=>?_
  have ax:=F.ext W (fun p hp=>(f.block p hp).1)
  have bf:=jI ak (D.ext h).lt H
  refine mv 1 E (bA (bU ?_))
  have aj:=ae
  rw [show [a4 ((aM (rs.getD k 0):Nat):Int),.int .i32 ((rs.getD k 0:Nat):Int),a4 ((cD rs k:Nat):Int)]= [iA rs k 0,iA rs k 1,iA rs k 2] from rfl,←C4] at aj
  refine cW (⟨aq,k+1,az,ao⟩:a6×Nat×Option a8×Nat) ⟨ax,(by omega),aj,((((L.ext (j.t o)).vN U).ext h).updO F (pA f (((L.ext (j.t o)).vN U).ext h)))⟩ (show rs.length-(k+1)<rs.length-k by omega) E ⟨rfl,rfl,rfl,i3⟩
 ·refine aE ?_
  have aa:=hI
  refine EF (k:=k) (rs:=rs) E E aa (by omega) (by decide) (pu (v:= ik) E (a7 (aD (aI E (dA (d7 (dG (d8 (aJ (sr (mv 2 E (a7 (aW ?_)))))))))))))
  refine aV [a9 CA k cc] E ⟨rfl,i3⟩ ?_
  obtain rfl:k=rs.length:=by omega
  exact⟨_,rfl,⟨_,_,rfl,hO⟩,q⟩
theorem uY (hc:Rv w 3 A n cap (eL n (iA rs)))(hn:rs.length=n)(hl:n≤549755813888)(he:∀(args:Array aC) (w:a6),(callFunc kf args).run aG w= .ok (.enter kf args) w){tk:Nat→Bool}(hcl:∀{w:a6}{r o:Nat},aU aG kf #[.agg #[a4 ((aM r:Nat):Int),.int .i32 ((r:Nat):Int),a4 o]] w (Gv w (Is (.bool (tk r)))))(hj:j≤n)(hall:∀q,i≤q→q<j→tk (rs.getD q 0)=true)(hend:j<n→tk (rs.getD j 0)=false)(hij:i≤j:=by omega):aU aG 67 #[a9 A n cap,a4 i,.func (.func kf) #[] #[]] w (Gv w (Is (a4 j))):=by
 refine bJ Tryz.func67 E (n:=22) E (bq E) (args:= [a9 A n cap,a4 i,.func (.func kf) #[] #[]]) (bH [(0,a9 A n cap),(1,a4 i),(2,.func (.func kf) #[] #[])] ⟨rfl,rfl,rfl,i3⟩ (sr (mv 1 E (a7 (aD (bI ?_))))))
 refine dJ (T:=a6×Nat) (fun⟨wr,q⟩=> [(0,a9 A n cap),(1,a4 q),(2,.func (.func kf) #[] #[])]) (fun⟨wr,q⟩=>wr) (fun⟨wr,q⟩=>(Ext w wr)∧(i≤q)∧(q≤j)) (fun⟨wr,q⟩=>j-q)
  (⟨w,i⟩:a6×Nat) ⟨aF,(aZ _),hij⟩ E ⟨rfl,rfl,rfl,i3⟩ ?_
 rintro⟨wr,q⟩ ⟨e,U,_⟩
 refine d9 [(0,a9 A n cap),(1,a4 q),(2,.func (.func kf) #[] #[])] wr E ⟨rfl,rfl,rfl,i3⟩ (aD (aD ?_))
 by_cases hq:q<j
 ·refine aE (mv 2 E (pu (v:= a4 n) E (aA E E E true (d5 (a:=q) (b:=n) E E) (mv 4 E ?_))))
  obtain⟨X,D,L,M,I⟩:=(hc.ext e).at3 (i:=q) (by omega)
  refine cG E E E Tryz.underlying113 gV q E X D (aH E E (j1 iO L M I) (tA [.agg #[a4 ((aM (rs.getD q 0):Nat):Int),.int .i32 ((rs.getD q 0:Nat):Int),a4 ((cD rs q:Nat):Int)]] E E E (fun args w=>he args w) (by decide) (by have h:=hcl (w:=wr) (o:=cD rs q) (r:=rs.getD q 0);rw [hall q U hq] at h;exact h) ?_))
  rintro _ Y ⟨_,rfl,r4,e3⟩
  refine bB ?_
  have f:=e.trans e3
  obtain rfl:=r4
  refine pu (v:= gx) E (a7 (b8 E (aY (aJ (bI (aE (mv 1 E (bF E E E ((q+1:Nat):Int) (d6 (a:=q) (b:=1) E E) (mv 1 E (bA (bU (cW (⟨Y,q+1⟩:a6×Nat) ⟨f,(by omega),(by omega)⟩ (show j-(q+1)<j-q by omega) E ⟨rfl,rfl,rfl,i3⟩))))))))))))
 ·obtain rfl:q=j:=by omega
  by_cases p:q<n
  ·refine aE (mv 2 E (pu (v:= a4 n) E (aA E E E true (d5 (a:=q) (b:=n) E E) (mv 4 E ?_))))
   obtain⟨W,H,O,V,F⟩:=(hc.ext e).at3 (i:=q) (by omega)
   refine cG E E E Tryz.underlying113 gV q E W H (aH E E (j1 iO O V F) (tA [.agg #[a4 ((aM (rs.getD q 0):Nat):Int),.int .i32 ((rs.getD q 0:Nat):Int),a4 ((cD rs q:Nat):Int)]] E E E (fun args w=>he args w) (by decide) (by have h:=hcl (w:=wr) (o:=cD rs q) (r:=rs.getD q 0);rw [hend p] at h;exact h) ?_))
   rintro _ _ ⟨_,rfl,r8,Z⟩
   refine bB ?_
   have f:=e.trans Z
   obtain rfl:=r8
   refine pu (v:= ik) E (a7 (aI E (dA (d7 (dG (d8 (aJ (sr (mv 2 E (a7 (aW (aV [a4 q] E ⟨rfl,i3⟩ ?_))))))))))))
   exact⟨_,rfl,rfl,f⟩
  ·refine aE (mv 2 E (pu (v:= a4 n) E (aA E E E false (f8 (a:=q) (b:=n) E E) (mv 7 E (pu (v:= ik) E (a7 (aI E (dA (d7 (dG (d8 (aJ (aD ?_)))))))))))))
   refine aE (mv 2 E (a7 (aW (aV [a4 q] E ⟨rfl,i3⟩ ?_))))
   exact⟨_,rfl,rfl,e⟩
theorem M4:aU aG 92 #[.agg #[a4 ((aM r:Nat):Int),.int .i32 ((r:Nat):Int),a4 o]] w (Gv w (Is (.bool (decide (aM r=3)||decide (r=95))))):=by
 refine bJ Tryz.func92 E (n:=11) E (bq E) (args:= [.agg #[a4 ((aM r:Nat):Int),.int .i32 ((r:Nat):Int),a4 o]]) (bH [(0,.agg #[a4 ((aM r:Nat):Int),.int .i32 ((r:Nat):Int),a4 o])] ⟨rfl,i3⟩ (sr (bx [a4 ((aM r:Nat):Int),.int .i32 ((r:Nat):Int),a4 o] aF E E E fun h _ e _ _ f=>(mv 1 E (a7 (aD ?_))))))
 by_cases p:aM r=3
 ·refine aE (pf h 0 E (aH E E (aS bL e E) (aA E E E true (dB (a:=aM r) (b:=3) E E) (mv 4 E (pu (v:= gx) E (mv 1 E (a7 (aW (aV [gx] E ⟨rfl,i3⟩ ?_)))))))))
  exact⟨_,rfl,(show Value.bool true= .bool (decide (aM r=3)||decide (r=95)) by simp [p]),f⟩
 ·by_cases j:r=95
  ·refine aE (pf h 0 E (aH E E (aS bL e E) (aA E E E false (bV (a:=aM r) (b:=3) E E) (mv 1 E (pf h 1 E (aH E E (aS (fun _=>by kernel_rfl) e E) (aA E E E true (dB (a:=r) (b:=95) E E) (pu (v:= gx) E (mv 1 E (a7 (aW (aV [gx] E ⟨rfl,i3⟩ ?_))))))))))))
   exact⟨_,rfl,(show Value.bool true= .bool (decide (aM r=3)||decide (r=95)) by simp [j]),f⟩
  ·refine aE (pf h 0 E (aH E E (aS bL e E) (aA E E E false (bV (a:=aM r) (b:=3) E E) (mv 1 E (pf h 1 E (aH E E (aS (fun _=>by kernel_rfl) e E) (aA E E E false (bV (a:=r) (b:=95) E E) (pu (v:= ik) E (mv 1 E (a7 (aW (aV [F0] E ⟨rfl,i3⟩ ?_))))))))))))
   exact⟨_,rfl,(show Value.bool false= .bool (decide (aM r=3)||decide (r=95)) by simp [p,j]),f⟩
theorem M3:aU aG 96 #[.agg #[a4 ((aM r:Nat):Int),.int .i32 ((r:Nat):Int),a4 o]] w (Gv w (Is (.bool (decide (aM r=3)||decide (aM r=4))))):=by
 refine bJ Tryz.func96 E (n:=11) E (bq E) (args:= [.agg #[a4 ((aM r:Nat):Int),.int .i32 ((r:Nat):Int),a4 o]]) (bH [(0,.agg #[a4 ((aM r:Nat):Int),.int .i32 ((r:Nat):Int),a4 o])] ⟨rfl,i3⟩ (sr (bx [a4 ((aM r:Nat):Int),.int .i32 ((r:Nat):Int),a4 o] aF E E E fun h _ e _ _ f=>(mv 1 E (a7 (aD ?_))))))
 by_cases j:aM r=3
 ·refine aE (pf h 0 E (aH E E (aS bL e E) (aA E E E true (dB (a:=aM r) (b:=3) E E) (mv 4 E (pu (v:= gx) E (mv 1 E (a7 (aW (aV [gx] E ⟨rfl,i3⟩ ?_)))))))))
  exact⟨_,rfl,(show Value.bool true= .bool (decide (aM r=3)||decide (aM r=4)) by simp [j]),f⟩
 ·by_cases p:aM r=4
  ·refine aE (pf h 0 E (aH E E (aS bL e E) (aA E E E false (bV (a:=aM r) (b:=3) E E) (mv 1 E (pf h 0 E (aH E E (aS bL e E) (aA E E E true (dB (a:=aM r) (b:=4) E E) (pu (v:= gx) E (mv 1 E (a7 (aW (aV [gx] E ⟨rfl,i3⟩ ?_))))))))))))
   exact⟨_,rfl,(show Value.bool true= .bool (decide (aM r=3)||decide (aM r=4)) by simp [p]),f⟩
  ·refine aE (pf h 0 E (aH E E (aS bL e E) (aA E E E false (bV (a:=aM r) (b:=3) E E) (mv 1 E (pf h 0 E (aH E E (aS bL e E) (aA E E E false (bV (a:=aM r) (b:=4) E E) (pu (v:= ik) E (mv 1 E (a7 (aW (aV [F0] E ⟨rfl,i3⟩ ?_))))))))))))
   exact⟨_,rfl,(show Value.bool false= .bool (decide (aM r=3)||decide (aM r=4)) by simp [j,p]),f⟩
theorem M2:aU aG 68 #[.agg #[a4 ((aM r:Nat):Int),.int .i32 ((r:Nat):Int),a4 o]] w (Gv w (Is (.bool (true)))):=by
 refine bJ Tryz.func68 E (n:=6) E (bq E) (args:= [.agg #[a4 ((aM r:Nat):Int),.int .i32 ((r:Nat):Int),a4 o]]) (bH [(0,.agg #[a4 ((aM r:Nat):Int),.int .i32 ((r:Nat):Int),a4 o])] ⟨rfl,i3⟩ (sr (bx [a4 ((aM r:Nat):Int),.int .i32 ((r:Nat):Int),a4 o] aF E E E fun h _ f _ _ e=>(mv 1 E (a7 (aD ?_))))))
 have j:=AU r
 refine aE (pf h 0 E (aH E E (aS bL f E) (aA E E E true (iL (a:=aM r) (b:=0) E E) (mv 1 E (a7 (aW (aV [gx] E ⟨rfl,i3⟩ ?_)))))))
 exact⟨_,rfl,(show Value.bool true= .bool (true) by simp []),e⟩
theorem LW (hc:Rv w 3 A n cap (eL n (iA rs)))(hn:rs.length=n)(_hl:n≤549755813888)(hij:i<j)(hj:j≤n):aU aG 93 #[.string (aB (bM rs)),a9 A n cap,a4 i,a4 j] w (Gv w (Is (.string (aB (bM ((rs.take j).drop i)))))):=by
 refine bJ Tryz.func93 E (n:=32) E (bq E) (args:= [.string (aB (bM rs)),a9 A n cap,a4 i,a4 j]) (bH [(0,.string (aB (bM rs))),(1,a9 A n cap),(2,a4 i),(3,a4 j)] ⟨rfl,rfl,rfl,rfl,i3⟩ (sr (mv 1 E (a7 (aD (aD ?_))))))
 by_cases O:j<n
 ·have U:=IP rs (Nat.le_of_lt hij)
  have V:=oU rs j
  refine aE (mv 2 E (pu (v:= a4 n) E (aA E E E true (d5 (a:=j) (b:=n) E E) (a7 (b8 E (aD ?_))))))
  obtain⟨o,q,_,_,I⟩:=hc.at3 (i:=i) (by omega)
  obtain⟨p,M,_,_,L⟩:=hc.at3 (i:=j) (by omega)
  refine fG eR 12 [] [Is (.string (aB (bM rs))),Is (a9 A n cap),Is (a4 i),Is (.pointer (some o)),Is (.pointer (some (o.add 2))),Is (a4 ((cD rs i:Nat):Int)),Is (a9 A n cap),Is (a4 j),Is (.pointer (some p)),Is (.pointer (some (p.add 2))),Is (a4 ((cD rs j:Nat):Int)),Is (.string (aB (((bM rs).take (cD rs j)).drop (cD rs i))))] [[],[],[],[1,2],[3],[4],[],[],[6,7],[8],[9],[0,5,10]] [[],[],[],[1,2],[1,2,3],[1,2,3,4],[],[],[6,7],[6,7,8],[6,7,8,9],[0,1,2,3,4,5,6,7,8,9,10],[0,1,2,3,4,5,6,7,8,9,10,11]] rfl
   (aP E E (aK E E ?_) (aP E E (aK E E ?_) (aP E E (aK E E ?_) (aP E E (aK E E ?_) (aP E E (aK E E ?_) (aP E E (aK E E ?_) (aP E E (aK E E ?_) (aP E E (aK E E ?_) (aP E E (aK E E ?_) (aP E E (aK E E ?_) (aP E E (aK E E ?_) (aP E E (aK E E ?_) fE)))))))))))) ?_
  ·exact fun _ _=>aL (mv 1 E (aO E aF E))
  ·exact fun _ _=>aL (mv 1 E (aO E aF E))
  ·exact fun _ _=>aL (mv 1 E (aO E aF E))
  ·exact fun _ _=>dk E E (dk E E (aL (cG E E E Tryz.underlying113 gV i E o q (aO E aF E))))
  ·exact fun _ _=>dk E E (aL (pu (v:= .pointer (some (o.add 2))) E (aO E aF E)))
  ·exact fun _ r=>dk E E (aL (aH E E (cO (fun _=>by kernel_rfl) (r.cell I)) (aO E aF E)))
  ·exact fun _ _=>aL (mv 1 E (aO E aF E))
  ·exact fun _ _=>aL (mv 1 E (aO E aF E))
  ·exact fun _ _=>dk E E (dk E E (aL (cG E E E Tryz.underlying113 gV j E p M (aO E aF E))))
  ·exact fun _ _=>dk E E (aL (pu (v:= .pointer (some (p.add 2))) E (aO E aF E)))
  ·exact fun _ H=>dk E E (aL (aH E E (cO (fun _=>by kernel_rfl) (H.cell L)) (aO E aF E)))
  ·exact fun _ _=>dk E E (dk E E (dk E E (aL (EC (bs:=bM rs) (i:=cD rs i) (j:=cD rs j) E E E E Tryz.underlying9 (by omega) (by omega) (by decide) (aO E aF E)))))
  ·intro _ F
   have D:=(Ext.refl w).trans F
   refine dk E E (dk E E (dk E E (dk E E (dk E E (dk E E (dk E E (dk E E (dk E E (dk E E (dk E E (dk E E (aL (mv 1 E ?_)))))))))))))
   refine bA (fF (aJ (aW (bO (aV [.string (aB (((bM rs).take (cD rs j)).drop (cD rs i)))] E ⟨rfl,i3⟩ ?_)))))
   exact⟨_,rfl,(show Value.string (aB (((bM rs).take (cD rs j)).drop (cD rs i)))=_ by rw [NX (Nat.le_of_lt hij)]),D⟩
 ·refine aE (mv 2 E (pu (v:= a4 n) E (aA E E E false (f8 (a:=j) (b:=n) E E) (a7 (aI E (aY (aJ (aD ?_))))))))
  have W:=oU rs i
  refine aE (mv 3 E ?_)
  obtain⟨e,h,_,_,f⟩:=hc.at3 (i:=i) (by omega)
  refine cG E E E Tryz.underlying113 gV i E e h (pu (v:= .pointer (some (e.add 2))) E (aH E E (cO (fun _=>by kernel_rfl) f) (EB (bs:=bM rs) (i:=cD rs i) E E E Tryz.underlying9 (by omega) (by decide) (mv 1 E (a7 (aW (aV [.string (aB ((bM rs).drop (cD rs i)))] E ⟨rfl,i3⟩ ?_)))))))
  exact⟨_,rfl,(show Value.string (aB ((bM rs).drop (cD rs i)))=_ by rw [vB,List.take_of_length_le (show rs.length≤j by omega)]),aF⟩
theorem LX (hr:r<128):aU aG 97 #[.int .i32 ((r:Nat):Int)] w (Gv w (Is (.string (aB [r])))):=by
 refine bJ Tryz.func97 E (n:=10) E (bq E) (args:= [.int .i32 ((r:Nat):Int)]) (bH [(0,.int .i32 ((r:Nat):Int))] ⟨rfl,i3⟩ (sr (mv 1 E (a7 (aD (sr (mv 1 E (a7 (bI (sr (aA E E E false (bV (a:=r) (b:=8722) E E) (mv 1 E (bA ?_)))))))))))))
 refine aJ (aI E (sr (aA E E E false (bV (a:=r) (b:=215) E E) (mv 1 E (a7 (aI E (aY (bU (aJ (sr (mv 1 E (ED (r:=r) E E Tryz.underlying21 Tryz.underlying9 (by omega) (by decide) (mv 1 E ?_)))))))))))))
 refine a7 (aW (aV [.string (aB ([r]))] E ⟨rfl,i3⟩ ?_))
 exact⟨_,rfl,rfl,aF⟩
section
variable {rs ds t:List Nat}{i:Nat}
theorem tU (h:rs.drop i=ds++t)(hd:ds≠ []):i+ds.length≤rs.length:=by
 have h1:=congrArg List.length h
 have h2:=List.length_pos_iff.2 hd
 rw [fN,cK] at h1;omega
theorem qV (h:rs.drop i=ds++t){q:Nat}(h1:i≤q)(h2:q<i+ds.length):rs.getD q 0∈ds:=by
 have e:rs.getD q 0=(rs.drop i).getD (q-i) 0:=by rw [rK,Nat.add_sub_cancel' h1]
 rw [e,h,bE,List.getElem?_append_left (by omega),bS (by omega)]
 exact jA _
theorem oO (h:rs.drop i=ds++t)(hd:ds≠ []):rs.getD i 0=ds.headD 0:=by
 have e:rs.getD i 0=(rs.drop i).getD 0 0:=by rw [rK];rfl
 cases ds with
 | nil=>exact absurd rfl hd
 | cons c ds=>rw [e,h];rfl
theorem yL (h:rs.drop i=ds++t)(h2:i+ds.length<rs.length):t.head?=some (rs.getD (i+ds.length) 0):=by
 have e:rs.getD (i+ds.length) 0=(rs.drop i).getD ds.length 0:=by rw [rK]
 rw [e,h,bE,List.getElem?_append_right (aZ _),Nat.sub_self]
 cases t with
 | nil=>
  have h1:=congrArg List.length h
  rw [fN,fA] at h1;omega
 | cons c t=>rfl
theorem H7 (h:rs.drop i=ds++t):(rs.take (i+ds.length)).drop i=ds:=by
 rw [List.drop_take,Nat.add_sub_cancel_left,h,List.take_left]
end
theorem BS (hc:Rv w 3 A n cap (eL n (iA rs)))(hn:rs.length=n)(hl:n≤549755813888)(hr:rs.drop i=ds++t)(hd:ds≠ [])(hlow:∀c,c∈ds→c<128):aU aG 93 #[.string (aB (bM rs)),a9 A n cap,a4 i,a4 ((i+ds.length:Nat):Int)] w (Gv w (Is (.string (aB ds)))):=by
 have h:=LW hc hn hl (i:=i) (j:=i+ds.length) (by have:=List.length_pos_iff.2 hd;omega) (hn▸tU hr hd)
 rw [H7 hr,rP hlow] at h
 exact h
def Mxl (w:a6):Prop:=∃m:Int,w.cell? ⟨0,0,none⟩=some (a4 m)
theorem Mxl.ext (h:Mxl w)(e:Ext w w'):Mxl w':=by obtain⟨m,h⟩:=h;exact⟨m,e.cell h⟩
theorem oI (bs:List Nat):(aB bs).data.toList=bs.map UInt8.ofNat:=by unfold aB;simp
theorem zK (h:∀c,c∈ds→aM c=3):(95:UInt8) ∉ ds.map UInt8.ofNat:=fun f=>by
 obtain⟨c,j,e⟩:=iQ.1 f
 have h1:=jJ.1 (h c j)
 have h2:=congrArg UInt8.toNat e
 rw [UInt8.toNat_ofNat'] at h2
 simp only [UInt8.reduceToNat] at h2
 omega
theorem JZ {l:List UInt8}(h:(95:UInt8) ∉ l):Lib.index l [95,95]= -1:=by
 induction l with
 | nil=>rfl
 | cons b l ih=>
  have hb:(95:UInt8)≠b:=fun e=>h (by rw [e];simp)
  rw [Lib.index,ih fun q=>h (by simp [q])]
  have:([95,95]:List UInt8).isPrefixOf (b::l)=false:=by
   show ((95:UInt8)==b&&_)=false
   rw [beq_eq_false_iff_ne.2 hb];rfl
  rw [this];rfl
theorem LM (hm:Mxl w)(h:∀c,c∈ds→aM c=3)(hl:ds.length≤2147483648):aU aG 95 #[.string (aB ds),.string (aB [95,95])] w (Gv w (Is (ik))):=by
 obtain⟨m,hm⟩:=hm
 refine (Tryz.strings_Contains (aB ds) (aB [95,95]) m w (by rw [eD];omega) hm).mono fun e w' ⟨o,f⟩=>?_
 subst o f
 have j:Lib.contains (aB ds).data.toList (aB [95,95]).data.toList=false:=by
  rw [oI]
  show decide (0≤Lib.index (ds.map UInt8.ofNat) [95,95])=false
  rw [JZ (zK h)];rfl
 rw [j]
 exact⟨_,rfl,rfl,Ext.refl _⟩
theorem LL (h:∀c,c∈ds→aM c=3)(hl:ds.length≤2147483648):aU aG 94 #[.string (aB ds),.string (aB [95])] w (Gv w (Is (ik))):=by
 refine (Tryz.strings_HasSuffix (aB ds) (aB [95]) w (by rw [eD];omega)).mono fun e w' ⟨p,f⟩=>?_
 subst p f
 have j:Lib.hasSuffix (aB ds).data.toList (aB [95]).data.toList=false:=by
  rw [oI]
  show ([95]:List UInt8).isSuffixOf (ds.map UInt8.ofNat)=false
  rw [Bool.eq_false_iff]
  intro o
  have h2:=(List.isSuffixOf_iff_suffix.1 o).subset (fT.2 E)
  exact zK h h2
 rw [j]
 exact⟨_,rfl,rfl,Ext.refl _⟩
def TokO (w:a6)(b:Nat)(A:Option a8)(n c:Nat)(ts:List Tk):Prop:=∃cs:List Nat,cs.length=n∧ts.length=n∧Own w b 97 3 A n c (eL n (jC ts cs))
theorem TokO.nil (w:a6)(b:Nat):TokO w b none 0 0 []:=⟨[],rfl,rfl,Own.nil _ _ _ _⟩
theorem BB {α:Type}{a:List α}{b:List α}{d:α}(h:i<a.length):(a++b).getD i d=a.getD i d:=by
 rw [bE,List.getElem?_append_left h,bE]
theorem B9 {α:Type}{a:List α}{x d:α}(h:i=a.length):(a++ [x]).getD i d=x:=by
 subst h;rw [bE,List.getElem?_append_right (aZ _),Nat.sub_self];rfl
theorem TokO.snoc {col:Nat}(hc:cs.length=n)(ht:ts.length=n)(h:Own w b 97 3 A (n+1) c (eL n (jC ts cs)++ [a4 k,.string (aB tx),a4 col])):TokO w b A (n+1) c (ts++ [(k,tx)]):=by
 refine⟨cs++ [col],by simp [hc],by simp [ht],?_⟩
 rw [C4,show eL n (jC (ts++ [(k,tx)]) (cs++ [col]))=eL n (jC ts cs) from MJ fun i j hi=>by unfold jC;rw [BB (by omega),BB (by omega)]]
 have e: [jC (ts++ [(k,tx)]) (cs++ [col]) n 0,jC (ts++ [(k,tx)]) (cs++ [col]) n 1,jC (ts++ [(k,tx)]) (cs++ [col]) n 2]= [a4 k,.string (aB tx),a4 col]:=by
  unfold jC;rw [B9 ht.symm,B9 hc.symm];rfl
 rw [e];exact h
theorem HD {r:List Pc}(h:l=dn++r):(aR l).drop (aR dn).length=aR r:=by rw [h,jE,List.drop_left]
theorem HC {r:List Pc}(h:l=dn++r):(aR l).length=(aR dn).length+(aR r).length:=by rw [h,jE,cK]
theorem IO {p:Pc}(h:l=dn++p::q)(ho:okL l []):p.ok (aR q):=by
 rw [h,jH] at ho
 have:=ho.2.1
 rwa [fA] at this
theorem oK {p:Pc}(h:l=dn++p::q):l=(dn++ [p])++q:=by rw [h,List.append_assoc];rfl
theorem oQ (dn:List Pc)(p:Pc):(aR (dn++ [p])).length=(aR dn).length+p.rs.length:=by
 rw [jE,cK]
 show _+(p.rs++ []).length=_
 rw [fA]
theorem LY (hc:Rv w 3 A n cap (eL n (iA rs)))(hn:rs.length=n)(hl:n≤549755813888)(hm:Mxl w)(hr:rs.drop i=ds++t)(hne:ds≠ [])(hall:∀c,c∈ds→aM c=3)(ht:jU t)(hlen:ds.length≤2147483648):aU aG 69 #[.string (aB (bM rs)),a9 A n cap,a4 i] w (Gv w (T3 (Is (.agg #[a4 1,.string (aB ds),a4 ((i+1:Nat):Int)])) (Is (a4 ((i+ds.length:Nat):Int))) (Is (a4 0)))):=by
 have hk:aM (rs.getD i 0)=3:=hall _ (qV hr (aZ i) (by have:=List.length_pos_iff.2 hne;omega))
 have L:∀c,c∈ds→c<128:=fun c hc=>by have:=jJ.1 (hall c hc);omega
 have bu:=tU hr hne
 have bz:=List.length_pos_iff.2 hne
 rw [hn] at bu
 have H:i+ds.length<n→(fun r=>decide (aM r=3)||decide (r=95)) (rs.getD (i+ds.length) 0)=false:=fun h=>by obtain⟨h3,h4⟩:=ht _ (yL hr (hn▸h));show (decide _||decide _)=false;rw [decide_eq_false h3,decide_eq_false (show¬rs.getD (i+ds.length) 0=95 from fun e=>h4 (by rw [e];decide))];rfl
 have hi:i<n:=by omega
 refine bJ Tryz.func69 E (n:=82) E (bq E) (args:= [.string (aB (bM rs)),a9 A n cap,a4 i]) (bH [(0,.string (aB (bM rs))),(1,a9 A n cap),(2,a4 i)] ⟨rfl,rfl,rfl,i3⟩ (sr (al [I0,.string (aB ([])),I0] aF (fun _=>by kernel_rfl) E fun _ _ ao ba _ bh=>(mv 2 E (a7 (sr (mv 1 E (bF E E E ((i+1:Nat):Int) (d6 (a:=i) (b:=1) E E) (pu (v:= .agg #[I0,.string (aB ([])),a4 ((i+1:Nat):Int)]) E (jT [I0,.string (aB ([])),I0] bh ao.lt (fun _=>by kernel_rfl) E fun g6 _ bo f _ e8 az=>(so f9 bo [I0,.string (aB ([])),a4 ((i+1:Nat):Int)] az f E E E E fun _ p bv O=>(a7 (aD ?_)))))))))))))
 refine sr (mv 2 E ?_)
 obtain⟨bf,Y,ab,av,V⟩:=(hc.ext O).at3 (i:=i) (by omega)
 refine cG E E E Tryz.underlying113 gV i E bf Y (aH E E (j1 iO ab av V) (jT [I0,.int .i32 0,I0] O p.lt (fun _=>by kernel_rfl) E fun bd _ ak I _ Z ax=>(so iO ak [a4 ((aM (rs.getD i 0):Nat):Int),.int .i32 ((rs.getD i 0:Nat):Int),a4 ((cD rs i:Nat):Int)] ax I E E E E fun _ am ag aq=>(a7 (sr (pf bd 0 E (aH E E (aS bL am E) (a7 (bI (sr (aA E E E false (bV (a:=aM (rs.getD i 0)) (b:=0) E E) (mv 1 E (bA ?_)))))))))))))
 refine aJ (aI E (sr (aA E E E true (dB (a:=aM (rs.getD i 0)) (b:=3) E E) (mv 1 E (a7 (b8 E (sr (mv 2 E (cl (vs:= [a9 A n cap,a4 i,.func (.func 92) #[] #[]]) aq (uY (hc.ext aq) hn hl (fun _ _=>by kernel_rfl) M4 (j:=i+ds.length) (by omega) (fun q h1 h2=>by rw [hall _ (qV hr h1 h2)];rfl) (fun h=>H h)) E (by kernel_rfl) fun _ _ bi ae M=>?_)))))))))
 obtain rfl:=bi
 refine mv 1 E (a7 (sr (mv 4 E (cl (vs:= [.string (aB (bM rs)),a9 A n cap,a4 i,a4 ((i+ds.length:Nat):Int)]) M (BS (hc.ext M) hn hl hr hne L) E (by kernel_rfl) fun _ _ bj aa br=>?_))))
 obtain rfl:=bj
 refine pf g6 0 E ?_
 have ap:=(((p.ext Z).vN ag).ext (ae.t aa))
 refine fO E E E m4 E ap (bq E) E [a4 1,.string (aB ([])),a4 ((i+1:Nat):Int)] E fun _ aj U _=>?_
 have bw:=U.ext br f
 refine pf g6 1 E (fO E E E (fun _=>by kernel_rfl) E aj (bq E) E [a4 1,.string (aB ds),a4 ((i+1:Nat):Int)] E fun _ o X _=>?_)
 have ay:=X.ext bw f
 refine a7 (aD (sr (pf g6 1 E (aH E E (aS (fun _=>by kernel_rfl) o E) (cl (vs:= [.string (aB ds),.string (aB ([95]))]) ay (LL hall hlen) E (by kernel_rfl) fun _ _ bg F D=>?_)))))
 obtain rfl:=bg
 refine mv 1 E (pf g6 1 E (aH E E (aS (fun _=>by kernel_rfl) (o.ext F) E) (cl (vs:= [.string (aB ds),.string (aB ([95,95]))]) D (LM (hm.ext D) hall hlen) E (by kernel_rfl) fun _ _ bm W ah=>?_)))
 obtain rfl:=bm
 refine pu (v:= ik) E (a7 (aI E (aY (aJ (sr (lo f9 (o.ext (F.t W)) [a4 1,.string (aB ds),a4 ((i+1:Nat):Int)] E E E (mv 1 E ?_)))))))
 have ar:=((((((((ao.ext e8).vN bv).ext Z).vN ag).ext (ae.t aa)).vN U).vN X).ext (F.t W))
 refine so f9 ar [a4 1,.string (aB ds),a4 ((i+1:Nat):Int)] ah ba E E E E fun _ ai _ au=>(mv 2 E (a7 (aW (bZ (bO (aV [.agg #[a4 1,.string (aB ds),a4 ((i+1:Nat):Int)],a4 ((i+ds.length:Nat):Int),I0] E ⟨⟨_,rfl,gH f9 ai [a4 1,.string (aB ds),a4 ((i+1:Nat):Int)] E (bq E) rfl⟩,rfl,rfl,i3⟩ ?_))))))
 exact⟨_,rfl,⟨_,_,_,rfl,rfl,rfl,rfl⟩,au⟩
theorem LZ (hc:Rv w 3 A n cap (eL n (iA rs)))(hn:rs.length=n)(hl:n≤549755813888)(hr:rs.drop i=ds++t)(hne:ds≠ [])(hf:aM (ds.headD 0)=4)(hall:∀c,c∈ds→c<128∧(aM c=3∨aM c=4))(ht:jU t)(hlen:ds.length≤32):aU aG 69 #[.string (aB (bM rs)),a9 A n cap,a4 i] w (Gv w (T3 (Is (.agg #[a4 2,.string (aB ds),a4 ((i+1:Nat):Int)])) (Is (a4 ((i+ds.length:Nat):Int))) (Is (a4 0)))):=by
 have hk:aM (rs.getD i 0)=4:=by rw [oO hr hne];exact hf
 have F:∀c,c∈ds→c<128:=fun c hc=>(hall c hc).1
 have bg:=tU hr hne
 have bj:=List.length_pos_iff.2 hne
 rw [hn] at bg
 have p:i+ds.length<n→(fun r=>decide (aM r=3)||decide (aM r=4)) (rs.getD (i+ds.length) 0)=false:=fun h=>by obtain⟨h3,h4⟩:=ht _ (yL hr (hn▸h));show (decide _||decide _)=false;rw [decide_eq_false h3,decide_eq_false (h4)];rfl
 have hi:i<n:=by omega
 refine bJ Tryz.func69 E (n:=82) E (bq E) (args:= [.string (aB (bM rs)),a9 A n cap,a4 i]) (bH [(0,.string (aB (bM rs))),(1,a9 A n cap),(2,a4 i)] ⟨rfl,rfl,rfl,i3⟩ (sr (al [I0,.string (aB ([])),I0] aF (fun _=>by kernel_rfl) E fun _ _ aj au _ ax=>(mv 2 E (a7 (sr (mv 1 E (bF E E E ((i+1:Nat):Int) (d6 (a:=i) (b:=1) E E) (pu (v:= .agg #[I0,.string (aB ([])),a4 ((i+1:Nat):Int)]) E (jT [I0,.string (aB ([])),I0] ax aj.lt (fun _=>by kernel_rfl) E fun g6 _ bd e _ e8 ar=>(so f9 bd [I0,.string (aB ([])),a4 ((i+1:Nat):Int)] ar e E E E E fun _ o bh L=>(a7 (aD ?_)))))))))))))
 refine sr (mv 2 E ?_)
 obtain⟨aw,V,Y,ao,O⟩:=(hc.ext L).at3 (i:=i) (by omega)
 refine cG E E E Tryz.underlying113 gV i E aw V (aH E E (j1 iO Y ao O) (jT [I0,.int .i32 0,I0] L o.lt (fun _=>by kernel_rfl) E fun av _ ag D _ W ap=>(so iO ag [a4 ((aM (rs.getD i 0):Nat):Int),.int .i32 ((rs.getD i 0:Nat):Int),a4 ((cD rs i:Nat):Int)] ap D E E E E fun _ ah aa am=>(a7 (sr (pf av 0 E (aH E E (aS bL ah E) (a7 (bI (sr (aA E E E false (bV (a:=aM (rs.getD i 0)) (b:=0) E E) (mv 1 E (bA ?_)))))))))))))
 refine aJ (aI E (sr (aA E E E false (bV (a:=aM (rs.getD i 0)) (b:=3) E E) (mv 1 E (a7 (aI E (sr (aA E E E true (dB (a:=aM (rs.getD i 0)) (b:=4) E E) (mv 1 E (a7 (b8 E (sr (mv 1 E ?_)))))))))))))
 refine mv 1 rfl (cl (vs:= [.slice A n cap,.int .i64 i,.func (.func 96) #[] #[]]) am (uY (hc.ext am) hn hl (fun _ _=>by kernel_rfl) M3 (j:=i+ds.length) (by omega) (fun q h1 h2=>by rcases (hall _ (qV hr h1 h2)).2 with h | h <;> rw [h] <;> rfl) (fun h=>p h)) rfl (by kernel_rfl) fun _ _ az Z I=>?_)
 obtain rfl:=az
 refine mv 1 E (a7 (sr (mv 4 E (cl (vs:= [.string (aB (bM rs)),a9 A n cap,a4 i,a4 ((i+ds.length:Nat):Int)]) I (BS (hc.ext I) hn hl hr hne F) E (by kernel_rfl) fun _ _ ba X bf=>?_))))
 obtain rfl:=ba
 refine pf g6 0 E ?_
 have ak:=(((o.ext W).vN aa).ext (Z.t X))
 refine fO E E E m4 E ak (bq E) E [a4 2,.string (aB ([])),a4 ((i+1:Nat):Int)] E fun _ ae M _=>?_
 have bi:=M.ext bf e
 refine pf g6 1 E (fO E E E (fun _=>by kernel_rfl) E ae (bq E) E [a4 2,.string (aB ds),a4 ((i+1:Nat):Int)] E fun _ f U _=>?_)
 have aq:=U.ext bi e
 refine a7 (aD (sr (pf g6 1 E (aH E E (aS (fun _=>by kernel_rfl) f E) (eH E E (v:= a4 (((aB ds).size:Nat):Int)) (v':= a4 ((ds.length:Nat):Int)) (by rw [eD]) (aA E E E false (fH (a:=ds.length) (b:=32) E E) (a7 (aI E (aY (aJ (sr (lo f9 f [a4 2,.string (aB ds),a4 ((i+1:Nat):Int)] E E E (mv 1 E ?_)))))))))))))
 have ab:=(((((((aj.ext e8).vN bh).ext W).vN aa).ext (Z.t X)).vN M).vN U)
 refine so f9 ab [a4 2,.string (aB ds),a4 ((i+1:Nat):Int)] aq au E E E E fun _ H _ ai=>(mv 2 E (a7 (aW (bZ (bO (aV [.agg #[a4 2,.string (aB ds),a4 ((i+1:Nat):Int)],a4 ((i+ds.length:Nat):Int),I0] E ⟨⟨_,rfl,gH f9 H [a4 2,.string (aB ds),a4 ((i+1:Nat):Int)] E (bq E) rfl⟩,rfl,rfl,i3⟩ ?_))))))
 exact⟨_,rfl,⟨_,_,_,rfl,rfl,rfl,rfl⟩,ai⟩
theorem M0 (hc:Rv w 3 A n cap (eL n (iA rs)))(hn:rs.length=n)(hl:n≤549755813888)(hi:i<n)(hk:aM (rs.getD i 0)=5):aU aG 69 #[.string (aB (bM rs)),a9 A n cap,a4 i] w (Gv w (T3 (Is (.agg #[a4 3,.string (aB ([rs.getD i 0])),a4 ((i+1:Nat):Int)])) (Is (a4 ((i+1:Nat):Int))) (Is (a4 0)))):=by
 refine bJ Tryz.func69 E (n:=82) E (bq E) (args:= [.string (aB (bM rs)),a9 A n cap,a4 i]) (bH [(0,.string (aB (bM rs))),(1,a9 A n cap),(2,a4 i)] ⟨rfl,rfl,rfl,i3⟩ (sr (al [I0,.string (aB ([])),I0] aF (fun _=>by kernel_rfl) E fun _ _ U aj _ ap=>(mv 2 E (a7 (sr (mv 1 E (bF E E E ((i+1:Nat):Int) (d6 (a:=i) (b:=1) E E) (pu (v:= .agg #[I0,.string (aB ([])),a4 ((i+1:Nat):Int)]) E (jT [I0,.string (aB ([])),I0] ap U.lt (fun _=>by kernel_rfl) E fun g6 _ ak e _ e8 ai=>(so f9 ak [I0,.string (aB ([])),a4 ((i+1:Nat):Int)] ai e E E E E fun _ f ar p=>(a7 (aD ?_)))))))))))))
 refine sr (mv 2 E ?_)
 obtain⟨ao,V,Y,aa,D⟩:=(hc.ext p).at3 (i:=i) (by omega)
 refine cG E E E Tryz.underlying113 gV i E ao V (aH E E (j1 iO Y aa D) (jT [I0,.int .i32 0,I0] p f.lt (fun _=>by kernel_rfl) E fun r _ M j _ W ag=>(so iO M [a4 ((aM (rs.getD i 0):Nat):Int),.int .i32 ((rs.getD i 0:Nat):Int),a4 ((cD rs i:Nat):Int)] ag j E E E E fun _ h o aq=>(a7 (sr (pf r 0 E (aH E E (aS bL h E) (a7 (bI (sr (aA E E E false (bV (a:=aM (rs.getD i 0)) (b:=0) E E) (mv 1 E (bA ?_)))))))))))))
 refine aJ (aI E (sr (aA E E E false (bV (a:=aM (rs.getD i 0)) (b:=3) E E) (mv 1 E (a7 (aI E (sr (aA E E E false (bV (a:=aM (rs.getD i 0)) (b:=4) E E) (mv 1 E (a7 (aI E (sr (aA E E E true (dB (a:=aM (rs.getD i 0)) (b:=5) E E) ?_)))))))))))))
 refine mv 1 E (a7 (b8 E (sr (pf r 1 E (aH E E (aS (fun _=>by kernel_rfl) h E) (cl (vs:= [.int .i32 ((rs.getD i 0:Nat):Int)]) aq (LX (uP hk)) E (by kernel_rfl) fun _ _ ab Z ae=>?_))))))
 obtain rfl:=ab
 refine pf g6 0 E ?_
 have F:=(((f.ext W).vN o).ext Z)
 refine fO E E E m4 E F (bq E) E [a4 3,.string (aB ([])),a4 ((i+1:Nat):Int)] E fun _ q H _=>?_
 have am:=H.ext ae e
 refine pf g6 1 E (fO E E E (fun _=>by kernel_rfl) E q (bq E) E [a4 3,.string (aB ([rs.getD i 0])),a4 ((i+1:Nat):Int)] E fun _ O L _=>?_)
 have au:=L.ext am e
 refine a7 (sr (lo f9 O [a4 3,.string (aB ([rs.getD i 0])),a4 ((i+1:Nat):Int)] E E E (mv 1 E (bF E E E ((i+1:Nat):Int) (d6 (a:=i) (b:=1) E E) ?_))))
 have X:=(((((((U.ext e8).vN ar).ext W).vN o).ext Z).vN H).vN L)
 refine so f9 X [a4 3,.string (aB ([rs.getD i 0])),a4 ((i+1:Nat):Int)] au aj E E E E fun _ I _ ah=>(mv 2 E (a7 (aW (bZ (bO (aV [.agg #[a4 3,.string (aB ([rs.getD i 0])),a4 ((i+1:Nat):Int)],a4 ((i+1:Nat):Int),I0] E ⟨⟨_,rfl,gH f9 I [a4 3,.string (aB ([rs.getD i 0])),a4 ((i+1:Nat):Int)] E (bq E) rfl⟩,rfl,rfl,i3⟩ ?_))))))
 exact⟨_,rfl,⟨_,_,_,rfl,rfl,rfl,rfl⟩,ah⟩
def OZ (b:Nat)(ts:List Tk)(v:aC)(w:a6):Prop:=∃A n c,v= a9 A n c∧TokO w b A n c ts
theorem tJ:∀{l:List Pc}{t:List Nat},okL l t→(dO l).length≤(aR l).length
 | [],_,_=>aZ _
 | p::l,t,h=>by
  have h1:=tJ h.2
  have h2:=List.length_pos_iff.2 (Pc.rs_ne h.1)
  have e:p.tk.length≤1:=by cases p <;> simp [Pc.tk]
  rw [F9,qW,cK,cK];omega
theorem F7 {r:List Pc}(h:(dO dn).length=tn)(hs:l=dn++r)(ho:okL l []):tn≤(aR l).length:=by
 have h1:=tJ ho
 rw [hs,gS,cK] at h1
 rw [hs];omega
theorem BU (hm:Mxl w)(ho:okL l [])(hK:∀ds,Pc.num ds∈l→ds.length≤2147483648)(hl:(aR l).length≤549755813888):aU aG 37 #[.string (aB (bM (aR l)))] w (Gv w (T3 (OZ w.heap.size (dO l)) (Is (a4 0)) (Is (a4 0)))):=by
 refine bJ Tryz.func37 E (n:=55) E (bq E) (args:= [.string (aB (bM (aR l)))]) (bH [(0,.string (aB (bM (aR l))))] ⟨rfl,i3⟩ (sr (mv 3 E (a7 (sr (mv 1 E (cl (vs:= [.string (aB (bM (aR l)))]) aF (BT ho.rn hl) E (by kernel_rfl) fun _ v1 r3 _ L=>?_)))))))
 obtain⟨o,U,rfl,bz⟩:=r3
 have bz:=bz.mono (Ext.refl w).size
 refine mv 1 E (a7 (aD (sr (mv 1 E (a7 (bI ?_))))))
 refine dJ (T:=a6×List Pc×List Pc×Option a8×Nat×Nat×Nat) (fun⟨wr,dn,rst,TA,tn,tc,ix⟩=> [(0,.string (aB (bM (aR l)))),(2,a9 TA tn tc),(5,a9 o ((aR l).length) U),(6,a4 ix)]) (fun⟨wr,dn,rst,TA,tn,tc,ix⟩=>wr) (fun⟨wr,dn,rst,TA,tn,tc,ix⟩=>(Ext w wr)∧(ix=(aR dn).length)∧(l=dn++rst)∧(TokO wr w.heap.size TA tn tc (dO dn))∧(Own wr w.heap.size 116 3 o (aR l).length U (eL ((aR l).length) (iA (aR l))))) (fun⟨wr,dn,rst,TA,tn,tc,ix⟩=>rst.length)
  (⟨v1,[],l,none,0,0,0⟩:a6×List Pc×List Pc×Option a8×Nat×Nat×Nat) ⟨L,rfl,rfl,(TokO.nil _ _),bz⟩ E ⟨rfl,rfl,rfl,rfl,i3⟩ ?_
 rintro⟨wr,dn,rst,TA,tn,tc,ix⟩ ⟨L,el,D,hT,O⟩
 refine d9 [(0,.string (aB (bM (aR l)))),(2,a9 TA tn tc),(5,a9 o ((aR l).length) U),(6,a4 ix)] wr E ⟨rfl,rfl,rfl,rfl,i3⟩ ?_
 subst el
 obtain⟨cs,Y,V,hO⟩:=hT
 have ae:=HC D
 have fo:=F7 V D ho
 refine aD (aD ?_)
 rcases rst with _ | ⟨p,q⟩
 ·have h0:(aR l).length=(aR dn).length:=by rw [ae];rfl
  refine aE (mv 2 E (pu (v:= a4 (((aR l).length:Nat):Int)) E (aA E E E false (f8 (a:=(aR dn).length) (b:=(aR l).length) E E) (a7 (aI E (dA (d7 (dG (d8 (aJ (sr (mv 4 E (bA ?_)))))))))))))
  refine aJ (aW (aV [a9 TA tn tc,I0,I0] E ⟨rfl,rfl,rfl,i3⟩ ?_))
  have hd:dn=l:=by rw [D,fA]
  exact⟨_,rfl,⟨_,_,_,rfl,⟨_,_,_,rfl,(hd▸⟨cs,Y,V,hO⟩:TokO _ _ _ _ _ (dO l))⟩,rfl,rfl⟩,L⟩
 ·have f:=IO D ho
  have hr:=HD D
  rw [qW] at hr
  have fq:(aR dn).length<(aR l).length:=by have h8:=List.length_pos_iff.2 (Pc.rs_ne f);rw [ae,qW,cK];omega
  rcases p with r | ds | ds | r | ks
  ·have W:(aR l).getD (aR dn).length 0=r:=oO hr (Pc.rs_ne f)
   have ao:aM ((aR l).getD ((aR dn).length) 0)=1:=by rw [W];exact f.1
   refine aE (mv 2 E (pu (v:= a4 (((aR l).length:Nat):Int)) E (aA E E E true (d5 (a:=(aR dn).length) (b:=(aR l).length) E E) (a7 (b8 E (aY (aJ (bI (aD (sr (mv 2 E ?_)))))))))))
   obtain⟨p5,fa,ez,_,_⟩:=(O).rv.at3 (i:=(aR dn).length) (by omega)
   refine cG E E E Tryz.underlying113 gV ((aR dn).length) E p5 fa (pu (v:= .pointer (some p5)) E (aH E E (cO (fun _=>by kernel_rfl) ez) (a7 (bI (sr (aA E E E true (dB (a:=aM ((aR l).getD ((aR dn).length) 0)) (b:=1) E E) (mv 1 E (a7 (b8 E (sr (mv 1 E (bF E E E ((((aR dn).length)+1:Nat):Int) (d6 (a:=(aR dn).length) (b:=1) E E) (mv 1 E ?_)))))))))))))
   refine a7 (dA (vA (d7 (d8 ?_))))
   have H:TokO wr w.heap.size TA tn tc (dO (dn++ [Pc.blank r])):=by rw [gS];show TokO _ _ _ _ _ (dO dn++ []);rw [fA];exact⟨cs,Y,V,hO⟩
   have I:((aR dn).length)+1=(aR (dn++ [Pc.blank r])).length:=by rw [oQ];rfl
   refine cW (⟨wr,dn++ [Pc.blank r],q,TA,tn,tc,((aR dn).length)+1⟩:a6×List Pc×List Pc×Option a8×Nat×Nat×Nat) ⟨L,I,(oK D),H,O⟩ (Nat.lt_succ_self _) E ⟨rfl,rfl,rfl,rfl,i3⟩
  ·have ao:aM ((aR l).getD ((aR dn).length) 0)=3:=f.2.1 _ (qV hr (aZ _) (by have:=List.length_pos_iff.2 f.1;show _<_+ds.length;omega))
   refine aE (mv 2 E (pu (v:= a4 (((aR l).length:Nat):Int)) E (aA E E E true (d5 (a:=(aR dn).length) (b:=(aR l).length) E E) (a7 (b8 E (aY (aJ (bI (aD (sr (mv 2 E ?_)))))))))))
   obtain⟨p6,ey,fb,_,_⟩:=(O).rv.at3 (i:=(aR dn).length) (by omega)
   refine cG E E E Tryz.underlying113 gV ((aR dn).length) E p6 ey (pu (v:= .pointer (some p6)) E (aH E E (cO (fun _=>by kernel_rfl) fb) (a7 (bI (sr (aA E E E false (bV (a:=aM ((aR l).getD ((aR dn).length) 0)) (b:=1) E E) (mv 1 E (a7 (aI E (sr (aA E E E false (bV (a:=aM ((aR l).getD ((aR dn).length) 0)) (b:=2) E E) (mv 1 E (bA ?_)))))))))))))
   refine aJ (aI E (aY (bU (aJ (sr (mv 3 E (cl (vs:= [.string (aB (bM (aR l))),a9 o ((aR l).length) U,a4 (((aR dn).length:Nat):Int)]) L (LY (O).rv E hl (hm.ext L) hr f.1 f.2.1 f.2.2 (hK ds (by rw [D];exact List.mem_append_right _ (List.mem_cons_self ..)))) E (by kernel_rfl) fun _ _ r9 e8 F=>?_)))))))
   obtain⟨_,_,_,rfl,rfl,rfl,rfl⟩:=r9
   refine mv 1 E (pu (v:= .agg #[a4 1,.string (aB ds),a4 (((aR dn).length+1:Nat):Int)]) E (pu (v:= a4 (((aR dn).length+ds.length:Nat):Int)) E (pu (v:= a4 0) E (eK E (z:= .agg #[I0,.string (aB ([])),I0]) (vs:= [I0,.string (aB ([])),I0]) (fun _=>by kernel_rfl) E fun ab _ nb=>?_))))
   have bf:=nb.bk
   have dy:w.heap.size≤ab:=by rw [←nb.at_];exact F.size
   have cg:∀p:a8,o=some p→p.block<ab:=fun p f=>by have:=(((O.ext e8)).block p f).2;have:=nb.at_;omega
   have fk:∀p:a8,o=some p→p.block≠ab:=fun p f=>Nat.ne_of_lt (cg p f)
   have cd:∀p:a8,TA=some p→p.block<ab:=fun p f=>by have:=(((hO.ext e8)).block p f).2;have:=nb.at_;omega
   have bi:∀p:a8,TA=some p→p.block≠ab:=fun p f=>Nat.ne_of_lt (cd p f)
   have bu:=nb.ext
   clear nb
   have ai:=F.trans bu
   refine so f9 bf [a4 1,.string (aB ds),a4 (((aR dn).length+1:Nat):Int)] ai dy E E E E fun _ ax ea aa=>(mv 2 E (a7 (aD (sr (mv 1 E (aA E E E false (by decide) (a7 (aI E (aY (aJ (sr (mv 1 E (lo f9 ax [a4 1,.string (aB ds),a4 (((aR dn).length+1:Nat):Int)] E E E ?_)))))))))))))
   refine dN E E (k:=1) (e:=97) [a4 1,.string (aB ds),a4 (((aR dn).length+1:Nat):Int)] (fun _=>by kernel_rfl) fun _ _ nb=>?_
   have co:=nb.bk
   have av:=nb.ext
   clear nb
   have M:=aa.trans av
   have ah:=(((hO.ext (e8.t bu)).upd ea bi).ext av)
   refine fB E E E tG uT E ah M.size [a4 1,.string (aB ds),a4 (((aR dn).length+1:Nat):Int)] E (iI co) E fun eb dw ec ch ay dx=>?_
   have Z:=ay.ext M (fun p f=>(ah.block p f).1)
   have fh:=jI dx (ax.ext av).lt bi
   refine mv 1 E (a7 (aE (mv 2 E (bA (bU ?_)))))
   have X:=ch
   have H:TokO ec w.heap.size eb (tn+1) dw (dO (dn++ [Pc.num ds])):=by rw [gS];exact TokO.snoc Y V X
   have I:(aR dn).length+ds.length=(aR (dn++ [Pc.num ds])).length:=by rw [oQ];rfl
   refine cW (⟨ec,dn++ [Pc.num ds],q,eb,tn+1,dw,(aR dn).length+ds.length⟩:a6×List Pc×List Pc×Option a8×Nat×Nat×Nat) ⟨Z,I,(oK D),H,((((O.ext (e8.t bu)).updT bf (by decide) ea).ext av).updOT ah (by decide) ay)⟩ (Nat.lt_succ_self _) E ⟨rfl,rfl,rfl,rfl,i3⟩
  ·have ao:aM ((aR l).getD ((aR dn).length) 0)=4:=by rw [oO hr f.1];exact f.2.1
   refine aE (mv 2 E (pu (v:= a4 (((aR l).length:Nat):Int)) E (aA E E E true (d5 (a:=(aR dn).length) (b:=(aR l).length) E E) (a7 (b8 E (aY (aJ (bI (aD (sr (mv 2 E ?_)))))))))))
   obtain⟨ci,cm,dg,_,_⟩:=(O).rv.at3 (i:=(aR dn).length) (by omega)
   refine cG E E E Tryz.underlying113 gV ((aR dn).length) E ci cm (pu (v:= .pointer (some ci)) E (aH E E (cO (fun _=>by kernel_rfl) dg) (a7 (bI (sr (aA E E E false (bV (a:=aM ((aR l).getD ((aR dn).length) 0)) (b:=1) E E) (mv 1 E (a7 (aI E (sr (aA E E E false (bV (a:=aM ((aR l).getD ((aR dn).length) 0)) (b:=2) E E) (mv 1 E (bA ?_)))))))))))))
   refine aJ (aI E (aY (bU (aJ (sr (mv 3 E (cl (vs:= [.string (aB (bM (aR l))),a9 o ((aR l).length) U,a4 (((aR dn).length:Nat):Int)]) L (LZ (O).rv E hl hr f.1 f.2.1 f.2.2.1 f.2.2.2.2 f.2.2.2.1) E (by kernel_rfl) fun _ _ em aw F=>?_)))))))
   obtain⟨_,_,_,rfl,rfl,rfl,rfl⟩:=em
   refine mv 1 E (pu (v:= .agg #[a4 2,.string (aB ds),a4 (((aR dn).length+1:Nat):Int)]) E (pu (v:= a4 (((aR dn).length+ds.length:Nat):Int)) E (pu (v:= a4 0) E (eK E (z:= .agg #[I0,.string (aB ([])),I0]) (vs:= [I0,.string (aB ([])),I0]) (fun _=>by kernel_rfl) E fun ak _ nb=>?_))))
   have bd:=nb.bk
   have cz:w.heap.size≤ak:=by rw [←nb.at_];exact F.size
   have ce:∀p:a8,o=some p→p.block<ak:=fun p f=>by have:=(((O.ext aw)).block p f).2;have:=nb.at_;omega
   have fg:∀p:a8,o=some p→p.block≠ak:=fun p f=>Nat.ne_of_lt (ce p f)
   have br:∀p:a8,TA=some p→p.block<ak:=fun p f=>by have:=(((hO.ext aw)).block p f).2;have:=nb.at_;omega
   have ba:∀p:a8,TA=some p→p.block≠ak:=fun p f=>Nat.ne_of_lt (br p f)
   have cb:=nb.ext
   clear nb
   have ai:=F.trans cb
   refine so f9 bd [a4 2,.string (aB ds),a4 (((aR dn).length+1:Nat):Int)] ai cz E E E E fun _ bg dh aa=>(mv 2 E (a7 (aD (sr (mv 1 E (aA E E E false (by decide) (a7 (aI E (aY (aJ (sr (mv 1 E (lo f9 bg [a4 2,.string (aB ds),a4 (((aR dn).length+1:Nat):Int)] E E E ?_)))))))))))))
   refine dN E E (k:=1) (e:=97) [a4 2,.string (aB ds),a4 (((aR dn).length+1:Nat):Int)] (fun _=>by kernel_rfl) fun _ _ nb=>?_
   have dl:=nb.bk
   have aq:=nb.ext
   clear nb
   have M:=aa.trans aq
   have am:=(((hO.ext (aw.t cb)).upd dh ba).ext aq)
   refine fB E E E tG uT E am M.size [a4 2,.string (aB ds),a4 (((aR dn).length+1:Nat):Int)] E (iI dl) E fun da dt dr df bj ei=>?_
   have Z:=bj.ext M (fun p f=>(am.block p f).1)
   have fe:=jI ei (bg.ext aq).lt ba
   refine mv 1 E (a7 (aE (mv 2 E (bA (bU ?_)))))
   have X:=df
   have H:TokO dr w.heap.size da (tn+1) dt (dO (dn++ [Pc.nam ds])):=by rw [gS];exact TokO.snoc Y V X
   have I:(aR dn).length+ds.length=(aR (dn++ [Pc.nam ds])).length:=by rw [oQ];rfl
   refine cW (⟨dr,dn++ [Pc.nam ds],q,da,tn+1,dt,(aR dn).length+ds.length⟩:a6×List Pc×List Pc×Option a8×Nat×Nat×Nat) ⟨Z,I,(oK D),H,((((O.ext (aw.t cb)).updT bd (by decide) dh).ext aq).updOT am (by decide) bj)⟩ (Nat.lt_succ_self _) E ⟨rfl,rfl,rfl,rfl,i3⟩
  ·have W:(aR l).getD (aR dn).length 0=r:=oO hr (Pc.rs_ne f)
   have ao:aM ((aR l).getD ((aR dn).length) 0)=5:=by rw [W];exact f
   refine aE (mv 2 E (pu (v:= a4 (((aR l).length:Nat):Int)) E (aA E E E true (d5 (a:=(aR dn).length) (b:=(aR l).length) E E) (a7 (b8 E (aY (aJ (bI (aD (sr (mv 2 E ?_)))))))))))
   obtain⟨ck,cu,cx,_,_⟩:=(O).rv.at3 (i:=(aR dn).length) (by omega)
   refine cG E E E Tryz.underlying113 gV ((aR dn).length) E ck cu (pu (v:= .pointer (some ck)) E (aH E E (cO (fun _=>by kernel_rfl) cx) (a7 (bI (sr (aA E E E false (bV (a:=aM ((aR l).getD ((aR dn).length) 0)) (b:=1) E E) (mv 1 E (a7 (aI E (sr (aA E E E false (bV (a:=aM ((aR l).getD ((aR dn).length) 0)) (b:=2) E E) (mv 1 E (bA ?_)))))))))))))
   refine aJ (aI E (aY (bU (aJ (sr (mv 3 E (cl (vs:= [.string (aB (bM (aR l))),a9 o ((aR l).length) U,a4 (((aR dn).length:Nat):Int)]) L (M0 (O).rv E hl (i:=(aR dn).length) (by omega) ao) E (by kernel_rfl) fun _ _ ep ar F=>?_)))))))
   obtain⟨_,_,_,rfl,rfl,rfl,rfl⟩:=ep
   refine mv 1 E (pu (v:= .agg #[a4 3,.string (aB ([(aR l).getD (aR dn).length 0])),a4 (((aR dn).length+1:Nat):Int)]) E (pu (v:= a4 (((aR dn).length+1:Nat):Int)) E (pu (v:= a4 0) E (eK E (z:= .agg #[I0,.string (aB ([])),I0]) (vs:= [I0,.string (aB ([])),I0]) (fun _=>by kernel_rfl) E fun ag _ nb=>?_))))
   have bo:=nb.bk
   have cr:w.heap.size≤ag:=by rw [←nb.at_];exact F.size
   have bw:∀p:a8,o=some p→p.block<ag:=fun p f=>by have:=(((O.ext ar)).block p f).2;have:=nb.at_;omega
   have fi:∀p:a8,o=some p→p.block≠ag:=fun p f=>Nat.ne_of_lt (bw p f)
   have cf:∀p:a8,TA=some p→p.block<ag:=fun p f=>by have:=(((hO.ext ar)).block p f).2;have:=nb.at_;omega
   have bh:∀p:a8,TA=some p→p.block≠ag:=fun p f=>Nat.ne_of_lt (cf p f)
   have bv:=nb.ext
   clear nb
   have ai:=F.trans bv
   refine so f9 bo [a4 3,.string (aB ([(aR l).getD (aR dn).length 0])),a4 (((aR dn).length+1:Nat):Int)] ai cr E E E E fun _ bm cv aa=>(mv 2 E (a7 (aD (sr (mv 1 E (aA E E E false (by decide) (a7 (aI E (aY (aJ (sr (mv 1 E (lo f9 bm [a4 3,.string (aB ([(aR l).getD (aR dn).length 0])),a4 (((aR dn).length+1:Nat):Int)] E E E ?_)))))))))))))
   refine dN E E (k:=1) (e:=97) [a4 3,.string (aB ([(aR l).getD (aR dn).length 0])),a4 (((aR dn).length+1:Nat):Int)] (fun _=>by kernel_rfl) fun _ _ nb=>?_
   have ef:=nb.bk
   have au:=nb.ext
   clear nb
   have M:=aa.trans au
   have aj:=(((hO.ext (ar.t bv)).upd cv bh).ext au)
   refine fB E E E tG uT E aj M.size [a4 3,.string (aB ([(aR l).getD (aR dn).length 0])),a4 (((aR dn).length+1:Nat):Int)] E (iI ef) E fun cj eh de ee az eg=>?_
   have Z:=az.ext M (fun p f=>(aj.block p f).1)
   have fj:=jI eg (bm.ext au).lt bh
   refine mv 1 E (a7 (aE (mv 2 E (bA (bU ?_)))))
   have X:=ee
   rw [W] at X
   have H:TokO de w.heap.size cj (tn+1) eh (dO (dn++ [Pc.mark r])):=by rw [gS];exact TokO.snoc Y V X
   have I:(aR dn).length+1=(aR (dn++ [Pc.mark r])).length:=by rw [oQ];rfl
   refine cW (⟨de,dn++ [Pc.mark r],q,cj,tn+1,eh,(aR dn).length+1⟩:a6×List Pc×List Pc×Option a8×Nat×Nat×Nat) ⟨Z,I,(oK D),H,((((O.ext (ar.t bv)).updT bo (by decide) cv).ext au).updOT aj (by decide) az)⟩ (Nat.lt_succ_self _) E ⟨rfl,rfl,rfl,rfl,i3⟩
  ·have W:(aR l).getD (aR dn).length 0=35:=oO hr (Pc.rs_ne f)
   have ao:aM ((aR l).getD ((aR dn).length) 0)=2:=by rw [W];rfl
   refine aE (mv 2 E (pu (v:= a4 (((aR l).length:Nat):Int)) E (aA E E E true (d5 (a:=(aR dn).length) (b:=(aR l).length) E E) (a7 (b8 E (aY (aJ (bI (aD (sr (mv 2 E ?_)))))))))))
   obtain⟨du,dz,dm,_,_⟩:=(O).rv.at3 (i:=(aR dn).length) (by omega)
   refine cG E E E Tryz.underlying113 gV ((aR dn).length) E du dz (pu (v:= .pointer (some du)) E (aH E E (cO (fun _=>by kernel_rfl) dm) (a7 (bI (sr (aA E E E false (bV (a:=aM ((aR l).getD ((aR dn).length) 0)) (b:=1) E E) (mv 1 E (a7 (aI E (sr (aA E E E true (dB (a:=aM ((aR l).getD ((aR dn).length) 0)) (b:=2) E E) (mv 1 E (bA ?_)))))))))))))
   refine aJ (b8 E (sr (mv 2 E (cl (vs:= [a9 o ((aR l).length) U,a4 (((aR dn).length:Nat):Int),.func (.func 68) #[] #[]]) L (uY (O).rv E hl (fun _ _=>by kernel_rfl) (tk:=fun _=>true) M2 (j:=(aR l).length) (aZ _) (fun _ _ _=>rfl) (fun h=>absurd h (Nat.lt_irrefl _))) E (by kernel_rfl) fun _ dd ew dq F=>?_))))
   obtain rfl:=ew
   refine mv 1 E (a7 (aD (sr (mv 2 E (pu (v:= a4 (((aR l).length:Nat):Int)) E (aA E E E false (f8 (a:=(aR l).length) (b:=(aR l).length) E E) (a7 (aI E (aY (aJ (dA (vA (d7 ?_)))))))))))))
   refine d8 ?_
   have H:TokO dd w.heap.size TA tn tc (dO (dn++ [Pc.com ks])):=by rw [gS];show TokO _ _ _ _ _ (dO dn++ []);rw [fA];exact⟨cs,Y,V,(hO.ext dq)⟩
   have I:(aR l).length=(aR (dn++ [Pc.com ks])).length:=by rw [oQ];show _=_+(35::ks).length;rw [ae,qW,cK,f.2];rfl
   refine cW (⟨dd,dn++ [Pc.com ks],q,TA,tn,tc,(aR l).length⟩:a6×List Pc×List Pc×Option a8×Nat×Nat×Nat) ⟨F,I,(oK D),H,(O.ext dq)⟩ (Nat.lt_succ_self _) E ⟨rfl,rfl,rfl,rfl,i3⟩
theorem M5 (hr:∀c,c∈rs→Rch c)(hl:rs.length≤549755813888):aU aG 38 #[.string (aB (bM rs))] w (Gv w (T2 (Is (a4 ((rs.length:Nat):Int))) (Is (a4 0)))):=by
 refine bJ Tryz.func38 E (n:=21) E (bq E) (args:= [.string (aB (bM rs))]) (bH [(0,.string (aB (bM rs)))] ⟨rfl,i3⟩ (sr (mv 2 E (a7 (sr (mv 1 E (a7 (aD (sr (mv 1 E (cl (vs:= [.string (aB (bM rs))]) aF (BT hr hl) E (by kernel_rfl) fun _ v1 r3 _ f=>?_)))))))))))
 obtain⟨e,j,rfl,o⟩:=r3
 have o:=o.mono (Ext.refl w).size
 refine pu (v:= a4 ((rs.length:Nat):Int)) E (mv 1 E (a7 (bI ?_)))
 refine dJ (T:=a6×Nat) (fun⟨wr,q⟩=> [(4,a4 q),(8,a9 e rs.length j),(9,a4 ((rs.length:Nat):Int)),(10,a4 q)]) (fun⟨wr,q⟩=>wr) (fun⟨wr,q⟩=>(Ext w wr)∧(q≤rs.length)∧(Own wr w.heap.size 116 3 e rs.length j (eL rs.length (iA rs)))) (fun⟨wr,q⟩=>rs.length-q)
  (⟨v1,0⟩:a6×Nat) ⟨f,(cE _),o⟩ E ⟨rfl,rfl,rfl,rfl,i3⟩ ?_
 rintro⟨wr,q⟩ ⟨f,_,I⟩
 refine d9 [(4,a4 q),(8,a9 e rs.length j),(9,a4 ((rs.length:Nat):Int)),(10,a4 q)] wr E ⟨rfl,rfl,rfl,rfl,i3⟩ (aD ?_)
 by_cases ag:q<rs.length
 ·refine aE (aA E E E true (d5 (a:=q) (b:=rs.length) E E) (a7 (aD (b8 E (aY (aJ (aD (bI (sr ?_)))))))))
  obtain⟨p5,U,Z,X,M⟩:=(I).rv.at3 (i:=q) (by omega)
  refine cG E E E Tryz.underlying113 gV q E p5 U (aH E E (j1 iO Z X M) (eK E (z:= .agg #[I0,.int .i32 0,I0]) (vs:= [I0,.int .i32 0,I0]) (fun _=>by kernel_rfl) E fun H _ nb=>?_))
  have W:=nb.bk
  have r:w.heap.size≤H:=by rw [←nb.at_];exact f.size
  have h:∀p:a8,e=some p→p.block<H:=fun p Y=>by have:=((I).block p Y).2;have:=nb.at_;omega
  have D:∀p:a8,e=some p→p.block≠H:=fun p Y=>Nat.ne_of_lt (h p Y)
  have e8:=nb.ext
  clear nb
  have V:=f.trans e8
  refine so iO W [a4 ((aM (rs.getD q 0):Nat):Int),.int .i32 ((rs.getD q 0:Nat):Int),a4 ((cD rs q:Nat):Int)] V r E E E E fun L F aa O=>(a7 (aD (aD ?_)))
  have ai:=AU (rs.getD q 0)
  refine aE (pf H 0 E (aH E E (aS bL F E) (aA E E E false (bV (a:=aM (rs.getD q 0)) (b:=0) E E) (a7 (aI E (aY (aJ (aE (mv 1 E (bF E E E ((q+1:Nat):Int) (d6 (a:=q) (b:=1) E E) (mv 1 E (bA (bU ?_)))))))))))))
  refine aJ (aE (bF E E E ((q+1:Nat):Int) (d6 (a:=q) (b:=1) E E) (mv 1 E (bA (cW (⟨L,q+1⟩:a6×Nat) ⟨O,(by omega),((I.ext e8).upd aa D)⟩ (show rs.length-(q+1)<rs.length-q by omega) E ⟨rfl,rfl,rfl,rfl,i3⟩)))))
 ·refine aE (aA E E E false (f8 (a:=q) (b:=rs.length) E E) (a7 (aD (aI E (dA (d7 (dG (d8 (aJ (sr (mv 3 E (a7 (aW ?_)))))))))))))
  refine aV [a4 q,I0] E ⟨rfl,rfl,i3⟩ ?_
  obtain rfl:q=rs.length:=by omega
  exact⟨_,rfl,⟨_,_,rfl,rfl,rfl⟩,f⟩
theorem K1 (hs:s≤64)(hx:x*2^s≤9223372036854775807)(P:bT)(t:aQ)(w:a6):(binOp .shl t (a4 (x:Int)) (a5 (s:Int))).run P w= .ok (a4 ((x*2^s:Nat):Int)) w:=by
 have e:((x:Int)*2^min (s:Int).toNat IntKind.i64.bits)=((x*2^s:Nat):Int):=by
  rw [gC,show min s IntKind.i64.bits=s from fK hs];simp
 simp only [binOp]
 rw [shift_shl_any _ _ _ _ (by omega),e,IntWalk.i64_in _ ⟨by omega,by omega⟩];rfl
def uB (e:ZC):aC:= a9 e.A e.n e.c
def Pw (w:a6)(pb:Nat)(PA:Option a8)(pn pc unit:Nat):Prop:=∃es:List ZC,Own w pb 44 1 PA pn pc (es.map uB)∧es.length=pn∧
 ∀i,i<pn→(es.getD i ZC.zero).n=(wd (unit^2^i)).length∧(es.getD i ZC.zero).n≤8388608∧Own w 0 50 1 (es.getD i ZC.zero).A (es.getD i ZC.zero).n (es.getD i ZC.zero).c ((wd (unit^2^i)).map bG)
theorem Pw.nil (w:a6)(pb unit:Nat):Pw w pb none 0 0 unit:=⟨[],Own.nil _ _ _ _,rfl,fun i hi=>by omega⟩
theorem Pw.ext {pc:Nat}(h:Pw w pb PA pn pc unit)(e:Ext w w'):Pw w' pb PA pn pc unit:=by
 obtain⟨es,h1,h2,f⟩:=h
 exact⟨es,h1.ext e,h2,fun i hi=>⟨(f i hi).1,(f i hi).2.1,(f i hi).2.2.ext e⟩⟩
theorem Pw.updW {pc:Nat}(h:Pw w pb PA pn pc unit)(u:UpdW lb w w'):Pw w' pb PA pn pc unit:=by
 obtain⟨es,h1,h2,e⟩:=h
 exact⟨es,u.own h1 (by decide) (by decide),h2,fun i hi=>⟨(e i hi).1,(e i hi).2.1,u.own (e i hi).2.2 (by decide) (by decide)⟩⟩
theorem Pw.updT {pc:Nat}(h:Pw w pb PA pn pc unit)(hb:Bk w g T us)(u:Upd g w w')(h1:44≠T)(h2:50≠T):Pw w' pb PA pn pc unit:=by
 obtain⟨es,j,f,e⟩:=h
 exact⟨es,j.updT hb h1 u,f,fun i hi=>⟨(e i hi).1,(e i hi).2.1,(e i hi).2.2.updT hb h2 u⟩⟩
theorem Pw.at {pc:Nat}(h:Pw w pb PA pn pc unit)(hi:i<pn):∃p A n c,PA.map (·.add (i*1))=some p∧w.cell? p=some (a9 A n c)∧n=(wd (unit^2^i)).length∧n≤8388608∧Own w 0 50 1 A n c ((wd (unit^2^i)).map bG):=by
 obtain⟨es,h1,h2,D⟩:=h
 obtain⟨a,o,f⟩:=h1.rv.get i (by omega)
 have e:(es.map uB).getD i undef=uB (es.getD i ZC.zero):=by
  simp [bE,gR,bS (show i<es.length by omega)]
 rw [e] at f
 obtain⟨q,r,j⟩:=D i hi
 exact⟨a.add i,_,_,_,by rw [o,eI];rfl,f,q,r,j⟩
theorem Pw.mono {pb':Nat}{pc:Nat}(h:Pw w pb PA pn pc unit)(hb:pb'≤pb):Pw w pb' PA pn pc unit:=by
 obtain⟨es,h1,h2,e⟩:=h
 exact⟨es,h1.mono hb,h2,e⟩
theorem EK {Q:Exit→Act→a6→Prop}{l:Fr}{pos:String}{x y:bW}{pc qc:Nat}(hw:cF ops l gd=some true)(hx:bK l x=some (a9 PA pn pc))(hy:bK l y=some (a9 (some ⟨g,0,none⟩) 1 c))(h:Pw w pb PA pn pc unit)(hpb:pb≤w.heap.size)(hb:Bk w g 44 [a9 A n qc])(hn:n=(wd (unit^2^pn)).length)(hn8:n≤8388608)(ho:Own w b 50 1 A n qc ((wd (unit^2^pn)).map bG))(hm:pn≤64)(hd:d<N)(k:∀A' c' w',Pw w' pb A' (pn+1) c' unit→UpdO PA w w'→(∃us,Own w pb 44 1 PA pn pc us)→wl aG ops Q N rest ((d,a9 A' (pn+1) c')::l) w'):wl aG ops Q N (⟨some d,.call {callee:= .builtin .append,args:= #[x,y],argTypes:= #[134,134]},ty,pos,af,gd⟩::rest) l w:=by
 obtain⟨es,h1,h2,j⟩:=h
 refine fB hw hx hy qK JX E h1 hpb [a9 A n qc] E (nE _ hb) E (hn:=hd) fun A' c' w' ho' f _=>k A' c' w' ?_ f ⟨_,h1⟩
 refine⟨es++ [⟨false,A,n,qc⟩],by rw [List.map_append];exact ho',by simp [h2],fun i hi=>?_⟩
 by_cases e:i<pn
 ·rw [uW]
  exact⟨(j i e).1,(j i e).2.1,(j i e).2.2.updOT h1 (by decide) f⟩
 ·have o:i=pn:=by omega
  subst o
  have p:(es++ [(⟨false,A,n,qc⟩:ZC)]).getD i ZC.zero=⟨false,A,n,qc⟩:=by rw [←h2];exact uV
  rw [p]
  exact⟨hn,hn8,(ho.mono (cE b)).updOT h1 (by decide) f⟩
theorem OL (h:Bk w g 50 [a5 x])(hx:x≤18446744073709551615)(h0:x≠0):Own w 0 50 1 (some ⟨g,0,none⟩) 1 1 ((wd x).map bG):=
 oT (Own.mk_ (cE _) h (aZ _) (by rw [eX];omega) E E) hx h0
theorem yV:u^2^j*u^2^j=u^2^(j+1):=by rw [←dQ,dK];congr 1;omega
theorem JQ (h:(wd p).length≤n):(wd (p*p)).length≤2*n:=by
 refine gI ?_
 have h1:=m9 p
 have h2:p<WB^n:=cU h1 (fJ (by rw [cH];decide) h)
 rw [Nat.two_mul,dQ]
 exact Nat.mul_lt_mul'' h2 h2
theorem oN (hx:Wi w A n c m)(hy:Wi w B n' c' m')(hl:n≤1099511627776:=by omega)(hl':n'≤1099511627776:=by omega):aU aG 71 #[a9 A n c,a9 B n' c'] w (Gv w (Is (a4 (eF m m')))):=by
 obtain⟨xs,h1,rfl⟩:=hx
 obtain⟨ys,h2,rfl⟩:=hy
 refine (zO h1 hl h2 hl').mono fun e w' h=>?_
 obtain⟨d,j,_,_,rfl,f⟩:=h
 exact⟨_,rfl,(show bP .i64 d=_ by rw [j.out]),f⟩
theorem GR (hb:b≤w.heap.size)(hx:Wi w A n c m)(hl:n≤274877906944)(hy:Wi w B n' c' m')(hl':n'≤274877906944)(h0:m'≠0):aU aG 108 #[a9 A n c,a9 B n' c'] w (Gv w (T3 (WR b (m/m')) (WR b (m%m')) (Is (a4 0)))):=by
 obtain⟨xs,h1,rfl⟩:=hx
 obtain⟨ys,h2,rfl⟩:=hy
 refine (NF h1 hl h2 hl' h0).mono fun e w' h=>?_
 obtain⟨A,n,cap,B,m,cap',rfl,f,_,o,p,_,j,q⟩:=h
 exact⟨_,rfl,⟨_,_,_,rfl,⟨A,n,cap,rfl,f.out,o.mono hb⟩,⟨B,m,cap',rfl,p.out,j.mono hb⟩,rfl⟩,q⟩
theorem tQ (hb:b≤w.heap.size)(hx:Wi w A n c m)(hl:n≤137438953472:=by omega):aU aG 85 #[a9 A n c] w (Gv w (WR b (m*m))):=by
 obtain⟨xs,h1,rfl⟩:=hx
 exact (J4 h1 hl).mono (gw hb)
theorem NZ (h:x<y):c8 .lss (eF x y) 0=some true:=AB (rT.2 h)
theorem O0 (h:y≤x):c8 .lss (eF x y) 0=some false:=rD (by have:=rT (a:=x) (b:=y);omega)
theorem O2 (h:x≤y):c8 .leq (eF x y) 0=some true:=AN (by have:=vL (a:=x) (b:=y);omega)
theorem O3 (h:y<x):c8 .leq (eF x y) 0=some false:=AO (vL.2 h)
theorem yX (hu:2≤u)(h:u^2^ip≤m)(hl:(wd m).length≤an):2^ip≤64*an:=by
 have h1:=m9 m
 rw [kM,←Nat.pow_mul] at h1
 have h2:2^2^ip≤u^2^ip:=Nat.pow_le_pow_left hu _
 have e:2^(64*(wd m).length)≤2^(64*an):=fJ (by decide) (Nat.mul_le_mul_left _ hl)
 exact Nat.le_of_lt ((Nat.pow_lt_pow_iff_right (by decide)).1 (jY h2 (jY h (cU h1 e))))
theorem AW (h:2^ip≤n)(hn:n≤268435456):ip≤28:=by
 refine Nat.le_of_not_lt fun h2=>?_
 have e:2^29≤2^ip:=fJ (by decide) h2
 omega
theorem EY (hb:2≤b)(h:(b^k)^2^ip≤m)(h0:0<(b^k)^2^ip):cN (d4 (db b (m/(b^k)^2^ip)) (width-k*2^ip))++cN (d4 (db b (m%(b^k)^2^ip)) (k*2^ip))=cN (d4 (db b m) width):=by
 have e:(b^k)^2^ip=b^(k*2^ip):=by rw [←Nat.pow_mul]
 rw [e] at h h0⊢
 have f:m/b^(k*2^ip)≠0:=by have:=Nat.div_pos h h0;omega
 have hr:(db b (m%b^(k*2^ip))).length≤k*2^ip:=j2 hb (fM _ h0)
 have hl:(d4 (db b (m%b^(k*2^ip))) (k*2^ip)).length=k*2^ip:=by rw [mA];omega
 rw [←qN,yY,←rS hb f,hl]
 by_cases j:k*2^ip≤width
 ·rw [show k*2^ip+(width-k*2^ip)=width by omega]
 ·have h2:k*2^ip≤(db b m).length:=by rw [rS hb f,cK,hl];omega
  rw [oS (by omega),oS (by omega)]
theorem F2 (hb:2≤b)(h:(b^k)^2^ip≤m)(h0:0<(b^k)^2^ip):max (width-k*2^ip) (db b (m/(b^k)^2^ip)).length+k*2^ip=max width (db b m).length∨(width<k*2^ip∧(db b (m/(b^k)^2^ip)).length+k*2^ip=(db b m).length):=by
 have e:(b^k)^2^ip=b^(k*2^ip):=by rw [←Nat.pow_mul]
 rw [e] at h h0⊢
 have f:m/b^(k*2^ip)≠0:=by have:=Nat.div_pos h h0;omega
 have hr:(db b (m%b^(k*2^ip))).length≤k*2^ip:=j2 hb (fM _ h0)
 have hl:(d4 (db b (m%b^(k*2^ip))) (k*2^ip)).length=k*2^ip:=by rw [mA];omega
 have h2:(db b m).length=k*2^ip+(db b (m/b^(k*2^ip))).length:=by rw [rS hb f,cK,hl]
 omega
def sB (ip:Nat):Prop:=∀{w:a6}{g base k unit:Nat}{PA:Option a8}{pn pc:Nat}{OA:Option a8}{on oc lb:Nat}{bs:List Nat}{A:Option a8}{an ac m width:Nat}{ii:Int}(_:ii=(ip:Int)-1) (_:Signs w) (_:1<lb) (_:2≤base) (_:base≤36) (_:Wr w g base k unit PA pn pc OA on oc)
 (_:Own w lb 5 1 OA on oc (bs.map B8)) (_:lb≤g) (_:lb≤w.heap.size) (_:Wi w A an ac m) (_:an≤4194304) (_:unit=base^k) (_:PieceK base k) (_:width≤137438953472) (_:on+max width (db base m).length≤137438953472) (_:Pw w 0 PA pn pc unit) (_:ip≤pn) (_:pn≤64),
 aU aG 86 #[a1 g 0,a9 A an ac,a4 ii,a4 width] w (s6 w lb g base k unit PA pn pc OA (bs++cN (d4 (db base m) width)))
theorem K7:sB 0:=by
 intro w g base k unit PA pn pc OA on oc lb bs A an ac m width ii _ L j e f F H r D I q o h p _ _ _ _
 obtain rfl:ii= -1:=by omega
 exact GG L j e f F H r D I q o h p (by omega)
theorem K8 (ih:sB ip):sB (ip+1):=by
 intro w g base k unit PA pn pc OA on oc lb bs A an ac m width ii _ hS L o V hW hO U W ha ag f F dt _ hP _ ak
 obtain rfl:ii=(ip:Int):=by omega
 have aj:(wd m).length≤4194304:=aN ha.len ag
 have dd:1≤k:=by refine Nat.pos_of_ne_zero (fun e=>?_);have:=F.gt;rw [e,dY,Nat.pow_one] at this;omega
 have cm:2≤unit:=by rw [f];exact aN o (aN (Nat.le_of_eq (Nat.pow_one base).symm) (fJ (by omega) dd))
 refine bJ Tryz.func86 E (n:=74) E (bq E) (args:= [a1 g 0,a9 A an ac,a4 (ip:Int),a4 width]) (bH [(0,a1 g 0),(1,a9 A an ac),(2,a4 (ip:Int)),(3,a4 width)] ⟨rfl,rfl,rfl,rfl,i3⟩ (aD (aD ?_)))
 by_cases ea:an≤12
 ·refine aE (mv 1 E (aA E E E false (rD (by omega)) (mv 2 E (pu (v:= a4 an) E (aA E E E true (eM (a:=an) (b:=12) E E) (pu (v:= gx) E (a7 (b8 E (sr (mv 3 E (bC E E (vs:= [a1 g 0,a9 A an ac,a4 width]) (by kernel_rfl) (by decide) (yC hS L o V hW hO U (aN W (UpdW.refl lb w).size) ha ag f F dt (by omega)) ?_)))))))))))
  rintro _ v1 ⟨rfl,A2,_,_,dm,cg,dq,co⟩
  refine bB ?_
  have p:UpdW lb w v1:=(UpdW.refl lb w).then dq
  have de:=(Kept.refl w OA).next co (UpdW.refl lb w).size
  refine a7 (aW (bO (aV [] E i3 ?_)))
  exact⟨rfl,A2,_,_,dm,cg,p,de⟩
 ·refine aE (mv 1 E (aA E E E false (rD (by omega)) (mv 2 E (pu (v:= a4 an) E (aA E E E false (dX (a:=an) (b:=12) E E) (pu (v:= ik) E (a7 (aI E (aY (aJ (aD (aD ?_))))))))))))
  by_cases da:m<unit^2^ip
  ·refine aE (mv 2 E (pf g 0 E (pf g 3 E (aH E E (aS (fun _=>by kernel_rfl) hW E) (mv 1 E ?_)))))
   obtain⟨pp,BA,bn,bc,O,H,bz,X,M⟩:=hP.at (i:=ip) (by omega)
   have Y:0<unit^2^ip:=eT (by rw [f];exact eT (by omega))
   refine cG E E E qK tK ip E pp O (aH E E (cO vZ H) (bC E E (vs:= [a9 A an ac,a9 BA bn bc]) (by kernel_rfl) (by decide) (oN ha M.wi) ?_))
   rintro _ ar ⟨_,rfl,du,q⟩
   refine bB ?_
   have p:UpdW lb w ar:=(UpdW.refl lb w).trans q
   have br:Ext w ar:=(Ext.refl w).trans q
   obtain rfl:=du
   refine aA E E E true (NZ da) (a7 (b8 E (sr (mv 3 E (bF E E E ((ip:Int)-1) (gL E) (mv 1 E (bC E E (vs:= [a1 g 0,a9 A an ac,a4 ((ip:Int)-1),a4 width]) (by kernel_rfl) (by decide) (ih E (hS.ext q) L o V (hW.ext q) (hO.ext q) U (aN W p.size) (ha.ext q) ag f F (by omega) (by omega) (hP.ext q) (by omega) ak) ?_)))))))
   rintro _ ch ⟨rfl,dr,_,_,aq,cb,bg,bh⟩
   refine bB ?_
   have I:UpdW lb w ch:=p.then bg
   have av:=(Kept.refl w OA).next bh p.size
   refine a7 (aW (bO (aV [] E i3 ?_)))
   exact⟨rfl,dr,_,_,aq,cb,I,av⟩
  ·have bj:unit^2^ip≤m:=by omega
   have ai:=yX cm bj aj
   have df:=AW ai (by omega)
   have dy:k*2^ip≤64*268435456:=Nat.mul_le_mul F.le64 (by omega)
   have Z:(base^k)^2^ip≤m:=f▸bj
   have ae:0<(base^k)^2^ip:=eT (eT (by omega))
   have cz:(wd (m/unit^2^ip)).length≤4194304:=aN (lB (f5 _ _)) aj
   have cv:(wd (m%unit^2^ip)).length≤4194304:=aN (lB (Nat.mod_le _ _)) aj
   have ec:(db base (m%unit^2^ip)).length≤k*2^ip:=j2 o (by rw [Nat.pow_mul,←f];exact fM _ (f▸ae))
   have dg:=F2 (width:=width) o Z ae
   rw [←f] at dg
   refine aE (mv 2 E (pf g 0 E (pf g 3 E (aH E E (aS (fun _=>by kernel_rfl) hW E) (mv 1 E ?_)))))
   obtain⟨pp,BA,bn,bc,O,H,bz,X,M⟩:=hP.at (i:=ip) (by omega)
   have Y:0<unit^2^ip:=eT (by rw [f];exact eT (by omega))
   refine cG E E E qK tK ip E pp O (aH E E (cO vZ H) (bC E E (vs:= [a9 A an ac,a9 BA bn bc]) (by kernel_rfl) (by decide) (oN ha M.wi) ?_))
   rintro _ bv ⟨_,rfl,dl,h⟩
   refine bB ?_
   have p:UpdW lb w bv:=(UpdW.refl lb w).trans h
   have br:Ext w bv:=(Ext.refl w).trans h
   obtain rfl:=dl
   refine aA E E E false (O0 (by omega)) (a7 (aI E (aY (aJ (sr (mv 2 E (pf g 0 E (pf g 3 E (aH E E (aS (fun _=>by kernel_rfl) (hW.ext h) E) (mv 1 E ?_))))))))))
   obtain⟨pp,BA,bn,bc,O,H,bz,X,M⟩:=(hP.ext h).at (i:=ip) (by omega)
   have Y:0<unit^2^ip:=eT (by rw [f];exact eT (by omega))
   refine cG E E E qK tK ip E pp O (aH E E (cO vZ H) (bC E E (vs:= [a9 A an ac,a9 BA bn bc]) (by kernel_rfl) (by decide) (GR (cE _) (ha.ext h) (by omega) M.wi (by omega) (by omega)) ?_))
   rintro _ bo ⟨_,rfl,cr,j⟩
   refine bB ?_
   have I:UpdW lb w bo:=p.trans j
   have dz:Ext w bo:=br.trans j
   obtain⟨_,_,_,rfl,⟨cd,bu,ap,rfl,dw,cu⟩,⟨bi,aw,ax,rfl,ck,dh⟩,rfl⟩:=cr
   refine mv 1 E (pu (v:= a9 cd bu ap) E (pu (v:= a9 bi aw ax) E (pu (v:= a4 0) E (mv 3 E (a7 (sr (mv 1 E (pf g 0 E (pf g 1 E (aH E E (aS (fun _=>by kernel_rfl) (hW.ext (h.t j)) E) (mv 1 E (eH E E (v:= a5 (IntKind.u64.wrap ((ip:Nat):Int))) (v':= a5 ip) (jR (by omega)) (iT E E E (r:= a4 ((k*2^ip:Nat):Int)) E (fun w=>K1 (x:=k) (s:=ip) (by omega) (by omega) _ _ w) ?_)))))))))))))
   refine mv 1 E (a7 (sr (mv 3 E (bF E E E ((ip:Int)-1) (gL E) (mv 2 E (bF E E E (((width:Nat):Int)-((k*2^ip:Nat):Int)) (gL E) (qH E E E (((width-k*2^ip:Nat):Int)) (bC E E (vs:= [a1 g 0,a9 cd bu ap,a4 ((ip:Int)-1),a4 ((width-k*2^ip:Nat):Int)]) (by kernel_rfl) (by decide) (ih E (hS.ext (h.t j)) L o V (hW.ext (h.t j)) (hO.ext (h.t j)) U (aN W I.size) cu.wi (by rw [dw];exact cz) f F (by omega) (by omega) (hP.ext (h.t j)) (by omega) ak) ?_))))))))
   rintro _ cj ⟨rfl,_,_,_,bw,aa,D,bm⟩
   refine bB ?_
   have ab:UpdW lb w cj:=I.then D
   have bf:=(Kept.refl w OA).next bm I.size
   refine a7 (aE (mv 3 E (bF E E E ((ip:Int)-1) (gL E) (mv 1 E (bC E E (vs:= [a1 g 0,a9 bi aw ax,a4 ((ip:Int)-1),a4 ((k*2^ip:Nat):Int)]) (by kernel_rfl) (by decide) (ih E (D.signs (hS.ext (h.t j)) L) L o V bw aa U (aN W ab.size) (D.own dh (by decide) (by decide)).wi (by rw [ck];exact cv) f F (by omega) (by rw [jG aa,cK,qM,mA,←jG hO];omega) ((hP.ext (h.t j)).updW D) (by omega) ak) ?_)))))
   rintro _ cx ⟨rfl,dx,_,_,ba,bd,au,az⟩
   refine bB ?_
   have ci:UpdW lb w cx:=ab.then au
   have ay:=bf.next az ab.size
   refine bA (jN [] E i3 ?_)
   exact⟨rfl,dx,_,_,ba,(by rw [←EY (ip:=ip) (width:=width) o Z ae,←f,←List.append_assoc];exact bd),ci,ay⟩
theorem qT:∀ip,sB ip
 | 0=>K7
 | ip+1=>K8 (qT ip)
structure Rune (bs:List Nat)(p r z:Nat):Prop where
 le:r≤2147483647
 low:bs.getD p 0<128→r=bs.getD p 0∧z=1
 high:128≤bs.getD p 0→128≤r
theorem Rune.dv (h:Rune bs p r z):dv r=dv (bs.getD p 0):=by
 by_cases h1:bs.getD p 0<128
 ·rw [(h.low h1).1]
 ·rw [vC (h.high (by omega)),vC (by omega)]
theorem Rune.one (h:Rune bs p r z)(hd:Go.Proofs.YtnpbbknemflpnaaGreatDoor.dv r<36):z=1∧r=bs.getD p 0∧r<128:=by
 by_cases h1:bs.getD p 0<128
 ·exact⟨(h.low h1).2,(h.low h1).1,by rw [(h.low h1).1];exact h1⟩
 ·rw [vC (h.high (by omega))] at hd;omega
theorem GV (hb:∀b,b∈bs→b<256)(hp:p<bs.length):Rune bs p (Utf8.decode (aB bs) p).1 (Utf8.decode (aB bs) p).2:=by
 refine⟨decode_le _ _,fun h=>by rw [CL hb hp h];exact⟨rfl,rfl⟩,fun h=>?_⟩
 have e:p<(aB bs).size:=by rw [eD];exact hp
 exact (decode_high (aB bs) p e (by rw [oJ hb hp e];exact h)).1
section
variable {P:bT}{Q:Exit→Act→a6→Prop}{n:Nat}{l:Fr}{w:a6}{ops:Array aX}{rest:List aX}{d:Nat}{ty:aQ}{pos:String}{af:Array Edge}{gd:Option (Nat×Bool)}
theorem xB {x:bW}(hw:cF ops l gd=some true)(hx:bK l x=some (a1 g 0))(hb:∀b,b∈bs→b<256)(h:It w g bs p)(hp:p<bs.length)(hn:d<n)(k:∀w' r z,Rune bs p r z→It w' g bs (p+z)→Upd g w w'→wl P ops Q n rest ((d,.tuple #[gx,a4 (p:Int),.int .i32 (r:Int)])::l) w'):wl P ops Q n (⟨some d,.next x true,ty,pos,af,gd⟩::rest) l w:=
 xC hw hx h hp hn fun w' h1 h2=>k w' _ _ (GV hb hp) h1 h2
theorem xE {x y:bW}{t:aQ}{z:aC}(hw:cF ops l gd=some true)(hx:bK l x=some (a4 0))(hy:bK l y=some (a4 (k:Int)))(ht:P.underlying t=some (.slice e))(hinfo:(P.info? e).map (fun i=>(i.zero,i.size,i.bytes))=some (some z,1,1))(_hz:z.cells= #[z])(hk:k≤1099511627776)(hd:d<n)(h:∀g w',Own w' w.heap.size e 1 (some ⟨g,0,none⟩) 0 k []→Ext w w'→wl P ops Q n rest ((d,a9 (some ⟨g,0,none⟩) 0 k)::l) w'):wl P ops Q n (⟨some d,.makeSlice t x y,ty,pos,af,gd⟩::rest) l w:=by
 obtain⟨i,hi,j,q,f⟩:=info_parts hinfo
 have hr:=run_make (P:=P) w t e i _ ht hi j .i64 .i64 0 (k:Int) (by omega) (by omega) (by rw [f];omega) (by omega)
 rw [gC,show (0:Int).toNat=0 from rfl,q] at hr
 obtain⟨cs,o,p⟩:∃cs:List aC,madeCells z.cells (k*1)=cs.toArray∧cs.length=k*1:=⟨(madeCells z.cells (k*1)).toList,Array.toArray_toList.symm,by rw [Array.length_toList,size_madeCells]⟩
 rw [o] at hr
 refine dU hw hd (fun a' D=>?_) (h _ (w.alloc (.cells cs.toArray e)) (cA ⟨w.heap.size,cs,rfl,aZ _,Bk.new _ _ _,cE _,by rw [eX];omega,p,rfl⟩) ((Ext.refl w).alloc _))
 have e':(mQ t (a'.eval x) (a'.eval y)).run P w= .ok (a9 (some ⟨w.heap.size,0,none⟩) 0 k) (w.alloc (.cells cs.toArray e)):=by rw [D.ev hx,D.ev hy];exact hr
 show ((mQ t (a'.eval x) (a'.eval y)>>=fun r=>pure (eP r):Sem Next)).run P w=_
 rw [bQ,e'];rfl
end
theorem vK (h:x≤255:=by omega):bP .u8 (IntKind.u8.wrap (x:Int))= .int .u8 (x:Int):=by rw [IntWalk.u8_in _ ⟨by omega,by omega⟩]
theorem mD {A B:Int}{a:Nat}(ha:A=(a:Int))(hb:B=(b:Int))(h:b≤a:=by omega)(h2:a≤2147483647:=by omega):dD .sub .i32 A B=some ((a-b:Nat):Int):=by
 subst ha hb;simp only [dD,dR];rw [show (a:Int)-(b:Int)=((a-b:Nat):Int) by omega,IntWalk.i32_in _ ⟨by omega,by omega⟩]
structure Rb (b:Nat)(w:a6)(A:Option a8)(n c:Nat)(xs:List Nat):Prop where
 rv:Rv w 1 A n c (xs.map B8)
 wf:∀x,x∈xs→x<b
theorem Rb.ext (h:Rb b w A n c xs)(e:Ext w w'):Rb b w' A n c xs:=⟨h.rv.ext e,h.wf⟩
theorem Rb.len (h:Rb b w A n c xs):xs.length=n:=by simpa using h.rv.len
theorem Rb.dig (h:Rb b w A n c xs)(hi:i<n):xs.getD i 0<b:=by
 have hl:=h.len
 refine h.wf _ ?_
 rw [bE,bS (by omega)]
 exact jA (by omega)
theorem Rb.at (_:True)(h:Rb b w A n c xs)(hi:i<n):∃p,A.map (·.add (i*1))=some p∧w.cell? p=some (.int .u8 ((xs.getD i 0:Nat):Int))∧xs.getD i 0<b:=by
 have hl:=h.len
 obtain⟨a,rfl,e⟩:=h.rv.get i (by omega)
 refine⟨a.add i,by rw [eI];rfl,?_,h.dig hi⟩
 rw [e,bE,gR,bS (by omega),bE,bS (by omega)]
 rfl
theorem Rb.take (h:Rb b w A n c xs)(hk:k≤n):Rb b w A k c (xs.take k):=by
 have hl:=h.len
 have f:=h.rv.le
 refine⟨⟨by rw [List.length_map,cV,hl];omega,by omega,h.rv.max,fun i hi=>?_,h.rv.blk⟩,fun x o=>h.wf x (oB o)⟩
 obtain⟨a,e,j⟩:=h.rv.get i (by omega)
 refine⟨a,e,j.trans ?_⟩
 rw [j9,bE,bE,iC,if_pos (by omega)]
theorem Rb.drop (h:Rb b w A n c xs)(hk:k≤n):Rb b w (if c=k then A else A.map (·.add (k*1))) (n-k) (c-k) (xs.drop k):=by
 have j:=h.rv.le
 have hl:=h.len
 refine⟨⟨by rw [List.length_map,fN,hl,eI],by omega,by have:=h.rv.max;omega,fun i hi=>?_,fun a e f=>?_⟩,fun x o=>h.wf x (sK o)⟩
 ·rw [if_neg (by omega)]
  obtain⟨a,rfl,f⟩:=h.rv.get (k+i) (by omega)
  refine⟨a.add (k*1),rfl,?_⟩
  rw [eI,Addr.add_add,f]
  simp [bE,gR,List.getElem?_drop]
 ·rw [if_neg (by omega)] at e
  cases A with
  | none=>cases e
  | some p=>
   cases e
   rw [pI]
   exact h.rv.blk p E (by omega)
theorem Own.rb (h:Own w lb 5 1 A n c (xs.map B8))(hd:∀x,x∈xs→x<b):Rb b w A n c xs:=⟨h.rv,hd⟩
theorem y6 (A:Option a8)(n c k:Nat):Value.slice (if c=k then A else A.map (·.add (k*1))) (n-k) (c-k)= a9 (if c=k then A else A.map (·.add (k*1))) (n-k) (c-k):=rfl
section
variable {w:a6}{b:Nat}
theorem GO (hb:b≤w.heap.size)(hx:Wi w A n c x)(hy:Wi w B m d y)(hN:n+m≤274877906944):aU aG 106 #[a9 A n c,a9 B m d] w (Gv w (WR b (x*y))):=by
 obtain⟨xs,h1,rfl⟩:=hx;obtain⟨ys,h2,rfl⟩:=hy
 exact (uJ h1 h2 hN).mono (gw hb)
theorem J5 {C:Option a8}{cap':Nat}{zs:List Nat}(hx:Rd w A n cap xs)(hy:Rd w B m cap' ys)(hz:Rd w C k c zs)(hN:n+m≤274877906944)(hk:k≤1099511627775):aU aG 141 #[a9 A n cap,a9 B m cap',a9 C k c] w (j5 w (nv xs*nv ys+nv zs)):=by
 go_enter Tryz.func141,Tryz.ntmps141
 go_wp2_with fail
 refine (zT hx hy hN).mono ?_
 rintro e w1 ⟨k1,hk1,g1,z1,rfl,hg1,hb1,hw1,hl1,hv1,hx1⟩
 have hk1b:k1≤n+m:=by
  rw [hk1.out]
  have h1:=f7 hx.wf
  have h2:=f7 hy.wf
  rw [hx.len] at h1
  rw [hy.len] at h2
  omega
 go_wp2_with fail
 refine (zQ (NewP.rd hb1 hw1 hl1.out (by omega)) (by omega) (hz.ext hx1) hk).mono ?_
 rintro e w2 ⟨A2,n2,c2,rfl,hn2,hr2,ho2,hx2⟩
 go_wp2_with fail
 go_ret
 rw [hv1.out] at hn2 hr2 ho2
 exact⟨A2,n2,c2,rfl,hn2,hr2,ho2.mono hx1.size,hx1.trans hx2⟩
theorem GP (hb:b≤w.heap.size){C:Option a8}{bn bc cn cc:Nat}(hx:Wi w A an ac x)(hy:Wi w B bn bc y)(hz:Wi w C cn cc z)(hN:an+bn≤274877906944)(hcn:cn≤1099511627775):aU aG 141 #[a9 A an ac,a9 B bn bc,a9 C cn cc] w (Gv w (WR b (x*y+z))):=by
 obtain⟨xs,h1,rfl⟩:=hx;obtain⟨ys,h2,rfl⟩:=hy;obtain⟨zs,e,rfl⟩:=hz
 exact (J5 h1 h2 e hN hcn).mono (gw hb)
theorem GT (hb:b≤w.heap.size)(hx:Wi w A n c x)(hl:n≤1099511627775)(hy:Wi w B m d y)(hl':m≤1099511627775):aU aG 143 #[a9 A n c,a9 B m d] w (Gv w (WR b (x+y))):=by
 obtain⟨xs,h1,rfl⟩:=hx;obtain⟨ys,h2,rfl⟩:=hy
 exact (zQ h1 hl h2 hl').mono (gw hb)
theorem GN (hb:b≤w.heap.size)(hx:Wi w A n c x)(hl:n≤137438953472)(hv:v≤18446744073709551615):aU aG 144 #[a9 A n c,a5 (v:Int)] w (Gv w (WR b (x*v))):=by
 obtain⟨xs,h1,rfl⟩:=hx
 exact (J3 h1 hl hv).mono (gw hb)
theorem GQ (hb:b≤w.heap.size)(hx:Wi w A n c m)(hl:n≤1099511627776):aU aG 47 #[a9 A n c] w (Gv w (WR b m)):=(BP hx hl).mono (Gv.imp (WR.imp hb))
end
theorem rG (hb2:b≤36)(h:∀d,d∈ds→d<b)(hb:1≤b:=by omega):(wd (cC b ds)).length≤ds.length:=
 gI (cU (tE hb ds h) (Nat.pow_le_pow_left (by rw [cH];omega) _))
theorem uO (hb2:b≤36):(wd (b^n)).length≤n+1:=
 gI (jY (Nat.pow_le_pow_left (show b≤WB by rw [cH];omega) n) (Nat.pow_lt_pow_right (show 1<WB by rw [cH];omega) (Nat.lt_succ_self n)))
theorem yT:p*(b*b)^(n/2)*b^(n%2)=p*b^n:=by
 rw [←Nat.pow_two,←Nat.pow_mul,cI,←dQ]
 congr 2
 omega
theorem I4 (h:n%2=1):p*b*(b*b)^(n/2)=p*b^n:=by
 have:=yT (p:=p) (b:=b) (n:=n)
 rw [h,Nat.pow_one] at this
 rw [←this,cI,cI,Nat.mul_comm b]
theorem I6 (h:¬n%2=1):p*(b*b)^(n/2)=p*b^n:=by
 have:=yT (p:=p) (b:=b) (n:=n)
 rw [show n%2=0 by omega,Nat.pow_zero,eI] at this
 exact this
theorem I5 (h:n=1):p*b*c^(n/2)=p*b^n:=by subst h;simp
theorem I7 {X:Nat}(h:p*b^n=X)(hp:1≤p)(hb:1≤b)(hn:0<n):b≤X:=by
 rw [←h]
 have h1:b^1≤b^n:=fJ hb hn
 rw [Nat.pow_one] at h1
 exact aN h1 (Nat.le_mul_of_pos_left _ hp)
theorem I3 {X:Nat}(h:p*b^n=X)(hb:1≤b):p≤X:=by
 rw [←h];exact Nat.le_mul_of_pos_right _ (eT hb)
theorem EU (hk:k≤xs.length):cC b (pre++xs.take k)=cC b pre*b^k+cC b (xs.take k):=by
 rw [xK,cV,fK hk]
theorem xX (h:i<n)(hn:n≤xs.length):xs.take (i+1)=xs.take i++ [(xs.take n).getD i 0]:=by
 rw [List.take_add_one,bE,iC,if_pos h,bS (by omega)]
 rfl
theorem oM (hc:c≤2147483647):aU aG 98 #[.int .i32 ((c:Nat):Int)] w (Gv w (Is (a4 ((dv c:Nat):Int)))):=by
 refine bJ Tryz.func98 E (n:=35) E (bq E) (args:= [.int .i32 ((c:Nat):Int)]) (bH [(0,.int .i32 ((c:Nat):Int))] ⟨rfl,i3⟩ (sr (mv 1 E (a7 (aD (bI (aD ?_)))))))
 by_cases p:c≥48
 ·by_cases q:c≤57
  ·refine aE (mv 1 E (aA E E E true (cJ (a:=c) (b:=48) E E) (mv 2 E (aA E E E true (eM (a:=c) (b:=57) E E) (pu (v:= gx) E (mv 1 E (a7 (b8 E (sr (mv 1 E (bF E E E ((c-48:Nat):Int) (mD (a:=c) (b:=48) E E) (eH E E (v:= a4 (IntKind.i64.wrap ((c-48:Nat):Int))) (v':= a4 ((c-48:Nat):Int)) (lF (by first | omega | exact hle64)) (mv 1 E ?_)))))))))))))
   refine a7 (aW (bZ (bO (aV [a4 ((c-48:Nat):Int)] E ⟨rfl,i3⟩ ?_))))
   have e:c-48=dv c:=by unfold dv;(repeat' split) <;> omega
   exact⟨_,rfl,(show bP .i64 ((c-48:Nat):Int)=_ by rw [e]),aF⟩
  ·refine aE (mv 1 E (aA E E E true (cJ (a:=c) (b:=48) E E) (mv 2 E (aA E E E false (dX (a:=c) (b:=57) E E) (pu (v:= ik) E (mv 1 E (a7 (aI E (aD ?_)))))))))
   by_cases o:c≥97
   ·by_cases j:c≤122
    ·refine aE (mv 1 E (aA E E E true (cJ (a:=c) (b:=97) E E) (mv 2 E (aA E E E true (eM (a:=c) (b:=122) E E) (pu (v:= gx) E (mv 1 E (a7 (b8 E (sr (mv 1 E (bF E E E ((c-97:Nat):Int) (mD (a:=c) (b:=97) E E) (eH E E (v:= a4 (IntKind.i64.wrap ((c-97:Nat):Int))) (v':= a4 ((c-97:Nat):Int)) (lF (by first | omega | exact hle64)) (bF E E E (((c-97)+10:Nat):Int) (d6 (a:=c-97) (b:=10) E E) ?_)))))))))))))
     refine mv 1 E (a7 (aW (bZ (bO (aV [a4 (((c-97)+10:Nat):Int)] E ⟨rfl,i3⟩ ?_)))))
     have e:(c-97)+10=dv c:=by unfold dv;(repeat' split) <;> omega
     exact⟨_,rfl,(show bP .i64 (((c-97)+10:Nat):Int)=_ by rw [e]),aF⟩
    ·refine aE (mv 1 E (aA E E E true (cJ (a:=c) (b:=97) E E) (mv 2 E (aA E E E false (dX (a:=c) (b:=122) E E) (pu (v:= ik) E (mv 1 E (a7 (aI E (aD ?_)))))))))
     by_cases h:c≥65
     ·by_cases f:c≤90
      ·refine aE (mv 1 E (aA E E E true (cJ (a:=c) (b:=65) E E) (mv 2 E (aA E E E true (eM (a:=c) (b:=90) E E) (pu (v:= gx) E (mv 1 E (a7 (b8 E (sr (mv 1 E (bF E E E ((c-65:Nat):Int) (mD (a:=c) (b:=65) E E) (eH E E (v:= a4 (IntKind.i64.wrap ((c-65:Nat):Int))) (v':= a4 ((c-65:Nat):Int)) (lF (by first | omega | exact hle64)) (bF E E E (((c-65)+10:Nat):Int) (d6 (a:=c-65) (b:=10) E E) ?_)))))))))))))
       refine mv 1 E (a7 (aW (bZ (bO (aV [a4 (((c-65)+10:Nat):Int)] E ⟨rfl,i3⟩ ?_)))))
       have e:(c-65)+10=dv c:=by unfold dv;(repeat' split) <;> omega
       exact⟨_,rfl,(show bP .i64 (((c-65)+10:Nat):Int)=_ by rw [e]),aF⟩
      ·refine aE (mv 1 E (aA E E E true (cJ (a:=c) (b:=65) E E) (mv 2 E (aA E E E false (dX (a:=c) (b:=90) E E) (pu (v:= ik) E (mv 1 E (a7 (aI E (aY (bU (aJ (sr (mv 1 E ?_)))))))))))))
       refine a7 (aW (aV [a4 36] E ⟨rfl,i3⟩ ?_))
       have e:36=dv c:=by unfold dv;(repeat' split) <;> omega
       exact⟨_,rfl,(show bP .i64 ((36:Nat):Int)=_ by rw [e]),aF⟩
     ·refine aE (mv 1 E (aA E E E false (cR (a:=c) (b:=65) E E) (mv 3 E (pu (v:= ik) E (mv 1 E (a7 (aI E (aY (bU (aJ (sr (mv 1 E (bA ?_)))))))))))))
      refine aJ (aW (aV [a4 36] E ⟨rfl,i3⟩ ?_))
      have e:36=dv c:=by unfold dv;(repeat' split) <;> omega
      exact⟨_,rfl,(show bP .i64 ((36:Nat):Int)=_ by rw [e]),aF⟩
   ·refine aE (mv 1 E (aA E E E false (cR (a:=c) (b:=97) E E) (mv 3 E (pu (v:= ik) E (mv 1 E (a7 (aI E (aD ?_))))))))
    by_cases h:c≥65
    ·by_cases f:c≤90
     ·refine aE (mv 1 E (aA E E E true (cJ (a:=c) (b:=65) E E) (mv 2 E (aA E E E true (eM (a:=c) (b:=90) E E) (pu (v:= gx) E (mv 1 E (a7 (b8 E (sr (mv 1 E (bF E E E ((c-65:Nat):Int) (mD (a:=c) (b:=65) E E) (eH E E (v:= a4 (IntKind.i64.wrap ((c-65:Nat):Int))) (v':= a4 ((c-65:Nat):Int)) (lF (by first | omega | exact hle64)) (bF E E E (((c-65)+10:Nat):Int) (d6 (a:=c-65) (b:=10) E E) ?_)))))))))))))
      refine mv 1 E (a7 (aW (bZ (bO (aV [a4 (((c-65)+10:Nat):Int)] E ⟨rfl,i3⟩ ?_)))))
      have e:(c-65)+10=dv c:=by unfold dv;(repeat' split) <;> omega
      exact⟨_,rfl,(show bP .i64 (((c-65)+10:Nat):Int)=_ by rw [e]),aF⟩
     ·refine aE (mv 1 E (aA E E E true (cJ (a:=c) (b:=65) E E) (mv 2 E (aA E E E false (dX (a:=c) (b:=90) E E) (pu (v:= ik) E (mv 1 E (a7 (aI E (aY (bU (aJ (sr (mv 1 E ?_)))))))))))))
      refine a7 (aW (aV [a4 36] E ⟨rfl,i3⟩ ?_))
      have e:36=dv c:=by unfold dv;(repeat' split) <;> omega
      exact⟨_,rfl,(show bP .i64 ((36:Nat):Int)=_ by rw [e]),aF⟩
    ·refine aE (mv 1 E (aA E E E false (cR (a:=c) (b:=65) E E) (mv 3 E (pu (v:= ik) E (mv 1 E (a7 (aI E (aY (bU (aJ (sr (mv 1 E (bA ?_)))))))))))))
     refine aJ (aW (aV [a4 36] E ⟨rfl,i3⟩ ?_))
     have e:36=dv c:=by unfold dv;(repeat' split) <;> omega
     exact⟨_,rfl,(show bP .i64 ((36:Nat):Int)=_ by rw [e]),aF⟩
 ·refine aE (mv 1 E (aA E E E false (cR (a:=c) (b:=48) E E) (mv 3 E (pu (v:= ik) E (mv 1 E (a7 (aI E (aD ?_))))))))
  by_cases o:c≥97
  ·by_cases j:c≤122
   ·refine aE (mv 1 E (aA E E E true (cJ (a:=c) (b:=97) E E) (mv 2 E (aA E E E true (eM (a:=c) (b:=122) E E) (pu (v:= gx) E (mv 1 E (a7 (b8 E (sr (mv 1 E (bF E E E ((c-97:Nat):Int) (mD (a:=c) (b:=97) E E) (eH E E (v:= a4 (IntKind.i64.wrap ((c-97:Nat):Int))) (v':= a4 ((c-97:Nat):Int)) (lF (by first | omega | exact hle64)) (bF E E E (((c-97)+10:Nat):Int) (d6 (a:=c-97) (b:=10) E E) ?_)))))))))))))
    refine mv 1 E (a7 (aW (bZ (bO (aV [a4 (((c-97)+10:Nat):Int)] E ⟨rfl,i3⟩ ?_)))))
    have e:(c-97)+10=dv c:=by unfold dv;(repeat' split) <;> omega
    exact⟨_,rfl,(show bP .i64 (((c-97)+10:Nat):Int)=_ by rw [e]),aF⟩
   ·refine aE (mv 1 E (aA E E E true (cJ (a:=c) (b:=97) E E) (mv 2 E (aA E E E false (dX (a:=c) (b:=122) E E) (pu (v:= ik) E (mv 1 E (a7 (aI E (aD ?_)))))))))
    by_cases h:c≥65
    ·by_cases f:c≤90
     ·refine aE (mv 1 E (aA E E E true (cJ (a:=c) (b:=65) E E) (mv 2 E (aA E E E true (eM (a:=c) (b:=90) E E) (pu (v:= gx) E (mv 1 E (a7 (b8 E (sr (mv 1 E (bF E E E ((c-65:Nat):Int) (mD (a:=c) (b:=65) E E) (eH E E (v:= a4 (IntKind.i64.wrap ((c-65:Nat):Int))) (v':= a4 ((c-65:Nat):Int)) (lF (by first | omega | exact hle64)) (bF E E E (((c-65)+10:Nat):Int) (d6 (a:=c-65) (b:=10) E E) ?_)))))))))))))
      refine mv 1 E (a7 (aW (bZ (bO (aV [a4 (((c-65)+10:Nat):Int)] E ⟨rfl,i3⟩ ?_)))))
      have e:(c-65)+10=dv c:=by unfold dv;(repeat' split) <;> omega
      exact⟨_,rfl,(show bP .i64 (((c-65)+10:Nat):Int)=_ by rw [e]),aF⟩
     ·refine aE (mv 1 E (aA E E E true (cJ (a:=c) (b:=65) E E) (mv 2 E (aA E E E false (dX (a:=c) (b:=90) E E) (pu (v:= ik) E (mv 1 E (a7 (aI E (aY (bU (aJ (sr (mv 1 E ?_)))))))))))))
      refine a7 (aW (aV [a4 36] E ⟨rfl,i3⟩ ?_))
      have e:36=dv c:=by unfold dv;(repeat' split) <;> omega
      exact⟨_,rfl,(show bP .i64 ((36:Nat):Int)=_ by rw [e]),aF⟩
    ·refine aE (mv 1 E (aA E E E false (cR (a:=c) (b:=65) E E) (mv 3 E (pu (v:= ik) E (mv 1 E (a7 (aI E (aY (bU (aJ (sr (mv 1 E (bA ?_)))))))))))))
     refine aJ (aW (aV [a4 36] E ⟨rfl,i3⟩ ?_))
     have e:36=dv c:=by unfold dv;(repeat' split) <;> omega
     exact⟨_,rfl,(show bP .i64 ((36:Nat):Int)=_ by rw [e]),aF⟩
  ·refine aE (mv 1 E (aA E E E false (cR (a:=c) (b:=97) E E) (mv 3 E (pu (v:= ik) E (mv 1 E (a7 (aI E (aD ?_))))))))
   by_cases h:c≥65
   ·by_cases f:c≤90
    ·refine aE (mv 1 E (aA E E E true (cJ (a:=c) (b:=65) E E) (mv 2 E (aA E E E true (eM (a:=c) (b:=90) E E) (pu (v:= gx) E (mv 1 E (a7 (b8 E (sr (mv 1 E (bF E E E ((c-65:Nat):Int) (mD (a:=c) (b:=65) E E) (eH E E (v:= a4 (IntKind.i64.wrap ((c-65:Nat):Int))) (v':= a4 ((c-65:Nat):Int)) (lF (by first | omega | exact hle64)) (bF E E E (((c-65)+10:Nat):Int) (d6 (a:=c-65) (b:=10) E E) ?_)))))))))))))
     refine mv 1 E (a7 (aW (bZ (bO (aV [a4 (((c-65)+10:Nat):Int)] E ⟨rfl,i3⟩ ?_)))))
     have e:(c-65)+10=dv c:=by unfold dv;(repeat' split) <;> omega
     exact⟨_,rfl,(show bP .i64 (((c-65)+10:Nat):Int)=_ by rw [e]),aF⟩
    ·refine aE (mv 1 E (aA E E E true (cJ (a:=c) (b:=65) E E) (mv 2 E (aA E E E false (dX (a:=c) (b:=90) E E) (pu (v:= ik) E (mv 1 E (a7 (aI E (aY (bU (aJ (sr (mv 1 E ?_)))))))))))))
     refine a7 (aW (aV [a4 36] E ⟨rfl,i3⟩ ?_))
     have e:36=dv c:=by unfold dv;(repeat' split) <;> omega
     exact⟨_,rfl,(show bP .i64 ((36:Nat):Int)=_ by rw [e]),aF⟩
   ·refine aE (mv 1 E (aA E E E false (cR (a:=c) (b:=65) E E) (mv 3 E (pu (v:= ik) E (mv 1 E (a7 (aI E (aY (bU (aJ (sr (mv 1 E (bA ?_)))))))))))))
    refine aJ (aW (aV [a4 36] E ⟨rfl,i3⟩ ?_))
    have e:36=dv c:=by unfold dv;(repeat' split) <;> omega
    exact⟨_,rfl,(show bP .i64 ((36:Nat):Int)=_ by rw [e]),aF⟩
theorem GD (hbl:2≤base)(hbu:base≤36)(hn:n≤68719476736):aU aG 142 #[a4 base,a4 n] w (Gv w (WR w.heap.size (base^n))):=by
 refine bJ Tryz.func142 E (n:=26) E (bq E) (args:= [a4 base,a4 n]) (bH [(0,a4 base),(1,a4 n)] ⟨rfl,rfl,i3⟩ (sr (mv 1 E (a7 (sr (dN E E (k:=1) (e:=50) [a5 1] (fun _=>by kernel_rfl) fun g1 _ L=>?_))))))
 have o4:=O1.mk_ (x:=1) (b:=w.heap.size) L (Ext.refl w).size
 have e5:=L.ext
 have h:=(Ext.refl w).trans e5
 have o7:=oT o4 (show 1≤18446744073709551615 by decide) (show 1≠0 by decide)
 have j6:=oY (show 1≤18446744073709551615 by decide) (show 1≠0 by decide)
 refine mv 1 E (eH E E (v:= a5 (IntKind.u64.wrap ((base:Nat):Int))) (v':= a5 base) (jR (by first | omega | exact hle64)) (dN E E (k:=1) (e:=50) [a5 base] (fun _=>by kernel_rfl) fun g8 v9 F=>?_))
 have aw:=O1.mk_ (x:=base) (b:=w.heap.size) F h.size
 have Y:=F.ext
 have j:=h.trans Y
 have aj:=oT aw (show base≤18446744073709551615 by omega) (show base≠0 by omega)
 have ax:=oY (show base≤18446744073709551615 by omega) (show base≠0 by omega)
 refine mv 2 E (a7 (aD (bI ?_)))
 refine dJ (T:=a6×Nat×Nat×Nat×Option a8×Nat×Nat×Option a8×Nat×Nat)
  (fun⟨wr,e,p,b,PA,pn,pc,BA,bn,bc⟩=> [(0,a4 base),(1,a4 e),(5,a9 PA pn pc),(6,a9 BA bn bc)])
  (fun⟨wr,e,p,b,PA,pn,pc,BA,bn,bc⟩=>wr)
  (fun⟨wr,e,p,b,PA,pn,pc,BA,bn,bc⟩=>(Ext w wr)∧(p*b^e=base^n)∧(1≤p)∧(1≤b)∧(pn=(wd p).length)∧(bn=(wd b).length)∧(Own wr w.heap.size 50 1 PA pn pc ((wd p).map bG))∧(Own wr w.heap.size 50 1 BA bn bc ((wd b).map bG))∧(e≤n))
  (fun⟨wr,e,p,b,PA,pn,pc,BA,bn,bc⟩=>e)
  (⟨v9,n,1,base,(some ⟨g1,0,none⟩),1,1,(some ⟨g8,0,none⟩),1,1⟩:a6×Nat×Nat×Nat×Option a8×Nat×Nat×Option a8×Nat×Nat) ⟨j,(by rw [Nat.one_mul]),(by decide),(by omega),j6,ax,(o7.ext Y),aj,(aZ _)⟩ E ⟨rfl,rfl,rfl,rfl,i3⟩ ?_
 rintro⟨wr,e,p,b,PA,pn,pc,BA,bn,bc⟩ ⟨h,H,o,f,I,X,D,r,he⟩
 refine d9 [(0,a4 base),(1,a4 e),(5,a9 PA pn pc),(6,a9 BA bn bc)] wr E ⟨rfl,rfl,rfl,rfl,i3⟩ (aD (aD ?_))
 by_cases q:e>0
 ·have bi:=aN (lB (I3 H f)) (uO (n:=n) hbu)
  have cd:=aN (lB (I7 H o f q)) (uO (n:=n) hbu)
  refine aE (mv 1 E (aA E E E true (iM (a:=e) (b:=0) E E) (a7 (b8 E (aY (aJ (aD (bI (aD (aD ?_))))))))))
  by_cases ho:e%2=1
  ·refine aE (mv 1 E (bF E E E ((e%2:Nat):Int) (vU (a:=e) (b:=2) E E) (aA E E E true (dB (a:=e%2) (b:=1) E E) (a7 (b8 E (aE (mv 2 E (cl (vs:= [a9 PA pn pc,a9 BA bn bc]) h (GO h.size D.wi r.wi (by omega)) E (by kernel_rfl) fun _ ak ab M j=>?_))))))))
   obtain⟨W,O,Z,rfl,U,V⟩:=ab
   refine mv 1 E (a7 (aD ?_))
   by_cases hg:e>1
   ·refine aE (mv 1 E (aA E E E true (iM (a:=e) (b:=1) E E) (a7 (b8 E (aE (mv 1 E (cl (vs:= [a9 BA bn bc]) j (tQ j.size (r.ext M).wi) E (by kernel_rfl) fun _ au ap bd am=>?_)))))))
    obtain⟨ah,ar,av,rfl,ao,ay⟩:=ap
    refine mv 1 E (bA (bU (aJ (aE (mv 1 E (bF E E E ((e/2:Nat):Int) (pK (a:=e) (b:=2) E E) (mv 1 E (bA (cW (⟨au,e/2,p*b,b*b,W,O,Z,ah,ar,av⟩:a6×Nat×Nat×Nat×Option a8×Nat×Nat×Option a8×Nat×Nat) ⟨am,(by rw [I4 ho];exact H),(by first | decide | omega | exact gO o f),(by first | assumption | exact gO f f),U,ao,(V.ext bd),ay,(aN (f5 _ _) he)⟩ (iB q (by decide)) E ⟨rfl,rfl,rfl,rfl,i3⟩)))))))))
   ·refine aE (mv 1 E (aA E E E false (fH (a:=e) (b:=1) E E) (a7 (aI E (aY (bU (aJ (aE (mv 1 E (bF E E E ((e/2:Nat):Int) (pK (a:=e) (b:=2) E E) (mv 1 E (bA (cW (⟨ak,e/2,p*b,b,W,O,Z,BA,bn,bc⟩:a6×Nat×Nat×Nat×Option a8×Nat×Nat×Option a8×Nat×Nat) ⟨j,(by rw [I5 (by omega)];exact H),(by first | decide | omega | exact gO o f),(by first | assumption | exact gO f f),U,X,V,(r.ext M),(aN (f5 _ _) he)⟩ (iB q (by decide)) E ⟨rfl,rfl,rfl,rfl,i3⟩)))))))))))))
  ·refine aE (mv 1 E (bF E E E ((e%2:Nat):Int) (vU (a:=e) (b:=2) E E) (aA E E E false (bV (a:=e%2) (b:=1) E E) (a7 (aI E (aY (aJ (aD ?_))))))))
   by_cases hg:e>1
   ·refine aE (mv 1 E (aA E E E true (iM (a:=e) (b:=1) E E) (a7 (b8 E (aE (mv 1 E (cl (vs:= [a9 BA bn bc]) h (tQ h.size r.wi) E (by kernel_rfl) fun _ bg aq ag j=>?_)))))))
    obtain⟨ba,az,ai,rfl,ae,bf⟩:=aq
    refine mv 1 E (bA (bU (aJ (aE (mv 1 E (bF E E E ((e/2:Nat):Int) (pK (a:=e) (b:=2) E E) (mv 1 E (bA (cW (⟨bg,e/2,p,b*b,PA,pn,pc,ba,az,ai⟩:a6×Nat×Nat×Nat×Option a8×Nat×Nat×Option a8×Nat×Nat) ⟨j,(by rw [I6 ho];exact H),(by first | decide | omega | exact gO o f),(by first | assumption | exact gO f f),I,ae,(D.ext ag),bf,(aN (f5 _ _) he)⟩ (iB q (by decide)) E ⟨rfl,rfl,rfl,rfl,i3⟩)))))))))
   ·refine aE (mv 1 E (aA E E E false (fH (a:=e) (b:=1) E E) (a7 (aI E (aY (bU (aJ (aE (mv 1 E (bF E E E ((e/2:Nat):Int) (pK (a:=e) (b:=2) E E) (mv 1 E (bA (cW (⟨wr,e/2,p,b,PA,pn,pc,BA,bn,bc⟩:a6×Nat×Nat×Nat×Option a8×Nat×Nat×Option a8×Nat×Nat) ⟨h,(by omega),(by first | decide | omega | exact gO o f),(by first | assumption | exact gO f f),I,X,D,r,(aN (f5 _ _) he)⟩ (iB q (by decide)) E ⟨rfl,rfl,rfl,rfl,i3⟩)))))))))))))
 ·refine aE (mv 1 E (aA E E E false (fH (a:=e) (b:=0) E E) (a7 (aI E (dA (d7 (dG (d8 (aJ (sr (mv 2 E (a7 (aW ?_)))))))))))))
  refine aV [a9 PA pn pc] E ⟨rfl,i3⟩ ?_
  have e0:e=0:=by omega
  subst e0
  rw [Nat.pow_zero,eI] at H
  subst H
  exact⟨_,rfl,⟨_,_,_,rfl,I,D⟩,h⟩
theorem ES (hl:ds.length=n)(hk:k≤n):cC b (ds.take (n-k))*b^k+cC b (ds.drop (n-k))=cC b ds:=by
 have h:=xK b (ds.take (n-k)) (ds.drop (n-k))
 rw [kT,fN,hl,show n-(n-k)=k by omega] at h
 exact h.symm
theorem PieceK.pos (h:PieceK b k)(hb:b≤36):1≤k:=by
 rcases Nat.eq_zero_or_pos k with e | e
 ·have:=h.gt;rw [e,dY,Nat.pow_one] at this;omega
 ·exact e
theorem FQ (hk:PieceK b k)(hb:1≤b)(hi:i+1≤k)(hv:v<b^i)(hx:x<b):v*b+x≤18446744073709551615∧b^i*b≤18446744073709551615:=by
 have h1:b^(i+1)≤b^k:=fJ hb hi
 rw [dK] at h1
 have h2:=hk.le
 have e:(v+1)*b≤b^i*b:=Nat.mul_le_mul_right b hv
 rw [Nat.add_mul,Nat.one_mul] at e
 exact⟨by omega,by omega⟩
theorem JR (h:x≤18446744073709551615):(wd x).length≤1:=gI (by rw [Nat.pow_one,cH];omega)
theorem uK (h:∀x,x∈xs→x<b)(k:Nat):∀x,x∈xs.take k→x<b:=fun x e=>h x (oB e)
theorem J8 (h:∀x,x∈xs→x<b)(k:Nat):∀x,x∈xs.drop k→x<b:=fun x e=>h x (sK e)
def DQ (N:Nat):Prop:=∀{w:a6}{A:Option a8}{n c base:Nat}{ds:List Nat},n≤N→2≤base→base≤36→Rb base w A n c ds→n≤17179869184→
 aU aG 122 #[a9 A n c,a4 base] w (Gv w (WR w.heap.size (cC base ds)))
theorem GE (ih:DQ N)(hnN:n≤N+1)(hbl:2≤base)(hbu:base≤36)(hd:Rb base w A n c ds)(hn:n≤17179869184)(hbig:200<n):aU aG 122 #[a9 A n c,a4 base] w (Gv w (WR w.heap.size (cC base ds))):=by
 have ci:(wd (cC base (ds.take (n-(n/2))))).length≤n:=by have:=rG hbu (uK hd.wf (n-(n/2)));rw [cV,hd.len] at this;omega
 have ck:(wd (cC base (ds.drop (n-(n/2))))).length≤n:=by have:=rG hbu (J8 hd.wf (n-(n/2)));rw [fN,hd.len] at this;omega
 have cj:(wd (base^(n/2))).length≤n/2+1:=uO hbu
 refine bJ Tryz.func122 E (n:=81) E (bq E) (args:= [a9 A n c,a4 base]) (bH [(0,a9 A n c),(1,a4 base)] ⟨rfl,rfl,i3⟩ (sr (mv 1 E (a7 (aD (sr (mv 1 E (pu (v:= a4 n) E (aA E E E true (iM (a:=n) (b:=200) E E) (a7 (b8 E (sr (mv 1 E ?_)))))))))))))
 refine pu (v:= a4 n) E (bF E E E ((n/2:Nat):Int) (pK (a:=n) (b:=2) E E) (mv 1 E (a7 (sr (mv 1 E (pu (v:= a4 n) E (mv 1 E (bF E E E ((n-(n/2):Nat):Int) (kK (a:=n) (b:=n/2) E E) (mv 1 E (a7 (aD ?_)))))))))))
 refine fG eR 14 [] [Is (a9 A n c),Is (a4 ((n-(n/2):Nat):Int)),Is (a9 A (n-(n/2)) c),Is (a4 base),WR w.heap.size (cC base (ds.take (n-(n/2)))),Is (a4 base),Is (a4 ((n/2:Nat):Int)),WR w.heap.size (base^(n/2)),Is (a9 A n c),Is (a4 ((n-(n/2):Nat):Int)),Is (.slice (if c=n-(n/2) then A else A.map (·.add ((n-(n/2))*1))) (n-(n-(n/2))) (c-(n-(n/2)))),Is (a4 base),WR w.heap.size (cC base (ds.drop (n-(n/2)))),WR w.heap.size ((cC base (ds.take (n-(n/2))))*(base^(n/2))+(cC base (ds.drop (n-(n/2)))))] [[],[],[0,1],[],[2,3],[],[],[5,6],[],[],[8,9],[],[10,11],[4,7,12]] [[],[],[0,1],[],[0,1,2,3],[],[],[0,1,2,3,4,5,6],[],[],[8,9],[],[0,1,2,3,4,5,6,7,8,9,10,11],[0,1,2,3,4,5,6,7,8,9,10,11,12],[0,1,2,3,4,5,6,7,8,9,10,11,12,13]] rfl
  (aP E E (aK E E ?_) (aP E E (aK E E ?_) (aP E E (aK E E ?_) (aP E E (aK E E ?_) (aP E E (aK E E ?_) (aP E E (aK E E ?_) (aP E E (aK E E ?_) (aP E E (aK E E ?_) (aP E E (aK E E ?_) (aP E E (aK E E ?_) (aP E E (aK E E ?_) (aP E E (aK E E ?_) (aP E E (aK E E ?_) (aP E E (aK E E ?_) fE)))))))))))))) ?_
 ·exact fun _ _=>aL (mv 1 E (aO E aF E))
 ·exact fun _ _=>aL (mv 1 E (aO E aF E))
 ·exact fun _ bj=>dk E E (dk E E (aL (kA E E i7 iV (lo:=0) (hi:=n-(n/2)) E E (by omega) (by have:=(hd.ext bj).rv.le;omega) (v:= a9 A (n-(n/2)) c) (nA _ _ _) (by decide) (aO E aF E))))
 ·exact fun _ _=>aL (mv 1 E (aO E aF E))
 ·intro _ H
  have e:=(Ext.refl w).trans H
  refine dk E E (dk E E (aL (cl (vs:= [a9 A (n-(n/2)) c,a4 base]) e ((ih (by omega) hbl hbu ((hd.take (k:=n-(n/2)) (by omega)).ext H) (by omega)).mono (Gv.imp (WR.imp e.size))) E (by kernel_rfl) fun _ _ ce bz D=>?_)))
  obtain⟨_,_,_,rfl,bm,cf⟩:=ce
  exact aO E bz ⟨_,_,_,rfl,bm,cf⟩
 ·exact fun _ _=>aL (mv 1 E (aO E aF E))
 ·exact fun _ _=>aL (mv 1 E (aO E aF E))
 ·intro _ bg
  have e:=(Ext.refl w).trans bg
  refine dk E E (dk E E (aL (cl (vs:= [a4 base,a4 ((n/2:Nat):Int)]) e ((GD (n:=n/2) hbl hbu (by omega)).mono (Gv.imp (WR.imp e.size))) E (by kernel_rfl) fun _ _ bh bo D=>?_)))
  obtain⟨_,_,_,rfl,bu,cd⟩:=bh
  exact aO E bo ⟨_,_,_,rfl,bu,cd⟩
 ·exact fun _ _=>aL (mv 1 E (aO E aF E))
 ·exact fun _ _=>aL (mv 1 E (aO E aF E))
 ·exact fun _ cg=>dk E E (dk E E (aL (kA E E i7 iV (lo:=n-(n/2)) (hi:=n) E E (by omega) (by have:=(hd.ext cg).rv.le;omega) (v:= .slice (if c=n-(n/2) then A else A.map (·.add ((n-(n/2))*1))) (n-(n-(n/2))) (c-(n-(n/2)))) (y6 _ _ _ _) (by decide) (aO E aF E))))
 ·exact fun _ _=>aL (mv 1 E (aO E aF E))
 ·intro _ L
  have e:=(Ext.refl w).trans L
  refine dk E E (dk E E (aL (cl (vs:= [.slice (if c=n-(n/2) then A else A.map (·.add ((n-(n/2))*1))) (n-(n-(n/2))) (c-(n-(n/2))),a4 base]) e ((ih (by omega) hbl hbu ((hd.drop (k:=n-(n/2)) (by omega)).ext L) (by omega)).mono (Gv.imp (WR.imp e.size))) E (by kernel_rfl) fun _ _ bf cb D=>?_)))
  obtain⟨_,_,_,rfl,bw,bd⟩:=bf
  exact aO E cb ⟨_,_,_,rfl,bw,bd⟩
 ·intro _ bv
  have e:=(Ext.refl w).trans bv
  refine eE E E fun _ _ br _ bi=>?_
  obtain⟨X,F,O,rfl,_,h⟩:=br
  have h:=h.ext bi
  refine eE E E fun _ _ ao _ aj=>?_
  obtain⟨av,ae,ah,rfl,_,f⟩:=ao
  have f:=f.ext aj
  refine eE E E fun _ _ ai _ U=>?_
  obtain⟨Z,ba,ap,rfl,_,j⟩:=ai
  have j:=j.ext U
  refine aL (cl (vs:= [a9 X F O,a9 av ae ah,a9 Z ba ap]) e (GP e.size h.wi f.wi j.wi (by omega) (by omega)) E (by kernel_rfl) fun _ _ ar ag D=>?_)
  obtain⟨_,_,_,rfl,aw,am⟩:=ar
  exact aO E ag ⟨_,_,_,rfl,aw,am⟩
 ·intro _ aa
  have e:=(Ext.refl w).trans aa
  refine dk E E (dk E E (dk E E (dk E E (eE E E fun _ _ ak _ au=>?_))))
  obtain⟨_,_,_,rfl,_,r⟩:=ak
  have r:=r.ext au
  refine dk E E (dk E E (eE E E fun _ _ W _ ay=>?_))
  obtain⟨_,_,_,rfl,_,q⟩:=W
  have q:=q.ext ay
  refine dk E E (dk E E (dk E E (dk E E (eE E E fun _ _ ab _ M=>?_))))
  obtain⟨_,_,_,rfl,_,p⟩:=ab
  have p:=p.ext M
  refine eE E E fun _ _ az _ ax=>?_
  obtain⟨aq,Y,I,rfl,V,o⟩:=az
  have o:=o.ext ax
  refine aL (mv 1 E (bA (fF (aJ (aW (bO (aV [a9 aq Y I] E ⟨rfl,i3⟩ ?_)))))))
  have hv:(cC base (ds.take (n-(n/2))))*(base^(n/2))+(cC base (ds.drop (n-(n/2))))=cC base ds:=ES hd.len (by omega)
  exact⟨_,rfl,⟨_,_,_,rfl,hv▸V,hv▸o⟩,e⟩
theorem yE (hbl:2≤base)(hbu:base≤36)(hd:Rb base w A n c ds)(hlow:n≤200):aU aG 122 #[a9 A n c,a4 base] w (Gv w (WR w.heap.size (cC base ds))):=by
 refine bJ Tryz.func122 E (n:=81) E (bq E) (args:= [a9 A n c,a4 base]) (bH [(0,a9 A n c),(1,a4 base)] ⟨rfl,rfl,i3⟩ (sr (mv 1 E (a7 (aD (sr (mv 1 E (pu (v:= a4 n) E (aA E E E false (fH (a:=n) (b:=200) E E) (a7 (aI E (aY (aJ ?_)))))))))))))
 refine sr (mv 1 E (bC E E (vs:= [a4 base]) (by kernel_rfl) (by decide) (yD hbl hbu) ?_))
 rintro _ v1 ⟨f,X,_,rfl,r3,e2⟩
 have bv:=X.pos hbu
 have bi:=X.le64
 refine bB ?_
 have j:=(Ext.refl w).trans e2
 obtain⟨_,_,rfl,rfl,rfl⟩:=r3
 refine mv 1 E (pu (v:= a4 f) E (pu (v:= a5 ((base^f:Nat):Int)) E (mv 2 E (a7 (sr (mv 1 E (a7 (aD (bI ?_)))))))))
 refine dJ (T:=a6×List Nat×List Nat×Option a8×Nat×Nat×Option a8×Nat×Nat)
  (fun⟨wr,pre,rest,DA,dn,dc,QA,qn,qc⟩=> [(0,a9 DA dn dc),(1,a4 base),(7,a4 f),(9,a9 QA qn qc)])
  (fun⟨wr,pre,rest,DA,dn,dc,QA,qn,qc⟩=>wr)
  (fun⟨wr,pre,rest,DA,dn,dc,QA,qn,qc⟩=>(Ext w wr)∧(pre++rest=ds)∧(qn=(wd (cC base pre)).length)∧(Own wr w.heap.size 50 1 QA qn qc ((wd (cC base pre)).map bG))∧(Rb base wr DA dn dc rest))
  (fun⟨wr,pre,rest,DA,dn,dc,QA,qn,qc⟩=>dn)
  (⟨v1,[],ds,A,n,c,none,0,0⟩:a6×List Nat×List Nat×Option a8×Nat×Nat×Option a8×Nat×Nat) ⟨j,rfl,rfl,(Own.nil _ _ _ _),(hd.ext e2)⟩ E ⟨rfl,rfl,rfl,rfl,i3⟩ ?_
 rintro⟨wr,pre,rest,DA,dn,dc,QA,qn,qc⟩ ⟨j,o,ab,D,h⟩
 refine d9 [(0,a9 DA dn dc),(1,a4 base),(7,a4 f),(9,a9 QA qn qc)] wr E ⟨rfl,rfl,rfl,rfl,i3⟩ (aD (aD ?_))
 by_cases bu:dn>0
 ·refine aE (mv 1 E (pu (v:= a4 dn) E (aA E E E true (iM (a:=dn) (b:=0) E E) (a7 (b8 E (aY (aJ (bI (sr (mv 2 E (pu (v:= a4 dn) E (xD E E E (((min f dn:Nat):Int)) (by omega) (by decide) (mv 1 E ?_)))))))))))))
  refine a7 (sr (mv 2 E (a7 (aD (sr (mv 2 E (kA E E i7 iV (lo:=0) (hi:=min f dn) E E (by omega) (by have:=h.rv.le;omega) (v:= a9 DA (min f dn) dc) (nA _ _ _) (by decide) (pu (v:= a4 (((min f dn):Nat):Int)) E (mv 1 E (a7 (bI ?_)))))))))))
  refine dJ (T:=a6×Nat×Nat×Nat)
   (fun⟨wq,i,v,p⟩=> [(0,a9 DA dn dc),(1,a4 base),(7,a4 f),(10,a4 ((min f dn:Nat):Int)),(9,a9 QA qn qc),(11,a5 v),(12,a5 p),(53,a9 DA (min f dn) dc),(54,a4 (((min f dn):Nat):Int)),(55,a4 i)])
   (fun⟨wq,i,v,p⟩=>wq)
   (fun⟨wq,i,v,p⟩=>(Ext w wq)∧(i≤min f dn)∧(v=cC base (rest.take i))∧(p=base^i)∧(Own wq w.heap.size 50 1 QA qn qc ((wd (cC base pre)).map bG))∧(Rb base wq DA dn dc rest)∧(Rb base wq DA (min f dn) dc (rest.take (min f dn))))
   (fun⟨wq,i,v,p⟩=>min f dn-i)
   (⟨wr,0,0,1⟩:a6×Nat×Nat×Nat) ⟨j,(cE _),rfl,rfl,D,h,(h.take (k:=min f dn) (by omega))⟩ E ⟨rfl,rfl,rfl,rfl,rfl,rfl,rfl,rfl,rfl,rfl,i3⟩ ?_
  rintro⟨wq,i,v,p⟩ ⟨j,hi,W,r,D,h,q⟩
  refine d9 [(0,a9 DA dn dc),(1,a4 base),(7,a4 f),(10,a4 ((min f dn:Nat):Int)),(9,a9 QA qn qc),(11,a5 v),(12,a5 p),(53,a9 DA (min f dn) dc),(54,a4 (((min f dn):Nat):Int)),(55,a4 i)] wq E ⟨rfl,rfl,rfl,rfl,rfl,rfl,rfl,rfl,rfl,rfl,i3⟩ (aD ?_)
  by_cases H:i<min f dn
  ·have hx:=q.dig (i:=i) H
   have au:v<base^i:=by rw [W];have:=tE (b:=base) (by omega) (rest.take i) (uK h.wf i);rwa [cV,fK (by rw [h.len];omega)] at this
   have V:=FQ X (by omega) (show i+1≤f by omega) au hx
   rw [←r] at V
   obtain⟨_,_⟩:=V
   refine aE (aA E E E true (d5 (a:=i) (b:=min f dn) E E) (a7 (aD (b8 E (aY (aJ (aD (bI (sr ?_)))))))))
   obtain⟨p7,ba,aj,_⟩:=(q).at (by decide) (i:=i) (by omega)
   refine cG E E E i7 iV i E p7 ba (aH E E (cO D7 aj) (mv 1 E (a7 (sr (mv 2 E (eH E E (v:= a5 (IntKind.u64.wrap ((base:Nat):Int))) (v':= a5 base) (jR (by first | omega | exact hle64)) (bF E E E ((v*base:Nat):Int) (vW (a:=v) (b:=base) E E) (mv 1 E (eH E E (v:= a5 (IntKind.u64.wrap (((rest.take (min f dn)).getD i 0:Nat):Int))) (v':= a5 (((rest.take (min f dn)).getD i 0:Nat):Int)) (jR (by first | omega | exact hle64)) (bF E E E (((v*base)+((rest.take (min f dn)).getD i 0):Nat):Int) (OS (a:=v*base) (b:=(rest.take (min f dn)).getD i 0) E E (by omega)) (mv 1 E (a7 (aE ?_)))))))))))))
   refine mv 2 E (eH E E (v:= a5 (IntKind.u64.wrap ((base:Nat):Int))) (v':= a5 base) (jR (by first | omega | exact hle64)) (bF E E E ((p*base:Nat):Int) (vW (a:=p) (b:=base) E E) (mv 1 E (bA (bU (aJ (aE (bF E E E ((i+1:Nat):Int) (d6 (a:=i) (b:=1) E E) (mv 1 E (bA (cW (⟨wq,i+1,v*base+(rest.take (min f dn)).getD i 0,p*base⟩:a6×Nat×Nat×Nat) ⟨j,(by omega),(by rw [xX H (by rw [h.len];omega),tD,←W]),(by rw [r,dK]),D,h,q⟩ (show min f dn-(i+1)<min f dn-i by omega) E ⟨rfl,rfl,rfl,rfl,rfl,rfl,rfl,rfl,rfl,rfl,i3⟩)))))))))))
  ·have ae:i=min f dn:=by omega
   have L:p≤18446744073709551615:=by rw [r];exact aN (fJ (by omega) (by omega)) X.le
   have aq:v≤18446744073709551615:=by have:=tE (b:=base) (by omega) (rest.take i) (uK h.wf i);rw [cV,fK (by rw [h.len];omega),←r,←W] at this;omega
   have bg:(wd (cC base pre)).length≤200:=by have h1:=rG hbu (ds:=pre) (fun x hx=>hd.wf x (by rw [←o];exact List.mem_append_left _ hx));have h2:=hd.len;rw [←o,cK] at h2;omega
   have bw:(wd (cC base pre*p)).length≤201:=by have:=JP (cC base pre) p;have:=JR L;omega
   have hm:cC base (pre++rest.take (min f dn))=cC base pre*p+v:=by rw [←ae,EU (by rw [h.len];omega),r,W]
   refine aE (aA E E E false (f8 (a:=i) (b:=min f dn) E E) (a7 (aD (aI E (dA (d7 (dG (d8 (aJ (sr (mv 2 E (cl (vs:= [a9 QA qn qc,a5 p]) j (GN j.size D.wi (by omega) L) E (by kernel_rfl) fun _ _ ag e9 O=>?_))))))))))))
   obtain⟨ai,am,aw,rfl,_,az⟩:=ag
   refine mv 1 E (dN E E (k:=1) (e:=50) [a5 v] (fun _=>by kernel_rfl) fun bd _ I=>?_)
   have aa:=O1.mk_ (x:=v) (b:=w.heap.size) I O.size
   have F:=I.ext
   have M:=O.trans F
   refine cl (vs:= [a9 ai am aw,a9 (some ⟨bd,0,none⟩) 1 1]) M (GT M.size (az.ext F).wi (by omega) (IG aa aq) (by decide)) E (by kernel_rfl) fun _ ay av U Z=>?_
   obtain⟨Y,ax,ap,rfl,ar,ao⟩:=av
   refine mv 1 E (a7 (aE (mv 2 E (kA E E i7 iV (lo:=min f dn) (hi:=dn) E E (by omega) (by have:=(h.ext (e9.t (F.t U))).rv.le;omega) (v:= .slice (if dc=min f dn then DA else DA.map (·.add ((min f dn)*1))) (dn-(min f dn)) (dc-(min f dn))) (y6 _ _ _ _) (by decide) (mv 1 E (bA (bU (cW (⟨ay,pre++rest.take (min f dn),rest.drop (min f dn),if dc=min f dn then DA else DA.map (·.add ((min f dn)*1)),dn-(min f dn),dc-(min f dn),Y,ax,ap⟩:a6×List Nat×List Nat×Option a8×Nat×Nat×Option a8×Nat×Nat) ⟨Z,(by rw [List.append_assoc,kT];exact o),(by rw [hm];exact ar),(by rw [hm];exact ao),((h.ext (e9.t (F.t U))).drop (k:=min f dn) (by omega))⟩ (show dn-min f dn<dn by omega) E ⟨rfl,rfl,rfl,rfl,i3⟩))))))))
 ·refine aE (mv 1 E (pu (v:= a4 dn) E (aA E E E false (fH (a:=dn) (b:=0) E E) (a7 (aI E (dA (d7 (dG (d8 (aJ (sr (mv 2 E (bA ?_)))))))))))))
  refine aJ (aW (aV [a9 QA qn qc] E ⟨rfl,i3⟩ ?_))
  have ah:rest= []:=kU.1 (by have:=h.len;omega)
  rw [ah,fA] at o
  exact⟨_,rfl,⟨_,_,_,rfl,o▸ab,o▸D⟩,j⟩
theorem yF:∀N,DQ N
 | 0=>fun hn hbl hbu hd _=>yE hbl hbu hd (by omega)
 | N+1=>by
  intro hn hbl hbu hd hm
  rename_i w A n c base ds
  by_cases h:200<n
  ·exact GE (yF N) hn hbl hbu hd hm h
  ·exact yE hbl hbu hd (by omega)
theorem GF (hb:b≤w.heap.size)(hbl:2≤base)(hbu:base≤36)(hd:Rb base w A n c ds)(hn:n≤17179869184):aU aG 122 #[a9 A n c,a4 base] w (Gv w (WR b (cC base ds))):=
 (yF n (aZ _) hbl hbu hd hn).mono (Gv.imp (WR.imp hb))
theorem KM {l:List Nat}(h:i<l.length):l.getD i 0∈l:=by
 rw [bE,bS h];exact jA h
theorem CK {l:List Nat}(h:∀c,c∈l→dv c<b):∀x,x∈l.map dv→x<b:=by
 intro x f
 obtain⟨c,e,rfl⟩:=iQ.1 f
 exact h c e
theorem GK (hbl:2≤base)(hbu:base≤36)(hbs:∀b,b∈bs→b<256)(hlen:bs.length≤17179869184):aU aG 114 #[.string (aB bs),a4 base] w (fun e w'=>(kN base bs→Gv w (T2 (WR w.heap.size (cC base (bs.map dv))) (Is (a4 0))) e w')∧(¬kN base bs→Gv w (T2 (Is (a9 none 0 0)) (Is (a4 7))) e w')):=by
 refine bJ Tryz.func114 E (n:=41) E (bq E) (args:= [.string (aB bs),a4 base]) (bH [(0,.string (aB bs)),(1,a4 base)] ⟨rfl,rfl,i3⟩ (sr (mv 2 E (a7 (aD (sr (mv 1 E (aA E E E false (f8 (a:=base) (b:=2) E E) (mv 2 E (aA E E E false (fH (a:=base) (b:=36) E E) (pu (v:= ik) E (a7 (aI E ?_)))))))))))))
 refine aY (aJ (sr (mv 1 E (eH E E (v:= a4 (((aB bs).size:Nat):Int)) (v':= a4 ((bs.length:Nat):Int)) (by rw [eD]) (xE (k:=bs.length) E E E i7 mB E (by omega) (by decide) fun g1 _ Y e4=>?_)))))
 have Y:=Y.mono (Ext.refl w).size
 have j:=(Ext.refl w).trans e4
 refine mv 1 E (a7 (aD (sr (mv 1 E (sZ (bs:=bs) E E Tryz.underlying9 fun g5 v6 ag bf e9=>?_)))))
 have aa:w.heap.size≤g5:=by rw [←ag];exact j.size
 clear ag
 have q:=j.trans e9
 refine a7 (bI ?_)
 refine dJ (T:=a6×Nat×Option a8×Nat)
  (fun⟨wr,p,OA,oc⟩=> [(0,.string (aB bs)),(1,a4 base),(6,a9 OA p oc),(20,a1 g5 0)])
  (fun⟨wr,p,OA,oc⟩=>wr)
  (fun⟨wr,p,OA,oc⟩=>(Ext w wr)∧(It wr g5 bs p)∧(Own wr w.heap.size 5 1 OA p oc (((bs.take p).map dv).map B8))∧(p≤bs.length)∧(∀c,c∈bs.take p→dv c<base))
  (fun⟨wr,p,OA,oc⟩=>bs.length-p)
  (⟨v6,0,(some ⟨g1,0,none⟩),bs.length⟩:a6×Nat×Option a8×Nat) ⟨q,bf,(Y.ext e9),(cE _),(fun c hc=>absurd hc (by simp))⟩ E ⟨rfl,rfl,rfl,rfl,i3⟩ ?_
 rintro⟨wr,p,OA,oc⟩ ⟨j,hI,hO,hp,hg⟩
 refine d9 [(0,.string (aB bs)),(1,a4 base),(6,a9 OA p oc),(20,a1 g5 0)] wr E ⟨rfl,rfl,rfl,rfl,i3⟩ (aD ?_)
 by_cases ap:p<bs.length
 ·refine aE ?_
  have O:=hI
  refine xB E E hbs O (by omega) (by decide) fun _ f _ o U ah=>?_
  have q:=ah.ext j aa
  refine pu (v:= gx) E (a7 (aD (b8 E (aY (aJ (bI (sr (pu (v:= .int .i32 ((f:Nat):Int)) E (mv 1 E (a7 (sr (mv 1 E (cl (vs:= [.int .i32 ((f:Nat):Int)]) q (oM o.le) E (by kernel_rfl) fun _ _ bg X I=>?_)))))))))))))
  obtain rfl:=bg
  refine mv 1 E (a7 (aD (aD ?_)))
  by_cases ce:dv f≥base
  ·have r:¬kN base bs:=fun h=>by have:=h.2 (bs.getD p 0) (KM ap);rw [←o.dv] at this;omega
   refine aE (mv 2 E (aA E E E true (cJ (a:=dv f) (b:=base) E E) (a7 (b8 E (sr (mv 2 E (a7 (aW (bO (bZ (pE (bZ (bO ?_)))))))))))))
   refine aV [S0,a4 7] E ⟨rfl,rfl,i3⟩ ?_
   exact⟨fun h=>absurd h r,fun _=>⟨_,rfl,⟨_,_,rfl,rfl,rfl⟩,I⟩⟩
  ·have h1z:=o.one (by omega)
   have bh:=MW f
   refine aE (mv 2 E (aA E E E false (cR (a:=dv f) (b:=base) E E) (a7 (aI E (aY (aJ (aE (mv 2 E (eH E E (v:= .int .u8 (IntKind.u8.wrap ((dv f:Nat):Int))) (v':= .int .u8 ((dv f:Nat):Int)) (vK) (dN E E (k:=1) (e:=5) [.int .u8 ((dv f:Nat):Int)] (fun _=>by kernel_rfl) fun _ _ nb=>?_))))))))))
   have Z:=nb.bk
   have F:=nb.ext
   clear nb
   have ae:=I.trans F
   have D:=((hO.updI O ah).ext (X.t F))
   refine fB E E E i7 mB E D ae.size [.int .u8 ((dv f:Nat):Int)] E (nE _ Z) E fun ak aj ao ab L _=>?_
   have bm:=L.ext ae (fun p hp=>(D.block p hp).1)
   have V:Own ao w.heap.size 5 1 ak (p+1) aj ((((bs.take p).map dv)++ [dv f]).map B8):=by have h:=ab;simp only [List.map_append,List.map_cons,List.map_nil] at h⊢;exact h
   refine mv 1 E (bA (bU ?_))
   have am:bs.take (p+1)=bs.take p++ [bs.getD p 0]:=by have:=xX (n:=bs.length) ap (aZ _);rwa [List.take_length] at this
   have aq:=o.dv
   refine cW (⟨ao,p+1,ak,aj⟩:a6×Nat×Option a8×Nat) ⟨bm,(by have h:=((U.ext (X.t F)).updO L (pA D (U.ext (X.t F))));rwa [h1z.1] at h),(by rw [am,List.map_append];rw [aq] at V;exact V),(by omega),(by rw [am];intro c hc;rcases eQ.1 hc with h | h;(· exact hg c h);(· rw [fT.1 h,←aq];omega))⟩ (show bs.length-(p+1)<bs.length-p by omega) rfl ⟨rfl,rfl,rfl,rfl,trivial⟩
 ·have H:p=bs.length:=by omega
  refine aE ?_
  have ai:=hI
  refine t6 E E ai (by omega) (by decide) (pu (v:= ik) E (a7 (aD (aI E (dA (d7 (dG (d8 (aJ (aD (aD ?_)))))))))))
  by_cases hz:p=0
  ·have r:¬kN base bs:=fun h=>h.1 (kU.1 (by omega))
   refine aE (mv 1 E (pu (v:= a4 p) E (aA E E E true (dB (a:=p) (b:=0) E E) (a7 (b8 E (sr (mv 2 E (a7 (aW (bO (aV [S0,a4 7] E ⟨rfl,rfl,i3⟩ ?_)))))))))))
   exact⟨fun h=>absurd h r,fun _=>⟨_,rfl,⟨_,_,rfl,rfl,rfl⟩,j⟩⟩
  ·have W:kN base bs:=⟨fun e=>by rw [e] at H;simp at H;omega,by have:=hg;rwa [H,List.take_length] at this⟩
   have ch:(wd (cC base ((bs.take p).map dv))).length≤p:=by have:=rG (b:=base) hbu (ds:=(bs.take p).map dv) (CK hg);rw [List.length_map,cV] at this;omega
   refine aE (mv 1 E (pu (v:= a4 p) E (aA E E E false (bV (a:=p) (b:=0) E E) (a7 (aI E (aY (aJ (sr (mv 2 E (cl (vs:= [a9 OA p oc,a4 base]) j (GF j.size hbl hbu (hO.rb (CK hg)) (by omega)) E (by kernel_rfl) fun _ _ av _ q=>?_))))))))))
   obtain⟨bj,bd,ba,rfl,_,bo⟩:=av
   refine cl (vs:= [a9 bj bd ba]) q (GQ q.size bo.wi (by omega)) E (by kernel_rfl) fun _ _ aw _ I=>?_
   obtain⟨bu,az,ax,rfl,br,bi⟩:=aw
   refine mv 2 E (a7 (aW (aV [a9 bu az ax,I0] E ⟨rfl,rfl,i3⟩ ?_)))
   have M:cC base ((bs.take p).map dv)=cC base (bs.map dv):=by rw [H,List.take_length]
   exact⟨fun _=>⟨_,rfl,⟨_,_,rfl,⟨_,_,_,rfl,M▸br,M▸bi⟩,rfl⟩,I⟩,fun h=>absurd W h⟩
theorem GJ (hb:b≤w.heap.size)(hbl:2≤base)(hbu:base≤36)(hbs:∀b,b∈bs→b<256)(hlen:bs.length≤17179869184)(hg:kN base bs):aU aG 114 #[.string (aB bs),a4 base] w (Gv w (T2 (WR b (cC base (bs.map dv))) (Is (a4 0)))):=(GK hbl hbu hbs hlen).mono fun _e _w' h=>Gv.imp (T2.imp (WR.imp hb) Is.imp) _ _ (h.1 hg)
theorem GI (hS:Signs w)(hx:Wi w A an ac m)(hal:an≤4194304)(hbl:2≤base)(hbu:base≤36):aU aG 63 #[a9 A an ac,a4 base] w (Gv w (T2 (Is (.string (aB (aT base m)))) (Is (a4 0)))):=by
 have au:(wd m).length≤4194304:=aN hx.len hal
 have W:0+max 0 (db base m).length≤137438953472:=by have:=oX hbl au;omega
 refine bJ Tryz.func63 E (n:=73) E (bq E) (args:= [a9 A an ac,a4 base]) (bH [(0,a9 A an ac),(1,a4 base)] ⟨rfl,rfl,i3⟩ (sr (mv 2 E (a7 (aD (sr (mv 1 E (aA E E E false (f8 (a:=base) (b:=2) E E) (mv 2 E (aA E E E false (fH (a:=base) (b:=36) E E) (pu (v:= ik) E (a7 (aI E ?_)))))))))))))
 refine aY (aJ (sr (mv 1 E (cl (vs:= [a9 A an ac]) aF (BP (hx.ext aF) (by omega)) E (by kernel_rfl) fun _ _ r3 _ ae=>?_))))
 obtain⟨A4,o,c4,rfl,j4,o4⟩:=r3
 refine mv 1 E (a7 (aD (aD ?_)))
 by_cases co:o=0
 ·have ag:m=0:=kE.1 (by omega)
  refine aE (mv 1 E (pu (v:= a4 o) E (aA E E E true (dB (a:=o) (b:=0) E E) (a7 (b8 E (sr (mv 2 E (a7 (aW (bO (aV [.string (aB ([48])),I0] E ⟨rfl,rfl,i3⟩ ?_)))))))))))
  have r:([48]:List Nat)=aT base m:=by subst ag;rfl
  exact⟨_,rfl,⟨_,_,rfl,(show Value.string _=Value.string _ from congrArg (fun l=>Value.string (aB l)) r),rfl⟩,ae⟩
 ·have ag:m≠0:=fun e=>co (by rw [j4,e];rfl)
  refine aE (mv 1 E (pu (v:= a4 o) E (aA E E E false (bV (a:=o) (b:=0) E E) (a7 (aI E (aY (aJ (sr (mv 1 E (bC E E (vs:= [a4 base]) (by kernel_rfl) (by decide) (yD hbl hbu) ?_))))))))))
  rintro _ v5 ⟨q,p9,_,rfl,r7,e6⟩
  refine bB ?_
  have M:=ae.trans e6
  obtain⟨_,_,rfl,rfl,rfl⟩:=r7
  refine mv 1 E (pu (v:= a4 q) E (pu (v:= a5 ((base^q:Nat):Int)) E (mv 2 E (a7 (sr (mv 3 E (pu (v:= .agg #[a4 base,a4 q,a5 ((base^q:Nat):Int),S0,S0]) E (iE E E (vs:= [a4 base,a4 q,a5 ((base^q:Nat):Int),S0,S0]) E fun f _ nb=>?_))))))))
  have ar:=Nat.le_of_eq nb.at_
  have D:w.heap.size≤v5.heap.size:=M.size
  have ah:=nb.bk
  have bu:w.heap.size≤f:=by rw [←nb.at_];exact M.size
  have Z:=nb.ext
  clear nb
  have V:=M.trans Z
  refine mv 1 E (a7 (aD (aD ?_)))
  by_cases dt:o>12
  ·refine aE (mv 1 E (pu (v:= a4 o) E (aA E E E true (iM (a:=o) (b:=12) E E) (a7 (b8 E (aD ?_))))))
   have cm:1≤q:=by refine Nat.pos_of_ne_zero (fun e=>?_);have:=p9.gt;rw [e,dY,Nat.pow_one] at this;omega
   have cf:2≤base^q:=aN hbl (aN (Nat.le_of_eq (Nat.pow_one base).symm) (fJ (by omega) cm))
   have bo:=p9.le
   refine aE (mv 1 E (dN E E (k:=1) (e:=50) [a5 ((base^q:Nat):Int)] (fun _=>by kernel_rfl) fun cz dg nb=>?_))
   have ay:=nb.bk
   have aj:=nb.ext
   clear nb
   have Y:=V.trans aj
   refine mv 1 E (a7 (bI ?_))
   refine dJ (T:=a6×Nat×Option a8×Nat×Nat×Option a8×Nat)
    (fun⟨wr,j,QA,qn,qc,PA,pc⟩=> [(0,a9 A4 o c4),(1,a4 base),(6,a4 q),(7,a5 ((base^q:Nat):Int)),(8,a1 f 0),(9,a9 QA qn qc)])
    (fun⟨wr,j,QA,qn,qc,PA,pc⟩=>wr)
    (fun⟨wr,j,QA,qn,qc,PA,pc⟩=>(Ext w wr)∧(j=0∨(base^q)^2^(j-1)≤m)∧(qn=(wd ((base^q)^2^j)).length)∧(qn≤8388608)∧(Own wr 0 50 1 QA qn qc ((wd ((base^q)^2^j)).map bG))∧(Bk wr f 136 [a4 base,a4 q,a5 ((base^q:Nat):Int),a9 PA j pc,S0])∧(Pw wr v5.heap.size PA j pc (base^q))∧(v5.heap.size≤wr.heap.size)∧(Own wr 0 50 1 A4 o c4 ((wd m).map bG)))
    (fun⟨wr,j,QA,qn,qc,PA,pc⟩=>64-j)
    (⟨dg,0,(some ⟨cz,0,none⟩),1,1,none,0⟩:a6×Nat×Option a8×Nat×Nat×Option a8×Nat) ⟨Y,(Or.inl E),(by rw [Nat.pow_zero,Nat.pow_one];exact oY bo (by omega)),(by decide),(by rw [Nat.pow_zero,Nat.pow_one];exact (OL ay bo (by omega))),(ah.ext aj),(Pw.nil _ _ _),((aN Z.size aj.size)),((o4.ext (e6.t (Z.t aj)))).mono (cE _)⟩ E ⟨rfl,rfl,rfl,rfl,rfl,rfl,i3⟩ ?_
   rintro⟨wr,j,QA,qn,qc,PA,pc⟩ ⟨ae,ci,cj,ch,hq,b_g,bw,X,aa⟩
   refine d9 [(0,a9 A4 o c4),(1,a4 base),(6,a4 q),(7,a5 ((base^q:Nat):Int)),(8,a1 f 0),(9,a9 QA qn qc)] wr E ⟨rfl,rfl,rfl,rfl,rfl,rfl,i3⟩ (aD (aD ?_))
   have dm:j≤29:=by rcases ci with h | h;(· omega);(· have:=AW (yX cf h au) (by omega);omega)
   by_cases av:(base^q)^2^j≤m
   ·have ck:(wd ((base^q)^2^j*(base^q)^2^j)).length≤8388608:=JQ (aN (lB av) au)
    refine aE (mv 2 E (cl (vs:= [a9 QA qn qc,a9 A4 o c4]) ae (oN hq.wi aa.wi) E (by kernel_rfl) fun _ _ dd I M=>?_))
    obtain rfl:=dd
    refine aA E E E true (O2 av) (a7 (b8 E (aY (aJ (bI (sr (mv 2 E (pf f 0 E (pf f 3 E (aH E E (aS (fun _=>by kernel_rfl) (b_g.ext I) E) (mv 1 E (dN E E (k:=1) (e:=44) [a9 QA qn qc] (fun _=>by kernel_rfl) fun _ _ nb=>?_))))))))))))
    have bh:=nb.bk
    have H:=nb.ext
    clear nb
    have V:=M.trans H
    refine EK E E E (bw.ext (I.t H)) (aN X ((aN I.size H.size))) bh cj ch (hq.ext (I.t H)) (by omega) (by decide) fun cd cb _ ap F ⟨_,O⟩=>?_
    have Y:=F.ext V (fun p hp=>aN D (O.block p hp).1)
    refine pf f 0 E (pf f 3 E ?_)
    have L:=((b_g.ext (I.t H)).updO F (cT O (b_g.ext (I.t H)) (by decide)))
    refine fO E E E (fun _=>by kernel_rfl) E L (bq E) E [a4 base,a4 q,a5 ((base^q:Nat):Int),a9 cd (j+1) cb,S0] E fun _ ai U _=>?_
    have aw:=U.ext Y bu
    refine a7 (aD (aD ?_))
    by_cases dl:2*qn>o+2
    ·refine aE (mv 1 E (pu (v:= a4 qn) E (bF E E E ((2*qn:Nat):Int) (lK (a:=2) (b:=qn) E E) (mv 1 E (pu (v:= a4 o) E (bF E E E ((o+2:Nat):Int) (d6 (a:=o) (b:=2) E E) (aA E E E true (iM (a:=2*qn) (b:=o+2) E E) (a7 (b8 E (dA (d7 (vA (dG ?_)))))))))))))
     refine d8 (aJ (sr (mv 3 E (pf f 0 E (pf f 3 E (aH E E (aS (fun _=>by kernel_rfl) ai E) (pu (v:= a4 (((j+1):Nat):Int)) E (bF E E E (((j+1:Nat):Int)-1) (gL E) (bC E E (vs:= [a1 f 0,a9 A4 o c4,a4 (((j+1:Nat):Int)-1),I0]) (by kernel_rfl) (by decide) (qT (j+1) (lb:=v5.heap.size) (bs:= []) E (hS.ext aw) (cU (mJ w _ (hS 0 (by decide))) D) hbl hbu ai (Own.nil _ _ _ _) ar (aN X ((aN (aN (aN I.size H.size) F.size) U.by_.size))) (((aa.ext (I.t H)).updOT O (by decide) F).updT L (by decide) U).wi (by omega) E p9 (by decide) W ((ap.updT L U (by decide) (by decide)).mono (cE _)) (aZ _) (by omega)) ?_)))))))))
     rintro _ _ ⟨rfl,_,_,_,bj,ba,bg,_⟩
     refine bB ?_
     have aq:=bg.ext aw D
     refine a7 (sr (mv 1 E (pf f 0 E (pf f 4 E (aH E E (aS (fun _=>by kernel_rfl) bj E) (qF E E ba (mv 2 E (a7 (aW (aV [.string (aB ([]++cN (d4 (db base m) 0))),I0] E ⟨rfl,rfl,i3⟩ ?_))))))))))
     have r:([]++cN (d4 (db base m) 0):List Nat)=aT base m:=by rw [List.nil_append,oS (cE _),aT,if_neg ag]
     exact⟨_,rfl,⟨_,_,rfl,(show Value.string _=Value.string _ from congrArg (fun l=>Value.string (aB l)) r),rfl⟩,aq⟩
    ·refine aE (mv 1 E (pu (v:= a4 qn) E (bF E E E ((2*qn:Nat):Int) (lK (a:=2) (b:=qn) E E) (mv 1 E (pu (v:= a4 o) E (bF E E E ((o+2:Nat):Int) (d6 (a:=o) (b:=2) E E) (aA E E E false (fH (a:=2*qn) (b:=o+2) E E) (a7 (aI E (aY (aJ (aE (mv 1 E ?_)))))))))))))
     refine cl (vs:= [a9 QA qn qc]) aw (tQ (cE _) (((hq.ext (I.t H)).updOT O (by decide) F).updT L (by decide) U).wi) E (by kernel_rfl) fun _ cr cg ak aq=>?_
     obtain⟨de,da,cx,rfl,bd,cv⟩:=cg
     refine mv 1 E (bA (bU (cW (⟨cr,j+1,de,da,cx,cd,cb⟩:a6×Nat×Option a8×Nat×Nat×Option a8×Nat) ⟨aq,(cA av),(by rw [bd,yV]),(by rw [bd];exact ck),(by rw [←yV];exact cv),(ai.ext ak),((ap.updT L U (by decide) (by decide)).ext ak),(aN X ((aN (aN (aN (aN I.size H.size) F.size) U.by_.size) ak.size))),((((aa.ext (I.t H)).updOT O (by decide) F).updT L (by decide) U).ext ak)⟩ (show 64-(j+1)<64-j by omega) E ⟨rfl,rfl,rfl,rfl,rfl,rfl,i3⟩)))
   ·refine aE (mv 2 E (cl (vs:= [a9 QA qn qc,a9 A4 o c4]) ae (oN hq.wi aa.wi) E (by kernel_rfl) fun _ _ df ab M=>?_))
    obtain rfl:=df
    refine aA E E E false (O3 (by omega)) (a7 (aI E (dA (d7 (dG (d8 (aJ (sr (mv 3 E (pf f 0 E (pf f 3 E (aH E E (aS (fun _=>by kernel_rfl) (b_g.ext ab) E) (pu (v:= a4 j) E ?_)))))))))))))
    refine bF E E E (((j:Nat):Int)-1) (gL E) (bC E E (vs:= [a1 f 0,a9 A4 o c4,a4 (((j:Nat):Int)-1),I0]) (by kernel_rfl) (by decide) (qT (j) (lb:=v5.heap.size) (bs:= []) E (hS.ext M) (cU (mJ w _ (hS 0 (by decide))) D) hbl hbu (b_g.ext ab) (Own.nil _ _ _ _) ar (aN X (ab.size)) (aa.ext ab).wi (by omega) E p9 (by decide) W ((bw.ext ab).mono (cE _)) (aZ _) (by omega)) ?_)
    rintro _ _ ⟨rfl,_,_,_,az,bv,br,_⟩
    refine bB ?_
    have V:=br.ext M D
    refine a7 (sr (mv 1 E (pf f 0 E (pf f 4 E (aH E E (aS (fun _=>by kernel_rfl) az E) (qF E E bv (mv 2 E (a7 (aW (aV [.string (aB ([]++cN (d4 (db base m) 0))),I0] E ⟨rfl,rfl,i3⟩ ?_))))))))))
    have r:([]++cN (d4 (db base m) 0):List Nat)=aT base m:=by rw [List.nil_append,oS (cE _),aT,if_neg ag]
    exact⟨_,rfl,⟨_,_,rfl,(show Value.string _=Value.string _ from congrArg (fun l=>Value.string (aB l)) r),rfl⟩,V⟩
  ·refine aE (mv 1 E (pu (v:= a4 o) E (aA E E E false (fH (a:=o) (b:=12) E E) (a7 (aI E (aY (aJ (sr (mv 3 E (pf f 0 E (pf f 3 E (aH E E (aS (fun _=>by kernel_rfl) ah E) (pu (v:= a4 0) E ?_)))))))))))))
   refine bF E E E (((0:Nat):Int)-1) (gL E) (bC E E (vs:= [a1 f 0,a9 A4 o c4,a4 (((0:Nat):Int)-1),I0]) (by kernel_rfl) (by decide) (qT 0 (lb:=v5.heap.size) (bs:= []) E (hS.ext V) (cU (mJ w _ (hS 0 (by decide))) D) hbl hbu ah (Own.nil _ _ _ _) ar (Z.size) (o4.ext (e6.t Z)).wi (by omega) E p9 (by decide) W (Pw.nil _ _ _) (aZ _) (by omega)) ?_)
   rintro _ _ ⟨rfl,_,_,_,bf,bz,bm,_⟩
   refine bB ?_
   have Y:=bm.ext V D
   refine a7 (sr (mv 1 E (pf f 0 E (pf f 4 E (aH E E (aS (fun _=>by kernel_rfl) bf E) (qF E E bz (mv 2 E (a7 (aW (aV [.string (aB ([]++cN (d4 (db base m) 0))),I0] E ⟨rfl,rfl,i3⟩ ?_))))))))))
   have r:([]++cN (d4 (db base m) 0):List Nat)=aT base m:=by rw [List.nil_append,oS (cE _),aT,if_neg ag]
   exact⟨_,rfl,⟨_,_,rfl,(show Value.string _=Value.string _ from congrArg (fun l=>Value.string (aB l)) r),rfl⟩,Y⟩
theorem Rune.eq (h:Rune bs p r z)(hr:r<128):z=1∧r=bs.getD p 0:=by
 by_cases h1:bs.getD p 0<128
 ·exact⟨(h.low h1).2,(h.low h1).1⟩
 ·have:=h.high (by omega);omega
theorem Rune.ne (h:Rune bs p r z)(hc:c<128)(hr:r≠c):bs.getD p 0≠c:=fun e=>hr (by rw [(h.low (by omega)).1,e])
def eY:Bool→List Nat→Option (List Nat)
 | b,[]=>if b then some [] else none
 | b,c::r=>if c=95∧b=true then eY false r else if dv c<10 then (eY true r).map (c:: ·) else none
theorem KG (hp:p<bs.length)(h:95=bs.getD p 0):eY true (bs.drop p)=eY false (bs.drop (p+1)):=by
 rw [pF hp,eY,if_pos ⟨h.symm,rfl⟩]
theorem B2 {b:Bool}(hp:p<bs.length)(h:dv (bs.getD p 0)<10):eY b (bs.drop p)=(eY true (bs.drop (p+1))).map (bs.getD p 0:: ·):=by
 rw [pF hp,eY,if_neg (fun e=>by rw [e.1] at h;exact absurd h (by decide)),if_pos h]
theorem B3 {b:Bool}(hp:p<bs.length)(h:¬dv (bs.getD p 0)<10)(h2:¬(bs.getD p 0=95∧b=true)):eY b (bs.drop p)=none:=by
 rw [pF hp,eY,if_neg h2,if_neg h]
theorem B4:(X.map (c:: ·)).map (pl++ ·)=X.map ((pl++ [c])++ ·):=by
 cases X with
 | none=>rfl
 | some x=>simp
theorem GS (hS:Signs w)(hx:Wi w A an ac m)(hal:an≤4194304):aU aG 32 #[a9 A an ac] w (Gv w (Is (.string (aB (aT 10 m))))):=by
 refine bJ Tryz.func32 E (n:=11) E (bq E) (args:= [a9 A an ac]) (bH [(0,a9 A an ac)] ⟨rfl,i3⟩ (sr (mv 1 E (a7 (sr (mv 1 E (cl (vs:= [a9 A an ac,a4 10]) aF (GI (base:=10) (hS.ext aF) hx (by omega) (by decide) (by decide)) E (by kernel_rfl) fun _ _ f _ e=>?_)))))))
 obtain⟨_,_,rfl,rfl,rfl⟩:=f
 refine mv 1 E (pu (v:= .string (aB (aT 10 m))) E (pu (v:= a4 0) E (mv 2 E (a7 (sr (mv 2 E (a7 (aW (aV [.string (aB (aT 10 m))] E ⟨rfl,i3⟩ ?_)))))))))
 exact⟨_,rfl,rfl,e⟩
theorem GM (hbs:∀b,b∈bs→b<256)(hlen:bs.length≤17179869184)(hg:kN 10 bs):aU aG 99 #[.string (aB bs)] w (Gv w (T2 (WR w.heap.size (cC 10 (bs.map dv))) (Is (a4 0)))):=by
 refine bJ Tryz.func99 E (n:=8) E (bq E) (args:= [.string (aB bs)]) (bH [(0,.string (aB bs))] ⟨rfl,i3⟩ (sr (mv 2 E (a7 (sr (mv 1 E (cl (vs:= [.string (aB bs),a4 10]) aF (GJ (Ext.refl w).size (base:=10) (by decide) (by decide) hbs hlen hg) E (by kernel_rfl) fun _ _ p _ e=>?_)))))))
 obtain⟨_,_,rfl,⟨j,f,h,rfl,o,q⟩,rfl⟩:=p
 refine pu (v:= a9 j f h) E (pu (v:= a4 0) E (mv 2 E (a7 (aW (aV [a9 j f h,I0] E ⟨rfl,rfl,i3⟩ ?_)))))
 exact⟨_,rfl,⟨_,_,rfl,⟨_,_,_,rfl,o,q⟩,rfl⟩,e⟩
theorem GL (hbs:∀b,b∈bs→b<256)(hlen:bs.length≤17179869184):aU aG 72 #[.string (aB bs)] w (fun e w'=>(∀pl,eY false bs=some pl→Gv w (T2 (WR w.heap.size (cC 10 (pl.map dv))) (Is (a4 0))) e w')∧(eY false bs=none→Gv w (T2 (Is (a9 none 0 0)) (Is (a4 7))) e w')):=by
 refine bJ Tryz.func72 E (n:=38) E (bq E) (args:= [.string (aB bs)]) (bH [(0,.string (aB bs))] ⟨rfl,i3⟩ (sr (mv 2 E (a7 (sr (mv 1 E (eH E E (v:= a4 (((aB bs).size:Nat):Int)) (v':= a4 ((bs.length:Nat):Int)) (by rw [eD]) (xE (k:=bs.length) E E E i7 mB E (by omega) (by decide) fun g1 _ aj e4=>?_))))))))
 have aj:=aj.mono (Ext.refl w).size
 have D:=(Ext.refl w).trans e4
 refine mv 1 E (a7 (sr (mv 1 E (a7 (aD (sr (mv 1 E (sZ (bs:=bs) E E Tryz.underlying9 fun g5 v6 ax ch e9=>?_))))))))
 have ar:w.heap.size≤g5:=by rw [←ax];exact D.size
 clear ax
 have o:=D.trans e9
 refine a7 (bI ?_)
 refine dJ (T:=a6×Nat×Bool×List Nat×Option a8×Nat×Nat)
  (fun⟨wr,p,bt,pl,OA,on,oc⟩=> [(0,.string (aB bs)),(4,a9 OA on oc),(5,.bool bt),(12,a1 g5 0)])
  (fun⟨wr,p,bt,pl,OA,on,oc⟩=>wr)
  (fun⟨wr,p,bt,pl,OA,on,oc⟩=>(Ext w wr)∧(It wr g5 bs p)∧(Own wr w.heap.size 5 1 OA on oc (pl.map B8))∧(p≤bs.length)∧(on≤p)∧(eY false bs=(eY bt (bs.drop p)).map (pl++ ·))∧(∀c,c∈pl→dv c<10)∧(∀c,c∈pl→c<256)∧(bt=true→pl≠ []))
  (fun⟨wr,p,bt,pl,OA,on,oc⟩=>bs.length-p)
  (⟨v6,0,false,[],(some ⟨g1,0,none⟩),0,bs.length⟩:a6×Nat×Bool×List Nat×Option a8×Nat×Nat) ⟨o,ch,(aj.ext e9),(cE _),(cE _),(by rw [List.drop_zero];cases eY false bs <;> simp),(fun c M=>absurd M (by simp)),(fun c M=>absurd M (by simp)),(fun h=>absurd h (by decide))⟩ E ⟨rfl,rfl,rfl,rfl,i3⟩ ?_
 rintro⟨wr,p,bt,pl,OA,on,oc⟩ ⟨D,hI,hO,hp,_,W,ab,Y,ce⟩
 refine d9 [(0,.string (aB bs)),(4,a9 OA on oc),(5,.bool bt),(12,a1 g5 0)] wr E ⟨rfl,rfl,rfl,rfl,i3⟩ (aD ?_)
 by_cases V:p<bs.length
 ·refine aE ?_
  have H:=hI
  refine xB E E hbs H (by omega) (by decide) fun cg f _ j q aa=>?_
  have o:=aa.ext D ar
  refine pu (v:= gx) E (a7 (aD (b8 E (aY (aJ (bI (sr (pu (v:= .int .i32 ((f:Nat):Int)) E (mv 1 E (a7 (bI (aD ?_))))))))))))
  by_cases h95r:f=95
  ·cases bt
   ·have ak:¬(bs.getD p 0=95∧false=true):=fun h=>absurd h.2 (by decide)
    refine aE (mv 1 E (aA E E E true (dB (a:=f) (b:=95) E E) (mv 2 E (pu (v:= ik) E (mv 1 E (a7 (aI E (aD ?_))))))))
    by_cases F:dv f<10
    ·have h1z:=j.one (by omega)
     refine aE (mv 1 E (cl (vs:= [.int .i32 ((f:Nat):Int)]) o (oM j.le) E (by kernel_rfl) fun _ _ ci ai r=>?_))
     obtain rfl:=ci
     refine aA E E E true (d5 (a:=dv f) (b:=10) E E) (mv 1 E (a7 (b8 E (sr (mv 2 E (eH E E (v:= .int .u8 (IntKind.u8.wrap ((f:Nat):Int))) (v':= .int .u8 ((f:Nat):Int)) (vK) (dN E E (k:=1) (e:=5) [.int .u8 ((f:Nat):Int)] (fun _=>by kernel_rfl) fun _ _ nb=>?_)))))))
     have ap:=nb.bk
     have Z:=nb.ext
     clear nb
     have I:=r.trans Z
     have L:=((hO.updI H aa).ext (ai.t Z))
     refine fB E E E i7 mB E L I.size [.int .u8 ((f:Nat):Int)] E (nE _ ap) E fun bi bf bo av ag _=>?_
     have ao:=ag.ext I (fun p hp=>(L.block p hp).1)
     have bj:Own bo w.heap.size 5 1 bi (on+1) bf ((pl++ [f]).map B8):=by have h:=av;simp only [List.map_append,List.map_cons,List.map_nil] at h⊢;exact h
     refine mv 1 rfl (a7 (aE (mv 1 rfl (bA (bU (bU (cW (⟨bo,p+1,true,pl++ [f],bi,on+1,bf⟩:a6×Nat×Bool×List Nat×Option a8×Nat×Nat) ⟨ao,(by have h:=((q.ext (ai.t Z)).updO ag (pA L (q.ext (ai.t Z))));rwa [h1z.1] at h),bj,(by omega),(by omega),(by rw [W,B2 V (by rw [←j.dv];exact F),B4,←h1z.2.1]),(fun c M=>by rcases eQ.1 M with h | h;(· exact ab c h);(· rw [fT.1 h];exact F)),(fun c M=>by rcases eQ.1 M with h | h;(· exact Y c h);(· rw [fT.1 h];omega)),(fun _=>by simp)⟩ (show bs.length-(p+1)<bs.length-p by omega) rfl ⟨rfl,rfl,rfl,rfl,trivial⟩)))))))
    ·rw [B3 V (by rw [←j.dv];exact F) ak] at W
     refine aE (mv 1 E (cl (vs:= [.int .i32 ((f:Nat):Int)]) o (oM j.le) E (by kernel_rfl) fun _ _ ck _ r=>?_))
     obtain rfl:=ck
     refine aA E E E false (f8 (a:=dv f) (b:=10) E E) (mv 1 E (a7 (aI E (sr (mv 2 E (a7 (aW (bZ (bZ (pE (bZ (bO (aV [S0,a4 7] E ⟨rfl,rfl,i3⟩ ?_)))))))))))))
     exact⟨fun ql U=>by rw [W] at U;simp at U,fun _=>⟨_,rfl,⟨_,_,rfl,rfl,rfl⟩,r⟩⟩
   ·have h1z:=j.eq (by omega)
    have da:10≤36:=by decide
    refine aE (mv 1 E (aA E E E true (dB (a:=f) (b:=95) E E) (mv 2 E (pu (v:= gx) E (mv 1 E (a7 (b8 E (aE (mv 1 E (bA (bU (bU (cW (⟨cg,p+1,false,pl,OA,on,oc⟩:a6×Nat×Bool×List Nat×Option a8×Nat×Nat) ⟨o,(by have h:=q;rwa [h1z.1] at h),(hO.updI H aa),(by omega),(by omega),(by rw [W,KG V (by rw [←h1z.2];omega)]),ab,Y,(fun h=>absurd h (by decide))⟩ (show bs.length-(p+1)<bs.length-p by omega) E ⟨rfl,rfl,rfl,rfl,i3⟩)))))))))))))
  ·have ak:¬(bs.getD p 0=95∧bt=true):=fun h=>j.ne (by decide) h95r h.1
   refine aE (mv 1 E (aA E E E false (bV (a:=f) (b:=95) E E) (mv 2 E (pu (v:= ik) E (mv 1 E (a7 (aI E (aD ?_))))))))
   by_cases F:dv f<10
   ·have h1z:=j.one (by omega)
    refine aE (mv 1 E (cl (vs:= [.int .i32 ((f:Nat):Int)]) o (oM j.le) E (by kernel_rfl) fun _ _ bz am r=>?_))
    obtain rfl:=bz
    refine aA E E E true (d5 (a:=dv f) (b:=10) E E) (mv 1 E (a7 (b8 E (sr (mv 2 E (eH E E (v:= .int .u8 (IntKind.u8.wrap ((f:Nat):Int))) (v':= .int .u8 ((f:Nat):Int)) (vK) (dN E E (k:=1) (e:=5) [.int .u8 ((f:Nat):Int)] (fun _=>by kernel_rfl) fun _ _ nb=>?_)))))))
    have br:=nb.bk
    have X:=nb.ext
    clear nb
    have I:=r.trans X
    have O:=((hO.updI H aa).ext (am.t X))
    refine fB E E E i7 mB E O I.size [.int .u8 ((f:Nat):Int)] E (nE _ br) E fun aq bh ay au ae _=>?_
    have ao:=ae.ext I (fun p hp=>(O.block p hp).1)
    have bm:Own ay w.heap.size 5 1 aq (on+1) bh ((pl++ [f]).map B8):=by have h:=au;simp only [List.map_append,List.map_cons,List.map_nil] at h⊢;exact h
    refine mv 1 rfl (a7 (aE (mv 1 rfl (bA (bU (bU (cW (⟨ay,p+1,true,pl++ [f],aq,on+1,bh⟩:a6×Nat×Bool×List Nat×Option a8×Nat×Nat) ⟨ao,(by have h:=((q.ext (am.t X)).updO ae (pA O (q.ext (am.t X))));rwa [h1z.1] at h),bm,(by omega),(by omega),(by rw [W,B2 V (by rw [←j.dv];exact F),B4,←h1z.2.1]),(fun c M=>by rcases eQ.1 M with h | h;(· exact ab c h);(· rw [fT.1 h];exact F)),(fun c M=>by rcases eQ.1 M with h | h;(· exact Y c h);(· rw [fT.1 h];omega)),(fun _=>by simp)⟩ (show bs.length-(p+1)<bs.length-p by omega) rfl ⟨rfl,rfl,rfl,rfl,trivial⟩)))))))
   ·rw [B3 V (by rw [←j.dv];exact F) ak] at W
    refine aE (mv 1 E (cl (vs:= [.int .i32 ((f:Nat):Int)]) o (oM j.le) E (by kernel_rfl) fun _ _ cj _ r=>?_))
    obtain rfl:=cj
    refine aA E E E false (f8 (a:=dv f) (b:=10) E E) (mv 1 E (a7 (aI E (sr (mv 2 E (a7 (aW (bZ (bZ (pE (bZ (bO (aV [S0,a4 7] E ⟨rfl,rfl,i3⟩ ?_)))))))))))))
    exact⟨fun ql U=>by rw [W] at U;simp at U,fun _=>⟨_,rfl,⟨_,_,rfl,rfl,rfl⟩,r⟩⟩
 ·have cb:p=bs.length:=by omega
  rw [cb,List.drop_length] at W
  refine aE ?_
  have ba:=hI
  refine t6 E E ba (by omega) (by decide) (pu (v:= ik) E (a7 (aD (aI E (dA (d7 (dG (d8 (aJ (aD (aD ?_)))))))))))
  cases bt
  ·refine aE (mv 1 E (pu (v:= gx) E (a7 (b8 E (sr (mv 2 E (a7 (aW (bO (aV [S0,a4 7] E ⟨rfl,rfl,i3⟩ ?_))))))))))
   exact⟨fun ql U=>by rw [W] at U;simp [eY] at U,fun _=>⟨_,rfl,⟨_,_,rfl,rfl,rfl⟩,D⟩⟩
  ·have ah:kN 10 pl:=⟨ce rfl,ab⟩
   have cz:=jG hO
   have bu:eY false bs=some pl:=by rw [W];simp [eY]
   refine aE (mv 1 E (pu (v:= ik) E (a7 (aI E (aY (aJ (sr (mv 1 E (qF E E hO (cl (vs:= [.string (aB pl)]) D ((GM Y (by omega) ah).mono (Gv.imp (T2.imp (WR.imp D.size) Is.imp))) E (by kernel_rfl) fun _ _ cd _ o=>?_))))))))))
   obtain⟨_,_,rfl,⟨bd,aw,bg,rfl,cm,cf⟩,rfl⟩:=cd
   refine pu (v:= a9 bd aw bg) E (pu (v:= a4 0) E (mv 2 E (a7 (aW (aV [a9 bd aw bg,I0] E ⟨rfl,rfl,i3⟩ ?_)))))
   exact⟨fun ql U=>by rw [bu] at U;cases U;exact⟨_,rfl,⟨_,_,rfl,⟨_,_,_,rfl,cm,cf⟩,rfl⟩,o⟩,fun h=>by rw [bu] at h;cases h⟩
end Go.Proofs.YtnpbbknemflpnaaGreatDoor
