/- Parts Ref5d, Plz, Pj, Apz, Ref5r, Plj, Pla, Ops5s, Book, Bookw, Keep0, Keep, joined. -/
import Derived.Test.YtkepckmdjncehaaGreatDoorJ4

open Go renaming Addr → a8, Calls → aQ, Program → bV, TypeId → aV, Value → aD, World → a0
open Go.Builtin renaming append_ → lP
open Int renaming emod_nonneg → s7
open List renaming drop_zero → gQ, getD_eq_getElem?_getD → bE, getElem?_eq_getElem → bR, getElem?_map → iK, length_append → eN, length_drop → gS, length_take → dE, map_cons → iJ, mem_map → lN, mem_range → gF, range → fI
open Nat renaming add_mul → dO, le_refl → aX, le_trans → aE, lt_of_lt_of_le → cS, mul_le_mul_right → eC, mul_one → dK, zero_le → bJ
open Option.some renaming inj → iG
open Or renaming inl → cD, inr → bT
open Go.Proofs.Tryz renaming prog → aH
open Go.Value renaming int → d8
namespace Go.Proofs.YtkepckmdjncehaaGreatDoor
set_option maxHeartbeats 8000000
set_option maxRecDepth 20000
variable {A A' Aa Ab Ad Ap Aq B Bp Bq C GA XA:Option a8}{H:Type}{M N a b b' b1 b2 base c c' ca cap cap' cb fuel g i j lb m n n1 n2 na q:Nat}{P:bV}{T T':aV}{W w w' w0:a0}{bs ms ms2 xs:List Nat}{cs news us vs:List aD}{k mm nn r x y:Int}{p pl:List MemPlace}{s sa sb sd sp sq t tp tq:Bool}{u:aD}{ys zs:List Int}
section
open Go.RowKit
theorem SU (hb:b≤w.heap.size)(hx:Zi w sa Aa na ca x)(la:na≤1048576){n:Int}(hbad:n<0):aQ aH 73 #[J sa Aa na ca,a9 n] w (Gv w (T2 (ZR b (0)) (Is (a9 3)))):=by
 refine Calls.mono (R:=Gv w (T2 (ZR w.heap.size (0)) (Is (a9 3)))) ?_ (Gv.imp (T2.imp (ZR.imp hb) Is.imp))
 have Lx:ln x≤1048576:=aE hx.ln la
 refine bL Tryz.func73 G (n:=28) G (bq G) (args:= [J sa Aa na ca,a9 n]) (bF [(0,J sa Aa na ca),(1,a9 n)] ⟨rfl,rfl,up⟩ (sr (bx (O sa Aa na ca) (Ext.refl w) G G G fun M _ h _ _ L=>(cO [F0,S0] L h.lt (fun _=>by kernel_rfl) G fun _ _ I o _ U D=>(mv 1 G (a1 (sr (pf M 1 G (aL G G (aP bX (h.ext U) G) (mv 1 G (cl (vs:= [i9 Aa na ca,a9 n]) D (U6 hbad) G (by kernel_rfl) fun _ H F r q=>?_)))))))))))
 obtain⟨_,_,rfl,rfl,rfl⟩:=F
 refine mv 1 G (pu (v:= i9 none 0 0) G (pu (v:= a9 3) G (mv 2 G (a1 (a7 (sr (mv 1 G (aA G G G true (by decide) (a1 (aY G (sr (pu (v:= .agg #[F0,S0]) G (mv 1 G ?_)))))))))))))
 have e:=(I.ext r)
 refine so aB e [F0,S0] q o G G G G fun _ f E p=>(mv 1 G (a1 (aU (bU (aT [.agg #[F0,S0],a9 3] G ⟨⟨_,rfl,bA aB f [F0,S0] G (bq G) rfl⟩,rfl,up⟩ ?_)))))
 exact⟨_,rfl,⟨_,_,rfl,⟨_,_,_,_,rfl,((Zr.zero (w:=H) (base:=w.heap.size)).updT e E)⟩,rfl⟩,p⟩
theorem SV (hb:b≤w.heap.size)(hx:Zi w sa Aa na ca x)(la:na≤1048576){n:Int}(hbad:256<n):aQ aH 73 #[J sa Aa na ca,a9 n] w (Gv w (T2 (ZR b (0)) (Is (a9 5)))):=by
 refine Calls.mono (R:=Gv w (T2 (ZR w.heap.size (0)) (Is (a9 5)))) ?_ (Gv.imp (T2.imp (ZR.imp hb) Is.imp))
 have Lx:ln x≤1048576:=aE hx.ln la
 refine bL Tryz.func73 G (n:=28) G (bq G) (args:= [J sa Aa na ca,a9 n]) (bF [(0,J sa Aa na ca),(1,a9 n)] ⟨rfl,rfl,up⟩ (sr (bx (O sa Aa na ca) (Ext.refl w) G G G fun M _ h _ _ L=>(cO [F0,S0] L h.lt (fun _=>by kernel_rfl) G fun _ _ I o _ U D=>(mv 1 G (a1 (sr (pf M 1 G (aL G G (aP bX (h.ext U) G) (mv 1 G (cl (vs:= [i9 Aa na ca,a9 n]) D (U5 hbad) G (by kernel_rfl) fun _ H F r q=>?_)))))))))))
 obtain⟨_,_,rfl,rfl,rfl⟩:=F
 refine mv 1 G (pu (v:= i9 none 0 0) G (pu (v:= a9 5) G (mv 2 G (a1 (a7 (sr (mv 1 G (aA G G G true (by decide) (a1 (aY G (sr (pu (v:= .agg #[F0,S0]) G (mv 1 G ?_)))))))))))))
 have e:=(I.ext r)
 refine so aB e [F0,S0] q o G G G G fun _ f E p=>(mv 1 G (a1 (aU (bU (aT [.agg #[F0,S0],a9 5] G ⟨⟨_,rfl,bA aB f [F0,S0] G (bq G) rfl⟩,rfl,up⟩ ?_)))))
 exact⟨_,rfl,⟨_,_,rfl,⟨_,_,_,_,rfl,((Zr.zero (w:=H) (base:=w.heap.size)).updT e E)⟩,rfl⟩,p⟩
theorem SW (hb:b≤w.heap.size)(hx:Zi w sa Aa na ca x)(la:na≤1048576)(hn:n≤256):aQ aH 73 #[J sa Aa na ca,a9 n] w (Gv w (T2 (ZR b (x^n)) (Is (a9 0)))):=by
 refine Calls.mono (R:=Gv w (T2 (ZR w.heap.size (x^n)) (Is (a9 0)))) ?_ (Gv.imp (T2.imp (ZR.imp hb) Is.imp))
 have Lx:ln x≤1048576:=aE hx.ln la
 refine bL Tryz.func73 G (n:=28) G (bq G) (args:= [J sa Aa na ca,a9 n]) (bF [(0,J sa Aa na ca),(1,a9 n)] ⟨rfl,rfl,up⟩ (sr (bx (O sa Aa na ca) (Ext.refl w) G G G fun g1 _ o _ _ bi=>(cO [F0,S0] bi o.lt (fun _=>by kernel_rfl) G fun _ _ aj p _ e8 ab=>(mv 1 G (a1 (sr (pf g1 1 G (aL G G (aP bX (o.ext e8) G) (mv 1 G ?_))))))))))
 have bz:(wd ((Int.natAbs x)^n)).length≤268435457:=sN Lx hn
 refine cl (vs:= [i9 Aa na ca,a9 n]) ab (U8 (hx.ext ab).wi (aO la G) hn ab.size) G (by kernel_rfl) fun _ _ az e X=>?_
 obtain⟨_,_,rfl,⟨r,D,E,rfl,M,ae⟩,rfl⟩:=az
 refine mv 1 G (pu (v:= i9 r D E) G (pu (v:= a9 0) G (mv 2 G (a1 (a7 (sr (mv 1 G (aA G G G false (by decide) (a1 (aN G (aW (aC (a7 ?_)))))))))))))
 by_cases q:sa=true
 ·subst q
  by_cases ho:n%2=1
  ·refine a6 (pf g1 0 G (aL G G (aP dB (o.ext (e8.t e)) G) (mv 2 G (aR G G G ((n%2:Nat):Int) (xD (uK n 2)) (aA G G G true (fM (a:=n%2) (b:=1) G G) (pu (v:= no) G (mv 1 G (cl (vs:= (O true r D E)) X (wF M ae) G (by kernel_rfl) fun _ _ bt bo f=>?_))))))))
   obtain⟨V,ai,aa,ag,rfl,bh⟩:=bt
   have I:=(aj.ext (e.t bo))
   refine so aB I (O V ai aa ag) f p G G G G fun _ aq bd h=>(mv 1 G (a1 (aU (aT [J V ai aa ag,I0] G ⟨⟨_,rfl,bA aB aq (O V ai aa ag) G (bq G) rfl⟩,rfl,up⟩ ?_))))
   exact⟨_,rfl,⟨_,_,rfl,⟨_,_,_,_,rfl,((bh.updT I bd)).cast (by rw [E7 ho,hx.sg])⟩,rfl⟩,h⟩
  ·refine a6 (pf g1 0 G (aL G G (aP dB (o.ext (e8.t e)) G) (mv 2 G (aR G G G ((n%2:Nat):Int) (xD (uK n 2)) (aA G G G false (fT (a:=n%2) (b:=1) G G) (pu (v:= t9) G (mv 1 G (cl (vs:= [F0,i9 r D E]) X (wF M ae) G (by kernel_rfl) fun _ _ bv aw f=>?_))))))))
   obtain⟨U,Y,W,am,rfl,bu⟩:=bv
   have F:=(aj.ext (e.t aw))
   refine so aB F (O U Y W am) f p G G G G fun _ ar bf h=>(mv 1 G (a1 (aU (aT [J U Y W am,I0] G ⟨⟨_,rfl,bA aB ar (O U Y W am) G (bq G) rfl⟩,rfl,up⟩ ?_))))
   exact⟨_,rfl,⟨_,_,rfl,⟨_,_,_,_,rfl,((bu.updT F bf)).cast (by rw [E9 ho,hx.sg])⟩,rfl⟩,h⟩
 ·replace q:sa=false:=by simpa using q
  subst q
  refine a6 (pf g1 0 G (aL G G (aP dB (o.ext (e8.t e)) G) (mv 4 G (pu (v:= t9) G (mv 1 G (cl (vs:= [F0,i9 r D E]) X (wF M ae) G (by kernel_rfl) fun _ _ ba bj f=>?_))))))
  obtain⟨L,Z,ah,ak,rfl,bm⟩:=ba
  have H:=(aj.ext (e.t bj))
  refine so aB H (O L Z ah ak) f p G G G G fun _ ao bg h=>(mv 1 G (a1 (aU (aT [J L Z ah ak,I0] G ⟨⟨_,rfl,bA aB ao (O L Z ah ak) G (bq G) rfl⟩,rfl,up⟩ ?_))))
  exact⟨_,rfl,⟨_,_,rfl,⟨_,_,_,_,rfl,((bm.updT H bg)).cast (by rw [E8,hx.sg])⟩,rfl⟩,h⟩
theorem TO (hb:b≤w.heap.size)(hx:Zi w sa Aa na ca x)(la:na≤1048576){n:Int}(hbad:n<0):aQ aH 55 #[J sa Aa na ca,a9 n] w (Gv w (T2 (ZR b (0)) (Is (a9 3)))):=by
 refine Calls.mono (R:=Gv w (T2 (ZR w.heap.size (0)) (Is (a9 3)))) ?_ (Gv.imp (T2.imp (ZR.imp hb) Is.imp))
 have Lx:ln x≤1048576:=aE hx.ln la
 refine bL Tryz.func55 G (n:=30) G (bq G) (args:= [J sa Aa na ca,a9 n]) (bF [(0,J sa Aa na ca),(1,a9 n)] ⟨rfl,rfl,up⟩ (sr (bx (O sa Aa na ca) (Ext.refl w) G G G fun _ _ p _ _ D=>(cO [F0,S0] D p.lt (fun _=>by kernel_rfl) G fun _ E e f _ _ q=>(mv 1 G (a1 (a7 (sr (mv 1 G (aA G G G true (p8 hbad) (a1 (aY G (a7 ?_)))))))))))))
 refine a6 (pu (v:= .agg #[F0,S0]) G (so aB e [F0,S0] q f G G G G fun _ h r o=>(mv 1 G (a1 (aU (bU (aT [.agg #[F0,S0],a9 3] G ⟨⟨_,rfl,bA aB h [F0,S0] G (bq G) rfl⟩,rfl,up⟩ ?_)))))))
 exact⟨_,rfl,⟨_,_,rfl,⟨_,_,_,_,rfl,((Zr.zero (w:=E) (base:=w.heap.size)).updT e r)⟩,rfl⟩,o⟩
theorem TP (hb:b≤w.heap.size)(hx:Zi w sa Aa na ca x)(la:na≤1048576){n:Int}(hbad:256<n):aQ aH 55 #[J sa Aa na ca,a9 n] w (Gv w (T2 (ZR b (0)) (Is (a9 5)))):=by
 refine Calls.mono (R:=Gv w (T2 (ZR w.heap.size (0)) (Is (a9 5)))) ?_ (Gv.imp (T2.imp (ZR.imp hb) Is.imp))
 have Lx:ln x≤1048576:=aE hx.ln la
 refine bL Tryz.func55 G (n:=30) G (bq G) (args:= [J sa Aa na ca,a9 n]) (bF [(0,J sa Aa na ca),(1,a9 n)] ⟨rfl,rfl,up⟩ (sr (bx (O sa Aa na ca) (Ext.refl w) G G G fun _ _ q _ _ E=>(cO [F0,S0] E q.lt (fun _=>by kernel_rfl) G fun _ F e f _ _ r=>(mv 1 G (a1 (a7 (sr (mv 1 G (aA G G G false (mT) (a1 (aN G (aW ?_)))))))))))))
 refine aC (a7 (sr (mv 1 G (aA G G G true (lC (h:=hbad)) (a1 (aY G (sr (pu (v:= .agg #[F0,S0]) G (so aB e [F0,S0] r f G G G G fun _ o D p=>(mv 1 G (a1 (aU (bU ?_)))))))))))))
 refine aT [.agg #[F0,S0],a9 5] G ⟨⟨_,rfl,bA aB o [F0,S0] G (bq G) rfl⟩,rfl,up⟩ ?_
 exact⟨_,rfl,⟨_,_,rfl,⟨_,_,_,_,rfl,((Zr.zero (w:=F) (base:=w.heap.size)).updT e D)⟩,rfl⟩,p⟩
theorem TQ (hb:b≤w.heap.size)(hx:Zi w sa Aa na ca x)(la:na≤1048576)(hn:n≤256):aQ aH 55 #[J sa Aa na ca,a9 n] w (Gv w (T2 (ZR b (x^n)) (Is (a9 0)))):=by
 refine Calls.mono (R:=Gv w (T2 (ZR w.heap.size (x^n)) (Is (a9 0)))) ?_ (Gv.imp (T2.imp (ZR.imp hb) Is.imp))
 have Lx:ln x≤1048576:=aE hx.ln la
 refine bL Tryz.func55 G (n:=30) G (bq G) (args:= [J sa Aa na ca,a9 n]) (bF [(0,J sa Aa na ca),(1,a9 n)] ⟨rfl,rfl,up⟩ (sr (bx (O sa Aa na ca) (Ext.refl w) G G G fun g1 _ q _ _ bo=>(cO [F0,S0] bo q.lt (fun _=>by kernel_rfl) G fun _ _ am r _ e8 ah=>(mv 1 G (a1 (a7 (sr (mv 1 G (aA G G G false (cW (a:=n) (b:=0) G G) (a1 (aN G (aW ?_)))))))))))))
 refine aC (a7 (sr (mv 1 G (aA G G G false (fC (a:=n) (b:=256) G G) (a1 (aN G (aW (aC (sr (pf g1 1 G (aL G G (aP bX (q.ext e8) G) (mv 1 G ?_))))))))))))
 have e:(wd ((Int.natAbs x)^n)).length≤268435457:=sN Lx hn
 refine cl (vs:= [i9 Aa na ca,a9 n]) ah (TZ (hx.ext ah).wi (aO la G) hn ah.size) G (by kernel_rfl) fun _ _ bf h f=>?_
 obtain⟨_,_,rfl,⟨E,F,H,rfl,U,ai⟩,rfl⟩:=bf
 refine mv 1 G (pu (v:= i9 E F H) G (pu (v:= a9 0) G (mv 2 G (a1 (a7 ?_)))))
 by_cases D:sa=true
 ·subst D
  by_cases ho:n%2=1
  ·refine a6 (pf g1 0 G (aL G G (aP dB (q.ext (e8.t h)) G) (mv 2 G (aR G G G ((n%2:Nat):Int) (xD (uK n 2)) (aA G G G true (fM (a:=n%2) (b:=1) G G) (pu (v:= no) G (mv 1 G ?_)))))))
   have cf:ln (sg true ((Int.natAbs x)^n))≤268435457:=by rw [i0];exact e
   refine cl (vs:= (O true E F H)) f (iS f.size ai.wi (by rw [U];exact aE e (by decide))) G (by kernel_rfl) fun _ _ bu bi o=>?_
   obtain⟨aa,ab,ao,ae,rfl,bv⟩:=bu
   have L:=(am.ext (h.t bi))
   refine so aB L (O aa ab ao ae) o r G G G G fun _ aq bg p=>(mv 1 G (a1 (aU (aT [J aa ab ao ae,I0] G ⟨⟨_,rfl,bA aB aq (O aa ab ao ae) G (bq G) rfl⟩,rfl,up⟩ ?_))))
   exact⟨_,rfl,⟨_,_,rfl,⟨_,_,_,_,rfl,((bv.updT L bg)).cast (by rw [E7 ho,hx.sg])⟩,rfl⟩,p⟩
  ·refine a6 (pf g1 0 G (aL G G (aP dB (q.ext (e8.t h)) G) (mv 2 G (aR G G G ((n%2:Nat):Int) (xD (uK n 2)) (aA G G G false (fT (a:=n%2) (b:=1) G G) (pu (v:= t9) G (mv 1 G ?_)))))))
   have cg:ln (sg false ((Int.natAbs x)^n))≤268435457:=by rw [i0];exact e
   refine cl (vs:= [F0,i9 E F H]) f (iS f.size ai.wi (by rw [U];exact aE e (by decide))) G (by kernel_rfl) fun _ _ bw ba o=>?_
   obtain⟨ag,Y,X,Z,rfl,az⟩:=bw
   have I:=(am.ext (h.t ba))
   refine so aB I (O ag Y X Z) o r G G G G fun _ ar bj p=>(mv 1 G (a1 (aU (aT [J ag Y X Z,I0] G ⟨⟨_,rfl,bA aB ar (O ag Y X Z) G (bq G) rfl⟩,rfl,up⟩ ?_))))
   exact⟨_,rfl,⟨_,_,rfl,⟨_,_,_,_,rfl,((az.updT I bj)).cast (by rw [E9 ho,hx.sg])⟩,rfl⟩,p⟩
 ·replace D:sa=false:=by simpa using D
  subst D
  refine a6 (pf g1 0 G (aL G G (aP dB (q.ext (e8.t h)) G) (mv 4 G (pu (v:= t9) G (mv 1 G ?_)))))
  have ce:ln (sg false ((Int.natAbs x)^n))≤268435457:=by rw [i0];exact e
  refine cl (vs:= [F0,i9 E F H]) f (iS f.size ai.wi (by rw [U];exact aE e (by decide))) G (by kernel_rfl) fun _ _ bh bm o=>?_
  obtain⟨W,aj,V,ak,rfl,bt⟩:=bh
  have M:=(am.ext (h.t bm))
  refine so aB M (O W aj V ak) o r G G G G fun _ au bd p=>(mv 1 G (a1 (aU (aT [J W aj V ak,I0] G ⟨⟨_,rfl,bA aB au (O W aj V ak) G (bq G) rfl⟩,rfl,up⟩ ?_))))
  exact⟨_,rfl,⟨_,_,rfl,⟨_,_,_,_,rfl,((bt.updT M bd)).cast (by rw [E8,hx.sg])⟩,rfl⟩,p⟩
theorem TI (hx:Zi w sa Aa na ca x)(la:na≤1048576):aQ aH 139 #[J sa Aa na ca] w (Gv w (Is (.string (aM (fE x))))):=by
 have Lx:ln x≤1048576:=aE hx.ln la
 refine bL Tryz.func139 G (n:=13) G (bq G) (args:= [J sa Aa na ca]) (bF [(0,J sa Aa na ca)] ⟨rfl,up⟩ (sr (bx (O sa Aa na ca) (Ext.refl w) G G G fun F _ h _ _ p=>(mv 1 G (a1 (sr (pf F 1 G (aL G G (aP bX h G) (cl (vs:= [i9 Aa na ca]) p (PE (hx.ext p).wi (by omega)) G (by kernel_rfl) fun _ _ H E e=>?_)))))))))
 obtain rfl:=H
 refine mv 1 G (a1 (a7 (a7 ?_)))
 by_cases o:x<0
 ·refine a6 (lo aB (h.ext E) (O sa Aa na ca) G G G (cl (vs:= [J sa Aa na ca]) e (jJ (hx.ext e) (aO la G)) G (by kernel_rfl) fun _ _ D _ f=>?_))
  obtain rfl:=D
  refine aA G G G true (zF o) (a1 (aY G (sr (mv 1 G (nI G G G (r:= .string (aM (([45])++(dS 10 (Int.natAbs x))))) G (fun w=>yU (a:= [45]) (b:=dS 10 (Int.natAbs x)) (by have:=yQ (b:=10) (show (wd (Int.natAbs x)).length≤1048576 from Lx);show 1+_≤_;omega)) (mv 1 G (a1 (aU (bU (aT [.string (aM (([45])++(dS 10 (Int.natAbs x))))] G ⟨rfl,up⟩ ?_))))))))))
  exact⟨_,rfl,(show Value.string _= .string (aM (fE x)) by rw [fE,if_pos o]),f⟩
 ·refine a6 (lo aB (h.ext E) (O sa Aa na ca) G G G (cl (vs:= [J sa Aa na ca]) e (jJ (hx.ext e) (aO la G)) G (by kernel_rfl) fun _ _ q _ f=>?_))
  obtain rfl:=q
  refine aA G G G false (zG) (a1 (aN G (aW (aC (sr (mv 2 G (a1 (aU (aT [.string (aM (dS 10 (Int.natAbs x)))] G ⟨rfl,up⟩ ?_)))))))))
  exact⟨_,rfl,(show Value.string _= .string (aM (fE x)) by rw [fE,if_neg o]),f⟩
theorem U9 (hx:Zi w sa Aa na ca x)(la:na≤1048576):aQ aH 57 #[J sa Aa na ca] w (Gv w (ZOR w.heap.size sa na x)):=by
 have bd:=hx
 obtain⟨xs,ag,az⟩:=bd
 have Lx:ln x≤1048576:=aE hx.ln la
 refine bL Tryz.func57 G (n:=10) G (bq G) (args:= [J sa Aa na ca]) (bF [(0,J sa Aa na ca)] ⟨rfl,up⟩ (sr (bx (O sa Aa na ca) (Ext.refl w) G G G fun g1 _ U _ _ aw=>(cO [F0,S0] aw U.lt (fun _=>by kernel_rfl) G fun _ v7 ba ae _ e8 H=>(a1 (a7 ?_))))))
 refine eI cQ 7 [] [Is (a4 g1 0),Is (.bool sa),fun v' w'=>∃g,v'= i9 (some ⟨g,0,none⟩) 0 0∧v7.heap.size≤g∧Bk w' g 65 [],Is (a4 g1 1),Is (i9 Aa na ca),fun v' w'=>∃A c,v'= i9 A na c∧Own w' w.heap.size 65 1 A na c (xs.map bC),ZOR w.heap.size sa na x] [[],[0],[],[],[3],[2,4],[1,5]] [[],[0],[],[],[3],[2,3,4],[0,1,2,3,4,5],[0,1,2,3,4,5,6]] rfl
  (aJ G G (aF G G ?_) (aJ G G (aF G G ?_) (aJ G G (aF G G ?_) (aJ G G (aF G G ?_) (aJ G G (aF G G ?_) (aJ G G (aF G G ?_) (aJ G G (aF G G ?_) dY))))))) ?_
 ·exact fun _ _=>aG (pf g1 0 G (aI G aK G))
 ·exact fun _ bi=>dk G G (aG (aL G G (aP dB (U.ext (e8.t bi)) G) (aI G aK G)))
 ·intro _ Y
  have p:=H.trans Y
  refine aG (fW G G (k:=0) (e:=65) [] (fun _=>by kernel_rfl) fun bh _ nb=>?_)
  have ao:=nb.bk
  have V:=nb.ext
  have ah:v7.heap.size≤bh:=by rw [←nb.at_];exact Y.size
  clear nb
  have I:=p.trans V
  exact aI G V ⟨_,rfl,ah,ao⟩
 ·exact fun _ _=>aG (pf g1 1 G (aI G aK G))
 ·exact fun _ au=>dk G G (aG (aL G G (aP bX (U.ext (e8.t au)) G) (aI G aK G)))
 ·intro _ av
  have p:=H.trans av
  refine cF G G fun _ _ bm _ bt=>?_
  obtain⟨_,rfl,L,q⟩:=bm
  have q:=q.ext bt
  refine dk G G (aG (LP G G G Tryz.underlying22 iB G (by decide) (aE H.size L) p.size q (ag.ext p).rv (xK xs) (by omega) (by decide) fun _ _ _ Z X=>?_))
  have I:=p.trans X
  exact aI G X ⟨_,_,rfl,Z⟩
 ·intro _ _
  refine dk G G (cF G G fun _ _ bf _ bo=>?_)
  obtain⟨am,aa,rfl,F⟩:=bf
  have F:=F.ext bo
  refine aG (pu (v:= J sa am na aa) G ?_)
  exact aI G aK ⟨_,_,rfl,(show Zo _ _ sa _ _ _ x from⟨xs,F,ag.wf,az⟩)⟩
 ·intro _ W
  have p:=H.trans W
  refine dk G G (dk G G (cF G G fun _ _ bg _ bj=>?_))
  obtain⟨_,rfl,_,D⟩:=bg
  have D:=D.ext bj
  refine dk G G (dk G G (cF G G fun _ _ aq _ ab=>?_))
  obtain⟨_,_,rfl,E⟩:=aq
  have E:=E.ext ab
  refine cF G G fun _ _ aj _ ak=>?_
  obtain⟨f,o,rfl,h⟩:=aj
  have h:=h.ext ak
  refine aG ?_
  have r:=(ba.ext W)
  refine so aB r (O sa f na o) p ae G G G G fun _ M ai I=>(aS (eB (aC (aU (aT [J sa f na o] G ⟨⟨_,rfl,bA aB M (O sa f na o) G (bq G) rfl⟩,up⟩ ?_)))))
  exact⟨_,rfl,⟨_,_,rfl,(h.updT r ai)⟩,I⟩
theorem wM (hb:b≤w.heap.size)(hx:Zi w sa Aa na ca x)(la:na≤1048576):aQ aH 57 #[J sa Aa na ca] w (Gv w (ZOR b sa na x)):=(U9 hx la).mono (Gv.imp (ZOR.imp hb))
def LOR (w0:a0)(b n:Nat)(zs:List Int)(v:aD)(w:a0):Prop:=∃A,v= i9 A n n∧Lz (some w0) 1048576 b w b A n n zs
theorem LOR.imp (h:b'≤b):∀v w,LOR w0 b n zs v w→LOR w0 b' n zs v w:=fun _ _ ⟨A,h1,h2⟩=>⟨A,h1,h2.mono (aX _) h h⟩
theorem UB (hw0:Ext w0 w)(hl:Zl w A n cap zs ms)(hn:n≤1048576)(hmb:∀i,ms.getD i 0≤1048576):aQ aH 58 #[i9 A n cap] w (Gv w (LOR w0 w.heap.size n zs)):=by
 refine bL Tryz.func58 G (n:=23) G (bq G) (args:= [i9 A n cap]) (bF [(0,i9 A n cap)] ⟨rfl,up⟩ (sr (mv 1 G (a1 (sr (mv 1 G (pu (v:= a9 n) G (D2 (k:=n) (some w0) 1048576 w.heap.size G G G (by omega) (by decide) fun D v2 V I e5=>?_))))))))
 have H:D≤v2.heap.size:=by have:=(I.block _ G).2;exact Nat.le_of_lt this
 have M:w.heap.size≤D:=by rw [←V];exact (Ext.refl w).size
 clear V
 have f:=(Ext.refl w).trans e5
 have bh:=I.block
 refine mv 1 G (a1 (a7 (sr (mv 1 G (a1 (bI ?_))))))
 refine cU (T:=a0×Nat)
  (fun⟨wr,k⟩=> [(0,i9 A n cap),(3,i9 (some ⟨D,0,none⟩) n n),(4,a9 k)])
  (fun⟨wr,k⟩=>wr)
  (fun⟨wr,k⟩=>(Ext w wr)∧(k≤n)∧(Lz (some w0) 1048576 w.heap.size wr D (some ⟨D,0,none⟩) n n (mN zs n k))∧(D≤wr.heap.size))
  (fun⟨wr,k⟩=>n-k)
  (⟨v2,0⟩:a0×Nat) ⟨f,bJ _,(by have h9:=I;rw [LX zs n] at h9;exact h9),H⟩ G ⟨rfl,rfl,rfl,up⟩ ?_
 rintro⟨wr,k⟩ ⟨f,_,r,ag⟩
 refine cR [(0,i9 A n cap),(3,i9 (some ⟨D,0,none⟩) n n),(4,a9 k)] wr G ⟨rfl,rfl,rfl,up⟩ ?_
 have aj:=r.block
 refine a7 (a7 ?_)
 by_cases aw:k<n
 ·refine a6 (mv 2 G (pu (v:= a9 n) G (aA G G G true (dG (a:=k) (b:=n) G G) (a1 (aY G (aW (aC (a7 (bI (a6 (mv 4 G ?_)))))))))))
  obtain⟨ar,ah,az,av,W,am,aq⟩:=hl.at (i:=k) (by omega)
  refine bK G G G fQ aB.size k G ar W (aL G G (am _ f _ _ aB) (cl (vs:= [.agg #[.bool ah,i9 az (ms.getD k 0) av]]) f (wM f.size (aq.ext f) (aE (hmb k) (by decide))) G (by kernel_rfl) fun _ _ ba L ai=>?_))
  obtain⟨Y,aa,rfl,ae⟩:=ba
  obtain⟨Z,_,_,_,_,h,_,U,X⟩:=((r.ext L)).at (i:=k) (by omega)
  have bg:ln ((mN zs n k).getD k 0)≤1048576:=aE (X.zi (hw0.trans ai)).ln U
  refine bK G G G fQ aB.size k G Z h ?_
  have E:=(r.ext L)
  obtain⟨_,_⟩:=E.own
  refine LA (e:=⟨ah,Y,(ms.getD k 0),aa⟩) (z:=zs.getD k 0) G G G h (by omega) E (bT ⟨_,rfl,bT ae⟩) (aE (hmb k) (by decide)) fun ao ak F=>?_
  have au:=F.ext ai (fun p hp=>by have:=aj p hp;omega)
  have q:D≤ao.heap.size:=aE (aE ag L.size) F.size
  refine aS (bG (aC (a6 (mv 1 G (aR G G G ((k+1:Nat):Int) (bN (a:=k) (b:=1) G G) (mv 1 G (aS ?_)))))))
  have o:=ak
  rw [LY hl.len aw] at o
  refine bW (⟨ao,k+1⟩:a0×Nat) ⟨au,(by omega),o,q⟩ (show n-(k+1)<n-k by omega) G ⟨rfl,rfl,rfl,up⟩
 ·refine a6 (mv 2 G (pu (v:= a9 n) G (aA G G G false (cW (a:=k) (b:=n) G G) (a1 (aN G (cN (cI (cL (cM (aC (sr (mv 2 G (aS ?_)))))))))))))
  refine aC (aU (aT [i9 (some ⟨D,0,none⟩) n n] G ⟨rfl,up⟩ ?_))
  have ab:k=n:=by omega
  have o:=r
  rw [ab,LZ hl.len] at o
  exact⟨_,rfl,⟨_,rfl,o.mono (aX _) (aX _) M⟩,f⟩
theorem IJ (hb:b≤w.heap.size)(hw0:Ext w0 w)(hl:Zl w A n cap zs ms)(hn:n≤1048576)(hmb:∀i,ms.getD i 0≤1048576):aQ aH 58 #[i9 A n cap] w (Gv w (LOR w0 b n zs)):=(UB hw0 hl hn hmb).mono (Gv.imp (LOR.imp hb))
def eZ (y:Int):Int:=if y=0 then 4 else 0
def qT (x y:Int):Int:=if y=0 then 0 else x.tdiv y
def rT (x y:Int):Int:=if y=0 then 0 else x.tmod y
def qF (x y:Int):Int:=if y=0 then 0 else if 0≤bH (x.tmod y) 0*bH y 0 then x.tdiv y else x.tdiv y-1
def rF (x y:Int):Int:=if y=0 then 0 else if 0≤bH (x.tmod y) 0*bH y 0 then x.tmod y else x.tmod y+y
def qE (x y:Int):Int:=if y=0 then 0 else x/y
def bZ (x y:Int):Int:=if y=0 then 0 else x%y
def vX (x y:Int):Int:=if y=0 then 0 else if x.natAbs%y.natAbs=0 then x.tdiv y else 0
def eX (x y:Int):Int:=if y=0 then 4 else if x.natAbs%y.natAbs=0 then 0 else 8
def vS (x y:Int):Int:=if y=0 then 0 else if x%y+x%y≤(y.natAbs:Int) then x%y else x%y-(y.natAbs:Int)
theorem uT (x:Int):(x<0∧bH x 0= -1)∨(x=0∧bH x 0=0)∨(0<x∧bH x 0=1):=by unfold bH;split <;> (try split) <;> omega
theorem pC (h:ln x≤N):ln (qT x y)≤N:=by
 unfold qT;split
 ·exact bJ _
 ·exact aE (vR _ _) h
theorem pB (h:ln x≤N):ln (rT x y)≤N:=by
 unfold rT;split
 ·exact bJ _
 ·exact aE (AO _ _) h
theorem GK (h:ln x≤N):ln (qF x y)≤N+2:=by
 unfold qF;split
 ·exact bJ _
 ·split
  ·exact aE (vR _ _) (aE h (by omega))
  ·exact aE (hZ (aE (vR _ _) h) (show ln 1≤1 by decide+kernel)) (by omega)
theorem GJ (h:ln x≤N)(h':ln y≤M):ln (rF x y)≤N+M+1:=by
 unfold rF;split
 ·exact bJ _
 ·split
  ·exact aE (AO _ _) (aE h (by omega))
  ·exact aE (dZ (aE (AO _ _) h) h') (by omega)
theorem vU (h:ln x≤N):ln (qE x y)≤N+2:=by
 unfold qE;split
 ·exact bJ _
 ·exact RD h
theorem nU (h:ln y≤N):ln (bZ x y)≤N:=by
 unfold bZ;split
 ·exact bJ _
 ·rename_i h0;exact aE (AQ h0) h
theorem GE (h:ln x≤N):ln (vX x y)≤N:=by
 unfold vX;split
 ·exact bJ _
 ·split
  ·exact aE (vR _ _) h
  ·exact bJ _
theorem GF (h:ln y≤N):ln (vS x y)≤N+1:=by
 unfold vS;split
 ·exact bJ _
 ·rename_i h0
  split
  ·exact aE (AQ h0) (aE h (by omega))
  ·exact aE (hZ (aE (AQ h0) h) (by rw [kT];exact h)) (by omega)
theorem vZ (hb:b≤w.heap.size)(hx:Zi w s A n cap x)(la:n≤1048576)(hy:Zi w t B m cap' y)(lb:m≤1048576):aQ aH 133 #[J s A n cap,J t B m cap'] w (Gv w (T3 (ZR b (qT x y)) (ZR b (rT x y)) (Is (a9 (eZ y))))):=by
 by_cases h0:y=0
 ·simp only [qT,rT,eZ,if_pos h0]
  exact TG hb hx (aE la (by decide)) hy (aE lb (by decide)) h0
 ·simp only [qT,rT,eZ,if_neg h0]
  exact TH hb hx (aE la (by decide)) hy (aE lb (by decide)) h0
theorem S5 {nb:Nat}(hb:b≤w.heap.size)(hx:Zi w sa Aa na ca x)(la:na≤1048576)(hy:Zi w sb Ab nb cb y)(lb:nb≤1048576):aQ aH 134 #[J sa Aa na ca,J sb Ab nb cb] w (Gv w (T3 (ZR b (qF x y)) (ZR b (rF x y)) (Is (a9 (eZ y))))):=by
 refine Calls.mono (R:=Gv w (T3 (ZR w.heap.size (qF x y)) (ZR w.heap.size (rF x y)) (Is (a9 (eZ y))))) ?_ (Gv.imp (T3.imp (ZR.imp hb) (ZR.imp hb) Is.imp))
 have Lx:ln x≤1048576:=aE hx.ln la
 have Ly:ln y≤1048576:=aE hy.ln lb
 refine bL Tryz.func134 G (n:=38) G (bq G) (args:= [J sa Aa na ca,J sb Ab nb cb]) (bF [(0,J sa Aa na ca),(1,J sb Ab nb cb)] ⟨rfl,rfl,up⟩ (sr (bx (O sa Aa na ca) (Ext.refl w) G G G fun _ _ ge _ _ jn=>(gN (O sb Ab nb cb) jn ge.lt G G G fun g6 _ dd _ _ e8 jv=>(cO [F0,S0] jv dd.lt (fun _=>by kernel_rfl) G fun ct _ cm da _ dg ju=>(cO [F0,S0] ju cm.lt (fun _=>by kernel_rfl) G fun cu _ cj df _ az dl=>(mv 1 G (a1 (sr (lo aB (ge.ext (e8.t (dg.t az))) (O sa Aa na ca) G G G (lo aB (dd.ext (dg.t az)) (O sb Ab nb cb) G G G ?_)))))))))))
 have fi:ln (qT x y)≤1048576:=pC Lx
 have dm:ln (rT x y)≤1048576:=pB Lx
 refine cl (vs:= [J sa Aa na ca,J sb Ab nb cb]) dl (vZ dl.size (hx.ext dl) (aO la G) (hy.ext dl) (aO lb G)) G (by kernel_rfl) fun _ _ jr aw jt=>?_
 obtain⟨_,_,_,rfl,⟨H,I,F,M,rfl,dr⟩,⟨p,f,o,h,rfl,bg⟩,rfl⟩:=jr
 refine mv 1 G (pu (v:= J H I F M) G (pu (v:= J p f o h) G (pu (v:= a9 (eZ y)) G (cO [F0,S0] jt (cj.ext aw).lt (fun _=>by kernel_rfl) G fun cx _ dt dz _ L jq=>(cO [F0,S0] jq dt.lt (fun _=>by kernel_rfl) G fun de _ jc el _ E jp=>?_)))))
 have X:=(dt.ext E)
 refine so aB X (O H I F M) jp dz G G G G fun _ ch D jo=>?_
 have W:=(jc.vN D)
 refine so aB W (O p f o h) jo el G G G G fun _ am r ce=>(mv 1 G (a1 (a7 (a7 ?_))))
 by_cases h0:y=0
 ·have he:eZ y=4:=if_pos h0
  refine eI cQ 10 [] [Is (a9 (eZ y)),Is (no),Is (no),Is (undef),Is (undef),Is (undef),Is (undef),Is (undef),Is (undef),Is (no)] [[],[0],[1],[2],[2,3],[2],[2,5],[2,4,6],[2,7],[2,8]] [[],[0],[0,1],[0,1,2],[0,1,2,3],[0,1,2],[0,1,2,3,4,5],[0,1,2,3,4,5,6],[0,1,2,3,4,5,6,7],[0,1,2,3,4,5,6,7,8]] rfl
   (aJ G G (aF G G ?_) (aJ G G (aF G G ?_) (aJ G G (aF G G ?_) (aJ G G (aF G G ?_) (aJ G G (aF G G ?_) (aJ G G (aF G G ?_) (aJ G G (aF G G ?_) (aJ G G (aF G G ?_) (aJ G G (aF G G ?_) (aJ G G (aF G G ?_) dY)))))))))) ?_
  ·exact fun _ _=>aG (mv 1 G (aI G aK G))
  ·exact fun _ _=>dk G G (aG (aA G G G true (nQ) (aI G aK G)))
  ·exact fun _ _=>dk G G (aG (mv 1 G (aI G aK G)))
  ·exact fun _ _=>dk G G (aG (mv 1 G (aI G aK G)))
  ·exact fun _ _=>dk G G (dk G G (aG (mv 1 G (aI G aK G))))
  ·exact fun _ _=>dk G G (aG (mv 1 G (aI G aK G)))
  ·exact fun _ _=>dk G G (dk G G (aG (mv 1 G (aI G aK G))))
  ·exact fun _ _=>dk G G (dk G G (dk G G (aG (mv 1 G (aI G aK G)))))
  ·exact fun _ _=>dk G G (dk G G (aG (mv 1 G (aI G aK G))))
  ·exact fun _ _=>dk G G (dk G G (aG (pu (v:= no) G (aI G aK G))))
  ·intro eh Y
   have e:=ce.trans Y
   refine dk G G (dk G G (dk G G (dk G G (dk G G (dk G G (dk G G (dk G G (dk G G (dk G G (aG (aS (eB (aC ?_)))))))))))))
   refine aY G (a7 (bF [(3,a4 g6 0),(4,a4 ct 0),(5,a4 cu 0),(7,a4 cx 0),(8,a4 de 0),(9,a9 (eZ y))] ⟨rfl,rfl,rfl,rfl,rfl,rfl,up⟩ ?_))
   obtain⟨ei,hv,ab⟩:∃v,v=eh.drew∧Ext eh v:=⟨_,rfl,aK.drew⟩
   have q:=e.trans ab
   have bu:=((((cm.ext (az.t (aw.t (L.t E)))).vN D).vN r).ext (Y.t ab))
   obtain⟨jh,ey,fc,bi,_⟩:=fA (P:=aH) (us:= (O H I F M)) (off:=0) aB G bu (bq G) G (O H I F M) rfl
   have V:=bi.ext q da
   have cf:=(((((cj.ext (aw.t (L.t E))).vN D).vN r).ext (Y.t ab)).vN bi)
   obtain⟨ib,ez,fh,co,_⟩:=fA (P:=aH) (us:= (O p f o h)) (off:=0) aB G cf (bq G) G (O p f o h) rfl
   have bd:=co.ext V df
   refine gH cQ (w:=ei) [J H I F M,J p f o h,a9 (eZ y),undef,undef,a9 (eZ y)] [ei,jh,ib] [3,4] [[],[],[],[0],[1],[2]] [[],[],[],[0],[0,1,3],[0,1,2,3,4]] [(0,0),(1,0),(1,1),(2,0),(2,1),(2,2),(3,0),(4,1),(5,2)] G hv ?_ ?_
   ·refine aZ _ G G G G G (cH G (bA aB ((ch.vN r).ext (Y.t ab)) (O H I F M) G (bq G) G)) (aZ _ G G G G G (cH G (bA aB (am.ext (Y.t ab)) (O p f o h) G (bq G) G)) (aZ _ G G G G G (cH G (bA aB ((am.ext (Y.t ab)).vN bi) (O p f o h) G (bq G) G)) (aZ _ G G G G G (bO G) (aZ _ G G G G G (bO G) (aZ _ G G G G G (bO G) (fG _ G G G G G (eO G G ey) (fG _ G G G G G (eO G G ez) (aZ _ G G G G G (i7 G) ?_))))))))
    exact gG
   clear hv
   refine fX [(3,a4 g6 0),(4,a4 ct 0),(5,a4 cu 0),(7,a4 cx 0),(8,a4 de 0),(6,a9 (eZ y))] ⟨rfl,rfl,rfl,rfl,rfl,rfl,up⟩ (aC (aU (bU (aT [J H I F M,J p f o h,a9 (eZ y)] G ⟨⟨_,rfl,bA aB (fc.vN co) (O H I F M) G (bq G) rfl⟩,⟨_,rfl,bA aB fh (O p f o h) G (bq G) rfl⟩,rfl,up⟩ ?_))))
   exact⟨_,rfl,⟨_,_,_,rfl,⟨_,_,_,_,rfl,(((((((dr.ext (L.t E)).updT X D).updT W r).ext (Y.t ab)).updT bu bi).updT cf co)).cast (by simp only [qT,rT,qF,rF,if_pos h0])⟩,⟨_,_,_,_,rfl,(((((((bg.ext (L.t E)).updT X D).updT W r).ext (Y.t ab)).updT bu bi).updT cf co)).cast (by simp only [qT,rT,qF,rF,if_pos h0])⟩,rfl⟩,bd⟩
 ·have he:eZ y=0:=if_neg h0
  have hq:qT x y=x.tdiv y:=if_neg h0
  have hr:rT x y=x.tmod y:=if_neg h0
  by_cases hk:0≤bH (rT x y) 0*bH y 0
  ·refine eI cQ 10 [] [Is (a9 (eZ y)),Is (t9),Is (t9),Is (J p f o h),Is (a9 (bH (rT x y) 0)),Is (J sb Ab nb cb),Is (a9 (bH y 0)),Is (a9 (bH (rT x y) 0*bH y 0)),Is (no),Is (no)] [[],[0],[1],[2],[2,3],[2],[2,5],[2,4,6],[2,7],[2,8]] [[],[0],[0,1],[0,1,2],[0,1,2,3],[0,1,2],[0,1,2,3,4,5],[0,1,2,3,4,5,6],[0,1,2,3,4,5,6,7],[0,1,2,3,4,5,6,7,8]] rfl
    (aJ G G (aF G G ?_) (aJ G G (aF G G ?_) (aJ G G (aF G G ?_) (aJ G G (aF G G ?_) (aJ G G (aF G G ?_) (aJ G G (aF G G ?_) (aJ G G (aF G G ?_) (aJ G G (aF G G ?_) (aJ G G (aF G G ?_) (aJ G G (aF G G ?_) dY)))))))))) ?_
   ·exact fun _ _=>aG (mv 1 G (aI G aK G))
   ·exact fun _ _=>dk G G (aG (aA G G G false (kS) (aI G aK G)))
   ·exact fun _ _=>dk G G (aG (mv 1 G (aI G aK G)))
   ·exact fun _ ja=>dk G G (aG (lo aB (am.ext ja) (O p f o h) G G G (aI G aK G)))
   ·intro _ ej
    have e:=ce.trans ej
    refine dk G G (dk G G (aG (cl (vs:= [J p f o h]) e (jJ ((((bg.ext (L.t E)).updT X D).updT W r).ext ej).zi (bg.le (aO dm G))) G (by kernel_rfl) fun _ _ ft fx q=>?_)))
    obtain rfl:=ft
    exact aI G fx rfl
   ·exact fun _ jj=>dk G G (aG (lo aB ((((dd.ext (dg.t (az.t (aw.t (L.t E))))).vN D).vN r).ext jj) (O sb Ab nb cb) G G G (aI G aK G)))
   ·intro _ jd
    have e:=ce.trans jd
    refine dk G G (dk G G (aG (cl (vs:= [J sb Ab nb cb]) e (jJ (hy.ext e) (aO lb G)) G (by kernel_rfl) fun _ _ jk fm q=>?_)))
    obtain rfl:=jk
    exact aI G fm rfl
   ·exact fun _ _=>dk G G (dk G G (dk G G (aG (aR G G G (bH (rT x y) 0*bH y 0) (tK G (by have:=uR (rT x y) 0 y 0;omega) (by have:=uR (rT x y) 0 y 0;omega)) (aI G aK G)))))
   ·exact fun _ _=>dk G G (dk G G (aG (aA G G G true (pG hk) (aI G aK G))))
   ·exact fun _ _=>dk G G (dk G G (aG (pu (v:= no) G (aI G aK G))))
   ·intro ea aj
    have e:=ce.trans aj
    refine dk G G (dk G G (dk G G (dk G G (dk G G (dk G G (dk G G (dk G G (dk G G (dk G G (aG (aS (eB (aC ?_)))))))))))))
    refine aY G (a7 (bF [(3,a4 g6 0),(4,a4 ct 0),(5,a4 cu 0),(7,a4 cx 0),(8,a4 de 0),(9,a9 (eZ y))] ⟨rfl,rfl,rfl,rfl,rfl,rfl,up⟩ ?_))
    obtain⟨eg,hv,ah⟩:∃v,v=ea.drew∧Ext ea v:=⟨_,rfl,aK.drew⟩
    have q:=e.trans ah
    have bw:=((((cm.ext (az.t (aw.t (L.t E)))).vN D).vN r).ext (aj.t ah))
    obtain⟨gk,em,ew,bh,_⟩:=fA (P:=aH) (us:= (O H I F M)) (off:=0) aB G bw (bq G) G (O H I F M) rfl
    have V:=bh.ext q da
    have bo:=(((((cj.ext (aw.t (L.t E))).vN D).vN r).ext (aj.t ah)).vN bh)
    obtain⟨ig,fe,fd,ci,_⟩:=fA (P:=aH) (us:= (O p f o h)) (off:=0) aB G bo (bq G) G (O p f o h) rfl
    have bd:=ci.ext V df
    refine gH cQ (w:=eg) [J H I F M,J p f o h,a9 (eZ y),undef,undef,a9 (eZ y)] [eg,gk,ig] [3,4] [[],[],[],[0],[1],[2]] [[],[],[],[0],[0,1,3],[0,1,2,3,4]] [(0,0),(1,0),(1,1),(2,0),(2,1),(2,2),(3,0),(4,1),(5,2)] G hv ?_ ?_
    ·refine aZ _ G G G G G (cH G (bA aB ((ch.vN r).ext (aj.t ah)) (O H I F M) G (bq G) G)) (aZ _ G G G G G (cH G (bA aB (am.ext (aj.t ah)) (O p f o h) G (bq G) G)) (aZ _ G G G G G (cH G (bA aB ((am.ext (aj.t ah)).vN bh) (O p f o h) G (bq G) G)) (aZ _ G G G G G (bO G) (aZ _ G G G G G (bO G) (aZ _ G G G G G (bO G) (fG _ G G G G G (eO G G em) (fG _ G G G G G (eO G G fe) (aZ _ G G G G G (i7 G) ?_))))))))
     exact gG
    clear hv
    refine fX [(3,a4 g6 0),(4,a4 ct 0),(5,a4 cu 0),(7,a4 cx 0),(8,a4 de 0),(6,a9 (eZ y))] ⟨rfl,rfl,rfl,rfl,rfl,rfl,up⟩ (aC (aU (bU (aT [J H I F M,J p f o h,a9 (eZ y)] G ⟨⟨_,rfl,bA aB (ew.vN ci) (O H I F M) G (bq G) rfl⟩,⟨_,rfl,bA aB fd (O p f o h) G (bq G) rfl⟩,rfl,up⟩ ?_))))
    exact⟨_,rfl,⟨_,_,_,rfl,⟨_,_,_,_,rfl,(((((((dr.ext (L.t E)).updT X D).updT W r).ext (aj.t ah)).updT bw bh).updT bo ci)).cast (by simp only [qF,rF,if_neg h0,←hr,hq,if_pos hk])⟩,⟨_,_,_,_,rfl,(((((((bg.ext (L.t E)).updT X D).updT W r).ext (aj.t ah)).updT bw bh).updT bo ci)).cast (by simp only [qF,rF,if_neg h0,←hr,hq,if_pos hk])⟩,rfl⟩,bd⟩
  ·refine eI cQ 10 [] [Is (a9 (eZ y)),Is (t9),Is (t9),Is (J p f o h),Is (a9 (bH (rT x y) 0)),Is (J sb Ab nb cb),Is (a9 (bH y 0)),Is (a9 (bH (rT x y) 0*bH y 0)),Is (t9),Is (t9)] [[],[0],[1],[2],[2,3],[2],[2,5],[2,4,6],[2,7],[2,8]] [[],[0],[0,1],[0,1,2],[0,1,2,3],[0,1,2],[0,1,2,3,4,5],[0,1,2,3,4,5,6],[0,1,2,3,4,5,6,7],[0,1,2,3,4,5,6,7,8]] rfl
    (aJ G G (aF G G ?_) (aJ G G (aF G G ?_) (aJ G G (aF G G ?_) (aJ G G (aF G G ?_) (aJ G G (aF G G ?_) (aJ G G (aF G G ?_) (aJ G G (aF G G ?_) (aJ G G (aF G G ?_) (aJ G G (aF G G ?_) (aJ G G (aF G G ?_) dY)))))))))) ?_
   ·exact fun _ _=>aG (mv 1 G (aI G aK G))
   ·exact fun _ _=>dk G G (aG (aA G G G false (kS) (aI G aK G)))
   ·exact fun _ _=>dk G G (aG (mv 1 G (aI G aK G)))
   ·exact fun _ fj=>dk G G (aG (lo aB (am.ext fj) (O p f o h) G G G (aI G aK G)))
   ·intro _ du
    have e:=ce.trans du
    refine dk G G (dk G G (aG (cl (vs:= [J p f o h]) e (jJ ((((bg.ext (L.t E)).updT X D).updT W r).ext du).zi (bg.le (aO dm G))) G (by kernel_rfl) fun _ _ ij gi q=>?_)))
    obtain rfl:=ij
    exact aI G gi rfl
   ·exact fun _ iy=>dk G G (aG (lo aB ((((dd.ext (dg.t (az.t (aw.t (L.t E))))).vN D).vN r).ext iy) (O sb Ab nb cb) G G G (aI G aK G)))
   ·intro _ fw
    have e:=ce.trans fw
    refine dk G G (dk G G (aG (cl (vs:= [J sb Ab nb cb]) e (jJ (hy.ext e) (aO lb G)) G (by kernel_rfl) fun _ _ ir gg q=>?_)))
    obtain rfl:=ir
    exact aI G gg rfl
   ·exact fun _ _=>dk G G (dk G G (dk G G (aG (aR G G G (bH (rT x y) 0*bH y 0) (tK G (by have:=uR (rT x y) 0 y 0;omega) (by have:=uR (rT x y) 0 y 0;omega)) (aI G aK G)))))
   ·exact fun _ _=>dk G G (dk G G (aG (aA G G G false (eF) (aI G aK G))))
   ·exact fun _ _=>dk G G (dk G G (aG (pu (v:= t9) G (aI G aK G))))
   ·intro _ U
    have e:=ce.trans U
    refine dk G G (dk G G (dk G G (dk G G (dk G G (dk G G (dk G G (dk G G (dk G G (dk G G (aG (aS (eB (aC ?_)))))))))))))
    refine aN G (aW (aC (a7 ?_)))
    have jy:ln ((qT x y)-1)≤1048577:=aE (hZ fi (show ln (1)≤1 by decide+kernel)) (by decide)
    refine eI cQ 3 [] [Is (J H I F M),ZR w.heap.size (1),ZR w.heap.size ((qT x y)-1)] [[],[],[0,1]] [[],[],[0,1],[0,1,2]] rfl
     (aJ G G (aF G G ?_) (aJ G G (aF G G ?_) (aJ G G (aF G G ?_) dY))) ?_
    ·exact fun _ il=>aG (lo aB ((ch.vN r).ext (U.t il)) (O H I F M) G G G (aI G aK G))
    ·intro _ fk
     have q:=e.trans fk
     refine aG (cl (vs:= [a9 1]) q (wI q.size) G (by kernel_rfl) fun _ _ fq fo V=>?_)
     obtain⟨_,_,_,_,rfl,ji⟩:=fq
     exact aI G fo ⟨_,_,_,_,rfl,ji⟩
    ·intro _ dy
     have q:=e.trans dy
     refine dk G G (cF G G fun _ _ ix _ je=>?_)
     obtain⟨gf,jb,ie,fp,rfl,ck⟩:=ix
     have ck:=ck.ext je
     refine aG ?_
     have jx:ln ((qT x y)-1)≤1048577:=aE (hZ fi (show ln (1)≤1 by decide+kernel)) (by decide)
     refine cl (vs:= [J H I F M,J gf jb ie fp]) q (wH q.size ((((dr.ext (L.t E)).updT X D).updT W r).ext (U.t dy)).zi (dr.le (aO fi G)) ck.zi (ck.le (aE (show ln (1)≤1 by decide+kernel) (by decide)))) G (by kernel_rfl) fun _ _ ik fz V=>?_
     obtain⟨_,_,_,_,rfl,jg⟩:=ik
     exact aI G fz ⟨_,_,_,_,rfl,jg⟩
    ·intro _ aa
     have q:=e.trans aa
     refine dk G G (cF G G fun _ _ gj _ jf=>?_)
     obtain⟨_,_,_,_,rfl,dx⟩:=gj
     have dx:=dx.ext jf
     refine cF G G fun _ _ ia _ io=>?_
     obtain⟨av,ao,au,ar,rfl,cv⟩:=ia
     have cv:=cv.ext io
     refine aG ?_
     have bz:=((ch.vN r).ext (U.t aa))
     refine so aB bz (O av ao au ar) q dz G G G G fun _ en aq V=>(aS (eB (aC (sr (lo aB ((am.ext (U.t aa)).vN aq) (O p f o h) G G G (lo aB (((((dd.ext (dg.t (az.t (aw.t (L.t E))))).vN D).vN r).ext (U.t aa)).vN aq) (O sb Ab nb cb) G G G ?_))))))
     have jw:ln ((rT x y)+y)≤1048577:=aE (dZ dm Ly) (by decide)
     refine cl (vs:= [J p f o h,J sb Ab nb cb]) V (lY V.size (((((bg.ext (L.t E)).updT X D).updT W r).ext (U.t aa)).updT bz aq).zi (bg.le (aO dm G)) (hy.ext V) (aO lb G)) G (by kernel_rfl) fun _ _ gy bj bd=>?_
     obtain⟨ae,ai,ag,Z,rfl,iq⟩:=gy
     have bv:=(((am.ext (U.t aa)).vN aq).ext bj)
     refine so aB bv (O ae ai ag Z) bd el G G G G fun dw dh bf iw=>(a1 (a7 (bF [(4,a4 ct 0),(5,a4 cu 0),(7,a4 cx 0),(8,a4 de 0)] ⟨rfl,rfl,rfl,rfl,up⟩ ?_)))
     obtain⟨ef,hv,ak⟩:∃v,v=dw.drew∧Ext dw v:=⟨_,rfl,aK.drew⟩
     have fy:=iw.trans ak
     have bm:=((((((((cm.ext (az.t (aw.t (L.t E)))).vN D).vN r).ext (U.t aa)).vN aq).ext bj).vN bf).ext ak)
     obtain⟨fs,fa,fg,ba,_⟩:=fA (P:=aH) (us:= (O av ao au ar)) (off:=0) aB G bm (bq G) G (O av ao au ar) rfl
     have fv:=ba.ext fy da
     have bt:=(((((((((cj.ext (aw.t (L.t E))).vN D).vN r).ext (U.t aa)).vN aq).ext bj).vN bf).ext ak).vN ba)
     obtain⟨iz,fb,ep,cg,_⟩:=fA (P:=aH) (us:= (O ae ai ag Z)) (off:=0) aB G bt (bq G) G (O ae ai ag Z) rfl
     have go:=cg.ext fv df
     refine gH cQ (w:=ef) [J av ao au ar,J ae ai ag Z,undef,undef,I0] [ef,fs,iz] [2,3] [[],[],[0],[1],[]] [[],[],[0],[0,1,2],[0,1,2,3]] [(0,0),(1,0),(1,1),(2,0),(3,1),(4,2)] G hv ?_ ?_
     ·refine aZ _ G G G G G (cH G (bA aB (((en.ext bj).vN bf).ext ak) (O av ao au ar) G (bq G) G)) (aZ _ G G G G G (cH G (bA aB (dh.ext ak) (O ae ai ag Z) G (bq G) G)) (aZ _ G G G G G (cH G (bA aB ((dh.ext ak).vN ba) (O ae ai ag Z) G (bq G) G)) (fG _ G G G G G (eO G G fa) (fG _ G G G G G (eO G G fb) (aZ _ G G G G G (i7 G) ?_)))))
      exact gG
     clear hv
     refine fX [(4,a4 ct 0),(5,a4 cu 0),(6,a9 0)] ⟨rfl,rfl,rfl,up⟩ (aC (aU (aT [J av ao au ar,J ae ai ag Z,I0] G ⟨⟨_,rfl,bA aB (fg.vN cg) (O av ao au ar) G (bq G) rfl⟩,⟨_,rfl,bA aB ep (O ae ai ag Z) G (bq G) rfl⟩,rfl,up⟩ ?_)))
     exact⟨_,rfl,⟨_,_,_,rfl,⟨_,_,_,_,rfl,(((((((cv.updT bz aq).ext bj).updT bv bf).ext ak).updT bm ba).updT bt cg)).cast (by simp only [qF,rF,if_neg h0,←hr,hq,if_neg hk])⟩,⟨_,_,_,_,rfl,(((((iq.updT bv bf).ext ak).updT bm ba).updT bt cg)).cast (by simp only [qF,rF,if_neg h0,←hr,hq,if_neg hk])⟩,(show (a9 0:aD)=_ by simp only [eX,eZ,if_neg h0])⟩,go⟩
theorem GU {nb:Nat}(hb:b≤w.heap.size)(hx:Zi w sa Aa na ca x)(la:na≤1048576)(hy:Zi w sb Ab nb cb y)(lb:nb≤1048576):aQ aH 135 #[J sa Aa na ca,J sb Ab nb cb] w (Gv w (T3 (ZR b (qE x y)) (ZR b (bZ x y)) (Is (a9 (eZ y))))):=by
 refine Calls.mono (R:=Gv w (T3 (ZR w.heap.size (qE x y)) (ZR w.heap.size (bZ x y)) (Is (a9 (eZ y))))) ?_ (Gv.imp (T3.imp (ZR.imp hb) (ZR.imp hb) Is.imp))
 have Lx:ln x≤1048576:=aE hx.ln la
 have Ly:ln y≤1048576:=aE hy.ln lb
 refine bL Tryz.func135 G (n:=42) G (bq G) (args:= [J sa Aa na ca,J sb Ab nb cb]) (bF [(0,J sa Aa na ca),(1,J sb Ab nb cb)] ⟨rfl,rfl,up⟩ (sr (bx (O sa Aa na ca) (Ext.refl w) G G G fun _ _ mi _ _ oa=>(gN (O sb Ab nb cb) oa mi.lt G G G fun g6 _ ei _ _ e8 ow=>(cO [F0,S0] ow ei.lt (fun _=>by kernel_rfl) G fun cj _ co ea _ el pm=>(cO [F0,S0] pm co.lt (fun _=>by kernel_rfl) G fun ck _ cm ee _ bw fv=>(mv 1 G (a1 (sr (lo aB (mi.ext (e8.t (el.t bw))) (O sa Aa na ca) G G G (lo aB (ei.ext (el.t bw)) (O sb Ab nb cb) G G G ?_)))))))))))
 have en:ln (qT x y)≤1048576:=pC Lx
 have ci:ln (rT x y)≤1048576:=pB Lx
 refine cl (vs:= [J sa Aa na ca,J sb Ab nb cb]) fv (vZ fv.size (hx.ext fv) (aO la G) (hy.ext fv) (aO lb G)) G (by kernel_rfl) fun _ _ ph ag pj=>?_
 obtain⟨_,_,_,rfl,⟨L,X,W,V,rfl,em⟩,⟨p,D,h,E,rfl,bz⟩,rfl⟩:=ph
 refine mv 1 G (pu (v:= J L X W V) G (pu (v:= J p D h E) G (pu (v:= a9 (eZ y)) G (cO [F0,S0] pj (cm.ext ag).lt (fun _=>by kernel_rfl) G fun eh _ fz fk _ I om=>(cO [F0,S0] om fz.lt (fun _=>by kernel_rfl) G fun ej _ kv fc _ H oi=>?_)))))
 have aa:=(fz.ext H)
 refine so aB aa (O L X W V) oi fk G G G G fun _ cf F oz=>?_
 have Y:=(kv.vN F)
 refine so aB Y (O p D h E) oz fc G G G G fun jm ab f iy=>(mv 1 G (a1 (a7 (a7 ?_))))
 by_cases h0:y=0
 ·have he:eZ y=4:=if_pos h0
  refine a6 (mv 1 G (aA G G G true (nQ) (mv 4 G (pu (v:= no) G (a1 (aY G (a7 (bF [(3,a4 g6 0),(4,a4 cj 0),(5,a4 ck 0),(7,a4 eh 0),(8,a4 ej 0),(9,a9 (eZ y))] ⟨rfl,rfl,rfl,rfl,rfl,rfl,up⟩ ?_))))))))
  obtain⟨mh,hv,dd⟩:∃v,v=jm.drew∧Ext jm v:=⟨_,rfl,aK.drew⟩
  have ah:=iy.trans dd
  have fq:=((((co.ext (bw.t (ag.t (I.t H)))).vN F).vN f).ext dd)
  obtain⟨oo,ju,me,fh,_⟩:=fA (P:=aH) (us:= (O L X W V)) (off:=0) aB G fq (bq G) G (O L X W V) rfl
  have Z:=fh.ext ah ea
  have ew:=(((((cm.ext (ag.t (I.t H))).vN F).vN f).ext dd).vN fh)
  obtain⟨oe,nh,ji,fw,_⟩:=fA (P:=aH) (us:= (O p D h E)) (off:=0) aB G ew (bq G) G (O p D h E) rfl
  have e:=fw.ext Z ee
  refine gH cQ (w:=mh) [J L X W V,J p D h E,a9 (eZ y),undef,undef,a9 (eZ y)] [mh,oo,oe] [3,4] [[],[],[],[0],[1],[2]] [[],[],[],[0],[0,1,3],[0,1,2,3,4]] [(0,0),(1,0),(1,1),(2,0),(2,1),(2,2),(3,0),(4,1),(5,2)] G hv ?_ ?_
  ·refine aZ _ G G G G G (cH G (bA aB ((cf.vN f).ext dd) (O L X W V) G (bq G) G)) (aZ _ G G G G G (cH G (bA aB (ab.ext dd) (O p D h E) G (bq G) G)) (aZ _ G G G G G (cH G (bA aB ((ab.ext dd).vN fh) (O p D h E) G (bq G) G)) (aZ _ G G G G G (bO G) (aZ _ G G G G G (bO G) (aZ _ G G G G G (bO G) (fG _ G G G G G (eO G G ju) (fG _ G G G G G (eO G G nh) (aZ _ G G G G G (i7 G) ?_))))))))
   exact gG
  clear hv
  refine fX [(3,a4 g6 0),(4,a4 cj 0),(5,a4 ck 0),(7,a4 eh 0),(8,a4 ej 0),(6,a9 (eZ y))] ⟨rfl,rfl,rfl,rfl,rfl,rfl,up⟩ (aC (aU (bU (aT [J L X W V,J p D h E,a9 (eZ y)] G ⟨⟨_,rfl,bA aB (me.vN fw) (O L X W V) G (bq G) rfl⟩,⟨_,rfl,bA aB ji (O p D h E) G (bq G) rfl⟩,rfl,up⟩ ?_))))
  exact⟨_,rfl,⟨_,_,_,rfl,⟨_,_,_,_,rfl,(((((((em.ext (I.t H)).updT aa F).updT Y f).ext dd).updT fq fh).updT ew fw)).cast (by simp only [qT,rT,qE,bZ,if_pos h0])⟩,⟨_,_,_,_,rfl,(((((((bz.ext (I.t H)).updT aa F).updT Y f).ext dd).updT fq fh).updT ew fw)).cast (by simp only [qT,rT,qE,bZ,if_pos h0])⟩,rfl⟩,e⟩
 ·have he:eZ y=0:=if_neg h0
  have hq:qT x y=x.tdiv y:=if_neg h0
  have hr:rT x y=x.tmod y:=if_neg h0
  have pg:=Int.tdiv_mul_add_tmod x y
  have ha:=uL (x:=x) h0
  by_cases hk:0≤rT x y
  ·have hu:=BD (q:=qT x y) (r:=rT x y) (x:=x) h0 (by rw [hq,hr];exact pg) hk
   refine a6 (mv 1 G (aA G G G false (kS) (mv 1 G (lo aB ab (O p D h E) G G G (cl (vs:= [J p D h E]) iy (jJ (((bz.ext (I.t H)).updT aa F).updT Y f).zi (bz.le (aO ci G))) G (by kernel_rfl) fun _ lp oq dt ah=>?_)))))
   obtain rfl:=oq
   refine aA G G G true (NS hk) (pu (v:= no) G (a1 (aY G (a7 (bF [(3,a4 g6 0),(4,a4 cj 0),(5,a4 ck 0),(7,a4 eh 0),(8,a4 ej 0),(9,a9 (eZ y))] ⟨rfl,rfl,rfl,rfl,rfl,rfl,up⟩ ?_)))))
   obtain⟨jn,hv,ct⟩:∃v,v=lp.drew∧Ext lp v:=⟨_,rfl,aK.drew⟩
   have Z:=ah.trans ct
   have ft:=((((co.ext (bw.t (ag.t (I.t H)))).vN F).vN f).ext (dt.t ct))
   obtain⟨ot,kt,jr,ez,_⟩:=fA (P:=aH) (us:= (O L X W V)) (off:=0) aB G ft (bq G) G (O L X W V) rfl
   have e:=ez.ext Z ea
   have fp:=(((((cm.ext (ag.t (I.t H))).vN F).vN f).ext (dt.t ct)).vN ez)
   obtain⟨ou,mw,kj,fx,_⟩:=fA (P:=aH) (us:= (O p D h E)) (off:=0) aB G fp (bq G) G (O p D h E) rfl
   have M:=fx.ext e ee
   refine gH cQ (w:=jn) [J L X W V,J p D h E,a9 (eZ y),undef,undef,a9 (eZ y)] [jn,ot,ou] [3,4] [[],[],[],[0],[1],[2]] [[],[],[],[0],[0,1,3],[0,1,2,3,4]] [(0,0),(1,0),(1,1),(2,0),(2,1),(2,2),(3,0),(4,1),(5,2)] G hv ?_ ?_
   ·refine aZ _ G G G G G (cH G (bA aB ((cf.vN f).ext (dt.t ct)) (O L X W V) G (bq G) G)) (aZ _ G G G G G (cH G (bA aB (ab.ext (dt.t ct)) (O p D h E) G (bq G) G)) (aZ _ G G G G G (cH G (bA aB ((ab.ext (dt.t ct)).vN ez) (O p D h E) G (bq G) G)) (aZ _ G G G G G (bO G) (aZ _ G G G G G (bO G) (aZ _ G G G G G (bO G) (fG _ G G G G G (eO G G kt) (fG _ G G G G G (eO G G mw) (aZ _ G G G G G (i7 G) ?_))))))))
    exact gG
   clear hv
   refine fX [(3,a4 g6 0),(4,a4 cj 0),(5,a4 ck 0),(7,a4 eh 0),(8,a4 ej 0),(6,a9 (eZ y))] ⟨rfl,rfl,rfl,rfl,rfl,rfl,up⟩ (aC (aU (bU (aT [J L X W V,J p D h E,a9 (eZ y)] G ⟨⟨_,rfl,bA aB (jr.vN fx) (O L X W V) G (bq G) rfl⟩,⟨_,rfl,bA aB kj (O p D h E) G (bq G) rfl⟩,rfl,up⟩ ?_))))
   exact⟨_,rfl,⟨_,_,_,rfl,⟨_,_,_,_,rfl,(((((((em.ext (I.t H)).updT aa F).updT Y f).ext (dt.t ct)).updT ft ez).updT fp fx)).cast (by unfold qE;rw [if_neg h0];exact hu.1)⟩,⟨_,_,_,_,rfl,(((((((bz.ext (I.t H)).updT aa F).updT Y f).ext (dt.t ct)).updT ft ez).updT fp fx)).cast (by unfold bZ;rw [if_neg h0];exact hu.2)⟩,rfl⟩,M⟩
  ·refine a6 (mv 1 G (aA G G G false (kS) (mv 1 G (lo aB ab (O p D h E) G G G (cl (vs:= [J p D h E]) iy (jJ (((bz.ext (I.t H)).updT aa F).updT Y f).zi (bz.le (aO ci G))) G (by kernel_rfl) fun _ _ pd U ah=>?_)))))
   obtain rfl:=pd
   refine aA G G G false (NT (by omega)) (pu (v:= t9) G (a1 (aN G (aW (aC (a7 (a7 ?_)))))))
   by_cases hp:0<y
   ·have hu:=BD (q:=qT x y-1) (r:=rT x y+(Int.natAbs y:Int)) (x:=x) h0 (by rw [Int.sub_mul,Int.one_mul,hq,hr];omega) (by omega)
    refine a6 (lo aB ((((ei.ext (el.t (bw.t (ag.t (I.t H))))).vN F).vN f).ext U) (O sb Ab nb cb) G G G (cl (vs:= [J sb Ab nb cb]) ah (jJ (hy.ext ah) (aO lb G)) G (by kernel_rfl) fun _ _ pe ch Z=>?_))
    obtain rfl:=pe
    refine aA G G G true (NQ hp) (a1 (aY G ?_))
    have qg:ln ((qT x y)-1)≤1048577:=aE (hZ en (show ln (1)≤1 by decide+kernel)) (by decide)
    refine eI cQ 3 [] [Is (J L X W V),ZR w.heap.size (1),ZR w.heap.size ((qT x y)-1)] [[],[],[0,1]] [[],[],[0,1],[0,1,2]] rfl
     (aJ G G (aF G G ?_) (aJ G G (aF G G ?_) (aJ G G (aF G G ?_) dY))) ?_
    ·exact fun _ pk=>aG (lo aB ((cf.vN f).ext (U.t (ch.t pk))) (O L X W V) G G G (aI G aK G))
    ·intro _ oy
     have e:=Z.trans oy
     refine aG (cl (vs:= [a9 1]) e (wI e.size) G (by kernel_rfl) fun _ _ nl oh M=>?_)
     obtain⟨_,_,_,_,rfl,md⟩:=nl
     exact aI G oh ⟨_,_,_,_,rfl,md⟩
    ·intro _ gg
     have e:=Z.trans gg
     refine dk G G (cF G G fun _ _ jx _ nf=>?_)
     obtain⟨ko,ny,mg,kk,rfl,dx⟩:=jx
     have dx:=dx.ext nf
     refine aG ?_
     have pz:ln ((qT x y)-1)≤1048577:=aE (hZ en (show ln (1)≤1 by decide+kernel)) (by decide)
     refine cl (vs:= [J L X W V,J ko ny mg kk]) e (wH e.size ((((em.ext (I.t H)).updT aa F).updT Y f).ext (U.t (ch.t gg))).zi (em.le (aO en G)) dx.zi (dx.le (aE (show ln (1)≤1 by decide+kernel) (by decide)))) G (by kernel_rfl) fun _ _ ki jj M=>?_
     obtain⟨_,_,_,_,rfl,kb⟩:=ki
     exact aI G jj ⟨_,_,_,_,rfl,kb⟩
    ·intro _ ao
     have e:=Z.trans ao
     refine dk G G (cF G G fun _ _ je _ lj=>?_)
     obtain⟨_,_,_,_,rfl,ie⟩:=je
     have ie:=ie.ext lj
     refine cF G G fun _ _ mt _ jg=>?_
     obtain⟨bh,bd,bj,bt,rfl,fm⟩:=mt
     have fm:=fm.ext jg
     refine aG ?_
     have dl:=((cf.vN f).ext (U.t (ch.t ao)))
     refine so aB dl (O bh bd bj bt) e fk G G G G fun _ iq bi M=>(aS (eB (aC (a7 ?_))))
     have fb:ln ((Int.natAbs y:Int))≤1048576:=(by rw [kT];exact Ly)
     have py:ln ((rT x y)+(Int.natAbs y:Int))≤1048577:=aE (dZ ci fb) (by decide)
     refine eI cQ 4 [] [Is (J p D h E),Is (J sb Ab nb cb),ZR w.heap.size ((Int.natAbs y:Int)),ZR w.heap.size ((rT x y)+(Int.natAbs y:Int))] [[],[],[1],[0,2]] [[],[],[1],[0,1,2],[0,1,2,3]] rfl
      (aJ G G (aF G G ?_) (aJ G G (aF G G ?_) (aJ G G (aF G G ?_) (aJ G G (aF G G ?_) dY)))) ?_
     ·exact fun _ jv=>aG (lo aB (((ab.ext (U.t (ch.t ao))).vN bi).ext jv) (O p D h E) G G G (aI G aK G))
     ·exact fun _ ml=>aG (lo aB ((((((ei.ext (el.t (bw.t (ag.t (I.t H))))).vN F).vN f).ext (U.t (ch.t ao))).vN bi).ext ml) (O sb Ab nb cb) G G G (aI G aK G))
     ·intro _ jp
      have o:=M.trans jp
      refine dk G G (aG ?_)
      have qd:ln ((Int.natAbs y:Int))≤1048576:=(by rw [kT];exact Ly)
      refine cl (vs:= [J sb Ab nb cb]) o (wK o.size (hy.ext o) (aO lb G)) G (by kernel_rfl) fun _ _ kf lv bf=>?_
      obtain⟨_,_,_,_,rfl,ku⟩:=kf
      exact aI G lv ⟨_,_,_,_,rfl,ku⟩
     ·intro _ gj
      have o:=M.trans gj
      refine dk G G (cF G G fun _ _ mf _ kc=>?_)
      obtain⟨jb,nj,jt,ll,rfl,dy⟩:=mf
      have dy:=dy.ext kc
      refine aG ?_
      have qe:ln ((rT x y)+(Int.natAbs y:Int))≤1048577:=aE (dZ ci fb) (by decide)
      refine cl (vs:= [J p D h E,J jb nj jt ll]) o (lY o.size ((((((bz.ext (I.t H)).updT aa F).updT Y f).ext (U.t (ch.t ao))).updT dl bi).ext gj).zi (bz.le (aO ci G)) dy.zi (dy.le (aO fb G))) G (by kernel_rfl) fun _ _ mj jf bf=>?_
      obtain⟨_,_,_,_,rfl,nk⟩:=mj
      exact aI G jf ⟨_,_,_,_,rfl,nk⟩
     ·intro _ cg
      have o:=M.trans cg
      refine dk G G (dk G G (cF G G fun _ _ ma _ lu=>?_))
      obtain⟨_,_,_,_,rfl,go⟩:=ma
      have go:=go.ext lu
      refine cF G G fun _ _ jo _ jd=>?_
      obtain⟨ar,aj,ai,am,rfl,ep⟩:=jo
      have ep:=ep.ext jd
      refine aG ?_
      have du:=(((ab.ext (U.t (ch.t ao))).vN bi).ext cg)
      refine so aB du (O ar aj ai am) o fc G G G G fun ib fe cu bf=>(aS (eB (aC (a7 (bF [(4,a4 cj 0),(5,a4 ck 0),(7,a4 eh 0),(8,a4 ej 0)] ⟨rfl,rfl,rfl,rfl,up⟩ ?_)))))
      obtain⟨fy,hv,az⟩:∃v,v=ib.drew∧Ext ib v:=⟨_,rfl,aK.drew⟩
      have ey:=bf.trans az
      have dh:=((((((((co.ext (bw.t (ag.t (I.t H)))).vN F).vN f).ext (U.t (ch.t ao))).vN bi).ext cg).vN cu).ext az)
      obtain⟨kn,ir,iu,da,_⟩:=fA (P:=aH) (us:= (O bh bd bj bt)) (off:=0) aB G dh (bq G) G (O bh bd bj bt) rfl
      have fa:=da.ext ey ea
      have df:=(((((((((cm.ext (ag.t (I.t H))).vN F).vN f).ext (U.t (ch.t ao))).vN bi).ext cg).vN cu).ext az).vN da)
      obtain⟨lf,iw,io,ef,_⟩:=fA (P:=aH) (us:= (O ar aj ai am)) (off:=0) aB G df (bq G) G (O ar aj ai am) rfl
      have fj:=ef.ext fa ee
      refine gH cQ (w:=fy) [J bh bd bj bt,J ar aj ai am,undef,undef,I0] [fy,kn,lf] [2,3] [[],[],[0],[1],[]] [[],[],[0],[0,1,2],[0,1,2,3]] [(0,0),(1,0),(1,1),(2,0),(3,1),(4,2)] G hv ?_ ?_
      ·refine aZ _ G G G G G (cH G (bA aB (((iq.ext cg).vN cu).ext az) (O bh bd bj bt) G (bq G) G)) (aZ _ G G G G G (cH G (bA aB (fe.ext az) (O ar aj ai am) G (bq G) G)) (aZ _ G G G G G (cH G (bA aB ((fe.ext az).vN da) (O ar aj ai am) G (bq G) G)) (fG _ G G G G G (eO G G ir) (fG _ G G G G G (eO G G iw) (aZ _ G G G G G (i7 G) ?_)))))
       exact gG
      clear hv
      refine fX [(4,a4 cj 0),(5,a4 ck 0),(6,a9 0)] ⟨rfl,rfl,rfl,up⟩ (aC (aU (aT [J bh bd bj bt,J ar aj ai am,I0] G ⟨⟨_,rfl,bA aB (iu.vN ef) (O bh bd bj bt) G (bq G) rfl⟩,⟨_,rfl,bA aB io (O ar aj ai am) G (bq G) rfl⟩,rfl,up⟩ ?_)))
      exact⟨_,rfl,⟨_,_,_,rfl,⟨_,_,_,_,rfl,(((((((fm.updT dl bi).ext cg).updT du cu).ext az).updT dh da).updT df ef)).cast (by unfold qE;rw [if_neg h0];exact hu.1)⟩,⟨_,_,_,_,rfl,(((((ep.updT du cu).ext az).updT dh da).updT df ef)).cast (by unfold bZ;rw [if_neg h0];exact hu.2)⟩,(show (a9 0:aD)=_ by simp only [eX,eZ,if_neg h0])⟩,fj⟩
   ·have hu:=BD (q:=qT x y+1) (r:=rT x y+(Int.natAbs y:Int)) (x:=x) h0 (by rw [Int.add_mul,Int.one_mul,hq,hr];omega) (by omega)
    refine a6 (lo aB ((((ei.ext (el.t (bw.t (ag.t (I.t H))))).vN F).vN f).ext U) (O sb Ab nb cb) G G G (cl (vs:= [J sb Ab nb cb]) ah (jJ (hy.ext ah) (aO lb G)) G (by kernel_rfl) fun _ _ kz ae Z=>?_))
    obtain rfl:=kz
    refine aA G G G false (NR (by omega)) (a1 (aN G ?_))
    have px:ln ((qT x y)+1)≤1048577:=aE (dZ en (show ln (1)≤1 by decide+kernel)) (by decide)
    refine eI cQ 3 [] [Is (J L X W V),ZR w.heap.size (1),ZR w.heap.size ((qT x y)+1)] [[],[],[0,1]] [[],[],[0,1],[0,1,2]] rfl
     (aJ G G (aF G G ?_) (aJ G G (aF G G ?_) (aJ G G (aF G G ?_) dY))) ?_
    ·exact fun _ ni=>aG (lo aB ((cf.vN f).ext (U.t (ae.t ni))) (O L X W V) G G G (aI G aK G))
    ·intro _ kr
     have e:=Z.trans kr
     refine aG (cl (vs:= [a9 1]) e (wI e.size) G (by kernel_rfl) fun _ _ lm mb M=>?_)
     obtain⟨_,_,_,_,rfl,ja⟩:=lm
     exact aI G mb ⟨_,_,_,_,rfl,ja⟩
    ·intro _ ia
     have e:=Z.trans ia
     refine dk G G (cF G G fun _ _ lz _ ks=>?_)
     obtain⟨lg,lk,my,jy,rfl,dz⟩:=lz
     have dz:=dz.ext ks
     refine aG ?_
     have pr:ln ((qT x y)+1)≤1048577:=aE (dZ en (show ln (1)≤1 by decide+kernel)) (by decide)
     refine cl (vs:= [J L X W V,J lg lk my jy]) e (lY e.size ((((em.ext (I.t H)).updT aa F).updT Y f).ext (U.t (ae.t ia))).zi (em.le (aO en G)) dz.zi (dz.le (aE (show ln (1)≤1 by decide+kernel) (by decide)))) G (by kernel_rfl) fun _ _ jz ky M=>?_
     obtain⟨_,_,_,_,rfl,kp⟩:=jz
     exact aI G ky ⟨_,_,_,_,rfl,kp⟩
    ·intro _ aq
     have e:=Z.trans aq
     refine dk G G (cF G G fun _ _ nw _ mc=>?_)
     obtain⟨_,_,_,_,rfl,gk⟩:=nw
     have gk:=gk.ext mc
     refine cF G G fun _ _ kq _ nx=>?_
     obtain⟨bm,bu,bo,bg,rfl,fo⟩:=kq
     have fo:=fo.ext nx
     refine aG ?_
     have de:=((cf.vN f).ext (U.t (ae.t aq)))
     refine so aB de (O bm bu bo bg) e fk G G G G fun _ ij bv M=>(aS (eB (aC (a7 ?_))))
     have fi:ln ((Int.natAbs y:Int))≤1048576:=(by rw [kT];exact Ly)
     have po:ln ((rT x y)+(Int.natAbs y:Int))≤1048577:=aE (dZ ci fi) (by decide)
     refine eI cQ 4 [] [Is (J p D h E),Is (J sb Ab nb cb),ZR w.heap.size ((Int.natAbs y:Int)),ZR w.heap.size ((rT x y)+(Int.natAbs y:Int))] [[],[],[1],[0,2]] [[],[],[1],[0,1,2],[0,1,2,3]] rfl
      (aJ G G (aF G G ?_) (aJ G G (aF G G ?_) (aJ G G (aF G G ?_) (aJ G G (aF G G ?_) dY)))) ?_
     ·exact fun _ ke=>aG (lo aB (((ab.ext (U.t (ae.t aq))).vN bv).ext ke) (O p D h E) G G G (aI G aK G))
     ·exact fun _ mz=>aG (lo aB ((((((ei.ext (el.t (bw.t (ag.t (I.t H))))).vN F).vN f).ext (U.t (ae.t aq))).vN bv).ext mz) (O sb Ab nb cb) G G G (aI G aK G))
     ·intro _ jw
      have o:=M.trans jw
      refine dk G G (aG ?_)
      have pt:ln ((Int.natAbs y:Int))≤1048576:=(by rw [kT];exact Ly)
      refine cl (vs:= [J sb Ab nb cb]) o (wK o.size (hy.ext o) (aO lb G)) G (by kernel_rfl) fun _ _ nt kx bf=>?_
      obtain⟨_,_,_,_,rfl,ne⟩:=nt
      exact aI G kx ⟨_,_,_,_,rfl,ne⟩
     ·intro _ ig
      have o:=M.trans ig
      refine dk G G (cF G G fun _ _ mu _ kw=>?_)
      obtain⟨jq,kd,nu,lh,rfl,dw⟩:=mu
      have dw:=dw.ext kw
      refine aG ?_
      have pq:ln ((rT x y)+(Int.natAbs y:Int))≤1048577:=aE (dZ ci fi) (by decide)
      refine cl (vs:= [J p D h E,J jq kd nu lh]) o (lY o.size ((((((bz.ext (I.t H)).updT aa F).updT Y f).ext (U.t (ae.t aq))).updT de bv).ext ig).zi (bz.le (aO ci G)) dw.zi (dw.le (aO fi G))) G (by kernel_rfl) fun _ _ ka jc bf=>?_
      obtain⟨_,_,_,_,rfl,jh⟩:=ka
      exact aI G jc ⟨_,_,_,_,rfl,jh⟩
     ·intro _ ce
      have o:=M.trans ce
      refine dk G G (dk G G (cF G G fun _ _ mn _ mo=>?_))
      obtain⟨_,_,_,_,rfl,gy⟩:=mn
      have gy:=gy.ext mo
      refine cF G G fun _ _ mx _ mr=>?_
      obtain⟨ak,ba,au,aw,rfl,fd⟩:=mx
      have fd:=fd.ext mr
      refine aG ?_
      have dr:=(((ab.ext (U.t (ae.t aq))).vN bv).ext ce)
      refine so aB dr (O ak ba au aw) o fc G G G G fun gf fg cv bf=>(aS (eB (aC (a7 (bF [(4,a4 cj 0),(5,a4 ck 0),(7,a4 eh 0),(8,a4 ej 0)] ⟨rfl,rfl,rfl,rfl,up⟩ ?_)))))
      obtain⟨ge,hv,av⟩:∃v,v=gf.drew∧Ext gf v:=⟨_,rfl,aK.drew⟩
      have ey:=bf.trans av
      have dm:=((((((((co.ext (bw.t (ag.t (I.t H)))).vN F).vN f).ext (U.t (ae.t aq))).vN bv).ext ce).vN cv).ext av)
      obtain⟨jl,il,ik,cx,_⟩:=fA (P:=aH) (us:= (O bm bu bo bg)) (off:=0) aB G dm (bq G) G (O bm bu bo bg) rfl
      have fa:=cx.ext ey ea
      have dg:=(((((((((cm.ext (ag.t (I.t H))).vN F).vN f).ext (U.t (ae.t aq))).vN bv).ext ce).vN cv).ext av).vN cx)
      obtain⟨jk,iz,ix,eg,_⟩:=fA (P:=aH) (us:= (O ak ba au aw)) (off:=0) aB G dg (bq G) G (O ak ba au aw) rfl
      have fj:=eg.ext fa ee
      refine gH cQ (w:=ge) [J bm bu bo bg,J ak ba au aw,undef,undef,I0] [ge,jl,jk] [2,3] [[],[],[0],[1],[]] [[],[],[0],[0,1,2],[0,1,2,3]] [(0,0),(1,0),(1,1),(2,0),(3,1),(4,2)] G hv ?_ ?_
      ·refine aZ _ G G G G G (cH G (bA aB (((ij.ext ce).vN cv).ext av) (O bm bu bo bg) G (bq G) G)) (aZ _ G G G G G (cH G (bA aB (fg.ext av) (O ak ba au aw) G (bq G) G)) (aZ _ G G G G G (cH G (bA aB ((fg.ext av).vN cx) (O ak ba au aw) G (bq G) G)) (fG _ G G G G G (eO G G il) (fG _ G G G G G (eO G G iz) (aZ _ G G G G G (i7 G) ?_)))))
       exact gG
      clear hv
      refine fX [(4,a4 cj 0),(5,a4 ck 0),(6,a9 0)] ⟨rfl,rfl,rfl,up⟩ (aC (aU (aT [J bm bu bo bg,J ak ba au aw,I0] G ⟨⟨_,rfl,bA aB (ik.vN eg) (O bm bu bo bg) G (bq G) rfl⟩,⟨_,rfl,bA aB ix (O ak ba au aw) G (bq G) rfl⟩,rfl,up⟩ ?_)))
      exact⟨_,rfl,⟨_,_,_,rfl,⟨_,_,_,_,rfl,(((((((fo.updT de bv).ext ce).updT dr cv).ext av).updT dm cx).updT dg eg)).cast (by unfold qE;rw [if_neg h0];exact hu.1)⟩,⟨_,_,_,_,rfl,(((((fd.updT dr cv).ext av).updT dm cx).updT dg eg)).cast (by unfold bZ;rw [if_neg h0];exact hu.2)⟩,(show (a9 0:aD)=_ by simp only [eX,eZ,if_neg h0])⟩,fj⟩
theorem GT {nb:Nat}(hb:b≤w.heap.size)(hx:Zi w sa Aa na ca x)(la:na≤1048576)(hy:Zi w sb Ab nb cb y)(lb:nb≤1048576):aQ aH 137 #[J sa Aa na ca,J sb Ab nb cb] w (Gv w (T2 (ZR b (bZ x y)) (Is (a9 (eZ y))))):=by
 refine Calls.mono (R:=Gv w (T2 (ZR w.heap.size (bZ x y)) (Is (a9 (eZ y))))) ?_ (Gv.imp (T2.imp (ZR.imp hb) Is.imp))
 have Lx:ln x≤1048576:=aE hx.ln la
 have Ly:ln y≤1048576:=aE hy.ln lb
 refine bL Tryz.func137 G (n:=18) G (bq G) (args:= [J sa Aa na ca,J sb Ab nb cb]) (bF [(0,J sa Aa na ca),(1,J sb Ab nb cb)] ⟨rfl,rfl,up⟩ (sr (bx (O sa Aa na ca) (Ext.refl w) G G G fun _ _ ah _ _ au=>(gN (O sb Ab nb cb) au ah.lt G G G fun _ _ ak _ _ e8 ba=>(cO [F0,S0] ba ak.lt (fun _=>by kernel_rfl) G fun _ _ r aa _ ai p=>(mv 1 G (a1 (sr (lo aB (ah.ext (e8.t ai)) (O sa Aa na ca) G G G (lo aB (ak.ext ai) (O sb Ab nb cb) G G G ?_))))))))))
 have bg:ln (qE x y)≤1048578:=vU Lx
 have bi:ln (bZ x y)≤1048576:=nU Ly
 refine cl (vs:= [J sa Aa na ca,J sb Ab nb cb]) p (GU p.size (hx.ext p) (aO la G) (hy.ext p) (aO lb G)) G (by kernel_rfl) fun _ _ bf ae ao=>?_
 obtain⟨_,_,_,rfl,⟨M,W,Z,ag,rfl,_⟩,⟨h,f,o,e,rfl,ar⟩,rfl⟩:=bf
 refine mv 1 G (pu (v:= J M W Z ag) G (pu (v:= J h f o e) G (pu (v:= a9 (eZ y)) G (cO [F0,S0] ao (r.ext ae).lt (fun _=>by kernel_rfl) G fun _ _ F aj _ L av=>(cO [F0,S0] av F.lt (fun _=>by kernel_rfl) G fun _ _ V Y _ I am=>?_)))))
 have D:=(F.ext I)
 refine so aB D (O M W Z ag) am aj G G G G fun _ _ H aw=>?_
 have E:=(V.vN H)
 refine so aB E (O h f o e) aw Y G G G G fun _ X U az=>(mv 1 G (a1 (sr (lo aB X (O h f o e) G G G (mv 1 G ?_)))))
 have q:=(((r.ext (ae.t (L.t I))).vN H).vN U)
 refine so aB q (O h f o e) az aa G G G G fun _ ab bd aq=>(mv 1 G (a1 (aU (aT [J h f o e,a9 (eZ y)] G ⟨⟨_,rfl,bA aB ab (O h f o e) G (bq G) rfl⟩,rfl,up⟩ ?_))))
 exact⟨_,rfl,⟨_,_,rfl,⟨_,_,_,_,rfl,((((ar.ext (L.t I)).updT D H).updT E U).updT q bd)⟩,rfl⟩,aq⟩
theorem S6 {nb:Nat}(hb:b≤w.heap.size)(hx:Zi w sa Aa na ca x)(la:na≤1048576)(hy:Zi w sb Ab nb cb y)(lb:nb≤1048576):aQ aH 136 #[J sa Aa na ca,J sb Ab nb cb] w (Gv w (T2 (ZR b (vX x y)) (Is (a9 (eX x y))))):=by
 refine Calls.mono (R:=Gv w (T2 (ZR w.heap.size (vX x y)) (Is (a9 (eX x y))))) ?_ (Gv.imp (T2.imp (ZR.imp hb) Is.imp))
 have Lx:ln x≤1048576:=aE hx.ln la
 have Ly:ln y≤1048576:=aE hy.ln lb
 refine bL Tryz.func136 G (n:=25) G (bq G) (args:= [J sa Aa na ca,J sb Ab nb cb]) (bF [(0,J sa Aa na ca),(1,J sb Ab nb cb)] ⟨rfl,rfl,up⟩ (sr (bx (O sa Aa na ca) (Ext.refl w) G G G fun _ _ bh _ _ bm=>(gN (O sb Ab nb cb) bm bh.lt G G G fun _ _ bd _ _ e8 cg=>(cO [F0,S0] cg bd.lt (fun _=>by kernel_rfl) G fun _ _ q W _ aw ab=>(mv 1 G (a1 (sr (lo aB (bh.ext (e8.t aw)) (O sa Aa na ca) G G G (lo aB (bd.ext aw) (O sb Ab nb cb) G G G ?_))))))))))
 have co:ln (qT x y)≤1048576:=pC Lx
 have au:ln (rT x y)≤1048576:=pB Lx
 refine cl (vs:= [J sa Aa na ca,J sb Ab nb cb]) ab (vZ ab.size (hx.ext ab) (aO la G) (hy.ext ab) (aO lb G)) G (by kernel_rfl) fun _ _ ci aa bj=>?_
 obtain⟨_,_,_,rfl,⟨L,U,F,H,rfl,bw⟩,⟨M,E,V,I,rfl,Z⟩,rfl⟩:=ci
 refine mv 1 G (pu (v:= J L U F H) G (pu (v:= J M E V I) G (pu (v:= a9 (eZ y)) G (cO [F0,S0] bj (q.ext aa).lt (fun _=>by kernel_rfl) G fun _ _ ai az _ D bo=>(cO [F0,S0] bo ai.lt (fun _=>by kernel_rfl) G fun _ _ aq av _ o bi=>?_)))))
 have r:=(ai.ext o)
 refine so aB r (O L U F H) bi az G G G G fun _ ba f ce=>?_
 have p:=(aq.vN f)
 refine so aB p (O M E V I) ce av G G G G fun bv ah h ak=>(mv 1 G (a1 (a7 (a7 ?_))))
 by_cases h0:y=0
 ·have he:eZ y=4:=if_pos h0
  refine a6 (mv 1 G (aA G G G true (nQ) (a1 (aY G (sr (pu (v:= .agg #[F0,S0]) G (mv 1 G ?_)))))))
  have ae:=(((q.ext (aa.t (D.t o))).vN f).vN h)
  refine so aB ae [F0,S0] ak W G G G G fun _ bg ch Y=>(mv 1 G (a1 (aU (bU (aT [.agg #[F0,S0],a9 (eZ y)] G ⟨⟨_,rfl,bA aB bg [F0,S0] G (bq G) rfl⟩,rfl,up⟩ ?_)))))
  exact⟨_,rfl,⟨_,_,rfl,⟨_,_,_,_,rfl,(((Zr.zero (w:=bv) (base:=w.heap.size)).updT ae ch)).cast (by simp only [vX,if_pos h0])⟩,(show (a9 (eZ y):aD)=_ by simp only [eX,eZ,if_pos h0])⟩,Y⟩
 ·have he:eZ y=0:=if_neg h0
  have hq:qT x y=x.tdiv y:=if_neg h0
  have hr:rT x y=x.tmod y:=if_neg h0
  by_cases hd:x.natAbs%y.natAbs=0
  ·refine a6 (mv 1 G (aA G G G false (kS) (a1 (aN G (aW (aC (a7 (sr (lo aB ah (O M E V I) G G G (cl (vs:= [J M E V I]) ak (jJ (((Z.ext (D.t o)).updT r f).updT p h).zi (Z.le (aO au G))) G (by kernel_rfl) fun _ _ bz am Y=>?_))))))))))
   obtain rfl:=bz
   refine aA G G G false (NO (by rw [hr];exact DG.2 hd)) (a1 (aN G (aW (aC (sr (lo aB ((ba.vN h).ext am) (O L U F H) G G G ?_))))))
   have ag:=((((q.ext (aa.t (D.t o))).vN f).vN h).ext am)
   refine so aB ag (O L U F H) Y W G G G G fun _ bf cf X=>(mv 1 G (a1 (aU (aT [J L U F H,I0] G ⟨⟨_,rfl,bA aB bf (O L U F H) G (bq G) rfl⟩,rfl,up⟩ ?_))))
   exact⟨_,rfl,⟨_,_,rfl,⟨_,_,_,_,rfl,((((((bw.ext (D.t o)).updT r f).updT p h).ext am).updT ag cf)).cast (by simp only [vX,hq,if_neg h0,if_pos hd])⟩,(show (a9 0:aD)=_ by simp only [eX,eZ,if_neg h0,if_pos hd])⟩,X⟩
  ·refine a6 (mv 1 G (aA G G G false (kS) (a1 (aN G (aW (aC (a7 (sr (lo aB ah (O M E V I) G G G (cl (vs:= [J M E V I]) ak (jJ (((Z.ext (D.t o)).updT r f).updT p h).zi (Z.le (aO au G))) G (by kernel_rfl) fun _ cj ck bu Y=>?_))))))))))
   obtain rfl:=ck
   refine aA G G G true (NN (by rw [hr];exact fun e=>hd (DG.1 e))) (a1 (aY G (sr (pu (v:= .agg #[F0,S0]) G ?_))))
   have aj:=((((q.ext (aa.t (D.t o))).vN f).vN h).ext bu)
   refine so aB aj [F0,S0] Y W G G G G fun _ ar bt X=>(mv 1 G (a1 (aU (bU (aT [.agg #[F0,S0],a9 8] G ⟨⟨_,rfl,bA aB ar [F0,S0] G (bq G) rfl⟩,rfl,up⟩ ?_)))))
   exact⟨_,rfl,⟨_,_,rfl,⟨_,_,_,_,rfl,(((Zr.zero (w:=cj) (base:=w.heap.size)).updT aj bt)).cast (by simp only [vX,if_neg h0,if_neg hd])⟩,(show (a9 8:aD)=_ by simp only [eX,eZ,if_neg h0,if_neg hd])⟩,X⟩
theorem S3 {nb:Nat}(hb:b≤w.heap.size)(hx:Zi w sa Aa na ca x)(la:na≤1048576)(hy:Zi w sb Ab nb cb y)(lb:nb≤1048576):aQ aH 138 #[J sa Aa na ca,J sb Ab nb cb] w (Gv w (T2 (ZR b (vS x y)) (Is (a9 (eZ y))))):=by
 refine Calls.mono (R:=Gv w (T2 (ZR w.heap.size (vS x y)) (Is (a9 (eZ y))))) ?_ (Gv.imp (T2.imp (ZR.imp hb) Is.imp))
 have Lx:ln x≤1048576:=aE hx.ln la
 have Ly:ln y≤1048576:=aE hy.ln lb
 refine bL Tryz.func138 G (n:=29) G (bq G) (args:= [J sa Aa na ca,J sb Ab nb cb]) (bF [(0,J sa Aa na ca),(1,J sb Ab nb cb)] ⟨rfl,rfl,up⟩ (sr (bx (O sa Aa na ca) (Ext.refl w) G G G fun _ _ dg _ _ fc=>(gN (O sb Ab nb cb) fc dg.lt G G G fun _ _ ai _ _ e8 ge=>(cO [F0,S0] ge ai.lt (fun _=>by kernel_rfl) G fun _ _ aa ah _ ao aw=>(mv 1 G (a1 (sr (lo aB (dg.ext (e8.t ao)) (O sa Aa na ca) G G G (lo aB (ai.ext ao) (O sb Ab nb cb) G G G ?_))))))))))
 have q:ln (bZ x y)≤1048576:=nU Ly
 refine cl (vs:= [J sa Aa na ca,J sb Ab nb cb]) aw (GT aw.size (hx.ext aw) (aO la G) (hy.ext aw) (aO lb G)) G (by kernel_rfl) fun _ _ fy X fa=>?_
 obtain⟨_,_,rfl,⟨f,e,h,o,rfl,I⟩,rfl⟩:=fy
 refine mv 1 G (pu (v:= J f e h o) G (pu (v:= a9 (eZ y)) G (cO [F0,S0] fa (aa.ext X).lt (fun _=>by kernel_rfl) G fun _ _ F bd _ E fk=>(so aB F (O f e h o) fk bd G G G G fun _ H D Y=>(mv 1 G (a1 (a7 (a7 ?_))))))))
 by_cases h0:y=0
 ·have he:eZ y=4:=if_pos h0
  refine a6 (mv 1 G (aA G G G true (nQ) (a1 (aY G (sr (lo aB H (O f e h o) G G G (mv 1 G ?_)))))))
  have bg:=((aa.ext (X.t E)).vN D)
  refine so aB bg (O f e h o) Y ah G G G G fun _ cf fw p=>(mv 1 G (a1 (aU (bU (aT [J f e h o,a9 (eZ y)] G ⟨⟨_,rfl,bA aB cf (O f e h o) G (bq G) rfl⟩,rfl,up⟩ ?_)))))
  exact⟨_,rfl,⟨_,_,rfl,⟨_,_,_,_,rfl,((((I.ext E).updT F D).updT bg fw)).cast (by simp only [bZ,vS,if_pos h0])⟩,rfl⟩,p⟩
 ·have he:eZ y=0:=if_neg h0
  have hr:bZ x y=x%y:=if_neg h0
  have gy:=s7 x h0
  by_cases cv:x%y+x%y≤(y.natAbs:Int)
  ·refine a6 (mv 1 G (aA G G G false (kS) (a1 (aN G (aW (aC (a7 (a7 ?_))))))))
   have fi:ln ((bZ x y)+(bZ x y))≤1048577:=aE (dZ q q) (by decide)
   refine eI cQ 6 [] [Is (J f e h o),Is (J f e h o),ZR w.heap.size ((bZ x y)+(bZ x y)),Is (J sb Ab nb cb),Is (a9 (cX (Int.natAbs ((bZ x y)+(bZ x y))) (Int.natAbs y))),Is (t9)] [[],[],[0,1],[],[2,3],[4]] [[],[],[0,1],[],[0,1,2,3],[0,1,2,3,4]] rfl
    (aJ G G (aF G G ?_) (aJ G G (aF G G ?_) (aJ G G (aF G G ?_) (aJ G G (aF G G ?_) (aJ G G (aF G G ?_) (aJ G G (aF G G ?_) dY)))))) ?_
   ·exact fun _ fh=>aG (lo aB (H.ext fh) (O f e h o) G G G (aI G aK G))
   ·exact fun _ fp=>aG (lo aB (H.ext fp) (O f e h o) G G G (aI G aK G))
   ·intro _ bm
    have p:=Y.trans bm
    refine dk G G (dk G G (aG ?_))
    have go:ln ((bZ x y)+(bZ x y))≤1048577:=aE (dZ q q) (by decide)
    refine cl (vs:= [J f e h o,J f e h o]) p (lY p.size (((I.ext E).updT F D).ext bm).zi (I.le (aO q G)) (((I.ext E).updT F D).ext bm).zi (I.le (aO q G))) G (by kernel_rfl) fun _ _ fd fe r=>?_
    obtain⟨_,_,_,_,rfl,fg⟩:=fd
    exact aI G fe ⟨_,_,_,_,rfl,fg⟩
   ·exact fun _ fb=>aG (lo aB (((ai.ext (ao.t (X.t E))).vN D).ext fb) (O sb Ab nb cb) G G G (aI G aK G))
   ·intro _ ft
    have p:=Y.trans ft
    refine cF G G fun _ _ fq _ fv=>?_
    obtain⟨fj,fo,fm,fs,rfl,au⟩:=fq
    have au:=au.ext fv
    refine dk G G (aG (cl (vs:= [J fj fo fm fs,J sb Ab nb cb]) p (wJ au.zi (au.le (aO fi G)) (hy.ext p) (aO lb G)) G (by kernel_rfl) fun _ _ fz fx r=>?_))
    obtain rfl:=fz
    exact aI G fx rfl
   ·exact fun _ _=>dk G G (aG (aA G G G false (JC (by omega)) (aI G aK G)))
   ·intro _ av
    have p:=Y.trans av
    refine dk G G (dk G G (cF G G fun _ _ el _ dt=>?_))
    obtain⟨_,_,_,_,rfl,ba⟩:=el
    have ba:=ba.ext dt
    refine dk G G (dk G G (dk G G (aG (aS (eB (aC (aN G (aW (aC (sr (lo aB (H.ext av) (O f e h o) G G G ?_)))))))))))
    have ak:=(((aa.ext (X.t E)).vN D).ext av)
    refine so aB ak (O f e h o) p ah G G G G fun _ bo cg r=>(mv 1 G (a1 (aU (aT [J f e h o,I0] G ⟨⟨_,rfl,bA aB bo (O f e h o) G (bq G) rfl⟩,rfl,up⟩ ?_))))
    exact⟨_,rfl,⟨_,_,rfl,⟨_,_,_,_,rfl,(((((I.ext E).updT F D).ext av).updT ak cg)).cast (by simp only [vS,hr,if_neg h0,if_pos cv])⟩,(show (a9 0:aD)=_ by simp only [eX,eZ,if_neg h0])⟩,r⟩
  ·refine a6 (mv 1 G (aA G G G false (kS) (a1 (aN G (aW (aC (a7 (a7 ?_))))))))
   have ea:ln ((bZ x y)+(bZ x y))≤1048577:=aE (dZ q q) (by decide)
   refine eI cQ 6 [] [Is (J f e h o),Is (J f e h o),ZR w.heap.size ((bZ x y)+(bZ x y)),Is (J sb Ab nb cb),Is (a9 (cX (Int.natAbs ((bZ x y)+(bZ x y))) (Int.natAbs y))),Is (no)] [[],[],[0,1],[],[2,3],[4]] [[],[],[0,1],[],[0,1,2,3],[0,1,2,3,4]] rfl
    (aJ G G (aF G G ?_) (aJ G G (aF G G ?_) (aJ G G (aF G G ?_) (aJ G G (aF G G ?_) (aJ G G (aF G G ?_) (aJ G G (aF G G ?_) dY)))))) ?_
   ·exact fun _ dw=>aG (lo aB (H.ext dw) (O f e h o) G G G (aI G aK G))
   ·exact fun _ ef=>aG (lo aB (H.ext ef) (O f e h o) G G G (aI G aK G))
   ·intro _ ar
    have p:=Y.trans ar
    refine dk G G (dk G G (aG ?_))
    have gf:ln ((bZ x y)+(bZ x y))≤1048577:=aE (dZ q q) (by decide)
    refine cl (vs:= [J f e h o,J f e h o]) p (lY p.size (((I.ext E).updT F D).ext ar).zi (I.le (aO q G)) (((I.ext E).updT F D).ext ar).zi (I.le (aO q G))) G (by kernel_rfl) fun _ _ co eh r=>?_
    obtain⟨_,_,_,_,rfl,cj⟩:=co
    exact aI G eh ⟨_,_,_,_,rfl,cj⟩
   ·exact fun _ ce=>aG (lo aB (((ai.ext (ao.t (X.t E))).vN D).ext ce) (O sb Ab nb cb) G G G (aI G aK G))
   ·intro _ en
    have p:=Y.trans en
    refine cF G G fun _ _ ey _ du=>?_
    obtain⟨df,ei,dl,de,rfl,ab⟩:=ey
    have ab:=ab.ext du
    refine dk G G (aG (cl (vs:= [J df ei dl de,J sb Ab nb cb]) p (wJ ab.zi (ab.le (aO ea G)) (hy.ext p) (aO lb G)) G (by kernel_rfl) fun _ _ dd cm r=>?_))
    obtain rfl:=dd
    exact aI G cm rfl
   ·exact fun _ _=>dk G G (aG (aA G G G true (JB (by omega)) (aI G aK G)))
   ·intro _ L
    have p:=Y.trans L
    refine dk G G (dk G G (cF G G fun _ _ ej _ dr=>?_))
    obtain⟨_,_,_,_,rfl,bi⟩:=ej
    have bi:=bi.ext dr
    refine dk G G (dk G G (dk G G (aG (aS (eB (aC (aY G ?_)))))))
    have aq:ln ((Int.natAbs y:Int))≤1048576:=(by rw [kT];exact Ly)
    have gj:ln ((bZ x y)-(Int.natAbs y:Int))≤1048577:=aE (hZ q aq) (by decide)
    refine eI cQ 4 [] [Is (J f e h o),Is (J sb Ab nb cb),ZR w.heap.size ((Int.natAbs y:Int)),ZR w.heap.size ((bZ x y)-(Int.natAbs y:Int))] [[],[],[1],[0,2]] [[],[],[1],[0,1,2],[0,1,2,3]] rfl
     (aJ G G (aF G G ?_) (aJ G G (aF G G ?_) (aJ G G (aF G G ?_) (aJ G G (aF G G ?_) dY)))) ?_
    ·exact fun _ ew=>aG (lo aB (H.ext (L.t ew)) (O f e h o) G G G (aI G aK G))
    ·exact fun _ bv=>aG (lo aB (((ai.ext (ao.t (X.t E))).vN D).ext (L.t bv)) (O sb Ab nb cb) G G G (aI G aK G))
    ·intro _ dh
     have r:=p.trans dh
     refine dk G G (aG ?_)
     have gg:ln ((Int.natAbs y:Int))≤1048576:=(by rw [kT];exact Ly)
     refine cl (vs:= [J sb Ab nb cb]) r (wK r.size (hy.ext r) (aO lb G)) G (by kernel_rfl) fun _ _ ch ep bu=>?_
     obtain⟨_,_,_,_,rfl,eg⟩:=ch
     exact aI G ep ⟨_,_,_,_,rfl,eg⟩
    ·intro _ bh
     have r:=p.trans bh
     refine dk G G (cF G G fun _ _ dx _ dm=>?_)
     obtain⟨em,cx,ct,ee,rfl,Z⟩:=dx
     have Z:=Z.ext dm
     refine aG ?_
     have gi:ln ((bZ x y)-(Int.natAbs y:Int))≤1048577:=aE (hZ q aq) (by decide)
     refine cl (vs:= [J f e h o,J em cx ct ee]) r (wH r.size (((I.ext E).updT F D).ext (L.t bh)).zi (I.le (aO q G)) Z.zi (Z.le (aO aq G))) G (by kernel_rfl) fun _ _ ez ci bu=>?_
     obtain⟨_,_,_,_,rfl,da⟩:=ez
     exact aI G ci ⟨_,_,_,_,rfl,da⟩
    ·intro _ ae
     have r:=p.trans ae
     refine dk G G (dk G G (cF G G fun _ _ dy _ dz=>?_))
     obtain⟨_,_,_,_,rfl,bf⟩:=dy
     have bf:=bf.ext dz
     refine cF G G fun _ _ ck _ bz=>?_
     obtain⟨V,W,U,M,rfl,am⟩:=ck
     have am:=am.ext bz
     refine aG ?_
     have aj:=(H.ext (L.t ae))
     refine so aB aj (O V W U M) r bd G G G G fun _ bj az bu=>(aS (eB (aC (sr (lo aB bj (O V W U M) G G G ?_)))))
     have ag:=((((aa.ext (X.t E)).vN D).ext (L.t ae)).vN az)
     refine so aB ag (O V W U M) bu ah G G G G fun _ bt bw cu=>(mv 1 G (a1 (aU (aT [J V W U M,I0] G ⟨⟨_,rfl,bA aB bt (O V W U M) G (bq G) rfl⟩,rfl,up⟩ ?_))))
     exact⟨_,rfl,⟨_,_,rfl,⟨_,_,_,_,rfl,(((am.updT aj az).updT ag bw)).cast (by simp only [vS,hr,if_neg h0,if_neg cv])⟩,(show (a9 0:aD)=_ by simp only [eX,eZ,if_neg h0])⟩,cu⟩
def TA (R S T:aD→a0→Prop)(v:aD)(w:a0):Prop:=∃a b c,v= .tuple #[a,b,c]∧R a w∧S b w∧T c w∧∀g,iZ a g→iZ b g→False
theorem TA.imp {R S T R' S' T':aD→a0→Prop}(h1:∀v w,R v w→R' v w)(h2:∀v w,S v w→S' v w)(h3:∀v w,T v w→T' v w):∀v w,TA R S T v w→TA R' S' T' v w:=by
 rintro v w ⟨a,b,c,h,r,s,t,ap⟩
 exact⟨a,b,c,h,h1 _ _ r,h2 _ _ s,h3 _ _ t,ap⟩
theorem TA.t3 {R S T:aD→a0→Prop}:∀v w,TA R S T v w→T3 R S T v w:=by
 rintro v w ⟨a,b,c,h,r,s,t,_⟩
 exact⟨a,b,c,h,r,s,t⟩
theorem rG (h:iZ (J s A n c) g):∃p,A=some p∧p.block=g:=by
 rcases h with h | ⟨_,p,_,_,h,h2⟩
 ·cases h
 ·injection h with h
  injection h with h
  injection h with _ h
  injection h with h _
  injection h with h
  exact⟨p,h,h2⟩
theorem Zr.new (h:Zr w b s A n c x):∀g,iZ (J s A n c) g→b≤g:=fun g e=>by
 obtain⟨p,h1,h2⟩:=rG e
 have:=(h.own.block p h1).1
 omega
theorem Zr.old (h:Zr w b s A n c x):∀g,iZ (J s A n c) g→g<w.heap.size:=fun g e=>by
 obtain⟨p,h1,h2⟩:=rG e
 have:=(h.own.block p h1).2
 omega
theorem ZR.old {v:aD}(h:ZR b x v w):CD w v:=by
 obtain⟨s,A,n,c,rfl,h⟩:=h
 exact h.old
theorem BB (h0:y≠0)(h:r=0∨(r<0↔y<0)):0≤bH r 0*bH y 0:=by
 rcases uT r with⟨a,e⟩ | ⟨a,e⟩ | ⟨a,e⟩ <;> rcases uT y with⟨b,f⟩ | ⟨b,f⟩ | ⟨b,f⟩ <;> rw [e,f] <;> omega
theorem IP (h0:y≠0)(h1:r≠0)(h:¬(r<0↔y<0)):¬0≤bH r 0*bH y 0:=by
 rcases uT r with⟨a,e⟩ | ⟨a,e⟩ | ⟨a,e⟩ <;> rcases uT y with⟨b,f⟩ | ⟨b,f⟩ | ⟨b,f⟩ <;> rw [e,f] <;> omega
theorem RF (h:n=ln x):0<n↔x≠0:=by
 have h2:ln x=0↔x.natAbs=0:=lB
 omega
theorem AZ (hb:b≤w.heap.size)(hx:Zi w s A n cap x)(la:n≤1048576)(hy:Zi w t B m cap' y)(lb:m≤1048576):aQ aH 148 #[J s A n cap,J t B m cap'] w (Gv w (TA (ZR b (qT x y)) (ZR b (rT x y)) (Is (a9 (eZ y))))):=by
 by_cases h0:y=0
 ·simp only [qT,rT,eZ,if_pos h0]
  refine (KN hx (aE la (by decide)) hy (aE lb (by decide)) h0).mono ?_
  rintro e w' ⟨s,A,n,c,s',B,m,c',rfl,h1,h2,E,f⟩
  exact⟨_,rfl,⟨_,_,_,rfl,⟨_,_,_,_,rfl,h1.mono hb⟩,⟨_,_,_,_,rfl,h2.mono hb⟩,rfl,fun g F hg'=>by
   obtain⟨p,r,h⟩:=rG F
   obtain⟨q,D,o⟩:=rG hg'
   exact f p q r D (h.trans o.symm)⟩,E⟩
 ·simp only [qT,rT,eZ,if_neg h0]
  refine (KO hx (aE la (by decide)) hy (aE lb (by decide)) h0).mono ?_
  rintro e w' ⟨s,A,n,c,s',B,m,c',rfl,h1,h2,E,f⟩
  exact⟨_,rfl,⟨_,_,_,rfl,⟨_,_,_,_,rfl,h1.mono hb⟩,⟨_,_,_,_,rfl,h2.mono hb⟩,rfl,fun g F hg'=>by
   obtain⟨p,r,h⟩:=rG F
   obtain⟨q,D,o⟩:=rG hg'
   exact f p q r D (h.trans o.symm)⟩,E⟩
theorem RV {nb:Nat}(hb:b≤w.heap.size)(hx:Zi w sa Aa na ca x)(la:na≤1048576)(hy:Zi w sb Ab nb cb y)(lb:nb≤1048576):aQ aH 149 #[J sa Aa na ca,J sb Ab nb cb] w (Gv w (TA (ZR b (qF x y)) (ZR b (rF x y)) (Is (a9 (eZ y))))):=by
 refine Calls.mono (R:=Gv w (TA (ZR w.heap.size (qF x y)) (ZR w.heap.size (rF x y)) (Is (a9 (eZ y))))) ?_ (Gv.imp (TA.imp (ZR.imp hb) (ZR.imp hb) Is.imp))
 have Lx:ln x≤1048576:=aE hx.ln la
 have Ly:ln y≤1048576:=aE hy.ln lb
 refine bL Tryz.func149 G (n:=41) G (bq G) (args:= [J sa Aa na ca,J sb Ab nb cb]) (bF [(0,J sa Aa na ca),(1,J sb Ab nb cb)] ⟨rfl,rfl,up⟩ (sr (bx (O sa Aa na ca) (Ext.refl w) G G G fun _ _ lz _ _ mr=>(gN (O sb Ab nb cb) mr lz.lt G G G fun g6 _ ck _ _ e8 ne=>(cO [F0,S0] ne ck.lt (fun _=>by kernel_rfl) G fun bg _ bv cg _ ct nl=>(cO [F0,S0] nl bv.lt (fun _=>by kernel_rfl) G fun bh _ bu ch _ ab ge=>(mv 1 G (a1 (sr (lo aB (lz.ext (e8.t (ct.t ab))) (O sa Aa na ca) G G G (lo aB (ck.ext (ct.t ab)) (O sb Ab nb cb) G G G ?_)))))))))))
 have ez:ln (qT x y)≤1048576:=pC Lx
 have fy:ln (rT x y)≤1048576:=pB Lx
 refine cl (vs:= [J sa Aa na ca,J sb Ab nb cb]) ge (AZ ge.size (hx.ext ge) (aO la G) (hy.ext ge) (aO lb G)) G (by kernel_rfl) fun _ _ ni Y nj=>?_
 obtain⟨_,_,_,rfl,⟨q,H,F,E,rfl,dg⟩,⟨V,o,e,p,rfl,ae⟩,rfl,eh⟩:=ni
 refine mv 1 G (pu (v:= J q H F E) G (pu (v:= J V o e p) G (pu (v:= a9 (eZ y)) G (cO [F0,S0] nj (bu.ext Y).lt (fun _=>by kernel_rfl) G fun ey _ gj fv _ M mx=>(cO [F0,S0] mx gj.lt (fun _=>by kernel_rfl) G fun aa _ kp fo _ L mw=>?_)))))
 have X:=(gj.ext L)
 refine so aB X (O q H F E) mw fv G G G G fun _ ai I nh=>?_
 have W:=(kp.vN I)
 refine so aB W (O V o e p) nh fo G G G G fun cm D f cf=>(mv 1 G (a1 (a7 (a7 ?_))))
 by_cases h0:y=0
 ·have he:eZ y=4:=if_pos h0
  refine a6 (mv 1 G (aA G G G false (cB) (mv 5 G (pu (v:= t9) G (mv 6 G (pu (v:= t9) G (a1 (aN G (aW (aC (a7 (bF [(4,a4 bg 0),(5,a4 bh 0),(7,a4 ey 0),(8,a4 aa 0),(9,a9 (eZ y))] ⟨rfl,rfl,rfl,rfl,rfl,up⟩ ?_))))))))))))
  obtain⟨lv,hv,dh⟩:∃v,v=cm.drew∧Ext cm v:=⟨_,rfl,aK.drew⟩
  have h:=cf.trans dh
  have fw:=((((bv.ext (ab.t (Y.t (M.t L)))).vN I).vN f).ext dh)
  obtain⟨my,ka,ll,ft,_⟩:=fA (P:=aH) (us:= (O q H F E)) (off:=0) aB G fw (bq G) G (O q H F E) rfl
  have U:=ft.ext h cg
  have fa:=(((((bu.ext (Y.t (M.t L))).vN I).vN f).ext dh).vN ft)
  obtain⟨mt,mi,jt,gf,_⟩:=fA (P:=aH) (us:= (O V o e p)) (off:=0) aB G fa (bq G) G (O V o e p) rfl
  have Z:=gf.ext U ch
  refine gH cQ (w:=lv) [J q H F E,J V o e p,a9 (eZ y),undef,undef,a9 (eZ y)] [lv,my,mt] [3,4] [[],[],[],[0],[1],[2]] [[],[],[],[0],[0,1,3],[0,1,2,3,4]] [(0,0),(1,0),(1,1),(2,0),(2,1),(2,2),(3,0),(4,1),(5,2)] G hv ?_ ?_
  ·refine aZ _ G G G G G (cH G (bA aB ((ai.vN f).ext dh) (O q H F E) G (bq G) G)) (aZ _ G G G G G (cH G (bA aB (D.ext dh) (O V o e p) G (bq G) G)) (aZ _ G G G G G (cH G (bA aB ((D.ext dh).vN ft) (O V o e p) G (bq G) G)) (aZ _ G G G G G (bO G) (aZ _ G G G G G (bO G) (aZ _ G G G G G (bO G) (fG _ G G G G G (eO G G ka) (fG _ G G G G G (eO G G mi) (aZ _ G G G G G (i7 G) ?_))))))))
   exact gG
  clear hv
  refine fX [(4,a4 bg 0),(5,a4 bh 0),(6,a9 (eZ y))] ⟨rfl,rfl,rfl,up⟩ (aC (aU (aT [J q H F E,J V o e p,a9 (eZ y)] G ⟨⟨_,rfl,bA aB (ll.vN gf) (O q H F E) G (bq G) rfl⟩,⟨_,rfl,bA aB jt (O V o e p) G (bq G) rfl⟩,rfl,up⟩ ?_)))
  exact⟨_,rfl,⟨_,_,_,rfl,⟨_,_,_,_,rfl,(((((((dg.ext (M.t L)).updT X I).updT W f).ext dh).updT fw ft).updT fa gf)).cast (by simp only [qT,rT,qF,rF,if_pos h0])⟩,⟨_,_,_,_,rfl,(((((((ae.ext (M.t L)).updT X I).updT W f).ext dh).updT fw ft).updT fa gf)).cast (by simp only [qT,rT,qF,rF,if_pos h0])⟩,rfl,eh⟩,Z⟩
 ·have he:eZ y=0:=if_neg h0
  have hq:qT x y=x.tdiv y:=if_neg h0
  have hr:rT x y=x.tmod y:=if_neg h0
  have oe:=RF ae.len
  by_cases jf:rT x y=0
  ·have hk:=BB (r:=rT x y) h0 (cD jf)
   refine a6 (mv 1 G (aA G G G true (dD (by omega)) (mv 1 G (pf aa 1 G (aL G G (aP bX D G) (pu (v:= a9 e) G (aA G G G false (pF) (pu (v:= t9) G (mv 6 G (pu (v:= t9) G (a1 (aN G (aW ?_)))))))))))))
   refine aC (a7 (bF [(4,a4 bg 0),(5,a4 bh 0),(7,a4 ey 0),(8,a4 aa 0),(9,a9 (eZ y))] ⟨rfl,rfl,rfl,rfl,rfl,up⟩ ?_))
   obtain⟨kz,hv,cx⟩:∃v,v=cm.drew∧Ext cm v:=⟨_,rfl,aK.drew⟩
   have h:=cf.trans cx
   have fj:=((((bv.ext (ab.t (Y.t (M.t L)))).vN I).vN f).ext cx)
   obtain⟨nf,lp,jj,fq,_⟩:=fA (P:=aH) (us:= (O q H F E)) (off:=0) aB G fj (bq G) G (O q H F E) rfl
   have U:=fq.ext h cg
   have fp:=(((((bu.ext (Y.t (M.t L))).vN I).vN f).ext cx).vN fq)
   obtain⟨mz,ks,ju,gi,_⟩:=fA (P:=aH) (us:= (O V o e p)) (off:=0) aB G fp (bq G) G (O V o e p) rfl
   have Z:=gi.ext U ch
   refine gH cQ (w:=kz) [J q H F E,J V o e p,a9 (eZ y),undef,undef,a9 (eZ y)] [kz,nf,mz] [3,4] [[],[],[],[0],[1],[2]] [[],[],[],[0],[0,1,3],[0,1,2,3,4]] [(0,0),(1,0),(1,1),(2,0),(2,1),(2,2),(3,0),(4,1),(5,2)] G hv ?_ ?_
   ·refine aZ _ G G G G G (cH G (bA aB ((ai.vN f).ext cx) (O q H F E) G (bq G) G)) (aZ _ G G G G G (cH G (bA aB (D.ext cx) (O V o e p) G (bq G) G)) (aZ _ G G G G G (cH G (bA aB ((D.ext cx).vN fq) (O V o e p) G (bq G) G)) (aZ _ G G G G G (bO G) (aZ _ G G G G G (bO G) (aZ _ G G G G G (bO G) (fG _ G G G G G (eO G G lp) (fG _ G G G G G (eO G G ks) (aZ _ G G G G G (i7 G) ?_))))))))
    exact gG
   clear hv
   refine fX [(4,a4 bg 0),(5,a4 bh 0),(6,a9 (eZ y))] ⟨rfl,rfl,rfl,up⟩ (aC (aU (aT [J q H F E,J V o e p,a9 (eZ y)] G ⟨⟨_,rfl,bA aB (jj.vN gi) (O q H F E) G (bq G) rfl⟩,⟨_,rfl,bA aB ju (O V o e p) G (bq G) rfl⟩,rfl,up⟩ ?_)))
   exact⟨_,rfl,⟨_,_,_,rfl,⟨_,_,_,_,rfl,(((((((dg.ext (M.t L)).updT X I).updT W f).ext cx).updT fj fq).updT fp gi)).cast (by simp only [qF,rF,if_neg h0,←hr,hq,if_pos hk])⟩,⟨_,_,_,_,rfl,(((((((ae.ext (M.t L)).updT X I).updT W f).ext cx).updT fj fq).updT fp gi)).cast (by simp only [qF,rF,if_neg h0,←hr,hq,if_pos hk])⟩,rfl,eh⟩,Z⟩
  ·by_cases fz:rT x y<0
   ·by_cases fh:y<0
    ·obtain rfl:V=true:=by rw [ae.sgn];exact decide_eq_true fz
     obtain rfl:sb=true:=by rw [hy.sgn h0];exact decide_eq_true fh
     have hk:=BB (r:=rT x y) h0 (bT (by omega))
     refine a6 (mv 1 G (aA G G G true (dD (by omega)) (mv 1 G (pf aa 1 G (aL G G (aP bX D G) (pu (v:= a9 e) G (aA G G G true (lC) (pu (v:= no) G (mv 1 G (pf aa 0 G (aL G G (aP dB D G) (pf g6 0 G (aL G G (aP dB (((ck.ext (ct.t (ab.t (Y.t (M.t L))))).vN I).vN f) G) ?_)))))))))))))
     refine pu (v:= t9) G (pu (v:= t9) G (a1 (aN G (aW (aC (a7 (bF [(4,a4 bg 0),(5,a4 bh 0),(7,a4 ey 0),(8,a4 aa 0),(9,a9 (eZ y))] ⟨rfl,rfl,rfl,rfl,rfl,up⟩ ?_)))))))
     obtain⟨jw,hv,cu⟩:∃v,v=cm.drew∧Ext cm v:=⟨_,rfl,aK.drew⟩
     have h:=cf.trans cu
     have fi:=((((bv.ext (ab.t (Y.t (M.t L)))).vN I).vN f).ext cu)
     obtain⟨nk,kv,ml,fc,_⟩:=fA (P:=aH) (us:= (O q H F E)) (off:=0) aB G fi (bq G) G (O q H F E) rfl
     have U:=fc.ext h cg
     have fm:=(((((bu.ext (Y.t (M.t L))).vN I).vN f).ext cu).vN fc)
     obtain⟨mu,jn,md,gg,_⟩:=fA (P:=aH) (us:= (O true o e p)) (off:=0) aB G fm (bq G) G (O true o e p) rfl
     have Z:=gg.ext U ch
     refine gH cQ (w:=jw) [J q H F E,J true o e p,a9 (eZ y),undef,undef,a9 (eZ y)] [jw,nk,mu] [3,4] [[],[],[],[0],[1],[2]] [[],[],[],[0],[0,1,3],[0,1,2,3,4]] [(0,0),(1,0),(1,1),(2,0),(2,1),(2,2),(3,0),(4,1),(5,2)] G hv ?_ ?_
     ·refine aZ _ G G G G G (cH G (bA aB ((ai.vN f).ext cu) (O q H F E) G (bq G) G)) (aZ _ G G G G G (cH G (bA aB (D.ext cu) (O true o e p) G (bq G) G)) (aZ _ G G G G G (cH G (bA aB ((D.ext cu).vN fc) (O true o e p) G (bq G) G)) (aZ _ G G G G G (bO G) (aZ _ G G G G G (bO G) (aZ _ G G G G G (bO G) (fG _ G G G G G (eO G G kv) (fG _ G G G G G (eO G G jn) (aZ _ G G G G G (i7 G) ?_))))))))
      exact gG
     clear hv
     refine fX [(4,a4 bg 0),(5,a4 bh 0),(6,a9 (eZ y))] ⟨rfl,rfl,rfl,up⟩ (aC (aU (aT [J q H F E,J true o e p,a9 (eZ y)] G ⟨⟨_,rfl,bA aB (ml.vN gg) (O q H F E) G (bq G) rfl⟩,⟨_,rfl,bA aB md (O true o e p) G (bq G) rfl⟩,rfl,up⟩ ?_)))
     exact⟨_,rfl,⟨_,_,_,rfl,⟨_,_,_,_,rfl,(((((((dg.ext (M.t L)).updT X I).updT W f).ext cu).updT fi fc).updT fm gg)).cast (by simp only [qF,rF,if_neg h0,←hr,hq,if_pos hk])⟩,⟨_,_,_,_,rfl,(((((((ae.ext (M.t L)).updT X I).updT W f).ext cu).updT fi fc).updT fm gg)).cast (by simp only [qF,rF,if_neg h0,←hr,hq,if_pos hk])⟩,rfl,eh⟩,Z⟩
    ·obtain rfl:V=true:=by rw [ae.sgn];exact decide_eq_true fz
     obtain rfl:sb=false:=by rw [hy.sgn h0];exact decide_eq_false fh
     have hk:=IP (r:=rT x y) h0 jf (by omega)
     refine a6 (mv 1 G (aA G G G true (dD (by omega)) (mv 1 G (pf aa 1 G (aL G G (aP bX D G) (pu (v:= a9 e) G (aA G G G true (lC) (pu (v:= no) G (mv 1 G (pf aa 0 G (aL G G (aP dB D G) (pf g6 0 G (aL G G (aP dB (((ck.ext (ct.t (ab.t (Y.t (M.t L))))).vN I).vN f) G) ?_)))))))))))))
     refine pu (v:= no) G (pu (v:= no) G (a1 (aY G (a7 ?_))))
     have oa:ln ((qT x y)-1)≤1048577:=aE (hZ ez (show ln (1)≤1 by decide+kernel)) (by decide)
     refine eI cQ 3 [] [Is (J q H F E),ZR w.heap.size (1),ZR w.heap.size ((qT x y)-1)] [[],[],[0,1]] [[],[],[0,1],[0,1,2]] rfl
      (aJ G G (aF G G ?_) (aJ G G (aF G G ?_) (aJ G G (aF G G ?_) dY))) ?_
     ·exact fun _ lg=>aG (lo aB ((ai.vN f).ext lg) (O q H F E) G G G (aI G aK G))
     ·intro _ jk
      have h:=cf.trans jk
      refine aG (cl (vs:= [a9 1]) h (tB h.size (by decide) (by decide)) G (by kernel_rfl) fun _ _ lf kk U=>?_)
      obtain⟨_,_,_,_,rfl,kq⟩:=lf
      exact aI G kk ⟨_,_,_,_,rfl,kq⟩
     ·intro _ ig
      have h:=cf.trans ig
      refine dk G G (cF G G fun _ _ ky _ lu=>?_)
      obtain⟨jm,mc,kt,lk,rfl,ef⟩:=ky
      have ef:=ef.ext lu
      refine aG ?_
      have nx:ln ((qT x y)-1)≤1048577:=aE (hZ ez (show ln (1)≤1 by decide+kernel)) (by decide)
      refine cl (vs:= [J q H F E,J jm mc kt lk]) h (rI h.size ((((dg.ext (M.t L)).updT X I).updT W f).ext ig).zi (dg.le (aO ez G)) ef.zi (ef.le (aE (show ln (1)≤1 by decide+kernel) (by decide)))) G (by kernel_rfl) fun _ _ ma mg U=>?_
      obtain⟨_,_,_,_,rfl,kd⟩:=ma
      exact aI G mg ⟨_,_,_,_,rfl,kd⟩
     ·intro _ am
      have h:=cf.trans am
      refine dk G G (cF G G fun _ _ jq _ ko=>?_)
      obtain⟨_,_,_,_,rfl,gy⟩:=jq
      have gy:=gy.ext ko
      refine cF G G fun _ _ kx _ jy=>?_
      obtain⟨bt,bj,bm,ce,rfl,em⟩:=kx
      have em:=em.ext jy
      refine aG ?_
      have cj:=((ai.vN f).ext am)
      refine so aB cj (O bt bj bm ce) h fv G G G G fun _ jc az U=>(aS (eB (aC (a6 (lo aB ((D.ext am).vN az) (O true o e p) G G G (lo aB (((((ck.ext (ct.t (ab.t (Y.t (M.t L))))).vN I).vN f).ext am).vN az) [F0,i9 Ab nb cb] G G G ?_))))))
      have jg:=(em.updT cj az).old
      have ny:ln ((rT x y)+y)≤1048577:=aE (dZ fy Ly) (by decide)
      refine cl (vs:= [J true o e p,.agg #[F0,i9 Ab nb cb]]) U (nW (aX _) (((((ae.ext (M.t L)).updT X I).updT W f).ext am).updT cj az).zi (ae.le (aO fy G)) (hy.ext U) (aO lb G)) G (by kernel_rfl) fun _ _ ku dd Z=>?_
      obtain⟨ba,ag,ah,bd,rfl,ep⟩:=ku
      have ji:=fun g h1 h2=>Nat.lt_irrefl _ (cS (jg g h1) (ep.new g h2))
      replace ep:=ep.mono U.size
      have dx:=(((D.ext am).vN az).ext dd)
      refine so aB dx (O ba ag ah bd) Z fo G G G G fun go fe dl fd=>(a1 (a7 (bF [(4,a4 bg 0),(5,a4 bh 0),(7,a4 ey 0),(8,a4 aa 0),(9,a9 (eZ y))] ⟨rfl,rfl,rfl,rfl,rfl,up⟩ ?_)))
      obtain⟨gk,hv,av⟩:∃v,v=go.drew∧Ext go v:=⟨_,rfl,aK.drew⟩
      have fk:=fd.trans av
      have ea:=((((((((bv.ext (ab.t (Y.t (M.t L)))).vN I).vN f).ext am).vN az).ext dd).vN dl).ext av)
      obtain⟨jo,il,ja,de,_⟩:=fA (P:=aH) (us:= (O bt bj bm ce)) (off:=0) aB G ea (bq G) G (O bt bj bm ce) rfl
      have fg:=de.ext fk cg
      have dz:=(((((((((bu.ext (Y.t (M.t L))).vN I).vN f).ext am).vN az).ext dd).vN dl).ext av).vN de)
      obtain⟨kw,iq,io,ee,_⟩:=fA (P:=aH) (us:= (O ba ag ah bd)) (off:=0) aB G dz (bq G) G (O ba ag ah bd) rfl
      have fb:=ee.ext fg ch
      refine gH cQ (w:=gk) [J bt bj bm ce,J ba ag ah bd,a9 (eZ y),undef,undef,a9 (eZ y)] [gk,jo,kw] [3,4] [[],[],[],[0],[1],[2]] [[],[],[],[0],[0,1,3],[0,1,2,3,4]] [(0,0),(1,0),(1,1),(2,0),(2,1),(2,2),(3,0),(4,1),(5,2)] G hv ?_ ?_
      ·refine aZ _ G G G G G (cH G (bA aB (((jc.ext dd).vN dl).ext av) (O bt bj bm ce) G (bq G) G)) (aZ _ G G G G G (cH G (bA aB (fe.ext av) (O ba ag ah bd) G (bq G) G)) (aZ _ G G G G G (cH G (bA aB ((fe.ext av).vN de) (O ba ag ah bd) G (bq G) G)) (aZ _ G G G G G (bO G) (aZ _ G G G G G (bO G) (aZ _ G G G G G (bO G) (fG _ G G G G G (eO G G il) (fG _ G G G G G (eO G G iq) (aZ _ G G G G G (i7 G) ?_))))))))
       exact gG
      clear hv
      refine fX [(4,a4 bg 0),(5,a4 bh 0),(6,a9 (eZ y))] ⟨rfl,rfl,rfl,up⟩ (aC (aU (aT [J bt bj bm ce,J ba ag ah bd,a9 (eZ y)] G ⟨⟨_,rfl,bA aB (ja.vN ee) (O bt bj bm ce) G (bq G) rfl⟩,⟨_,rfl,bA aB io (O ba ag ah bd) G (bq G) rfl⟩,rfl,up⟩ ?_)))
      exact⟨_,rfl,⟨_,_,_,rfl,⟨_,_,_,_,rfl,(((((((em.updT cj az).ext dd).updT dx dl).ext av).updT ea de).updT dz ee)).cast (by simp only [qF,rF,if_neg h0,←hr,hq,if_neg hk])⟩,⟨_,_,_,_,rfl,(((((ep.updT dx dl).ext av).updT ea de).updT dz ee)).cast (by simp only [qF,rF,if_neg h0,←hr,hq,if_neg hk])⟩,rfl,ji⟩,fb⟩
   ·by_cases fh:y<0
    ·obtain rfl:V=false:=by rw [ae.sgn];exact decide_eq_false fz
     obtain rfl:sb=true:=by rw [hy.sgn h0];exact decide_eq_true fh
     have hk:=IP (r:=rT x y) h0 jf (by omega)
     refine a6 (mv 1 G (aA G G G true (dD (by omega)) (mv 1 G (pf aa 1 G (aL G G (aP bX D G) (pu (v:= a9 e) G (aA G G G true (lC) (pu (v:= no) G (mv 1 G (pf aa 0 G (aL G G (aP dB D G) (pf g6 0 G (aL G G (aP dB (((ck.ext (ct.t (ab.t (Y.t (M.t L))))).vN I).vN f) G) ?_)))))))))))))
     refine pu (v:= no) G (pu (v:= no) G (a1 (aY G (a7 ?_))))
     have nu:ln ((qT x y)-1)≤1048577:=aE (hZ ez (show ln (1)≤1 by decide+kernel)) (by decide)
     refine eI cQ 3 [] [Is (J q H F E),ZR w.heap.size (1),ZR w.heap.size ((qT x y)-1)] [[],[],[0,1]] [[],[],[0,1],[0,1,2]] rfl
      (aJ G G (aF G G ?_) (aJ G G (aF G G ?_) (aJ G G (aF G G ?_) dY))) ?_
     ·exact fun _ kf=>aG (lo aB ((ai.vN f).ext kf) (O q H F E) G G G (aI G aK G))
     ·intro _ ke
      have h:=cf.trans ke
      refine aG (cl (vs:= [a9 1]) h (tB h.size (by decide) (by decide)) G (by kernel_rfl) fun _ _ jr jx U=>?_)
      obtain⟨_,_,_,_,rfl,kr⟩:=jr
      exact aI G jx ⟨_,_,_,_,rfl,kr⟩
     ·intro _ ie
      have h:=cf.trans ie
      refine dk G G (cF G G fun _ _ me _ lj=>?_)
      obtain⟨lm,kn,jz,jv,rfl,eg⟩:=me
      have eg:=eg.ext lj
      refine aG ?_
      have nt:ln ((qT x y)-1)≤1048577:=aE (hZ ez (show ln (1)≤1 by decide+kernel)) (by decide)
      refine cl (vs:= [J q H F E,J lm kn jz jv]) h (rI h.size ((((dg.ext (M.t L)).updT X I).updT W f).ext ie).zi (dg.le (aO ez G)) eg.zi (eg.le (aE (show ln (1)≤1 by decide+kernel) (by decide)))) G (by kernel_rfl) fun _ _ jl ki U=>?_
      obtain⟨_,_,_,_,rfl,mn⟩:=jl
      exact aI G ki ⟨_,_,_,_,rfl,mn⟩
     ·intro _ au
      have h:=cf.trans au
      refine dk G G (cF G G fun _ _ kc _ lh=>?_)
      obtain⟨_,_,_,_,rfl,ik⟩:=kc
      have ik:=ik.ext lh
      refine cF G G fun _ _ mb _ kj=>?_
      obtain⟨bz,bw,bi,bo,rfl,ew⟩:=mb
      have ew:=ew.ext kj
      refine aG ?_
      have ci:=((ai.vN f).ext au)
      refine so aB ci (O bz bw bi bo) h fv G G G G fun _ jb bf U=>(aS (eB (aC (a6 (lo aB ((D.ext au).vN bf) [F0,i9 o e p] G G G (lo aB (((((ck.ext (ct.t (ab.t (Y.t (M.t L))))).vN I).vN f).ext au).vN bf) (O true Ab nb cb) G G G ?_))))))
      have jg:=(ew.updT ci bf).old
      have nw:ln ((rT x y)+y)≤1048577:=aE (dZ fy Ly) (by decide)
      refine cl (vs:= [.agg #[F0,i9 o e p],J true Ab nb cb]) U (nW (aX _) (((((ae.ext (M.t L)).updT X I).updT W f).ext au).updT ci bf).zi (ae.le (aO fy G)) (hy.ext U) (aO lb G)) G (by kernel_rfl) fun _ _ mh co Z=>?_
      obtain⟨aj,ao,aw,ak,rfl,el⟩:=mh
      have iy:=fun g h1 h2=>Nat.lt_irrefl _ (cS (jg g h1) (el.new g h2))
      replace el:=el.mono U.size
      have du:=(((D.ext au).vN bf).ext co)
      refine so aB du (O aj ao aw ak) Z fo G G G G fun ib fs dm fd=>(a1 (a7 (bF [(4,a4 bg 0),(5,a4 bh 0),(7,a4 ey 0),(8,a4 aa 0),(9,a9 (eZ y))] ⟨rfl,rfl,rfl,rfl,rfl,up⟩ ?_)))
      obtain⟨ij,hv,aq⟩:∃v,v=ib.drew∧Ext ib v:=⟨_,rfl,aK.drew⟩
      have fk:=fd.trans aq
      have dw:=((((((((bv.ext (ab.t (Y.t (M.t L)))).vN I).vN f).ext au).vN bf).ext co).vN dm).ext aq)
      obtain⟨mj,ir,jh,cv,_⟩:=fA (P:=aH) (us:= (O bz bw bi bo)) (off:=0) aB G dw (bq G) G (O bz bw bi bo) rfl
      have fg:=cv.ext fk cg
      have dy:=(((((((((bu.ext (Y.t (M.t L))).vN I).vN f).ext au).vN bf).ext co).vN dm).ext aq).vN cv)
      obtain⟨jp,ix,jd,ej,_⟩:=fA (P:=aH) (us:= (O aj ao aw ak)) (off:=0) aB G dy (bq G) G (O aj ao aw ak) rfl
      have fb:=ej.ext fg ch
      refine gH cQ (w:=ij) [J bz bw bi bo,J aj ao aw ak,a9 (eZ y),undef,undef,a9 (eZ y)] [ij,mj,jp] [3,4] [[],[],[],[0],[1],[2]] [[],[],[],[0],[0,1,3],[0,1,2,3,4]] [(0,0),(1,0),(1,1),(2,0),(2,1),(2,2),(3,0),(4,1),(5,2)] G hv ?_ ?_
      ·refine aZ _ G G G G G (cH G (bA aB (((jb.ext co).vN dm).ext aq) (O bz bw bi bo) G (bq G) G)) (aZ _ G G G G G (cH G (bA aB (fs.ext aq) (O aj ao aw ak) G (bq G) G)) (aZ _ G G G G G (cH G (bA aB ((fs.ext aq).vN cv) (O aj ao aw ak) G (bq G) G)) (aZ _ G G G G G (bO G) (aZ _ G G G G G (bO G) (aZ _ G G G G G (bO G) (fG _ G G G G G (eO G G ir) (fG _ G G G G G (eO G G ix) (aZ _ G G G G G (i7 G) ?_))))))))
       exact gG
      clear hv
      refine fX [(4,a4 bg 0),(5,a4 bh 0),(6,a9 (eZ y))] ⟨rfl,rfl,rfl,up⟩ (aC (aU (aT [J bz bw bi bo,J aj ao aw ak,a9 (eZ y)] G ⟨⟨_,rfl,bA aB (jh.vN ej) (O bz bw bi bo) G (bq G) rfl⟩,⟨_,rfl,bA aB jd (O aj ao aw ak) G (bq G) rfl⟩,rfl,up⟩ ?_)))
      exact⟨_,rfl,⟨_,_,_,rfl,⟨_,_,_,_,rfl,(((((((ew.updT ci bf).ext co).updT du dm).ext aq).updT dw cv).updT dy ej)).cast (by simp only [qF,rF,if_neg h0,←hr,hq,if_neg hk])⟩,⟨_,_,_,_,rfl,(((((el.updT du dm).ext aq).updT dw cv).updT dy ej)).cast (by simp only [qF,rF,if_neg h0,←hr,hq,if_neg hk])⟩,rfl,iy⟩,fb⟩
    ·obtain rfl:V=false:=by rw [ae.sgn];exact decide_eq_false fz
     obtain rfl:sb=false:=by rw [hy.sgn h0];exact decide_eq_false fh
     have hk:=BB (r:=rT x y) h0 (bT (by omega))
     refine a6 (mv 1 G (aA G G G true (dD (by omega)) (mv 1 G (pf aa 1 G (aL G G (aP bX D G) (pu (v:= a9 e) G (aA G G G true (lC) (pu (v:= no) G (mv 1 G (pf aa 0 G (aL G G (aP dB D G) (pf g6 0 G (aL G G (aP dB (((ck.ext (ct.t (ab.t (Y.t (M.t L))))).vN I).vN f) G) ?_)))))))))))))
     refine pu (v:= t9) G (pu (v:= t9) G (a1 (aN G (aW (aC (a7 (bF [(4,a4 bg 0),(5,a4 bh 0),(7,a4 ey 0),(8,a4 aa 0),(9,a9 (eZ y))] ⟨rfl,rfl,rfl,rfl,rfl,up⟩ ?_)))))))
     obtain⟨ia,hv,ar⟩:∃v,v=cm.drew∧Ext cm v:=⟨_,rfl,aK.drew⟩
     have h:=cf.trans ar
     have dt:=((((bv.ext (ab.t (Y.t (M.t L)))).vN I).vN f).ext ar)
     obtain⟨kb,je,iu,da,_⟩:=fA (P:=aH) (us:= (O q H F E)) (off:=0) aB G dt (bq G) G (O q H F E) rfl
     have U:=da.ext h cg
     have dr:=(((((bu.ext (Y.t (M.t L))).vN I).vN f).ext ar).vN da)
     obtain⟨mf,iz,iw,ei,_⟩:=fA (P:=aH) (us:= [F0,i9 o e p]) (off:=0) aB G dr (bq G) G [F0,i9 o e p] rfl
     have Z:=ei.ext U ch
     refine gH cQ (w:=ia) [J q H F E,.agg #[F0,i9 o e p],a9 (eZ y),undef,undef,a9 (eZ y)] [ia,kb,mf] [3,4] [[],[],[],[0],[1],[2]] [[],[],[],[0],[0,1,3],[0,1,2,3,4]] [(0,0),(1,0),(1,1),(2,0),(2,1),(2,2),(3,0),(4,1),(5,2)] G hv ?_ ?_
     ·refine aZ _ G G G G G (cH G (bA aB ((ai.vN f).ext ar) (O q H F E) G (bq G) G)) (aZ _ G G G G G (cH G (bA aB (D.ext ar) [F0,i9 o e p] G (bq G) G)) (aZ _ G G G G G (cH G (bA aB ((D.ext ar).vN da) [F0,i9 o e p] G (bq G) G)) (aZ _ G G G G G (bO G) (aZ _ G G G G G (bO G) (aZ _ G G G G G (bO G) (fG _ G G G G G (eO G G je) (fG _ G G G G G (eO G G iz) (aZ _ G G G G G (i7 G) ?_))))))))
      exact gG
     clear hv
     refine fX [(4,a4 bg 0),(5,a4 bh 0),(6,a9 (eZ y))] ⟨rfl,rfl,rfl,up⟩ (aC (aU (aT [J q H F E,.agg #[F0,i9 o e p],a9 (eZ y)] G ⟨⟨_,rfl,bA aB (iu.vN ei) (O q H F E) G (bq G) rfl⟩,⟨_,rfl,bA aB iw [F0,i9 o e p] G (bq G) rfl⟩,rfl,up⟩ ?_)))
     exact⟨_,rfl,⟨_,_,_,rfl,⟨_,_,_,_,rfl,(((((((dg.ext (M.t L)).updT X I).updT W f).ext ar).updT dt da).updT dr ei)).cast (by simp only [qF,rF,if_neg h0,←hr,hq,if_pos hk])⟩,⟨_,_,_,_,rfl,(((((((ae.ext (M.t L)).updT X I).updT W f).ext ar).updT dt da).updT dr ei)).cast (by simp only [qF,rF,if_neg h0,←hr,hq,if_pos hk])⟩,rfl,eh⟩,Z⟩
theorem GS {nb:Nat}(hb:b≤w.heap.size)(hx:Zi w sa Aa na ca x)(la:na≤1048576)(hy:Zi w sb Ab nb cb y)(lb:nb≤1048576):aQ aH 150 #[J sa Aa na ca,J sb Ab nb cb] w (Gv w (TA (ZR b (qE x y)) (ZR b (bZ x y)) (Is (a9 (eZ y))))):=by
 refine Calls.mono (R:=Gv w (TA (ZR w.heap.size (qE x y)) (ZR w.heap.size (bZ x y)) (Is (a9 (eZ y))))) ?_ (Gv.imp (TA.imp (ZR.imp hb) (ZR.imp hb) Is.imp))
 have Lx:ln x≤1048576:=aE hx.ln la
 have Ly:ln y≤1048576:=aE hy.ln lb
 refine bL Tryz.func150 G (n:=41) G (bq G) (args:= [J sa Aa na ca,J sb Ab nb cb]) (bF [(0,J sa Aa na ca),(1,J sb Ab nb cb)] ⟨rfl,rfl,up⟩ (sr (bx (O sa Aa na ca) (Ext.refl w) G G G fun _ _ je _ _ ju=>(gN (O sb Ab nb cb) ju je.lt G G G fun g6 _ bh _ _ e8 kj=>(cO [F0,S0] kj bh.lt (fun _=>by kernel_rfl) G fun ea _ ai ba _ bo ku=>(cO [F0,S0] ku ai.lt (fun _=>by kernel_rfl) G fun ee _ ah bd _ ae eg=>(mv 1 G (a1 (sr (lo aB (je.ext (e8.t (bo.t ae))) (O sa Aa na ca) G G G (lo aB (bh.ext (bo.t ae)) (O sb Ab nb cb) G G G ?_)))))))))))
 have bu:ln (qT x y)≤1048576:=pC Lx
 have bi:ln (rT x y)≤1048576:=pB Lx
 refine cl (vs:= [J sa Aa na ca,J sb Ab nb cb]) eg (AZ eg.size (hx.ext eg) (aO la G) (hy.ext eg) (aO lb G)) G (by kernel_rfl) fun _ _ kr W ks=>?_
 obtain⟨_,_,_,rfl,⟨E,I,H,F,rfl,bt⟩,⟨aa,p,o,q,rfl,aj⟩,rfl,en⟩:=kr
 refine mv 1 G (pu (v:= J E I H F) G (pu (v:= J aa p o q) G (pu (v:= a9 (eZ y)) G (cO [F0,S0] ks (ah.ext W).lt (fun _=>by kernel_rfl) G fun dy _ ei jk _ M ka=>(cO [F0,S0] ka ei.lt (fun _=>by kernel_rfl) G fun bm _ ib ie _ D jz=>?_)))))
 have V:=(ei.ext D)
 refine so aB V (O E I H F) jz jk G G G G fun _ az r kp=>?_
 have U:=(ib.vN r)
 refine so aB U (O aa p o q) kp ie G G G G fun dz Y f ag=>(mv 1 G (a1 (a7 (a7 ?_))))
 by_cases h0:y=0
 ·have he:eZ y=4:=if_pos h0
  refine a6 (mv 1 G (aA G G G true (nQ) (mv 4 G (pu (v:= no) G (a1 (aY G (a7 (bF [(3,a4 g6 0),(4,a4 ea 0),(5,a4 ee 0),(7,a4 dy 0),(8,a4 bm 0),(9,a9 (eZ y))] ⟨rfl,rfl,rfl,rfl,rfl,rfl,up⟩ ?_))))))))
  obtain⟨jd,hv,ak⟩:∃v,v=dz.drew∧Ext dz v:=⟨_,rfl,aK.drew⟩
  have e:=ag.trans ak
  have dt:=((((ai.ext (ae.t (W.t (M.t D)))).vN r).vN f).ext ak)
  obtain⟨kb,gi,jb,de,_⟩:=fA (P:=aH) (us:= (O E I H F)) (off:=0) aB G dt (bq G) G (O E I H F) rfl
  have L:=de.ext e ba
  have bz:=(((((ah.ext (W.t (M.t D))).vN r).vN f).ext ak).vN de)
  obtain⟨jv,jn,fz,eh,_⟩:=fA (P:=aH) (us:= (O aa p o q)) (off:=0) aB G bz (bq G) G (O aa p o q) rfl
  have Z:=eh.ext L bd
  refine gH cQ (w:=jd) [J E I H F,J aa p o q,a9 (eZ y),undef,undef,a9 (eZ y)] [jd,kb,jv] [3,4] [[],[],[],[0],[1],[2]] [[],[],[],[0],[0,1,3],[0,1,2,3,4]] [(0,0),(1,0),(1,1),(2,0),(2,1),(2,2),(3,0),(4,1),(5,2)] G hv ?_ ?_
  ·refine aZ _ G G G G G (cH G (bA aB ((az.vN f).ext ak) (O E I H F) G (bq G) G)) (aZ _ G G G G G (cH G (bA aB (Y.ext ak) (O aa p o q) G (bq G) G)) (aZ _ G G G G G (cH G (bA aB ((Y.ext ak).vN de) (O aa p o q) G (bq G) G)) (aZ _ G G G G G (bO G) (aZ _ G G G G G (bO G) (aZ _ G G G G G (bO G) (fG _ G G G G G (eO G G gi) (fG _ G G G G G (eO G G jn) (aZ _ G G G G G (i7 G) ?_))))))))
   exact gG
  clear hv
  refine fX [(3,a4 g6 0),(4,a4 ea 0),(5,a4 ee 0),(7,a4 dy 0),(8,a4 bm 0),(6,a9 (eZ y))] ⟨rfl,rfl,rfl,rfl,rfl,rfl,up⟩ (aC (aU (bU (aT [J E I H F,J aa p o q,a9 (eZ y)] G ⟨⟨_,rfl,bA aB (jb.vN eh) (O E I H F) G (bq G) rfl⟩,⟨_,rfl,bA aB fz (O aa p o q) G (bq G) rfl⟩,rfl,up⟩ ?_))))
  exact⟨_,rfl,⟨_,_,_,rfl,⟨_,_,_,_,rfl,(((((((bt.ext (M.t D)).updT V r).updT U f).ext ak).updT dt de).updT bz eh)).cast (by simp only [qT,rT,qE,bZ,if_pos h0])⟩,⟨_,_,_,_,rfl,(((((((aj.ext (M.t D)).updT V r).updT U f).ext ak).updT dt de).updT bz eh)).cast (by simp only [qT,rT,qE,bZ,if_pos h0])⟩,rfl,en⟩,Z⟩
 ·have he:eZ y=0:=if_neg h0
  have hq:qT x y=x.tdiv y:=if_neg h0
  have hr:rT x y=x.tmod y:=if_neg h0
  by_cases bj:rT x y<0
  ·obtain rfl:aa=true:=by rw [aj.sgn];exact decide_eq_true bj
   rw [hr] at bj
   refine a6 (mv 1 G (aA G G G false (kS) (mv 1 G (pf bm 0 G (aL G G (aP dB Y G) (pu (v:= t9) G (pu (v:= t9) G (a1 (aN G (aW (aC (a7 (a7 ?_)))))))))))))
   by_cases fh:y<0
   ·obtain rfl:sb=true:=by rw [hy.sgn h0];exact decide_eq_true fh
    have hu:=V0 bj fh
    refine a6 (pf g6 0 G (aL G G (aP dB (((bh.ext (bo.t (ae.t (W.t (M.t D))))).vN r).vN f) G) (a1 (aY G (a7 ?_)))))
    have lg:ln ((qT x y)+1)≤1048577:=aE (dZ bu (show ln (1)≤1 by decide+kernel)) (by decide)
    have lj:ln ((rT x y)-y)≤1048577:=aE (hZ bi Ly) (by decide)
    refine BQ cQ 6 [] [2,5] [Is (J E I H F),ZR w.heap.size (1),ZR w.heap.size ((qT x y)+1),Is (J true p o q),Is (J true Ab nb cb),ZR w.heap.size ((rT x y)-y)] [[],[],[0,1],[],[],[3,4]] [[],[],[0,1],[],[],[0,1,2,3,4],[0,1,2,3,4,5],[0,1,2,3,4,5,6],[0,1,2,3,4,5,6,7]] G G ⟨fun _ _ h=>ZR.old h,fun _ _ h=>ZR.old h,up⟩
     (aJ G G (aF G G ?_) (aJ G G (aF G G ?_) (aJ G G (wA (fun _ _ h=>h) G ?_) (aJ G G (aF G G ?_) (aJ G G (aF G G ?_) (aJ G G (wA (fun _ _ h=>h) G ?_) dY)))))) ?_
    ·exact fun _ kf=>aG (lo aB ((az.vN f).ext kf) (O E I H F) G G G (aI G aK G))
    ·intro _ kk
     have e:=ag.trans kk
     refine aG (cl (vs:= [a9 1]) e (tB e.size (by decide) (by decide)) G (by kernel_rfl) fun _ _ ko kd L=>?_)
     obtain⟨_,_,_,_,rfl,jw⟩:=ko
     exact aI G kd ⟨_,_,_,_,rfl,jw⟩
    ·intro _ gy
     have e:=ag.trans gy
     refine dk G G (cF G G fun _ _ ke _ jt=>?_)
     obtain⟨jx,kc,jy,kq,rfl,ef⟩:=ke
     have ef:=ef.ext jt
     refine aG ?_
     have lf:ln ((qT x y)+1)≤1048577:=aE (dZ bu (show ln (1)≤1 by decide+kernel)) (by decide)
     refine cl (vs:= [J E I H F,J jx kc jy kq]) e (nW (aX _) ((((bt.ext (M.t D)).updT V r).updT U f).ext gy).zi (bt.le (aO bu G)) ef.zi (ef.le (aE (show ln (1)≤1 by decide+kernel) (by decide)))) G (by kernel_rfl) fun _ _ kt kn L=>?_
     obtain⟨_,_,_,_,rfl,jp⟩:=kt
     exact aI G kn ⟨⟨_,_,_,_,rfl,jp.mono e.size⟩,jp.new⟩
    ·exact fun _ ix=>aG (lo aB (Y.ext ix) (O true p o q) G G G (aI G aK G))
    ·exact fun _ fs=>aG (lo aB ((((bh.ext (bo.t (ae.t (W.t (M.t D))))).vN r).vN f).ext fs) (O true Ab nb cb) G G G (aI G aK G))
    ·intro _ ep
     have e:=ag.trans ep
     refine dk G G (dk G G (aG ?_))
     have kx:ln ((rT x y)-y)≤1048577:=aE (hZ bi Ly) (by decide)
     refine cl (vs:= [J true p o q,J true Ab nb cb]) e (rI (aX _) ((((aj.ext (M.t D)).updT V r).updT U f).ext ep).zi (aj.le (aO bi G)) (hy.ext e) (aO lb G)) G (by kernel_rfl) fun _ _ go ge L=>?_
     obtain⟨_,_,_,_,rfl,ej⟩:=go
     exact aI G ge ⟨⟨_,_,_,_,rfl,ej.mono e.size⟩,ej.new⟩
    ·intro _ cv
     have e:=ag.trans cv
     refine dk G G (cF G G fun _ _ fw _ il=>?_)
     obtain⟨_,_,_,_,rfl,fa⟩:=fw
     have fa:=fa.ext il
     refine cF G G fun _ _ jj _ fy=>?_
     obtain⟨cm,ci,dm,dw,rfl,dr⟩:=jj
     have dr:=dr.ext fy
     refine dk G G (dk G G (cF G G fun _ _ ir _ ig=>?_))
     obtain⟨co,ce,dh,ck,rfl,bv⟩:=ir
     have bv:=bv.ext ig
     refine aG ?_
     intro ab
     have fp:=ab 2 (by decide) 5 (by decide) (by decide) _ _ G G _ _ G rfl
     clear ab
     have aq:=((((ai.ext (ae.t (W.t (M.t D)))).vN r).vN f).ext cv)
     refine so aB aq (O cm ci dm dw) e ba G G G G fun _ fi bw L=>?_
     have au:=(((((ah.ext (W.t (M.t D))).vN r).vN f).ext cv).vN bw)
     refine so aB au (O co ce dh ck) L bd G G G G fun _ fo du Z=>(mv 1 G (aS (eB (aC (aU (bU (aT [J cm ci dm dw,J co ce dh ck,I0] G ⟨⟨_,rfl,bA aB (fi.vN du) (O cm ci dm dw) G (bq G) rfl⟩,⟨_,rfl,bA aB fo (O co ce dh ck) G (bq G) rfl⟩,rfl,up⟩ ?_)))))))
     exact⟨_,rfl,⟨_,_,_,rfl,⟨_,_,_,_,rfl,(((dr.updT aq bw).updT au du)).cast (by unfold qE;rw [if_neg h0,hq];exact hu.1)⟩,⟨_,_,_,_,rfl,(((bv.updT aq bw).updT au du)).cast (by unfold bZ;rw [if_neg h0,hr];exact hu.2)⟩,(show (a9 0:aD)=_ by simp only [eX,eZ,if_neg h0]),fp⟩,Z⟩
   ·obtain rfl:sb=false:=by rw [hy.sgn h0];exact decide_eq_false fh
    have hu:=UZ bj (by omega)
    refine a6 (pf g6 0 G (aL G G (aP dB (((bh.ext (bo.t (ae.t (W.t (M.t D))))).vN r).vN f) G) (a1 (aN G (aW (aC (a7 ?_)))))))
    have kw:ln ((qT x y)-1)≤1048577:=aE (hZ bu (show ln (1)≤1 by decide+kernel)) (by decide)
    have kv:ln ((rT x y)+y)≤1048577:=aE (dZ bi Ly) (by decide)
    refine BQ cQ 6 [] [2,5] [Is (J E I H F),ZR w.heap.size (1),ZR w.heap.size ((qT x y)-1),Is (J true p o q),Is (.agg #[F0,i9 Ab nb cb]),ZR w.heap.size ((rT x y)+y)] [[],[],[0,1],[],[],[3,4]] [[],[],[0,1],[],[],[0,1,2,3,4],[0,1,2,3,4,5],[0,1,2,3,4,5,6],[0,1,2,3,4,5,6,7]] G G ⟨fun _ _ h=>ZR.old h,fun _ _ h=>ZR.old h,up⟩
     (aJ G G (aF G G ?_) (aJ G G (aF G G ?_) (aJ G G (wA (fun _ _ h=>h) G ?_) (aJ G G (aF G G ?_) (aJ G G (aF G G ?_) (aJ G G (wA (fun _ _ h=>h) G ?_) dY)))))) ?_
    ·exact fun _ ik=>aG (lo aB ((az.vN f).ext ik) (O E I H F) G G G (aI G aK G))
    ·intro _ ij
     have e:=ag.trans ij
     refine aG (cl (vs:= [a9 1]) e (tB e.size (by decide) (by decide)) G (by kernel_rfl) fun _ _ fx iz L=>?_)
     obtain⟨_,_,_,_,rfl,iw⟩:=fx
     exact aI G iz ⟨_,_,_,_,rfl,iw⟩
    ·intro _ el
     have e:=ag.trans el
     refine dk G G (cF G G fun _ _ ia _ jh=>?_)
     obtain⟨gg,jq,jg,jc,rfl,bg⟩:=ia
     have bg:=bg.ext jh
     refine aG ?_
     have ky:ln ((qT x y)-1)≤1048577:=aE (hZ bu (show ln (1)≤1 by decide+kernel)) (by decide)
     refine cl (vs:= [J E I H F,J gg jq jg jc]) e (rI (aX _) ((((bt.ext (M.t D)).updT V r).updT U f).ext el).zi (bt.le (aO bu G)) bg.zi (bg.le (aE (show ln (1)≤1 by decide+kernel) (by decide)))) G (by kernel_rfl) fun _ _ gf ja L=>?_
     obtain⟨_,_,_,_,rfl,em⟩:=gf
     exact aI G ja ⟨⟨_,_,_,_,rfl,em.mono e.size⟩,em.new⟩
    ·exact fun _ jm=>aG (lo aB (Y.ext jm) (O true p o q) G G G (aI G aK G))
    ·exact fun _ gk=>aG (lo aB ((((bh.ext (bo.t (ae.t (W.t (M.t D))))).vN r).vN f).ext gk) [F0,i9 Ab nb cb] G G G (aI G aK G))
    ·intro _ ez
     have e:=ag.trans ez
     refine dk G G (dk G G (aG ?_))
     have kz:ln ((rT x y)+y)≤1048577:=aE (dZ bi Ly) (by decide)
     refine cl (vs:= [J true p o q,.agg #[F0,i9 Ab nb cb]]) e (nW (aX _) ((((aj.ext (M.t D)).updT V r).updT U f).ext ez).zi (aj.le (aO bi G)) (hy.ext e) (aO lb G)) G (by kernel_rfl) fun _ _ ft jo L=>?_
     obtain⟨_,_,_,_,rfl,ew⟩:=ft
     exact aI G jo ⟨⟨_,_,_,_,rfl,ew.mono e.size⟩,ew.new⟩
    ·intro _ cu
     have e:=ag.trans cu
     refine dk G G (cF G G fun _ _ iu _ iy=>?_)
     obtain⟨_,_,_,_,rfl,ey⟩:=iu
     have ey:=ey.ext iy
     refine cF G G fun _ _ iq _ io=>?_
     obtain⟨cx,da,ch,cj,rfl,dd⟩:=iq
     have dd:=dd.ext io
     refine dk G G (dk G G (cF G G fun _ _ jf _ ji=>?_))
     obtain⟨dl,dg,ct,cg,rfl,cf⟩:=jf
     have cf:=cf.ext ji
     refine aG ?_
     intro ab
     have fg:=ab 2 (by decide) 5 (by decide) (by decide) _ _ G G _ _ G rfl
     clear ab
     have ar:=((((ai.ext (ae.t (W.t (M.t D)))).vN r).vN f).ext cu)
     refine so aB ar (O cx da ch cj) e ba G G G G fun _ fc df L=>?_
     have ao:=(((((ah.ext (W.t (M.t D))).vN r).vN f).ext cu).vN df)
     refine so aB ao (O dl dg ct cg) L bd G G G G fun _ fd dx Z=>(mv 1 G (aS (eB (aC (aU (aT [J cx da ch cj,J dl dg ct cg,I0] G ⟨⟨_,rfl,bA aB (fc.vN dx) (O cx da ch cj) G (bq G) rfl⟩,⟨_,rfl,bA aB fd (O dl dg ct cg) G (bq G) rfl⟩,rfl,up⟩ ?_))))))
     exact⟨_,rfl,⟨_,_,_,rfl,⟨_,_,_,_,rfl,(((dd.updT ar df).updT ao dx)).cast (by unfold qE;rw [if_neg h0,hq];exact hu.1)⟩,⟨_,_,_,_,rfl,(((cf.updT ar df).updT ao dx)).cast (by unfold bZ;rw [if_neg h0,hr];exact hu.2)⟩,(show (a9 0:aD)=_ by simp only [eX,eZ,if_neg h0]),fg⟩,Z⟩
  ·obtain rfl:aa=false:=by rw [aj.sgn];exact decide_eq_false bj
   rw [hr] at bj
   refine a6 (mv 1 G (aA G G G false (kS) (mv 1 G (pf bm 0 G (aL G G (aP dB Y G) (pu (v:= no) G (pu (v:= no) G (a1 (aY G (a7 (bF [(3,a4 g6 0),(4,a4 ea 0),(5,a4 ee 0),(7,a4 dy 0),(8,a4 bm 0),(9,a9 (eZ y))] ⟨rfl,rfl,rfl,rfl,rfl,rfl,up⟩ ?_)))))))))))
   obtain⟨fb,hv,X⟩:∃v,v=dz.drew∧Ext dz v:=⟨_,rfl,aK.drew⟩
   have e:=ag.trans X
   have av:=((((ai.ext (ae.t (W.t (M.t D)))).vN r).vN f).ext X)
   obtain⟨fv,fm,fj,am,_⟩:=fA (P:=aH) (us:= (O E I H F)) (off:=0) aB G av (bq G) G (O E I H F) rfl
   have L:=am.ext e ba
   have aw:=(((((ah.ext (W.t (M.t D))).vN r).vN f).ext X).vN am)
   obtain⟨jr,fk,fe,bf,_⟩:=fA (P:=aH) (us:= [F0,i9 p o q]) (off:=0) aB G aw (bq G) G [F0,i9 p o q] rfl
   have Z:=bf.ext L bd
   refine gH cQ (w:=fb) [J E I H F,.agg #[F0,i9 p o q],a9 (eZ y),undef,undef,a9 (eZ y)] [fb,fv,jr] [3,4] [[],[],[],[0],[1],[2]] [[],[],[],[0],[0,1,3],[0,1,2,3,4]] [(0,0),(1,0),(1,1),(2,0),(2,1),(2,2),(3,0),(4,1),(5,2)] G hv ?_ ?_
   ·refine aZ _ G G G G G (cH G (bA aB ((az.vN f).ext X) (O E I H F) G (bq G) G)) (aZ _ G G G G G (cH G (bA aB (Y.ext X) [F0,i9 p o q] G (bq G) G)) (aZ _ G G G G G (cH G (bA aB ((Y.ext X).vN am) [F0,i9 p o q] G (bq G) G)) (aZ _ G G G G G (bO G) (aZ _ G G G G G (bO G) (aZ _ G G G G G (bO G) (fG _ G G G G G (eO G G fm) (fG _ G G G G G (eO G G fk) (aZ _ G G G G G (i7 G) ?_))))))))
    exact gG
   clear hv
   refine fX [(3,a4 g6 0),(4,a4 ea 0),(5,a4 ee 0),(7,a4 dy 0),(8,a4 bm 0),(6,a9 (eZ y))] ⟨rfl,rfl,rfl,rfl,rfl,rfl,up⟩ (aC (aU (bU (aT [J E I H F,.agg #[F0,i9 p o q],a9 (eZ y)] G ⟨⟨_,rfl,bA aB (fj.vN bf) (O E I H F) G (bq G) rfl⟩,⟨_,rfl,bA aB fe [F0,i9 p o q] G (bq G) rfl⟩,rfl,up⟩ ?_))))
   exact⟨_,rfl,⟨_,_,_,rfl,⟨_,_,_,_,rfl,(((((((bt.ext (M.t D)).updT V r).updT U f).ext X).updT av am).updT aw bf)).cast (by unfold qE;rw [if_neg h0,hq];exact (IQ (by omega)).1)⟩,⟨_,_,_,_,rfl,(((((((aj.ext (M.t D)).updT V r).updT U f).ext X).updT av am).updT aw bf)).cast (by unfold bZ;rw [if_neg h0,hr];exact (IQ (by omega)).2)⟩,rfl,en⟩,Z⟩
theorem RY (hb:b≤w.heap.size)(hx:Zi w s A n cap x)(la:n≤1048576)(hy:Zi w t B m cap' y)(lb:m≤1048576):aQ aH 150 #[J s A n cap,J t B m cap'] w (Gv w (T3 (ZR b (qE x y)) (ZR b (bZ x y)) (Is (a9 (eZ y))))):=(GS hb hx la hy lb).mono (Gv.imp TA.t3)
theorem GR {nb:Nat}(hb:b≤w.heap.size)(hx:Zi w sa Aa na ca x)(la:na≤1048576)(hy:Zi w sb Ab nb cb y)(lb:nb≤1048576):aQ aH 152 #[J sa Aa na ca,J sb Ab nb cb] w (Gv w (T2 (ZR b (bZ x y)) (Is (a9 (eZ y))))):=by
 refine Calls.mono (R:=Gv w (T2 (ZR w.heap.size (bZ x y)) (Is (a9 (eZ y))))) ?_ (Gv.imp (T2.imp (ZR.imp hb) Is.imp))
 have Lx:ln x≤1048576:=aE hx.ln la
 have Ly:ln y≤1048576:=aE hy.ln lb
 refine bL Tryz.func152 G (n:=18) G (bq G) (args:= [J sa Aa na ca,J sb Ab nb cb]) (bF [(0,J sa Aa na ca),(1,J sb Ab nb cb)] ⟨rfl,rfl,up⟩ (sr (bx (O sa Aa na ca) (Ext.refl w) G G G fun _ _ ah _ _ au=>(gN (O sb Ab nb cb) au ah.lt G G G fun _ _ ak _ _ e8 ba=>(cO [F0,S0] ba ak.lt (fun _=>by kernel_rfl) G fun _ _ r aa _ ai p=>(mv 1 G (a1 (sr (lo aB (ah.ext (e8.t ai)) (O sa Aa na ca) G G G (lo aB (ak.ext ai) (O sb Ab nb cb) G G G ?_))))))))))
 have bg:ln (qE x y)≤1048578:=vU Lx
 have bi:ln (bZ x y)≤1048576:=nU Ly
 refine cl (vs:= [J sa Aa na ca,J sb Ab nb cb]) p (RY p.size (hx.ext p) (aO la G) (hy.ext p) (aO lb G)) G (by kernel_rfl) fun _ _ bf ae ao=>?_
 obtain⟨_,_,_,rfl,⟨M,W,Z,ag,rfl,_⟩,⟨h,f,o,e,rfl,ar⟩,rfl⟩:=bf
 refine mv 1 G (pu (v:= J M W Z ag) G (pu (v:= J h f o e) G (pu (v:= a9 (eZ y)) G (cO [F0,S0] ao (r.ext ae).lt (fun _=>by kernel_rfl) G fun _ _ F aj _ L av=>(cO [F0,S0] av F.lt (fun _=>by kernel_rfl) G fun _ _ V Y _ I am=>?_)))))
 have D:=(F.ext I)
 refine so aB D (O M W Z ag) am aj G G G G fun _ _ H aw=>?_
 have E:=(V.vN H)
 refine so aB E (O h f o e) aw Y G G G G fun _ X U az=>(mv 1 G (a1 (sr (lo aB X (O h f o e) G G G (mv 1 G ?_)))))
 have q:=(((r.ext (ae.t (L.t I))).vN H).vN U)
 refine so aB q (O h f o e) az aa G G G G fun _ ab bd aq=>(mv 1 G (a1 (aU (aT [J h f o e,a9 (eZ y)] G ⟨⟨_,rfl,bA aB ab (O h f o e) G (bq G) rfl⟩,rfl,up⟩ ?_))))
 exact⟨_,rfl,⟨_,_,rfl,⟨_,_,_,_,rfl,((((ar.ext (L.t I)).updT D H).updT E U).updT q bd)⟩,rfl⟩,aq⟩
theorem RR {nb:Nat}(hb:b≤w.heap.size)(hx:Zi w sa Aa na ca x)(la:na≤1048576)(hy:Zi w sb Ab nb cb y)(lb:nb≤1048576):aQ aH 153 #[J sa Aa na ca,J sb Ab nb cb] w (Gv w (T2 (ZR b (vS x y)) (Is (a9 (eZ y))))):=by
 refine Calls.mono (R:=Gv w (T2 (ZR w.heap.size (vS x y)) (Is (a9 (eZ y))))) ?_ (Gv.imp (T2.imp (ZR.imp hb) Is.imp))
 have Lx:ln x≤1048576:=aE hx.ln la
 have Ly:ln y≤1048576:=aE hy.ln lb
 refine bL Tryz.func153 G (n:=30) G (bq G) (args:= [J sa Aa na ca,J sb Ab nb cb]) (bF [(0,J sa Aa na ca),(1,J sb Ab nb cb)] ⟨rfl,rfl,up⟩ (sr (bx (O sa Aa na ca) (Ext.refl w) G G G fun _ _ eh _ _ fy=>(gN (O sb Ab nb cb) fy eh.lt G G G fun _ _ am _ _ e8 gf=>(cO [F0,S0] gf am.lt (fun _=>by kernel_rfl) G fun _ _ ah ak _ au bd=>(mv 1 G (a1 (sr (lo aB (eh.ext (e8.t au)) (O sa Aa na ca) G G G (lo aB (am.ext au) (O sb Ab nb cb) G G G ?_))))))))))
 have r:ln (bZ x y)≤1048576:=nU Ly
 refine cl (vs:= [J sa Aa na ca,J sb Ab nb cb]) bd (GR bd.size (hx.ext bd) (aO la G) (hy.ext bd) (aO lb G)) G (by kernel_rfl) fun _ _ ge X fx=>?_
 obtain⟨_,_,rfl,⟨f,e,h,o,rfl,I⟩,rfl⟩:=ge
 refine mv 1 G (pu (v:= J f e h o) G (pu (v:= a9 (eZ y)) G (cO [F0,S0] fx (ah.ext X).lt (fun _=>by kernel_rfl) G fun _ _ F bg _ E fz=>(so aB F (O f e h o) fz bg G G G G fun _ H D Y=>(mv 1 G (a1 (a7 (a7 ?_))))))))
 by_cases h0:y=0
 ·have he:eZ y=4:=if_pos h0
  refine eI cQ 10 [] [Is (a9 (eZ y)),Is (t9),Is (t9),Is (undef),Is (undef),Is (undef),Is (undef),Is (undef),Is (undef),Is (t9)] [[],[0],[1],[2],[2],[2,3,4],[2],[2,5,6],[2,7],[2,8]] [[],[0],[0,1],[0,1,2],[0,1,2],[0,1,2,3,4],[0,1,2],[0,1,2,3,4,5,6],[0,1,2,3,4,5,6,7],[0,1,2,3,4,5,6,7,8]] rfl
   (aJ G G (aF G G ?_) (aJ G G (aF G G ?_) (aJ G G (aF G G ?_) (aJ G G (aF G G ?_) (aJ G G (aF G G ?_) (aJ G G (aF G G ?_) (aJ G G (aF G G ?_) (aJ G G (aF G G ?_) (aJ G G (aF G G ?_) (aJ G G (aF G G ?_) dY)))))))))) ?_
  ·exact fun _ _=>aG (mv 1 G (aI G aK G))
  ·exact fun _ _=>dk G G (aG (aA G G G false (cB) (aI G aK G)))
  ·exact fun _ _=>dk G G (aG (mv 1 G (aI G aK G)))
  ·exact fun _ _=>dk G G (aG (mv 1 G (aI G aK G)))
  ·exact fun _ _=>dk G G (aG (mv 1 G (aI G aK G)))
  ·exact fun _ _=>dk G G (dk G G (dk G G (aG (mv 1 G (aI G aK G)))))
  ·exact fun _ _=>dk G G (aG (mv 1 G (aI G aK G)))
  ·exact fun _ _=>dk G G (dk G G (dk G G (aG (mv 1 G (aI G aK G)))))
  ·exact fun _ _=>dk G G (dk G G (aG (mv 1 G (aI G aK G))))
  ·exact fun _ _=>dk G G (dk G G (aG (pu (v:= t9) G (aI G aK G))))
  ·intro _ ab
   have p:=Y.trans ab
   refine dk G G (dk G G (dk G G (dk G G (dk G G (dk G G (dk G G (dk G G (dk G G (dk G G (aG (aS (eB (aC ?_)))))))))))))
   refine aN G (aW (aC (sr (lo aB (H.ext ab) (O f e h o) G G G (mv 1 G ?_)))))
   have aw:=(((ah.ext (X.t E)).vN D).ext ab)
   refine so aB aw (O f e h o) p ak G G G G fun _ bw fm q=>(mv 1 G (a1 (aU (aT [J f e h o,a9 (eZ y)] G ⟨⟨_,rfl,bA aB bw (O f e h o) G (bq G) rfl⟩,rfl,up⟩ ?_))))
   exact⟨_,rfl,⟨_,_,rfl,⟨_,_,_,_,rfl,(((((I.ext E).updT F D).ext ab).updT aw fm)).cast (by simp only [bZ,vS,if_pos h0])⟩,rfl⟩,q⟩
 ·have he:eZ y=0:=if_neg h0
  have hr:bZ x y=x%y:=if_neg h0
  have ia:=s7 x h0
  by_cases dr:x%y+x%y≤(y.natAbs:Int)
  ·have fe:ln ((bZ x y)+(bZ x y))≤1048577:=aE (dZ r r) (by decide)
   refine eI cQ 10 [] [Is (a9 (eZ y)),Is (no),Is (no),Is (J f e h o),Is (J f e h o),ZR w.heap.size ((bZ x y)+(bZ x y)),Is (J sb Ab nb cb),Is (a9 (cX (Int.natAbs ((bZ x y)+(bZ x y))) (Int.natAbs y))),Is (t9),Is (t9)] [[],[0],[1],[2],[2],[2,3,4],[2],[2,5,6],[2,7],[2,8]] [[],[0],[0,1],[0,1,2],[0,1,2],[0,1,2,3,4],[0,1,2],[0,1,2,3,4,5,6],[0,1,2,3,4,5,6,7],[0,1,2,3,4,5,6,7,8]] rfl
    (aJ G G (aF G G ?_) (aJ G G (aF G G ?_) (aJ G G (aF G G ?_) (aJ G G (aF G G ?_) (aJ G G (aF G G ?_) (aJ G G (aF G G ?_) (aJ G G (aF G G ?_) (aJ G G (aF G G ?_) (aJ G G (aF G G ?_) (aJ G G (aF G G ?_) dY)))))))))) ?_
   ·exact fun _ _=>aG (mv 1 G (aI G aK G))
   ·exact fun _ _=>dk G G (aG (aA G G G true (dD (by omega)) (aI G aK G)))
   ·exact fun _ _=>dk G G (aG (mv 1 G (aI G aK G)))
   ·exact fun _ dx=>dk G G (aG (lo aB (H.ext dx) (O f e h o) G G G (aI G aK G)))
   ·exact fun _ dw=>dk G G (aG (lo aB (H.ext dw) (O f e h o) G G G (aI G aK G)))
   ·intro _ ao
    have p:=Y.trans ao
    refine dk G G (dk G G (dk G G (aG ?_)))
    have gj:ln ((bZ x y)+(bZ x y))≤1048577:=aE (dZ r r) (by decide)
    refine cl (vs:= [J f e h o,J f e h o]) p (nW p.size (((I.ext E).updT F D).ext ao).zi (I.le (aO r G)) (((I.ext E).updT F D).ext ao).zi (I.le (aO r G))) G (by kernel_rfl) fun _ _ fv ew q=>?_
    obtain⟨_,_,_,_,rfl,ce⟩:=fv
    exact aI G ew ⟨_,_,_,_,rfl,ce⟩
   ·exact fun _ cv=>dk G G (aG (lo aB (((am.ext (au.t (X.t E))).vN D).ext cv) (O sb Ab nb cb) G G G (aI G aK G)))
   ·intro _ ey
    have p:=Y.trans ey
    refine dk G G (cF G G fun _ _ ee _ fc=>?_)
    obtain⟨cm,bz,dd,dy,rfl,ag⟩:=ee
    have ag:=ag.ext fc
    refine dk G G (aG (cl (vs:= [J cm bz dd dy,J sb Ab nb cb]) p (B4 ag.zi (ag.le (aO fe G)) (hy.ext p) (aO lb G)) G (by kernel_rfl) fun _ _ dh eg q=>?_))
    obtain rfl:=dh
    exact aI G eg rfl
   ·exact fun _ _=>dk G G (dk G G (aG (aA G G G false (JC (by omega)) (aI G aK G))))
   ·exact fun _ _=>dk G G (dk G G (aG (pu (v:= t9) G (aI G aK G))))
   ·intro _ Z
    have p:=Y.trans Z
    refine dk G G (dk G G (dk G G (dk G G (dk G G (cF G G fun _ _ el _ fg=>?_)))))
    obtain⟨_,_,_,_,rfl,bm⟩:=el
    have bm:=bm.ext fg
    refine dk G G (dk G G (dk G G (dk G G (aG (aS (eB (aC (aN G (aW (aC (sr (lo aB (H.ext Z) (O f e h o) G G G (mv 1 G ?_)))))))))))))
    have az:=(((ah.ext (X.t E)).vN D).ext Z)
    refine so aB az (O f e h o) p ak G G G G fun _ bo en q=>(mv 1 G (a1 (aU (aT [J f e h o,a9 (eZ y)] G ⟨⟨_,rfl,bA aB bo (O f e h o) G (bq G) rfl⟩,rfl,up⟩ ?_))))
    exact⟨_,rfl,⟨_,_,rfl,⟨_,_,_,_,rfl,(((((I.ext E).updT F D).ext Z).updT az en)).cast (by simp only [vS,hr,if_neg h0,if_pos dr])⟩,rfl⟩,q⟩
  ·have em:ln ((bZ x y)+(bZ x y))≤1048577:=aE (dZ r r) (by decide)
   refine eI cQ 10 [] [Is (a9 (eZ y)),Is (no),Is (no),Is (J f e h o),Is (J f e h o),ZR w.heap.size ((bZ x y)+(bZ x y)),Is (J sb Ab nb cb),Is (a9 (cX (Int.natAbs ((bZ x y)+(bZ x y))) (Int.natAbs y))),Is (no),Is (no)] [[],[0],[1],[2],[2],[2,3,4],[2],[2,5,6],[2,7],[2,8]] [[],[0],[0,1],[0,1,2],[0,1,2],[0,1,2,3,4],[0,1,2],[0,1,2,3,4,5,6],[0,1,2,3,4,5,6,7],[0,1,2,3,4,5,6,7,8]] rfl
    (aJ G G (aF G G ?_) (aJ G G (aF G G ?_) (aJ G G (aF G G ?_) (aJ G G (aF G G ?_) (aJ G G (aF G G ?_) (aJ G G (aF G G ?_) (aJ G G (aF G G ?_) (aJ G G (aF G G ?_) (aJ G G (aF G G ?_) (aJ G G (aF G G ?_) dY)))))))))) ?_
   ·exact fun _ _=>aG (mv 1 G (aI G aK G))
   ·exact fun _ _=>dk G G (aG (aA G G G true (dD (by omega)) (aI G aK G)))
   ·exact fun _ _=>dk G G (aG (mv 1 G (aI G aK G)))
   ·exact fun _ co=>dk G G (aG (lo aB (H.ext co) (O f e h o) G G G (aI G aK G)))
   ·exact fun _ ft=>dk G G (aG (lo aB (H.ext ft) (O f e h o) G G G (aI G aK G)))
   ·intro _ ai
    have p:=Y.trans ai
    refine dk G G (dk G G (dk G G (aG ?_)))
    have gg:ln ((bZ x y)+(bZ x y))≤1048577:=aE (dZ r r) (by decide)
    refine cl (vs:= [J f e h o,J f e h o]) p (nW p.size (((I.ext E).updT F D).ext ai).zi (I.le (aO r G)) (((I.ext E).updT F D).ext ai).zi (I.le (aO r G))) G (by kernel_rfl) fun _ _ cu cg q=>?_
    obtain⟨_,_,_,_,rfl,fs⟩:=cu
    exact aI G cg ⟨_,_,_,_,rfl,fs⟩
   ·exact fun _ ck=>dk G G (aG (lo aB (((am.ext (au.t (X.t E))).vN D).ext ck) (O sb Ab nb cb) G G G (aI G aK G)))
   ·intro _ dg
    have p:=Y.trans dg
    refine dk G G (cF G G fun _ _ fk _ fh=>?_)
    obtain⟨df,fb,ez,ef,rfl,ae⟩:=fk
    have ae:=ae.ext fh
    refine dk G G (aG (cl (vs:= [J df fb ez ef,J sb Ab nb cb]) p (B4 ae.zi (ae.le (aO em G)) (hy.ext p) (aO lb G)) G (by kernel_rfl) fun _ _ fo ea q=>?_))
    obtain rfl:=fo
    exact aI G ea rfl
   ·exact fun _ _=>dk G G (dk G G (aG (aA G G G true (JB (by omega)) (aI G aK G))))
   ·exact fun _ _=>dk G G (dk G G (aG (pu (v:= no) G (aI G aK G))))
   ·intro _ L
    have p:=Y.trans L
    refine dk G G (dk G G (dk G G (dk G G (dk G G (cF G G fun _ _ fd _ ci=>?_)))))
    obtain⟨_,_,_,_,rfl,bh⟩:=fd
    have bh:=bh.ext ci
    refine dk G G (dk G G (dk G G (dk G G (aG (aS (eB (aC (aY G ?_))))))))
    have av:ln ((Int.natAbs y:Int))≤1048576:=(by rw [kT];exact Ly)
    have go:ln ((bZ x y)-(Int.natAbs y:Int))≤1048577:=aE (hZ r av) (by decide)
    refine eI cQ 4 [] [Is (J f e h o),Is (J sb Ab nb cb),ZR w.heap.size ((Int.natAbs y:Int)),ZR w.heap.size ((bZ x y)-(Int.natAbs y:Int))] [[],[],[1],[0,2]] [[],[],[1],[0,1,2],[0,1,2,3]] rfl
     (aJ G G (aF G G ?_) (aJ G G (aF G G ?_) (aJ G G (aF G G ?_) (aJ G G (aF G G ?_) dY)))) ?_
    ·exact fun _ fi=>aG (lo aB (H.ext (L.t fi)) (O f e h o) G G G (aI G aK G))
    ·exact fun _ ej=>aG (lo aB (((am.ext (au.t (X.t E))).vN D).ext (L.t ej)) (O sb Ab nb cb) G G G (aI G aK G))
    ·intro _ ct
     have q:=p.trans ct
     refine dk G G (aG ?_)
     have gk:ln ((Int.natAbs y:Int))≤1048576:=(by rw [kT];exact Ly)
     refine cl (vs:= [J sb Ab nb cb]) q (I5 q.size (hy.ext q) (aO lb G)) G (by kernel_rfl) fun _ _ fw fp bv=>?_
     obtain⟨_,_,_,_,rfl,ch⟩:=fw
     exact aI G fp ⟨_,_,_,_,rfl,ch⟩
    ·intro _ bj
     have q:=p.trans bj
     refine dk G G (cF G G fun _ _ de _ da=>?_)
     obtain⟨dt,du,cf,ep,rfl,aa⟩:=de
     have aa:=aa.ext da
     refine aG ?_
     have gi:ln ((bZ x y)-(Int.natAbs y:Int))≤1048577:=aE (hZ r av) (by decide)
     refine cl (vs:= [J f e h o,J dt du cf ep]) q (rI q.size (((I.ext E).updT F D).ext (L.t bj)).zi (I.le (aO r G)) aa.zi (aa.le (aO av G))) G (by kernel_rfl) fun _ _ dl fa bv=>?_
     obtain⟨_,_,_,_,rfl,fq⟩:=dl
     exact aI G fa ⟨_,_,_,_,rfl,fq⟩
    ·intro _ ar
     have q:=p.trans ar
     refine dk G G (dk G G (cF G G fun _ _ dz _ cj=>?_))
     obtain⟨_,_,_,_,rfl,bf⟩:=dz
     have bf:=bf.ext cj
     refine cF G G fun _ _ ei _ fj=>?_
     obtain⟨W,V,M,U,rfl,ba⟩:=ei
     have ba:=ba.ext fj
     refine aG ?_
     have aj:=(H.ext (L.t ar))
     refine so aB aj (O W V M U) q bg G G G G fun _ bu bi bv=>(aS (eB (aC (sr (lo aB bu (O W V M U) G G G (mv 1 G ?_))))))
     have aq:=((((ah.ext (X.t E)).vN D).ext (L.t ar)).vN bi)
     refine so aB aq (O W V M U) bv ak G G G G fun _ bt cx dm=>(mv 1 G (a1 (aU (aT [J W V M U,a9 (eZ y)] G ⟨⟨_,rfl,bA aB bt (O W V M U) G (bq G) rfl⟩,rfl,up⟩ ?_))))
     exact⟨_,rfl,⟨_,_,rfl,⟨_,_,_,_,rfl,(((ba.updT aj bi).updT aq cx)).cast (by simp only [vS,hr,if_neg h0,if_neg dr])⟩,rfl⟩,dm⟩
end
section
open Go.RowKit
open Classical in
noncomputable def rV (bs:List Nat):Int:=if fR 10 (eY bs) then mK bs else 0
open Classical in
noncomputable def rE (bs:List Nat):Int:=if fR 10 (eY bs) then 0 else 7
theorem DN (h:bs.take 1= [c]):0<bs.length∧bs.getD 0 0=c:=by
 cases bs with
 | nil=>cases h
 | cons x r=>simp at h;exact⟨by simp,h⟩
theorem MK (h:bs.take 3= [a,b,c]):3≤bs.length∧bs.getD 0 0=a∧bs.getD 1 0=b∧bs.getD 2 0=c:=by
 match bs,h with
 | [],h=>cases h
 | [_],h=>cases h
 | [_,_],h=>cases h
 | x::y::z::r,h=>simp at h;exact⟨by simp,h.1,h.2.1,h.2.2⟩
theorem DM (h:bs.length>0)(e:bs.getD 0 0=c):bs.take 1= [c]:=by
 cases bs with
 | nil=>simp at h
 | cons x r=>simp at e;simp [e]
theorem DL (h:bs.length>2)(e0:bs.getD 0 0=a)(e1:bs.getD 1 0=b)(e2:bs.getD 2 0=c):bs.take 3= [a,b,c]:=by
 match bs,h with
 | [],h=>simp at h
 | [_],h=>simp at h
 | [_,_],h=>simp at h
 | x::y::z::r,h=>simp at e0 e1 e2;simp [e0,e1,e2]
theorem TM (hbs:∀b,b∈bs→b<256)(hlen:bs.length≤1048576):aQ aH 140 #[.string (aM bs)] w (Gv w (T2 (ZR w.heap.size (rV bs)) (Is (a9 (rE bs))))):=by
 refine bL Tryz.func140 G (n:=55) G (bq G) (args:= [.string (aM bs)]) (bF [(0,.string (aM bs))] ⟨rfl,up⟩ (sr (al [F0,S0] (Ext.refl w) (fun _=>by kernel_rfl) G fun g1 E p ag _ o=>(mv 1 G (a1 (sr (mv 1 G (a1 (sr (mv 1 G (a1 (VU (T:=a0×Bool×Nat) (fun⟨wr,ng,pa⟩=> [(0,.string (aM bs)),(2,a4 g1 0),(4,.bool ng),(5,a9 pa)]) (fun⟨wr,ng,pa⟩=>wr) (fun⟨wr,ng,pa⟩=>(Ext w wr)∧(iM bs=ng)∧(eY bs=bs.drop pa)∧(pa≤bs.length)∧(Bk wr g1 24 [F0,S0])) ?_ ?_))))))))))))
 ·refine a7 ?_
  by_cases q:bs.take 1= [43]
  ·have f:eY bs=bs.drop 1:=by unfold eY;rw [if_pos q]
   have h:iM bs=false:=by unfold iM;rw [if_pos q]
   obtain⟨h0l,h0v⟩:=DN q
   refine a6 (mv 1 G (dF G G (v:= a9 (((aM bs).size:Nat):Int)) (v':= a9 ((bs.length:Nat):Int)) (by rw [dU]) (aA G G G true (fB (a:=bs.length) (b:=0) G G) (mv 2 G (f9 (bs:=bs) (i:=0) G G G Tryz.underlying9 hbs (aA G G G true (fM (a:=bs.getD 0 0) (b:=43) G G) (mv 4 G (pu (v:= no) G (pu (v:= no) G (a1 (aY G (sr (mv 1 G ?_)))))))))))))
   refine f9 (bs:=bs) (i:=0) G G G Tryz.underlying9 hbs (aA G G G false (fT (a:=bs.getD 0 0) (b:=45) G G) (mv 1 G (a1 (a6 (mv 1 G (aS (lE (⟨E,false,1⟩:a0×Bool×Nat) ⟨o,h,f,(by omega),p⟩ G ⟨rfl,rfl,rfl,rfl,up⟩)))))))
  ·by_cases r:bs.take 1= [45]
   ·have f:eY bs=bs.drop 1:=by unfold eY;rw [if_neg q,if_pos r]
    have h:iM bs=true:=by unfold iM;rw [if_neg q,if_pos r]
    obtain⟨h0l,h0v⟩:=DN r
    refine a6 (mv 1 G (dF G G (v:= a9 (((aM bs).size:Nat):Int)) (v':= a9 ((bs.length:Nat):Int)) (by rw [dU]) (aA G G G true (fB (a:=bs.length) (b:=0) G G) (mv 2 G (f9 (bs:=bs) (i:=0) G G G Tryz.underlying9 hbs (aA G G G false (fT (a:=bs.getD 0 0) (b:=43) G G) (mv 2 G (f9 (bs:=bs) (i:=0) G G G Tryz.underlying9 hbs (aA G G G true (fM (a:=bs.getD 0 0) (b:=45) G G) (pu (v:= no) G (pu (v:= no) G (a1 (aY G ?_)))))))))))))
    refine sr (mv 1 G (f9 (bs:=bs) (i:=0) G G G Tryz.underlying9 hbs (aA G G G true (fM (a:=bs.getD 0 0) (b:=45) G G) (mv 1 G (a1 (a6 (mv 1 G (aS (lE (⟨E,true,1⟩:a0×Bool×Nat) ⟨o,h,f,(by omega),p⟩ G ⟨rfl,rfl,rfl,rfl,up⟩)))))))))
   ·by_cases D:bs.take 3= [226,136,146]
    ·have f:eY bs=bs.drop 3:=by unfold eY;rw [if_neg q,if_neg r,if_pos D]
     have h:iM bs=true:=by unfold iM;rw [if_neg q,if_neg r,if_pos D]
     obtain⟨h3l,h0v,h1v,h2v⟩:=MK D
     refine a6 (mv 1 G (dF G G (v:= a9 (((aM bs).size:Nat):Int)) (v':= a9 ((bs.length:Nat):Int)) (by rw [dU]) (aA G G G true (fB (a:=bs.length) (b:=0) G G) (mv 2 G (f9 (bs:=bs) (i:=0) G G G Tryz.underlying9 hbs (aA G G G false (fT (a:=bs.getD 0 0) (b:=43) G G) (mv 2 G (f9 (bs:=bs) (i:=0) G G G Tryz.underlying9 hbs (aA G G G false (fT (a:=bs.getD 0 0) (b:=45) G G) (pu (v:= t9) G (pu (v:= t9) G (a1 (aN G ?_)))))))))))))
     refine sr (mv 1 G (dF G G (v:= a9 (((aM bs).size:Nat):Int)) (v':= a9 ((bs.length:Nat):Int)) (by rw [dU]) (aA G G G true (fB (a:=bs.length) (b:=2) G G) (mv 2 G (f9 (bs:=bs) (i:=0) G G G Tryz.underlying9 hbs (aA G G G true (fM (a:=bs.getD 0 0) (b:=226) G G) (pu (v:= no) G (mv 2 G (f9 (bs:=bs) (i:=1) G G G Tryz.underlying9 hbs (aA G G G true (fM (a:=bs.getD 1 0) (b:=136) G G) (pu (v:= no) G (mv 2 G (f9 (bs:=bs) (i:=2) G G G Tryz.underlying9 hbs ?_)))))))))))))
     refine aA G G G true (fM (a:=bs.getD 2 0) (b:=146) G G) (pu (v:= no) G (a1 (aY G (sr (mv 1 G (a1 (a6 (mv 1 G (aS (lE (⟨E,true,3⟩:a0×Bool×Nat) ⟨o,h,f,(by omega),p⟩ G ⟨rfl,rfl,rfl,rfl,up⟩))))))))))
    ·have f:eY bs=bs.drop 0:=by unfold eY;rw [if_neg q,if_neg r,if_neg D];rfl
     have h:iM bs=false:=by unfold iM;rw [if_neg q,if_neg r,if_neg D]
     by_cases ai:bs.length>0
     ·have bz:bs.getD 0 0≠43:=fun e=>q (DM ai e)
      have bu:bs.getD 0 0≠45:=fun e=>r (DM ai e)
      refine a6 (mv 1 G (dF G G (v:= a9 (((aM bs).size:Nat):Int)) (v':= a9 ((bs.length:Nat):Int)) (by rw [dU]) (aA G G G true (fB (a:=bs.length) (b:=0) G G) (mv 2 G (f9 (bs:=bs) (i:=0) G G G Tryz.underlying9 hbs (aA G G G false (fT (a:=bs.getD 0 0) (b:=43) G G) (mv 2 G (f9 (bs:=bs) (i:=0) G G G Tryz.underlying9 hbs (aA G G G false (fT (a:=bs.getD 0 0) (b:=45) G G) (pu (v:= t9) G (pu (v:= t9) G (a1 (aN G ?_)))))))))))))
      refine a7 ?_
      by_cases V:bs.length>2
      ·by_cases H:bs.getD 0 0=226
       ·by_cases F:bs.getD 1 0=136
        ·have h2n:bs.getD 2 0≠146:=fun e=>D (DL V H F e)
         refine a6 (mv 1 G (dF G G (v:= a9 (((aM bs).size:Nat):Int)) (v':= a9 ((bs.length:Nat):Int)) (by rw [dU]) (aA G G G true (fB (a:=bs.length) (b:=2) G G) (mv 2 G (f9 (bs:=bs) (i:=0) G G G Tryz.underlying9 hbs (aA G G G true (fM (a:=bs.getD 0 0) (b:=226) G G) (pu (v:= no) G (mv 2 G (f9 (bs:=bs) (i:=1) G G G Tryz.underlying9 hbs (aA G G G true (fM (a:=bs.getD 1 0) (b:=136) G G) (pu (v:= no) G (mv 2 G (f9 (bs:=bs) (i:=2) G G G Tryz.underlying9 hbs ?_)))))))))))))
         refine aA G G G false (fT (a:=bs.getD 2 0) (b:=146) G G) (pu (v:= t9) G (a1 (aN G (aW (lE (⟨E,false,0⟩:a0×Bool×Nat) ⟨o,h,f,(by omega),p⟩ G ⟨rfl,rfl,rfl,rfl,up⟩)))))
        ·refine a6 (mv 1 G (dF G G (v:= a9 (((aM bs).size:Nat):Int)) (v':= a9 ((bs.length:Nat):Int)) (by rw [dU]) (aA G G G true (fB (a:=bs.length) (b:=2) G G) (mv 2 G (f9 (bs:=bs) (i:=0) G G G Tryz.underlying9 hbs (aA G G G true (fM (a:=bs.getD 0 0) (b:=226) G G) (pu (v:= no) G (mv 2 G (f9 (bs:=bs) (i:=1) G G G Tryz.underlying9 hbs (aA G G G false (fT (a:=bs.getD 1 0) (b:=136) G G) (pu (v:= t9) G (mv 4 G (pu (v:= t9) G ?_)))))))))))))
         refine a1 (aN G (aW (lE (⟨E,false,0⟩:a0×Bool×Nat) ⟨o,h,f,(by omega),p⟩ G ⟨rfl,rfl,rfl,rfl,up⟩)))
       ·refine a6 (mv 1 G (dF G G (v:= a9 (((aM bs).size:Nat):Int)) (v':= a9 ((bs.length:Nat):Int)) (by rw [dU]) (aA G G G true (fB (a:=bs.length) (b:=2) G G) (mv 2 G (f9 (bs:=bs) (i:=0) G G G Tryz.underlying9 hbs (aA G G G false (fT (a:=bs.getD 0 0) (b:=226) G G) (pu (v:= t9) G (mv 4 G (pu (v:= t9) G (mv 4 G (pu (v:= t9) G (a1 (aN G ?_)))))))))))))
        refine aW (lE (⟨E,false,0⟩:a0×Bool×Nat) ⟨o,h,f,(by omega),p⟩ G ⟨rfl,rfl,rfl,rfl,up⟩)
      ·refine a6 (mv 1 G (dF G G (v:= a9 (((aM bs).size:Nat):Int)) (v':= a9 ((bs.length:Nat):Int)) (by rw [dU]) (aA G G G false (fC (a:=bs.length) (b:=2) G G) (mv 4 G (pu (v:= t9) G (mv 4 G (pu (v:= t9) G (mv 4 G (pu (v:= t9) G (a1 (aN G (aW (lE (⟨E,false,0⟩:a0×Bool×Nat) ⟨o,h,f,(by omega),p⟩ G ⟨rfl,rfl,rfl,rfl,up⟩)))))))))))))
     ·refine a6 (mv 1 G (dF G G (v:= a9 (((aM bs).size:Nat):Int)) (v':= a9 ((bs.length:Nat):Int)) (by rw [dU]) (aA G G G false (fC (a:=bs.length) (b:=0) G G) (mv 9 G (pu (v:= t9) G (a1 (aN G (a7 ?_))))))))
      by_cases V:bs.length>2
      ·by_cases H:bs.getD 0 0=226
       ·by_cases F:bs.getD 1 0=136
        ·have h2n:bs.getD 2 0≠146:=fun e=>D (DL V H F e)
         refine a6 (mv 1 G (dF G G (v:= a9 (((aM bs).size:Nat):Int)) (v':= a9 ((bs.length:Nat):Int)) (by rw [dU]) (aA G G G true (fB (a:=bs.length) (b:=2) G G) (mv 2 G (f9 (bs:=bs) (i:=0) G G G Tryz.underlying9 hbs (aA G G G true (fM (a:=bs.getD 0 0) (b:=226) G G) (pu (v:= no) G (mv 2 G (f9 (bs:=bs) (i:=1) G G G Tryz.underlying9 hbs (aA G G G true (fM (a:=bs.getD 1 0) (b:=136) G G) (pu (v:= no) G (mv 2 G (f9 (bs:=bs) (i:=2) G G G Tryz.underlying9 hbs ?_)))))))))))))
         refine aA G G G false (fT (a:=bs.getD 2 0) (b:=146) G G) (pu (v:= t9) G (a1 (aN G (aW (lE (⟨E,false,0⟩:a0×Bool×Nat) ⟨o,h,f,(by omega),p⟩ G ⟨rfl,rfl,rfl,rfl,up⟩)))))
        ·refine a6 (mv 1 G (dF G G (v:= a9 (((aM bs).size:Nat):Int)) (v':= a9 ((bs.length:Nat):Int)) (by rw [dU]) (aA G G G true (fB (a:=bs.length) (b:=2) G G) (mv 2 G (f9 (bs:=bs) (i:=0) G G G Tryz.underlying9 hbs (aA G G G true (fM (a:=bs.getD 0 0) (b:=226) G G) (pu (v:= no) G (mv 2 G (f9 (bs:=bs) (i:=1) G G G Tryz.underlying9 hbs (aA G G G false (fT (a:=bs.getD 1 0) (b:=136) G G) (pu (v:= t9) G (mv 4 G (pu (v:= t9) G ?_)))))))))))))
         refine a1 (aN G (aW (lE (⟨E,false,0⟩:a0×Bool×Nat) ⟨o,h,f,(by omega),p⟩ G ⟨rfl,rfl,rfl,rfl,up⟩)))
       ·refine a6 (mv 1 G (dF G G (v:= a9 (((aM bs).size:Nat):Int)) (v':= a9 ((bs.length:Nat):Int)) (by rw [dU]) (aA G G G true (fB (a:=bs.length) (b:=2) G G) (mv 2 G (f9 (bs:=bs) (i:=0) G G G Tryz.underlying9 hbs (aA G G G false (fT (a:=bs.getD 0 0) (b:=226) G G) (pu (v:= t9) G (mv 4 G (pu (v:= t9) G (mv 4 G (pu (v:= t9) G (a1 (aN G ?_)))))))))))))
        refine aW (lE (⟨E,false,0⟩:a0×Bool×Nat) ⟨o,h,f,(by omega),p⟩ G ⟨rfl,rfl,rfl,rfl,up⟩)
      ·refine a6 (mv 1 G (dF G G (v:= a9 (((aM bs).size:Nat):Int)) (v':= a9 ((bs.length:Nat):Int)) (by rw [dU]) (aA G G G false (fC (a:=bs.length) (b:=2) G G) (mv 4 G (pu (v:= t9) G (mv 4 G (pu (v:= t9) G (mv 4 G (pu (v:= t9) G (a1 (aN G (aW (lE (⟨E,false,0⟩:a0×Bool×Nat) ⟨o,h,f,(by omega),p⟩ G ⟨rfl,rfl,rfl,rfl,up⟩)))))))))))))
 ·rintro⟨wr,ng,pa⟩ ⟨o,h,f,_,b_2⟩
  refine cR [(0,.string (aM bs)),(2,a4 g1 0),(4,.bool ng),(5,a9 pa)] wr G ⟨rfl,rfl,rfl,rfl,up⟩ (a7 ?_)
  have aq:∀b,b∈bs.drop pa→b<256:=fun b hb=>hbs b (List.mem_of_mem_drop hb)
  have ao:(bs.drop pa).length≤17179869184:=by rw [gS];omega
  by_cases Z:fR 10 (bs.drop pa)
  ·have aj:(wd (d4 10 ((bs.drop pa).map dv))).length≤1048576:=aE (r9 (base:=10) Z.2) (by rw [gS];omega)
   refine a6 (mv 2 G (sA (bs:=bs) (i:=pa) G G G Tryz.underlying9 (cl (vs:= [.string (aM (bs.drop pa))]) o ((PC aq ao Z).mono (Gv.imp (T2.imp (WR.imp o.size) Is.imp))) G (by kernel_rfl) fun _ _ r8 e7 I=>?_)))
   obtain⟨_,_,rfl,⟨ak,ah,ae,rfl,bg,bi⟩,rfl⟩:=r8
   refine mv 1 G (pu (v:= i9 ak ah ae) G (pu (v:= a9 0) G (mv 2 G (a1 (a7 (sr (mv 1 G (aA G G G false (by decide) (a1 (aN G (aW (aC (a7 ?_)))))))))))))
   refine a6 (mv 2 G ?_)
   have bv:ln (sg ng (d4 10 ((bs.drop pa).map dv)))≤1048576:=by rw [i0];exact aj
   refine cl (vs:= (O ng ak ah ae)) I (iS I.size bi.wi (by rw [bg];exact aE aj (by decide))) G (by kernel_rfl) fun _ _ aw av W=>?_
   obtain⟨Y,U,X,aa,rfl,bd⟩:=aw
   have L:=(b_2.ext (e7.t av))
   refine so aB L (O Y U X aa) W ag G G G G fun _ am bh ar=>(mv 1 G (a1 (aU (aT [J Y U X aa,I0] G ⟨⟨_,rfl,bA aB am (O Y U X aa) G (bq G) rfl⟩,rfl,up⟩ ?_))))
   have hV:rV bs=sg ng (d4 10 ((bs.drop pa).map dv)):=by unfold rV;rw [f,if_pos Z,mK,h,f];cases ng <;> rfl
   have hE:rE bs=0:=by unfold rE;rw [f,if_pos Z]
   exact⟨_,rfl,⟨_,_,rfl,⟨_,_,_,_,rfl,((bd.updT L bh)).cast hV.symm⟩,(show d8 .i64 (0)=_ by rw [hE])⟩,ar⟩
  ·refine a6 (mv 2 G (sA (bs:=bs) (i:=pa) G G G Tryz.underlying9 (cl (vs:= [.string (aM (bs.drop pa))]) o (PD aq ao Z) G (by kernel_rfl) fun _ bj bo bm I=>?_)))
   obtain⟨_,_,rfl,rfl,rfl⟩:=bo
   refine mv 1 G (pu (v:= i9 none 0 0) G (pu (v:= a9 7) G (mv 2 G (a1 (a7 (sr (mv 1 G (aA G G G true (by decide) (a1 (aY G (sr (pu (v:= .agg #[F0,S0]) G ?_))))))))))))
   have M:=(b_2.ext bm)
   refine so aB M [F0,S0] I ag G G G G fun _ ab au W=>(mv 1 G (a1 (aU (bU (aT [.agg #[F0,S0],a9 7] G ⟨⟨_,rfl,bA aB ab [F0,S0] G (bq G) rfl⟩,rfl,up⟩ ?_)))))
   have hV:rV bs=0:=by unfold rV;rw [f,if_neg Z]
   have hE:rE bs=7:=by unfold rE;rw [f,if_neg Z]
   exact⟨_,rfl,⟨_,_,rfl,⟨_,_,_,_,rfl,(((Zr.zero (w:=bj) (base:=w.heap.size)).updT M au)).cast hV.symm⟩,(show d8 .i64 (7)=_ by rw [hE])⟩,W⟩
theorem TN (hb:b≤w.heap.size)(hbs:∀b,b∈bs→b<256)(hlen:bs.length≤1048576):aQ aH 140 #[.string (aM bs)] w (Gv w (T2 (ZR b (rV bs)) (Is (a9 (rE bs))))):=(TM hbs hlen).mono (Gv.imp (T2.imp (ZR.imp hb) Is.imp))
end
section
open Go.RowKit
def vP (x n:Int):Int:=if n<0 then 0 else if 256<n then 0 else x^n.toNat
def eP (n:Int):Int:=if n<0 then 3 else if 256<n then 5 else 0
def vD (zs ys:List Int)(n m:Nat):Int:=if n=m then iC zs ys n else 0
def eD (n m:Nat):Int:=if n=m then 0 else 2
theorem GG {n:Int}(h:ln x≤1048576):ln (vP x n)≤268435457:=by
 unfold vP;split
 ·exact bJ _
 ·split
  ·exact bJ _
  ·show (wd (x^n.toNat).natAbs).length≤_
   rw [Int.natAbs_pow];exact sN h (by omega)
theorem GH (h:∀i,ln (zs.getD i 0)≤N)(h2:∀i,ln (ys.getD i 0)≤N):ln (vD zs ys n m)≤2*N+n:=by
 unfold vD;split
 ·exact AU h h2 n
 ·exact bJ _
theorem GI (h:bs.length≤1048576):ln (rV bs)≤1048576:=by
 unfold rV;split
 ·rename_i e
  have h1:(wd (d4 10 ((eY bs).map dv))).length≤1048576:=by
   refine aE (r9 (base:=10) e.2) (aE ?_ h)
   unfold eY
   split
   ·rw [gS];omega
   ·split
    ·rw [gS];omega
    ·split
     ·rw [gS];omega
     ·exact aX _
  unfold mK;split
  ·rw [sX,AP];exact h1
  ·rw [AP];exact h1
 ·exact bJ _
theorem RW (hb:b≤w.heap.size)(hx:Zi w s A n cap x)(la:n≤1048576)(hy:Zi w t B m cap' y)(lb:m≤1048576):aQ aH 151 #[J s A n cap,J t B m cap'] w (Gv w (T2 (ZR b (vX x y)) (Is (a9 (eX x y))))):=by
 by_cases h0:y=0
 ·simp only [vX,eX,if_pos h0]
  exact T6 hb hx (aE la (by decide)) hy (aE lb (by decide)) h0
 ·by_cases e:x.natAbs%y.natAbs=0
  ·simp only [vX,eX,if_neg h0,if_pos e]
   exact T0 hb hx (aE la (by decide)) hy (aE lb (by decide)) h0 e
  ·simp only [vX,eX,if_neg h0,if_neg e]
   exact T4 hb hx (aE la (by decide)) hy (aE lb (by decide)) h0 e
theorem RU (hb:b≤w.heap.size)(hx:Zi w s A n cap x)(la:n≤1048576):aQ aH 73 #[J s A n cap,a9 k] w (Gv w (T2 (ZR b (vP x k)) (Is (a9 (eP k))))):=by
 by_cases h0:k<0
 ·simp only [vP,eP,if_pos h0]
  exact SU hb hx la h0
 ·by_cases h1:256<k
  ·simp only [vP,eP,if_neg h0,if_pos h1]
   exact SV hb hx la h1
  ·simp only [vP,eP,if_neg h0,if_neg h1]
   obtain⟨j,rfl⟩:=Int.eq_ofNat_of_zero_le (show 0≤k by omega)
   exact SW hb hx la (by omega)
theorem RZ (hb:b≤w.heap.size)(hl:Zl w A n cap zs ms)(hn:n≤1048576)(hmb:∀i,ms.getD i 0≤1048576)(hl2:Zl w C m cap' ys ms2)(hmb2:∀i,ms2.getD i 0≤1048576):aQ aH 72 #[i9 A n cap,i9 C m cap'] w (Gv w (T2 (ZR b (vD zs ys n m)) (Is (a9 (eD n m))))):=by
 by_cases h0:n=m
 ·subst h0
  simp only [vD,eD,if_true]
  exact T8 hb hl hn hmb hl2 hmb2
 ·simp only [vD,eD,if_neg h0]
  exact T7 hb hl hn hmb hl2 hmb2 h0
theorem S4 (hb:b≤w.heap.size)(hx:Zi w s A n cap x)(la:n≤1048576):aQ aH 55 #[J s A n cap,a9 k] w (Gv w (T2 (ZR b (vP x k)) (Is (a9 (eP k))))):=by
 by_cases h0:k<0
 ·simp only [vP,eP,if_pos h0]
  exact TO hb hx la h0
 ·by_cases h1:256<k
  ·simp only [vP,eP,if_neg h0,if_pos h1]
   exact TP hb hx la h1
  ·simp only [vP,eP,if_neg h0,if_neg h1]
   obtain⟨j,rfl⟩:=Int.eq_ofNat_of_zero_le (show 0≤k by omega)
   exact TQ hb hx la (by omega)
theorem S7 (hb:b≤w.heap.size)(hl:Zl w A n cap zs ms)(hn:n≤1048576)(hmb:∀i,ms.getD i 0≤1048576)(hl2:Zl w C m cap' ys ms2)(hmb2:∀i,ms2.getD i 0≤1048576):aQ aH 54 #[i9 A n cap,i9 C m cap'] w (Gv w (T2 (ZR b (vD zs ys n m)) (Is (a9 (eD n m))))):=by
 by_cases h0:n=m
 ·subst h0
  simp only [vD,eD,if_true]
  exact TU hb hl hn hmb hl2 hmb2
 ·simp only [vD,eD,if_neg h0]
  exact TT hb hl hn hmb hl2 hmb2 h0
theorem RS (hx:Zi w s A n cap x)(la:n≤1048576):aQ aH 62 #[J s A n cap] w (Gv w (T2 (Is (a9 (eT x))) (Is (a9 (fF x))))):=by
 refine (KQ hx (aE la (by decide))).mono ?_
 rintro e w' ⟨v,er,rfl,h,hx'⟩
 obtain⟨h1,h2⟩:=h.out
 by_cases hr: -9223372036854775808≤x∧x≤9223372036854775807
 ·obtain⟨rfl,rfl⟩:=h1 hr
  exact⟨_,rfl,⟨_,_,rfl,(by unfold eT;rw [if_pos hr];rfl),(by unfold fF;rw [if_pos hr];rfl)⟩,hx'⟩
 ·obtain⟨rfl,rfl⟩:=h2 hr
  exact⟨_,rfl,⟨_,_,rfl,(by unfold eT;rw [if_neg hr];rfl),(by unfold fF;rw [if_neg hr];rfl)⟩,hx'⟩
theorem RT (hb:b≤w.heap.size)(hbs:∀b,b∈bs→b<256)(hlen:bs.length≤1048576):aQ aH 154 #[.string (aM bs)] w (Gv w (T2 (ZR b (rV bs)) (Is (a9 (rE bs))))):=by
 by_cases e:fR 10 (eY bs)
 ·simp only [rV,rE,if_pos e]
  exact O3 hb hbs (aE hlen (by decide)) G e rfl
 ·simp only [rV,rE,if_neg e]
  refine (O2 hbs (aE hlen (by decide)) G e).mono (Gv.imp (T2.imp ?_ Is.imp))
  rintro v w' rfl
  exact⟨_,_,_,_,rfl,Zr.zero⟩
theorem m7:AggT aH 27 12:=⟨fun _=>by kernel_rfl,fun _=>by kernel_rfl⟩
theorem bD:AggT aH 31 9:=⟨fun _=>by kernel_rfl,fun _=>by kernel_rfl⟩
def Op5 (w:a0)(k x y z nn mm:Int)(bs:List Nat)(zs ys:List Int)(n1 n2:Nat)(v:aD):Prop:=
 ∃sa Aa na ca sb Ab nb cb sd Ad nd cd A c1 ms C c2 ms2,v= .agg #[a9 k,.bool sa,i9 Aa na ca,.bool sb,i9 Ab nb cb,.bool sd,i9 Ad nd cd,a9 nn,a9 mm,.string (aM bs),i9 A n1 c1,i9 C n2 c2]∧
  Zi w sa Aa na ca x∧na≤1048576∧Zi w sb Ab nb cb y∧nb≤1048576∧Zi w sd Ad nd cd z∧nd≤1048576∧Zl w A n1 c1 zs ms∧(∀i,ms.getD i 0≤1048576)∧Zl w C n2 c2 ys ms2∧∀i,ms2.getD i 0≤1048576
theorem Op5.ext {z:Int}{v:aD}(h:Op5 w k x y z nn mm bs zs ys n1 n2 v)(e:Ext w w'):Op5 w' k x y z nn mm bs zs ys n1 n2 v:=by
 obtain⟨sa,Aa,na,ca,sb,Ab,nb,cb,sd,Ad,nd,cd,A,_,ms,C,_,_,rfl,h1,h2,q,E,D,r,p,F,o,f⟩:=h
 exact⟨_,_,_,_,_,_,_,_,_,_,_,_,_,_,_,_,_,_,rfl,h1.ext e,h2,q.ext e,E,D.ext e,r,p.ext e,F,o.ext e,f⟩
structure AnsT where
 X:Int
 Y:Int
 V:Int
 P:Int
 Q:Int
 S:List Nat
 E:Int
def AnsR (b:Nat)(t:AnsT)(v:aD)(w:a0):Prop:=
 ∃s A n c s' A' n' c',v= .agg #[.bool s,i9 A n c,.bool s',i9 A' n' c',a9 t.V,a9 t.P,a9 t.Q,.string (aM t.S),a9 t.E]∧Zr w b s A n c t.X∧Zr w b s' A' n' c' t.Y∧ln t.X≤1099511627776∧ln t.Y≤1099511627776∧∀c,c∈t.S→c<256
theorem AnsR.of {t t':AnsT}{v:aD}(h:t'=t)(k:AnsR b t v w):AnsR b t' v w:=h▸k
theorem AnsR.imp {t:AnsT}(h:b'≤b):∀v w,AnsR b t v w→AnsR b' t v w:=fun _ _ ⟨s,A,n,c,s',A',n',c',h1,h2,f,e⟩=>⟨s,A,n,c,s',A',n',c',h1,h2.mono h,f.mono h,e⟩
theorem DC:∀c,c∈fE x→c<256:=by
 intro c e
 unfold fE at e
 split at e
 ·rcases List.mem_append.1 e with h | h
  ·rw [List.mem_singleton] at h;omega
  ·exact DD (by decide) (by decide) c h
 ·exact DD (by decide) (by decide) c e
noncomputable def cE (k x y:Int)(bs:List Nat):AnsT:=
 if k=14 then ⟨qT x y,rT x y,0,0,0,[],eZ y⟩ else if k=15 then ⟨qF x y,rF x y,0,0,0,[],eZ y⟩ else if k=16 then ⟨qE x y,bZ x y,0,0,0,[],eZ y⟩ else if k=17 then ⟨vX x y,0,0,0,0,[],eX x y⟩ else
 if k=18 then ⟨bZ x y,0,0,0,0,[],eZ y⟩ else if k=19 then ⟨vS x y,0,0,0,0,[],eZ y⟩ else if k=20 then ⟨0,0,0,0,0,fE x,0⟩ else if k=21 then ⟨rV bs,0,0,0,0,[],rE bs⟩ else ⟨0,0,0,0,0,[],0⟩
noncomputable def cP (k x y z nn mm:Int)(bs:List Nat)(zs ys:List Int)(n1 n2:Nat):AnsT:=
 if 14≤k then cE k x y bs else if k=1 then ⟨x,0,0,0,0,[],0⟩ else if k=2 then ⟨mm,0,0,0,0,[],0⟩ else if k=3 then ⟨0,0,eT x,0,0,[],fF x⟩ else if k=4 then ⟨0,0,bH x 0,bH x y,cX (Int.natAbs x) (Int.natAbs y),[],0⟩ else
 if k=5 then ⟨-x,0,0,0,0,[],0⟩ else if k=6 then ⟨(Int.natAbs x:Int),0,0,0,0,[],0⟩ else if k=7 then ⟨x+y,0,0,0,0,[],0⟩ else if k=8 then ⟨x-y,0,0,0,0,[],0⟩ else if k=9 then ⟨x*y,0,0,0,0,[],0⟩ else if k=10 then ⟨x*y+z,0,0,0,0,[],0⟩ else
 if k=11 then ⟨gK ys,0,0,0,0,[],0⟩ else if k=12 then ⟨vD zs ys n1 n2,0,0,0,0,[],eD n1 n2⟩ else if k=13 then ⟨vP x nn,0,0,0,0,[],eP nn⟩ else ⟨0,0,0,0,0,[],0⟩
def K7 (w0:a0)(b:Nat)(k x y z nn mm:Int)(bs:List Nat)(zs ys:List Int)(n1 n2:Nat)(v:aD)(w:a0):Prop:=
 ∃sa Aa na ca sb Ab nb cb sd Ad nd cd A C,v= .agg #[a9 k,.bool sa,i9 Aa na ca,.bool sb,i9 Ab nb cb,.bool sd,i9 Ad nd cd,a9 nn,a9 mm,.string (aM bs),i9 A n1 n1,i9 C n2 n2]∧
  Zo w b sa Aa na ca x∧na≤1048576∧Zo w b sb Ab nb cb y∧nb≤1048576∧Zo w b sd Ad nd cd z∧nd≤1048576∧Lz (some w0) 1048576 b w b A n1 n1 zs∧Lz (some w0) 1048576 b w b C n2 n2 ys
theorem Lz.updTT {m:Option a0}{K:Nat}(h:Lz m K b w lb A n cap zs)(hb:Bk w g T us)(x:Upd g w w')(hT:65≠T:=by decide)(hT2:24≠T:=by decide):Lz m K b w' lb A n cap zs:=by
 obtain⟨es,h1,h2,f,e⟩:=h
 exact⟨es,h1.updT hb hT2 x,h2,f,fun i hi=>⟨(e i hi).1,(e i hi).2.updT hb x hT⟩⟩
theorem UC {c1 c2:Nat}{nb:Nat}{nd cd:Nat}{z:Int}(hx:Zi w sa Aa na ca x)(la:na≤1048576)(hy:Zi w sb Ab nb cb y)(lb:nb≤1048576)(hz:Zi w sd Ad nd cd z)(ld:nd≤1048576)(hl:Zl w A n1 c1 zs ms)(hmb:∀i,ms.getD i 0≤1048576)(hl2:Zl w C n2 c2 ys ms2)(hmb2:∀i,ms2.getD i 0≤1048576)(hn1:n1≤1048576)(hn2:n2≤1048576):aQ aH 10 #[.agg #[a9 k,.bool sa,i9 Aa na ca,.bool sb,i9 Ab nb cb,.bool sd,i9 Ad nd cd,a9 nn,a9 mm,.string (aM bs),i9 A n1 c1,i9 C n2 c2]] w (Gv w (K7 w w.heap.size k x y z nn mm bs zs ys n1 n2)):=by
 have Lx:ln x≤1048576:=aE hx.ln la
 have Ly:ln y≤1048576:=aE hy.ln lb
 have Lz:ln z≤1048576:=aE hz.ln ld
 have fp:∀i,ln (zs.getD i 0)≤1048576:=jB hl hmb
 have fq:∀i,ln (ys.getD i 0)≤1048576:=jB hl2 hmb2
 refine bL Tryz.func10 G (n:=27) G (bq G) (args:= [.agg #[a9 k,.bool sa,i9 Aa na ca,.bool sb,i9 Ab nb cb,.bool sd,i9 Ad nd cd,a9 nn,a9 mm,.string (aM bs),i9 A n1 c1,i9 C n2 c2]]) (bF [(0,.agg #[a9 k,.bool sa,i9 Aa na ca,.bool sb,i9 Ab nb cb,.bool sd,i9 Ad nd cd,a9 nn,a9 mm,.string (aM bs),i9 A n1 c1,i9 C n2 c2])] ⟨rfl,up⟩ (sr (bx [a9 k,.bool sa,i9 Aa na ca,.bool sb,i9 Ab nb cb,.bool sd,i9 Ad nd cd,a9 nn,a9 mm,.string (aM bs),i9 A n1 c1,i9 C n2 c2] (Ext.refl w) G G G fun o _ h _ _ ep=>(cO [I0,F0,S0,F0,S0,F0,S0,I0,I0,.string ⟨#[]⟩,S0,S0] ep h.lt (fun _=>by kernel_rfl) G fun _ _ fb cu _ e8 ar=>(a1 (a7 ?_))))))
 refine eI cQ 24 [] [Is (a4 o 0),Is (a9 k),Is (a4 o 1),Is (J sa Aa na ca),ZOR w.heap.size sa na x,Is (a4 o 3),Is (J sb Ab nb cb),ZOR w.heap.size sb nb y,Is (a4 o 5),Is (J sd Ad nd cd),ZOR w.heap.size sd nd z,Is (a4 o 7),Is (a9 nn),Is (a4 o 8),Is (a9 mm),Is (a4 o 9),Is (.string (aM bs)),Is (a4 o 10),Is (i9 A n1 c1),LOR w w.heap.size n1 zs,Is (a4 o 11),Is (i9 C n2 c2),LOR w w.heap.size n2 ys,K7 w w.heap.size k x y z nn mm bs zs ys n1 n2] [[],[0],[],[2],[3],[],[5],[6],[],[8],[9],[],[11],[],[13],[],[15],[],[17],[18],[],[20],[21],[1,4,7,10,12,14,16,19,22]] [[],[0],[],[2],[2,3],[],[5],[2,3,4,5,6],[],[8],[2,3,4,5,6,7,8,9],[],[11],[],[13],[],[15],[],[17],[2,3,4,5,6,7,8,9,10,17,18],[],[20],[2,3,4,5,6,7,8,9,10,17,18,19,20,21],[0,1,2,3,4,5,6,7,8,9,10,11,12,13,14,15,16,17,18,19,20,21,22],[0,1,2,3,4,5,6,7,8,9,10,11,12,13,14,15,16,17,18,19,20,21,22,23]] rfl
  (aJ G G (aF G G ?_) (aJ G G (aF G G ?_) (aJ G G (aF G G ?_) (aJ G G (aF G G ?_) (aJ G G (aF G G ?_) (aJ G G (aF G G ?_) (aJ G G (aF G G ?_) (aJ G G (aF G G ?_) (aJ G G (aF G G ?_) (aJ G G (aF G G ?_) (aJ G G (aF G G ?_) (aJ G G (aF G G ?_) (aJ G G (aF G G ?_) (aJ G G (aF G G ?_) (aJ G G (aF G G ?_) (aJ G G (aF G G ?_) (aJ G G (aF G G ?_) (aJ G G (aF G G ?_) (aJ G G (aF G G ?_) (aJ G G (aF G G ?_) (aJ G G (aF G G ?_) (aJ G G (aF G G ?_) (aJ G G (aF G G ?_) (aJ G G (aF G G ?_) dY)))))))))))))))))))))))) ?_
 ·exact fun _ _=>aG (pf o 0 G (aI G aK G))
 ·exact fun _ fm=>dk G G (aG (aL G G (aP (fun _=>by kernel_rfl) (h.ext (e8.t fm)) G) (aI G aK G)))
 ·exact fun _ _=>aG (pf o 1 G (aI G aK G))
 ·exact fun _ fo=>dk G G (aG (lo aB (h.ext (e8.t fo)) (O sa Aa na ca) G G G (aI G aK G)))
 ·intro _ fk
  have e:=ar.trans fk
  refine dk G G (aG (cl (vs:= [J sa Aa na ca]) e (wM e.size (hx.ext e) (aO la G)) G (by kernel_rfl) fun _ _ fg fh aq=>?_))
  obtain⟨_,_,rfl,eh⟩:=fg
  exact aI G fh ⟨_,_,rfl,eh⟩
 ·exact fun _ _=>aG (pf o 3 G (aI G aK G))
 ·exact fun _ ey=>dk G G (aG (lo aB (h.ext (e8.t ey)) (O sb Ab nb cb) G G G (aI G aK G)))
 ·intro _ fe
  have e:=ar.trans fe
  refine dk G G (aG (cl (vs:= [J sb Ab nb cb]) e (wM e.size (hy.ext e) (aO lb G)) G (by kernel_rfl) fun _ _ ew en aq=>?_))
  obtain⟨_,_,rfl,dm⟩:=ew
  exact aI G en ⟨_,_,rfl,dm⟩
 ·exact fun _ _=>aG (pf o 5 G (aI G aK G))
 ·exact fun _ fj=>dk G G (aG (lo aB (h.ext (e8.t fj)) (O sd Ad nd cd) G G G (aI G aK G)))
 ·intro _ fd
  have e:=ar.trans fd
  refine dk G G (aG (cl (vs:= [J sd Ad nd cd]) e (wM e.size (hz.ext e) (aO ld G)) G (by kernel_rfl) fun _ _ ez fi aq=>?_))
  obtain⟨_,_,rfl,cj⟩:=ez
  exact aI G fi ⟨_,_,rfl,cj⟩
 ·exact fun _ _=>aG (pf o 7 G (aI G aK G))
 ·exact fun _ fa=>dk G G (aG (aL G G (aP (fun _=>by kernel_rfl) (h.ext (e8.t fa)) G) (aI G aK G)))
 ·exact fun _ _=>aG (pf o 8 G (aI G aK G))
 ·exact fun _ fc=>dk G G (aG (aL G G (aP (fun _=>by kernel_rfl) (h.ext (e8.t fc)) G) (aI G aK G)))
 ·exact fun _ _=>aG (pf o 9 G (aI G aK G))
 ·exact fun _ dr=>dk G G (aG (aL G G (aP (fun _=>by kernel_rfl) (h.ext (e8.t dr)) G) (aI G aK G)))
 ·exact fun _ _=>aG (pf o 10 G (aI G aK G))
 ·exact fun _ cv=>dk G G (aG (aL G G (aP (fun _=>by kernel_rfl) (h.ext (e8.t cv)) G) (aI G aK G)))
 ·intro _ dg
  have e:=ar.trans dg
  refine dk G G (aG (cl (vs:= [i9 A n1 c1]) e (IJ (w0:=w) e.size e (hl.ext e) hn1 hmb) G (by kernel_rfl) fun _ _ dl dx aq=>?_))
  obtain⟨_,rfl,bj⟩:=dl
  exact aI G dx ⟨_,rfl,bj⟩
 ·exact fun _ _=>aG (pf o 11 G (aI G aK G))
 ·exact fun _ dt=>dk G G (aG (aL G G (aP (fun _=>by kernel_rfl) (h.ext (e8.t dt)) G) (aI G aK G)))
 ·intro _ ea
  have e:=ar.trans ea
  refine dk G G (aG (cl (vs:= [i9 C n2 c2]) e (IJ (w0:=w) e.size e (hl2.ext e) hn2 hmb2) G (by kernel_rfl) fun _ _ el dh aq=>?_))
  obtain⟨_,rfl,bw⟩:=el
  exact aI G dh ⟨_,rfl,bw⟩
 ·intro _ _
  refine dk G G (cF G G fun _ _ ch _ de=>?_)
  obtain⟨ce,bm,rfl,ak⟩:=ch
  have ak:=ak.ext de
  refine cF G G fun _ _ co _ dw=>?_
  obtain⟨bh,bt,rfl,Y⟩:=co
  have Y:=Y.ext dw
  refine cF G G fun _ _ dy _ ef=>?_
  obtain⟨bo,bz,rfl,M⟩:=dy
  have M:=M.ext ef
  refine dk G G (dk G G (dk G G (cF G G fun _ _ cx _ ck=>?_)))
  obtain⟨bu,rfl,aj⟩:=cx
  have aj:=aj.ext ck
  refine cF G G fun _ _ dd _ cm=>?_
  obtain⟨bg,rfl,W⟩:=dd
  have W:=W.ext cm
  refine aG (pu (v:= .agg #[a9 k,.bool sa,i9 ce na bm,.bool sb,i9 bh nb bt,.bool sd,i9 bo nd bz,a9 nn,a9 mm,.string (aM bs),i9 bu n1 n1,i9 bg n2 n2]) G ?_)
  exact aI G aK ⟨_,_,_,_,_,_,_,_,_,_,_,_,_,_,rfl,ak,(aO la G),Y,(aO lb G),M,(aO ld G),aj,W⟩
 ·intro _ bf
  have e:=ar.trans bf
  refine dk G G (dk G G (dk G G (dk G G (cF G G fun _ _ du _ ee=>?_))))
  obtain⟨_,_,rfl,au⟩:=du
  have au:=au.ext ee
  refine dk G G (dk G G (cF G G fun _ _ ci _ ei=>?_))
  obtain⟨_,_,rfl,ba⟩:=ci
  have ba:=ba.ext ei
  refine dk G G (dk G G (cF G G fun _ _ df _ da=>?_))
  obtain⟨_,_,rfl,az⟩:=df
  have az:=az.ext da
  refine dk G G (dk G G (dk G G (dk G G (dk G G (dk G G (dk G G (dk G G (cF G G fun _ _ dz _ em=>?_))))))))
  obtain⟨_,rfl,aw⟩:=dz
  have aw:=aw.ext em
  refine dk G G (dk G G (cF G G fun _ _ ej _ ct=>?_))
  obtain⟨_,rfl,av⟩:=ej
  have av:=av.ext ct
  refine cF G G fun _ _ eg _ p=>?_
  obtain⟨X,V,ai,ao,I,L,U,ah,F,Z,E,am,ab,r,rfl,H,bv,D,bi,ae,cf,ag,aa⟩:=eg
  have H:=H.ext p
  have D:=D.ext p
  have ae:=ae.ext p
  have ag:=ag.ext p
  have aa:=aa.ext p
  refine aG ?_
  have f:=(fb.ext bf)
  refine so m7 f [a9 k,.bool X,i9 V ai ao,.bool I,i9 L U ah,.bool F,i9 Z E am,a9 nn,a9 mm,.string (aM bs),i9 ab n1 n1,i9 r n2 n2] e cu G G G G fun _ cg q aq=>(aS (eB (aC (aU (aT [.agg #[a9 k,.bool X,i9 V ai ao,.bool I,i9 L U ah,.bool F,i9 Z E am,a9 nn,a9 mm,.string (aM bs),i9 ab n1 n1,i9 r n2 n2]] G ⟨⟨_,rfl,bA m7 cg [a9 k,.bool X,i9 V ai ao,.bool I,i9 L U ah,.bool F,i9 Z E am,a9 nn,a9 mm,.string (aM bs),i9 ab n1 n1,i9 r n2 n2] G (bq G) rfl⟩,up⟩ ?_)))))
  exact⟨_,rfl,⟨_,_,_,_,_,_,_,_,_,_,_,_,_,_,rfl,(H.updT f q),(aO bv G),(D.updT f q),(aO bi G),(ae.updT f q),(aO cf G),(ag.updTT f q),(aa.updTT f q)⟩,aq⟩
theorem IK {z:Int}{v:aD}(h:Op5 w k x y z nn mm bs zs ys n1 n2 v)(hn1:n1≤1048576)(hn2:n2≤1048576):aQ aH 10 #[v] w (Gv w (fun v' w'=>Op5 w' k x y z nn mm bs zs ys n1 n2 v')):=by
 obtain⟨sa,Aa,na,ca,sb,Ab,nb,cb,sd,Ad,nd,cd,A,_,ms,C,_,o,rfl,h1,h2,X,h4,F,D,W,h8,q,f⟩:=h
 refine (UC h1 h2 X h4 F D W h8 q f hn1 hn2).mono ?_
 rintro e w' ⟨v,rfl,⟨sa,Aa,na,ca,sb,Ab,nb,cb,sd,Ad,nd,cd,A,C,rfl,Y,I,E,L,M,k6,Z,V⟩,hx⟩
 obtain⟨ms,H,p⟩:=Z.zl hx
 obtain⟨o,U,r⟩:=V.zl hx
 exact⟨_,rfl,⟨_,_,_,_,_,_,_,_,_,_,_,_,_,_,_,_,_,_,rfl,Y.zi,I,E.zi,L,M.zi,k6,H,p,U,r⟩,hx⟩
theorem UA {t:AnsT}{np cp mp dp:Nat}{nq cq mq dq:Nat}(zxp:Zr w b1 sp Ap np cp t.X)(zyp:Zr w b1 tp Bp mp dp t.Y)(zxq:Zr w b2 sq Aq nq cq t.X)(zyq:Zr w b2 tq Bq mq dq t.Y)(lx:ln t.X≤1099511627776)(ly:ln t.Y≤1099511627776)(lt:∀c,c∈t.S→c<256):aQ aH 14 #[.agg #[.bool sp,i9 Ap np cp,.bool tp,i9 Bp mp dp,a9 t.V,a9 t.P,a9 t.Q,.string (aM t.S),a9 t.E],.agg #[.bool sq,i9 Aq nq cq,.bool tq,i9 Bq mq dq,a9 t.V,a9 t.P,a9 t.Q,.string (aM t.S),a9 t.E]] w (Gv w (Is (no))):=by
 refine bL Tryz.func14 G (n:=52) G (bq G) (args:= [.agg #[.bool sp,i9 Ap np cp,.bool tp,i9 Bp mp dp,a9 t.V,a9 t.P,a9 t.Q,.string (aM t.S),a9 t.E],.agg #[.bool sq,i9 Aq nq cq,.bool tq,i9 Bq mq dq,a9 t.V,a9 t.P,a9 t.Q,.string (aM t.S),a9 t.E]]) (bF [(0,.agg #[.bool sp,i9 Ap np cp,.bool tp,i9 Bp mp dp,a9 t.V,a9 t.P,a9 t.Q,.string (aM t.S),a9 t.E]),(1,.agg #[.bool sq,i9 Aq nq cq,.bool tq,i9 Bq mq dq,a9 t.V,a9 t.P,a9 t.Q,.string (aM t.S),a9 t.E])] ⟨rfl,rfl,up⟩ (sr (bx [.bool sp,i9 Ap np cp,.bool tp,i9 Bp mp dp,a9 t.V,a9 t.P,a9 t.Q,.string (aM t.S),a9 t.E] (Ext.refl w) G G G fun q _ h _ D M=>(gN [.bool sq,i9 Aq nq cq,.bool tq,i9 Bq mq dq,a9 t.V,a9 t.P,a9 t.Q,.string (aM t.S),a9 t.E] M h.lt G G G fun r _ o _ _ p I=>(mv 1 G (a1 (sr (pf q 0 G (lo aB (h.ext p) (O sp Ap np cp) G G G (pf r 0 G (lo aB o (O sq Aq nq cq) G G G (cl (vs:= [J sp Ap np cp,J sq Aq nq cq]) I (IL (zxp.ext (D.t p)) (zxp.le (aO lx G)) (zxq.ext (D.t p)) (zxq.le (aO lx G))) G (by kernel_rfl) fun _ _ L e H=>?_))))))))))))
 obtain rfl:=L
 refine mv 1 G (pf q 2 G (lo aB (h.ext (p.t e)) (O tp Bp mp dp) G G G (pf r 2 G (lo aB (o.ext e) (O tq Bq mq dq) G G G (cl (vs:= [J tp Bp mp dp,J tq Bq mq dq]) H (IL (zyp.ext (D.t (p.t e))) (zyp.le (aO ly G)) (zyq.ext (D.t (p.t e))) (zyq.le (aO ly G))) G (by kernel_rfl) fun _ _ F f E=>?_)))))
 obtain rfl:=F
 refine pu (v:= no) G (mv 1 G (pf q 4 G (aL G G (aP (fun _=>by kernel_rfl) (h.ext (p.t (e.t f))) G) (pf r 4 G (aL G G (aP (fun _=>by kernel_rfl) (o.ext (e.t f)) G) (aA G G G true (dD G) (pu (v:= no) G (mv 1 G (pf q 5 G (aL G G (aP (fun _=>by kernel_rfl) (h.ext (p.t (e.t f))) G) (pf r 5 G (aL G G (aP (fun _=>by kernel_rfl) (o.ext (e.t f)) G) (aA G G G true (dD G) ?_)))))))))))))
 refine pu (v:= no) G (mv 1 G (pf q 6 G (aL G G (aP (fun _=>by kernel_rfl) (h.ext (p.t (e.t f))) G) (pf r 6 G (aL G G (aP (fun _=>by kernel_rfl) (o.ext (e.t f)) G) (aA G G G true (dD G) (pu (v:= no) G (mv 1 G (pf q 7 G (aL G G (aP (fun _=>by kernel_rfl) (h.ext (p.t (e.t f))) G) (pf r 7 G (aL G G (aP (fun _=>by kernel_rfl) (o.ext (e.t f)) G) (q9 (a:=t.S) (b:=t.S) G G G lt lt true (yV (G)) ?_)))))))))))))
 refine pu (v:= no) G (mv 1 G (pf q 8 G (aL G G (aP (fun _=>by kernel_rfl) (h.ext (p.t (e.t f))) G) (pf r 8 G (aL G G (aP (fun _=>by kernel_rfl) (o.ext (e.t f)) G) (aA G G G true (dD G) (pu (v:= no) G (mv 1 G (a1 (aU (aT [no] G ⟨rfl,up⟩ ?_)))))))))))
 exact⟨_,rfl,rfl,E⟩
theorem tE {t:AnsT}{v:aD}(hu:AnsR b1 t u w)(hv:AnsR b2 t v w):aQ aH 14 #[u,v] w (Gv w (Is (no))):=by
 obtain⟨s,A,n,c,s',A',n',c',rfl,h1,h2,f,p,o⟩:=hu
 obtain⟨r,B,m,d,r',B',m',d',rfl,h,e,_,_,_⟩:=hv
 exact UA h1 h2 h e f p o
end
section
open Go.ChangeShapes Go.WideShapes Go.ChangeAt Go.RowKit
theorem FP {enc:aV×aD→H}{v:aD}{d:DataW H}(hf:DataW.trod enc aH W 0 (fun _=>true) true fuel 25 [v]=some (d,p)):∃A n cap zs ms,v= i9 A n cap∧Zl W A n cap zs ms∧n+ms.sum≤Rows.uptoBulk d:=by
 rcases Go.Deep.open_slice Tryz.underlying25 hf with⟨e,hx⟩ | ⟨a,n,cap,m,k,D,Pl,e,_,hl,M,h,hx,hi⟩
 ·obtain rfl:=List.singleton_inj.1 e
  exact⟨none,0,0,[],[],rfl,⟨rfl,rfl,aX _,by decide,fun i hi=>by omega⟩,by simp⟩
 ·obtain rfl:=List.singleton_inj.1 e
  simp only [if_true] at h
  have hmm':=h.symm
  subst hmm'
  simp only [Prod.mk.injEq] at hx
  obtain⟨rfl,rfl⟩:=hx
  rw [x8] at hi
  have F:∀i,i<cap→∃(q:Bool×Option a8×Nat×Nat×Int),W.cell? (a.add (i*2))=some (.bool q.1)∧W.cell? (a.add (i*2+1))=some (i9 q.2.1 q.2.2.1 q.2.2.2.1)∧Zi W q.1 q.2.1 q.2.2.1 q.2.2.2.1 q.2.2.2.2∧q.2.2.1+1≤Rows.uptoBulk (D i):=by
   intro i r
   obtain⟨cs',hc,ht'⟩:=hi i r
   obtain⟨_,I,o⟩:=World.cells?_some hc
   obtain⟨c0,X,rfl⟩:=UX I
   have E:DataW.trod enc aH W 0 (fun _=>true) true k 24 [c0,X]=some (D i,Pl i):=ht'
   obtain⟨s,B,nb,c,z,rfl,rfl,V,hb,rx⟩:=vI E
   refine⟨(s,B,nb,c,z),?_,?_,V,hb⟩
   ·have:=o 0 (by simp)
    simpa [Go.Deep.add_add] using this
   ·have:=o 1 (by simp)
    simpa [Go.Deep.add_add] using this
  obtain⟨Q,L⟩:=Go.Deep.choose_lt F
  refine⟨some a,n,cap,(fI n).map (fun i=>(Q i).2.2.2.2),(fI n).map (fun i=>(Q i).2.2.1),rfl,⟨by simp,by simp,hl,M,fun i f=>?_⟩,?_⟩
  ·obtain⟨h1,h2,Z,_⟩:=L i (by omega)
   have U:((fI n).map (fun i=>(Q i).2.2.1)).getD i 0=(Q i).2.2.1:=by simp [bE,f]
   have Y:((fI n).map (fun i=>(Q i).2.2.2.2)).getD i 0=(Q i).2.2.2.2:=by simp [bE,f]
   rw [U,Y]
   exact⟨a,_,_,_,rfl,h1,h2,Z⟩
  ·have:=ML D (fun i=>(Q i).2.2.1) n (fun i f=>(L i (by omega)).2.2.2)
   simp only [Rows.uptoBulk]
   omega
theorem M5 {α:Type}{l:List α}(h:l.length=12):∃a b c d e f g i j k m n,l= [a,b,c,d,e,f,g,i,j,k,m,n]:=by
 match l,h with
 | [a,b,c,d,e,f,g,i,j,k,m,n],_=>exact⟨a,b,c,d,e,f,g,i,j,k,m,n,rfl⟩
theorem QN {α:Type}{l:List α}(h:l.length=9):∃a b c d e f g i j,l= [a,b,c,d,e,f,g,i,j]:=by
 match l,h with
 | [a,b,c,d,e,f,g,i,j],_=>exact⟨a,b,c,d,e,f,g,i,j,rfl⟩
theorem UT:∃f0 f1 f2 f3 f4 f5 f6 f7 f8:Field,Tryz.prog.underlying 27=some (.struct #[f0,f1,f2,f3,f4,f5,f6,f7,f8])∧(f0.type=3∧f0.offset=0)∧(f1.type=24∧f1.offset=1)∧(f2.type=24∧f2.offset=3)∧(f3.type=24∧f3.offset=5)∧(f4.type=3∧f4.offset=7)∧(f5.type=2∧f5.offset=8)∧(f6.type=9∧f6.offset=9)∧(f7.type=25∧f7.offset=10)∧(f8.type=25∧f8.offset=11):=
 ⟨_,_,_,_,_,_,_,_,_,Tryz.underlying27,⟨rfl,rfl⟩,⟨rfl,rfl⟩,⟨rfl,rfl⟩,⟨rfl,rfl⟩,⟨rfl,rfl⟩,⟨rfl,rfl⟩,⟨rfl,rfl⟩,⟨rfl,rfl⟩,⟨rfl,rfl⟩⟩
theorem W8:Tryz.prog.cellsOf 27=12:=by kernel_rfl
theorem W7:Tryz.prog.cellsOf 9=1:=by kernel_rfl
theorem JM:Tryz.prog.cellsOf 3=1:=by kernel_rfl
theorem W9:Tryz.prog.cellsOf 2=1:=by kernel_rfl
theorem JK:Tryz.prog.cellsOf 25=1:=by kernel_rfl
def CC (w:a0)(us:List aD):Prop:=
 ∃k x y z nn mm bs zs ys n1 n2,Op5 w k x y z nn mm bs zs ys n1 n2 (.agg us.toArray)∧n1≤1048576∧n2≤1048576∧(∀b,b∈bs→b<256)∧bs.length≤1048576∧ -9223372036854775808≤mm∧mm≤9223372036854775807
theorem DR (h:ms.sum≤N)(i:Nat):ms.getD i 0≤N:=aE (HJ _ _) h
theorem QF {enc:aV×aD→H}{x:DataW H×List MemPlace}(h:DataW.trod enc aH W 0 (fun _=>true) true fuel 27 cs=some x)(hle:Rows.uptoBulk x.1≤1048576):CC W cs:=by
 obtain⟨f0,f1,f2,f3,f4,f5,f6,f7,f8,hu,⟨t0,o0⟩,⟨t1,o1⟩,⟨t2,o2⟩,⟨t3,o3⟩,⟨t4,o4⟩,⟨t5,o5⟩,⟨t6,o6⟩,⟨t7,o7⟩,⟨t8,o8⟩⟩:=UT
 obtain⟨ys,n,_,rfl,e,D,hf⟩:=DataW.trod_struct hu h
 rw [W8] at e
 obtain⟨c0,c1,c2,c3,c4,c5,c6,c7,c8,c9,f,V,rfl⟩:=M5 e
 obtain⟨y0,y1,y2,y3,y4,y5,y6,o,r,rfl⟩:=QN (show ys.length=9 from D)
 have X:=hf 0 f0 rfl
 have g1:=hf 1 f1 rfl
 have g2:=hf 2 f2 rfl
 have g3:=hf 3 f3 rfl
 have g4:=hf 4 f4 rfl
 have g5:=hf 5 f5 rfl
 have g6:=hf 6 f6 rfl
 have Z:=hf 7 f7 rfl
 have Y:=hf 8 f8 rfl
 rw [t0,o0,JM] at X
 rw [t1,o1,x8] at g1
 rw [t2,o2,x8] at g2
 rw [t3,o3,x8] at g3
 rw [t4,o4,JM] at g4
 rw [t5,o5,W9] at g5
 rw [t6,o6,W7] at g6
 rw [t7,o7,JK] at Z
 rw [t8,o8,JK] at Y
 obtain⟨k,hk,_,_⟩:=DataW.trod_int Tryz.underlying3 (show DataW.trod enc aH W 0 (fun _=>true) true n 3 [c0]=some y0 from X)
 obtain⟨sa,Aa,na,ca,x,rfl,rfl,hx,_,_⟩:=vI (show DataW.trod enc aH W 0 (fun _=>true) true n 24 [c1,c2]=some y1 from g1)
 obtain⟨sb,Ab,nb,cb,y,rfl,rfl,hy,_,_⟩:=vI (show DataW.trod enc aH W 0 (fun _=>true) true n 24 [c3,c4]=some y2 from g2)
 obtain⟨sd,Ad,nd,cd,z,rfl,rfl,hz,_,_⟩:=vI (show DataW.trod enc aH W 0 (fun _=>true) true n 24 [c5,c6]=some y3 from g3)
 obtain⟨nn,M,_,_⟩:=DataW.trod_int Tryz.underlying3 (show DataW.trod enc aH W 0 (fun _=>true) true n 3 [c7]=some y4 from g4)
 obtain⟨mm,E,_,U⟩:=DataW.trod_int Tryz.underlying2 (show DataW.trod enc aH W 0 (fun _=>true) true n 2 [c8]=some y5 from g5)
 obtain⟨s,hs,I,_⟩:=DataW.trod_string Tryz.underlying9 (show DataW.trod enc aH W 0 (fun _=>true) true n 9 [c9]=some y6 from g6)
 obtain⟨A,n1,c1',zs,ms,rfl,hl,_⟩:=FP (d:=o.1) (p:=o.2) (show DataW.trod enc aH W 0 (fun _=>true) true n 25 [f]=some o from Z)
 obtain⟨C,n2,c2',q,_,rfl,L,_⟩:=FP (d:=r.1) (p:=r.2) (show DataW.trod enc aH W 0 (fun _=>true) true n 25 [V]=some r from Y)
 obtain rfl:=List.singleton_inj.1 hk
 obtain rfl:=List.singleton_inj.1 M
 obtain rfl:=List.singleton_inj.1 E
 obtain rfl:=List.singleton_inj.1 hs
 obtain⟨bs,rfl,F,_⟩:=MO s
 have hw:=LQ U
 simp only [Rows.uptoBulk,iJ,Rows.uptoBulkAll,I] at hle
 have dh:(aM bs).data.toList.length=(aM bs).size:=Array.length_toList
 exact⟨k,x,y,z,nn,mm,bs,zs,q,n1,n2,⟨_,_,_,_,_,_,_,_,_,_,_,_,_,_,_,_,_,_,rfl,hx,by omega,hy,by omega,hz,by omega,hl,DR (by omega),L,DR (by omega)⟩,by omega,by omega,F,by omega,hw.1,hw.2⟩
theorem QG {enc:aV×aD→H}{v:aD}{d:DataW H}(hval:Value.okWide aH W .any base 27 v)(h:DataW.Trod enc aH W 0 (fun _=>true) true 27 v d pl):∃us,v= .agg us.toArray∧(Rows.uptoBulk d≤1048576→CC W us):=by
 simp only [Value.okWide,Tryz.underlying27] at hval
 obtain⟨cs,rfl,_,_⟩:=hval
 obtain⟨fuel,hf⟩:=h
 exact⟨cs.toList,by simp,fun e=>QF (show DataW.trod enc aH W 0 (fun _=>true) true fuel 27 cs.toList=some (d,pl) from hf) e⟩
end
section
open Go.RowKit
structure UpU (lb:Nat)(w w':a0):Prop where
 os:w'.os=w.os
 tape:w'.tape=w.tape
 output:w'.output=w.output
 size:w.heap.size≤w'.heap.size
 low:∀k,k<lb→k<w.heap.size→w'.heap[k]?=w.heap[k]?
 typ:∀(k:Nat) (cs:Array aD) (t:aV) (fr:Nat×Nat),w.heap[k]?=some (.cells cs t fr)→t≠65→w'.heap[k]?=some (.cells cs t fr)
section
variable {lb:Nat}{a b c w w':a0}
theorem UpU.refl (lb:Nat)(w:a0):UpU lb w w:=⟨rfl,rfl,rfl,aX _,fun _ _ _=>rfl,fun _ _ _ _ h _=>h⟩
theorem UpU.trans (h:UpU lb a b)(e:UpU lb b c):UpU lb a c:=
 ⟨e.os.trans h.os,e.tape.trans h.tape,e.output.trans h.output,aE h.size e.size,fun k f hs=>(e.low k f (cS hs h.size)).trans (h.low k f hs),fun k cs t fr o h1=>e.typ k cs t fr (h.typ k cs t fr o h1) h1⟩
theorem UpU.of_ext (lb:Nat)(e:Ext w w'):UpU lb w w':=⟨e.below.os,e.below.tape,e.below.output,e.size,fun k _ hs=>e.below.block k hs,fun _ _ _ _ f _=>e.heap f⟩
theorem UpU.then_ext (h:UpU lb a b)(e:Ext b c):UpU lb a c:=h.trans (UpU.of_ext lb e)
theorem UpU.ext (h:UpU lb w w')(e:Ext a w)(hl:a.heap.size≤lb):Ext a w':=
 ⟨⟨h.os.trans e.below.os,h.tape.trans e.below.tape,h.output.trans e.below.output,aE e.size h.size,fun k f=>(h.low k (cS f hl) (cS f e.size)).trans (e.below.block k f)⟩⟩
theorem UpU.bk {t:aV}(h:UpU lb w w')(hb:Bk w g t vs)(h1:t≠65):Bk w' g t vs:=h.typ g _ _ _ hb h1
theorem UpU.own {s:Nat}{t:aV}(h:UpU lb w w')(ho:Own w base t s A n cap vs)(h1:t≠65):Own w' base t s A n cap vs:=by
 rcases ho with ho | ⟨g,cs,f,hb,e,r⟩
 ·exact cD ho
 ·exact bT ⟨g,cs,f,hb,h.bk e h1,r⟩
theorem UpU.ofO {s:Nat}(ho:Own w lb 65 s A n cap vs)(u:UpdO A w w'):UpU lb w w':=by
 refine⟨u.by_.os,u.by_.tape,u.by_.output,u.size,fun k o hs=>?_,fun k cs t fr h1 h2=>?_⟩
 ·refine u.by_.block k hs fun e=>?_
  cases A with
  | none=>cases e
  | some p=>
   have e':k=p.block:=iG e
   have:=(ho.block p G).1
   omega
 ·refine u.heap h1 fun p f e=>h2 ?_
  rcases ho with⟨h,_⟩ | ⟨g,cs',q,_,o,_⟩
  ·rw [h] at f;cases f
  ·rw [q] at f;cases f
   simp only at e
   subst e
   unfold Bk at o
   rw [o] at h1
   injection h1 with h1
   injection h1 with _ h1
   exact h1.symm
end
theorem EU {t ty e:aV}{z:aD}{s bytes:Nat}(ht:P.underlying t=some (.slice e))(hinfo:(P.info? e).map (fun i=>(i.zero,i.size,i.bytes))=some (some z,s,bytes))(hzs:z.cells.size=s)(hsz:0<s)(hby:bytes≤64){xs:List aD}(hown:Own w base e s A n cap xs)(hb:base≤w.heap.size){a:a8}(hl:news.length=m*s)(hnews:∀j u,news[j]?=some u→w.cell? (a.add j)=some u)(h1:news.all (·.oneCell')=true)(hm:n+m≤1099511627776):∃A' cap' w',(lP #[t,t] ty #[i9 A n cap,i9 (some a) m c]).run P w= .ok (i9 A' (n+m) cap') w'∧Own w' base e s A' (n+m) cap' (xs++news)∧
   ((A'=A∧cap'=cap∧UpdO A w w')∨(Ext w w'∧∀a',A'=some a'→w.heap.size≤a'.block)):=by
 obtain⟨i,hi,X,o,D⟩:=info_parts hinfo
 have h1':∀u∈news,u.oneCell'=true:=by simpa [List.all_eq_true] using h1
 have r:n+m≤maxLen:=by rw [eA];omega
 have h:(n+m)*bytes≤140737488355328:=by
  have:(n+m)*bytes≤1099511627776*64:=Nat.mul_le_mul hm hby
  omega
 rcases hown with⟨rfl,rfl,rfl,rfl⟩ | ⟨g,cs,rfl,hg,Y,hn,V,H,F⟩
 ·obtain⟨v',w',hr,h2,L,_⟩:=run_append_own (P:=P) w w.heap.size t ty e i z s bytes ht hi X o D hzs hsz (i9 none 0 0) 0 [] (World.ownsRow_nil w _ e s) a m c news hl hnews h1' r h (aX _)
  obtain⟨A',cap',rfl,q⟩:=Own.of_row h2
  exact⟨A',cap',w',hr,q.mono hb,bT ⟨Ext.of_grown L,fun a' M=>(q.block a' M).1⟩⟩
 ·by_cases f:n+m≤cap
  ·have W:n*s+news.length≤cs.length:=by rw [hl,H,←dO];exact eC s f
   obtain⟨w',U,E,Z,hs⟩:=uP (P:=P) news 0 (n*s) w cs Y (by omega) h1'
   rw [Nat.add_zero] at E
   have p:=run_firstCells_some (P:=P) w i.size m a m c news (by rw [o];exact hl) hnews
   rw [o] at p
   refine⟨some ⟨g,0,none⟩,cap,w',?_,bT ⟨g,_,rfl,hg,E,f,V,?_,?_⟩,cD ⟨rfl,rfl,Z.updO⟩⟩
   ·simp [lP,run_underlying ht,sizeOf,typeInfo,hi,Builtin.lenOf,f,p,Addr.add_lit,o,U]
   ·unfold i8
    simp only [eN,dE,gS]
    omega
   ·rw [dO,←hl]
    exact FN F (by omega)
  ·obtain⟨v',w',hr,h2,L⟩:=run_append_arg_grows (P:=P) w t ty e i z s bytes ht hi X o D hzs hsz ⟨g,0,none⟩ n cap xs
    (by rw [←F,dE];have:=eC s hn;omega)
    (fun j u hj=>by
     have I:=(List.getElem?_eq_some_iff.1 hj).1
     rw [iE,Nat.zero_add,Y.cell (by rw [←F,dE] at I;omega)]
     rw [←F,List.getElem?_take] at hj
     split at hj
     ·rw [bE,hj];rfl
     ·cases hj) a m c news hl hnews (by omega) r h
   obtain⟨A',cap',rfl,q⟩:=Own.of_row h2
   exact⟨A',cap',w',hr,q.mono hb,bT ⟨Ext.of_grown L,fun a' M=>(q.block a' M).1⟩⟩
structure Lst where
 A:Option a8
 n:Nat
 c:Nat
def Lst.v (x:Lst):aD:= i9 x.A x.n x.c
def Lst.z:Lst:=⟨none,0,0⟩
def eE (i j:Nat):Nat:=4323455642275676160+i*1048576+j
def fL (i n:Nat):List Nat:=(fI n).map (eE i)
theorem AG (i n:Nat):(fL i n).length=n:=by unfold fL;rw [List.length_map,List.length_range]
theorem AH (h:j<n):(fL i n).getD j 0=eE i j:=by unfold fL;simp [bE,h]
theorem R4 {k:Nat}(h:k≤n):(fL i n).take k=fL i k:=by
 unfold fL;rw [←List.map_take,List.take_range,Nat.min_eq_left h]
theorem R5 (i n:Nat):fL i (n+1)=fL i n++ [eE i n]:=by unfold fL;rw [List.range_succ,List.map_append];rfl
structure Al1 (w:a0)(lb:Nat)(ls:List Lst)(i j:Nat):Prop where
 dis:∀a b,a<ls.length→b<ls.length→a≠b→∀p q,(ls.getD a Lst.z).A=some p→(ls.getD b Lst.z).A=some q→p.block≠q.block
 own:∀a,a<ls.length→∃xs:List Nat,Own w lb 65 1 (ls.getD a Lst.z).A (ls.getD a Lst.z).n (ls.getD a Lst.z).c (xs.map bC)∧(a<i→xs=fL a (ls.getD a Lst.z).n)∧(a=i→xs.take j=(fL a (ls.getD a Lst.z).n).take j)
section
variable {w w':a0}{lb i j:Nat}{ls:List Lst}
theorem Al1.ext (h:Al1 w lb ls i j)(e:Ext w w'):Al1 w' lb ls i j:=⟨h.dis,fun a f=>by
 obtain⟨xs,h1,h2⟩:=h.own a f
 exact⟨xs,h1.ext e,h2⟩⟩
theorem Al1.next (h:Al1 w lb ls i j)(hj:(ls.getD i Lst.z).n≤j):Al1 w lb ls (i+1) 0:=⟨h.dis,fun a p=>by
 obtain⟨xs,h1,h2,o⟩:=h.own a p
 refine⟨xs,h1,fun _=>?_,fun _=>rfl⟩
 by_cases e:a=i
 ·subst e
  have f:=o rfl
  have hl:=nN h1
  rwa [List.take_of_length_le (by omega),List.take_of_length_le (by rw [AG];exact hj)] at f
 ·exact h2 (by omega)⟩
theorem Al1.addr (h:Al1 w lb ls i j)(hi:i<ls.length){k:Nat}(hk:k<(ls.getD i Lst.z).n):∃p,(ls.getD i Lst.z).A.map (·.add (k*1))=some p:=by
 obtain⟨xs,h1,_⟩:=h.own i hi
 obtain⟨p,e,_⟩:=h1.at1 hk
 exact⟨p,e⟩
theorem Al1.set (h:Al1 w lb ls i j)(hi:i<ls.length)(hj:j<(ls.getD i Lst.z).n)(hT:∀w,(sizeOf T').run P w= .ok 1 w){p:a8}(hp:(ls.getD i Lst.z).A.map (·.add (j*1))=some p):∃w',(storeVar T' p (bC (eE i j))).run P w= .ok () w'∧Al1 w' lb ls i (j+1)∧UpU lb w w':=by
 obtain⟨xs,h1,h2,F⟩:=h.own i hi
 obtain⟨w',hr,L,r⟩:=FM (P:=P) (T':=T') (f:=bC) (u:=eE i j) h1 hj G G hT hp
 refine⟨w',hr,⟨h.dis,fun a o=>?_⟩,UpU.ofO h1 r⟩
 by_cases e:a=i
 ·subst e
  refine⟨_,L,fun h=>absurd h (Nat.lt_irrefl _),fun _=>?_⟩
  have H:=F rfl
  have hl:=nN h1
  rw [List.take_add_one,List.take_add_one,List.take_set_of_le (aX _),H]
  congr 1
  rw [List.getElem?_set_self (by omega)]
  have:=AH (i:=a) hj
  rw [bE,bR (by rw [AG];exact hj),Option.getD_some] at this
  rw [bR (by rw [AG];exact hj),this]
 ·obtain⟨ys,D,I,_⟩:=h.own a o
  exact⟨ys,D.updO r (fun p q hp E=>h.dis i a hi o (fun e'=>e e'.symm) p q hp E),I,fun e'=>absurd e' e⟩
end
structure Gr (w:a0)(lb:Nat)(x g:Lst)(i:Nat):Prop where
 ox:Own w lb 65 1 x.A x.n x.c ((fL i x.n).map bC)
 og:Own w lb 65 1 g.A g.n g.c ((fL i g.n).map bC)
 le:x.n≤g.n
 rel:(g.A=x.A∧g.c=x.c)∨(∀p q,x.A=some p→g.A=some q→p.block≠q.block)
def lX (x g:Lst)(k:Nat):Prop:=∃p,(x.A=some p∨g.A=some p)∧p.block=k
structure Al2 (w:a0)(lb:Nat)(ls gs:List Lst):Prop where
 len:gs.length=ls.length
 dis:∀a b,a<ls.length→b<ls.length→a≠b→∀k,lX (ls.getD a Lst.z) (gs.getD a Lst.z) k→¬lX (ls.getD b Lst.z) (gs.getD b Lst.z) k
 gr:∀a,a<ls.length→Gr w lb (ls.getD a Lst.z) (gs.getD a Lst.z) a
section
variable {w w':a0}{lb i:Nat}{ls gs:List Lst}
theorem Al2.start (h:Al1 w lb ls ls.length 0):Al2 w lb ls ls:=by
 refine⟨rfl,fun a b o hb r k h1 h2=>?_,fun a o=>?_⟩
 ·obtain⟨p,e,rfl⟩:=h1
  obtain⟨q,f,D⟩:=h2
  exact h.dis a b o hb r p q (by rcases e with e | e <;> exact e) (by rcases f with f | f <;> exact f) D.symm
 ·obtain⟨xs,h1,h2,_⟩:=h.own a o
  rw [h2 o] at h1
  exact⟨h1,h1,aX _,cD ⟨rfl,rfl⟩⟩
theorem Gr.ext {x g:Lst}(h:Gr w lb x g i)(e:Ext w w'):Gr w' lb x g i:=⟨h.ox.ext e,h.og.ext e,h.le,h.rel⟩
theorem Al2.ext (h:Al2 w lb ls gs)(e:Ext w w'):Al2 w' lb ls gs:=⟨h.len,h.dis,fun a f=>(h.gr a f).ext e⟩
theorem k5 {α:Type}{l:List α}{x d:α}(h:i<l.length):(l.set i x).getD i d=x:=by simp [bE,h]
theorem k7 {α:Type}{l:List α}{x d:α}(h:j≠i):(l.set i x).getD j d=l.getD j d:=by
 rw [bE,List.getElem?_set_ne (fun e=>h e.symm),←bE]
theorem Al2.app (h:Al2 w lb ls gs)(hi:i<ls.length)(ho:Own w' lb 65 1 A' ((gs.getD i Lst.z).n+1) c' ((fL i ((gs.getD i Lst.z).n+1)).map bC))(hc:(A'=(gs.getD i Lst.z).A∧c'=(gs.getD i Lst.z).c∧UpdO (gs.getD i Lst.z).A w w')∨(Ext w w'∧∀a',A'=some a'→w.heap.size≤a'.block)):Al2 w' lb ls (gs.set i ⟨A',(gs.getD i Lst.z).n+1,c'⟩):=by
 have D:i<gs.length:=by rw [h.len];exact hi
 have o:=h.gr i hi
 rcases hc with⟨rfl,rfl,U⟩ | ⟨he,I⟩
 ·refine⟨by rw [List.length_set];exact h.len,fun a b r hb E k h1 h2=>?_,fun a r=>?_⟩
  ·refine h.dis a b r hb E k ?_ ?_
   ·by_cases e:a=i
    ·subst e;rwa [k5 D] at h1
    ·rwa [k7 e] at h1
   ·by_cases e:b=i
    ·subst e;rwa [k5 D] at h2
    ·rwa [k7 e] at h2
  ·by_cases e:a=i
   ·subst e
    rw [k5 D]
    refine⟨?_,ho,Nat.le_succ_of_le o.le,o.rel⟩
    rcases o.rel with⟨X,Y⟩ | hd
    ·have H:=ho.take1 (k:=(ls.getD a Lst.z).n) (Nat.le_succ_of_le o.le)
     rw [R4 (Nat.le_succ_of_le o.le)] at H
     rw [←X,←Y];exact H
    ·exact o.ox.updO U (fun p q f L e=>hd q p L f e.symm)
   ·rw [k7 e]
    have F:=h.gr a r
    refine⟨F.ox.updO U (fun p q f L e'=>?_),F.og.updO U (fun p q f L e'=>?_),F.le,F.rel⟩
    ·exact h.dis i a hi r (fun e''=>e e''.symm) p.block ⟨p,bT f,rfl⟩ ⟨q,cD L,e'.symm⟩
    ·exact h.dis i a hi r (fun e''=>e e''.symm) p.block ⟨p,bT f,rfl⟩ ⟨q,bT L,e'.symm⟩
 ·have old:∀a,a<ls.length→∀k,lX (ls.getD a Lst.z) (gs.getD a Lst.z) k→k<w.heap.size:=fun a r k M=>by
   obtain⟨p,f,rfl⟩:=M
   rcases f with f | f
   ·exact ((h.gr a r).ox.block p f).2
   ·exact ((h.gr a r).og.block p f).2
  have part:∀a,a<ls.length→∀k,lX (ls.getD a Lst.z) ((gs.set i ⟨A',(gs.getD i Lst.z).n+1,c'⟩).getD a Lst.z) k→lX (ls.getD a Lst.z) (gs.getD a Lst.z) k∨(a=i∧w.heap.size≤k):=fun a r k M=>by
   by_cases e:a=i
   ·subst e
    rw [k5 D] at M
    obtain⟨p,f,rfl⟩:=M
    rcases f with f | f
    ·exact cD ⟨p,cD f,rfl⟩
    ·exact bT ⟨rfl,I p f⟩
   ·rw [k7 e] at M;exact cD M
  refine⟨by rw [List.length_set];exact h.len,fun a b r hb E k h1 h2=>?_,fun a r=>?_⟩
  ·rcases part a r k h1 with V | ⟨Z,V⟩
   ·rcases part b hb k h2 with H | ⟨W,H⟩
    ·exact h.dis a b r hb E k V H
    ·have:=old a r k V;omega
   ·rcases part b hb k h2 with H | ⟨W,H⟩
    ·have:=old b hb k H;omega
    ·exact E (Z.trans W.symm)
  ·by_cases e:a=i
   ·subst e
    rw [k5 D]
    refine⟨o.ox.ext he,ho,Nat.le_succ_of_le o.le,bT fun p q f L e=>?_⟩
    have:=(o.ox.block p f).2
    have:=I q L
    omega
   ·rw [k7 e]
    exact (h.gr a r).ext he
end
section
variable {Q:Exit→Act→a0→Prop}{N:Nat}{l:Fr}{w:a0}{ops:Array Oper}{rest:List Oper}{d:Nat}{ty:aV}{pos:String}{af:Array Edge}{gd:Option (Nat×Bool)}
theorem LJ {x y:Operand}{ls:List Lst}{p:a8}(hw:d5 ops l gd=some true)(hx:bP l x=some (.pointer (some p)))(hy:bP l y=some (bC (eE i j)))(h:Al1 w lb ls i j)(hi:i<ls.length)(hj:j<(ls.getD i Lst.z).n)(hp:(ls.getD i Lst.z).A.map (·.add (j*1))=some p)(k:∀w',Al1 w' lb ls i (j+1)→UpU lb w w'→wl aH ops Q N rest l w'):wl aH ops Q N (⟨none,.store 65 x y,ty,pos,af,gd⟩::rest) l w:=by
 obtain⟨w',hr,h2,e⟩:=h.set (P:=aH) (T':=65) hi hj bM hp
 exact qA hw hx hy hr (k w' h2 e)
theorem LM {x y:Operand}{ls gs:List Lst}(hw:d5 ops l gd=some true)(hx:bP l x=some (.slice (gs.getD i Lst.z).A (gs.getD i Lst.z).n (gs.getD i Lst.z).c))(hy:bP l y=some (i9 (some ⟨g,0,none⟩) 1 c))(h:Al2 w lb ls gs)(hlb:lb≤w.heap.size)(hi:i<ls.length)(hb:Bk w g 65 [bC (eE i (gs.getD i Lst.z).n)])(hm:(gs.getD i Lst.z).n+1≤1099511627776)(hd:d<N)(k:∀A' c' w',Al2 w' lb ls (gs.set i ⟨A',(gs.getD i Lst.z).n+1,c'⟩)→UpU lb w w'→wl aH ops Q N rest ((d,i9 A' ((gs.getD i Lst.z).n+1) c')::l) w'):wl aH ops Q N (⟨some d,.call {callee:= .builtin .append,args:= #[x,y],argTypes:= #[22,22]},ty,pos,af,gd⟩::rest) l w:=by
 have e:=h.gr i hi
 obtain⟨A',cap',w',hr,h2,f⟩:=EU (P:=aH) (ty:=ty) bS iB G (by decide) (by decide) e.og hlb (m:=1) (c:=c) (news:= [bC (eE i (gs.getD i Lst.z).n)]) G (QI _ hb) G hm
 have r:Own w' lb 65 1 A' ((gs.getD i Lst.z).n+1) cap' ((fL i ((gs.getD i Lst.z).n+1)).map bC):=by rw [R5,List.map_append];exact h2
 have q:=h.app hi r f
 have p:UpU lb w w':=by
  rcases f with⟨_,_,D⟩ | ⟨he,_⟩
  ·exact UpU.ofO e.og D
  ·exact UpU.of_ext lb he
 refine fJ hw hd (fun a' o=>?_) (k A' cap' w' q p)
 unfold execOp
 simp only [resolve,invoke,builtin,Sem.run_bind,Sem.run_pure,Result.andThen_ok,List.map_toArray,iJ,List.map_nil,o.ev hx,o.ev hy]
 rw [hr]
 rfl
end
theorem Own.atL {ls:List Lst}(h:Own w lb T 1 A n c (ls.map Lst.v))(hi:i<n):∃p,A.map (·.add (i*1))=some p∧w.cell? p=some (.slice (ls.getD i Lst.z).A (ls.getD i Lst.z).n (ls.getD i Lst.z).c):=by
 have hl:=h.rv.len
 rw [List.length_map,dK] at hl
 obtain⟨a,rfl,e⟩:=h.rv.get i (by omega)
 refine⟨a.add i,by rw [dK];rfl,?_⟩
 rw [e]
 simp [bE,iK,bR (show i<ls.length by omega),Lst.v]
section
variable {w w':a0}{lb i g:Nat}{ls gs:List Lst}{T:aV}{us:List aD}
theorem Gr.updT {x y:Lst}(h:Gr w lb x y i)(hb:Bk w g T us)(hT:65≠T)(u:Upd g w w'):Gr w' lb x y i:=⟨h.ox.updT hb hT u,h.og.updT hb hT u,h.le,h.rel⟩
theorem Al2.updT (h:Al2 w lb ls gs)(hb:Bk w g T us)(hT:65≠T)(u:Upd g w w'):Al2 w' lb ls gs:=⟨h.len,h.dis,fun a e=>(h.gr a e).updT hb hT u⟩
theorem UpU.upd_new {a b c:a0}(h:UpU lb a b)(u:Upd g b c)(hg:a.heap.size≤g)(hlb:lb≤a.heap.size):UpU lb a c:=
 ⟨u.by_.os.trans h.os,u.by_.tape.trans h.tape,u.by_.output.trans h.output,aE h.size u.size,fun k o hs=>(u.by_.block k (cS hs h.size) (fun e=>by injection e with e;omega)).trans (h.low k o hs),
  fun k cs t fr f h1=>by
   have p:k<a.heap.size:=(Array.getElem?_eq_some_iff.1 f).1
   exact u.heap (h.typ k cs t fr f h1) (by omega)⟩
end
def Al0 (w:a0)(lb:Nat)(ls:List Lst):Prop:=Al1 w lb ls 0 0
theorem Al2.rd1 {ls gs:List Lst}(h:Al2 w lb ls gs)(hi:i<ls.length)(hn:ls.length≤4194304)(hl:(ls.getD i Lst.z).n≤1099511627776):Rd w (ls.getD i Lst.z).A (ls.getD i Lst.z).n (ls.getD i Lst.z).c (fL i (ls.getD i Lst.z).n):=(h.gr i hi).ox.rd (fun x hx=>by
 unfold fL at hx
 obtain⟨j,hj,rfl⟩:=lN.1 hx
 have:=gF.1 hj
 unfold eE;rw [cC];omega)
theorem Al2.rd2 {ls gs:List Lst}(h:Al2 w lb ls gs)(hi:i<ls.length)(hn:ls.length≤4194304)(hl:(gs.getD i Lst.z).n≤1099511627776):Rd w (gs.getD i Lst.z).A (gs.getD i Lst.z).n (gs.getD i Lst.z).c (fL i (gs.getD i Lst.z).n):=(h.gr i hi).og.rd (fun x hx=>by
 unfold fL at hx
 obtain⟨j,hj,rfl⟩:=lN.1 hx
 have:=gF.1 hj
 unfold eE;rw [cC];omega)
theorem S8:(Tryz.prog.info? 140).map (fun i=>(i.zero,i.size,i.bytes))=some (some (i9 none 0 0),1,24):=by kernel_rfl
theorem nX (hi:i≤4194304:=by omega)(hj:j≤1099511627776:=by omega):aQ aH 155 #[a9 i,a9 j] w (Gv w (Is (i5 ((eE i j:Nat):Int)))):=by
 refine bL Tryz.func155 G (n:=12) G (bq G) (args:= [a9 i,a9 j]) (bF [(0,a9 i),(1,a9 j)] ⟨rfl,rfl,up⟩ (sr (mv 1 G (a1 (sr (mv 1 G (dF G G (v:= i5 (IntKind.u64.wrap ((i:Nat):Int))) (v':= i5 i) (jC (by first | omega | exact hle64)) (aR G G G ((i*1048576:Nat):Int) (kW (a:=i) (b:=1048576) G G) (aR G G G ((4323455642275676160+(i*1048576):Nat):Int) (iD (a:=4323455642275676160) (b:=i*1048576) G G) (mv 1 G (dF G G (v:= i5 (IntKind.u64.wrap ((j:Nat):Int))) (v':= i5 j) (jC (by first | omega | exact hle64)) (aR G G G (((4323455642275676160+(i*1048576))+j:Nat):Int) (iD (a:=4323455642275676160+(i*1048576)) (b:=j) G G) (mv 1 G ?_)))))))))))))
 refine a1 (aU (aT [i5 (((4323455642275676160+(i*1048576))+j:Nat):Int)] G ⟨rfl,up⟩ ?_))
 exact⟨_,rfl,(show d8 .u64 _= i5 ((eE i j:Nat):Int) by unfold eE;rfl),(Ext.refl w)⟩
theorem UG {xn xc gn gc:Nat}(hi:i≤4194304)(hx:Rd w XA xn xc (fL i xn))(hg:Rd w GA gn gc (fL i gn))(hn:gn=xn+80)(hl:xn≤1099511627000):aQ aH 156 #[a9 i,i9 XA xn xc,i9 GA gn gc] w (Gv w (Is (no))):=by
 refine bL Tryz.func156 G (n:=43) G (bq G) (args:= [a9 i,i9 XA xn xc,i9 GA gn gc]) (bF [(0,a9 i),(1,i9 XA xn xc),(2,i9 GA gn gc)] ⟨rfl,rfl,rfl,up⟩ (sr (mv 1 G (a1 (a7 (sr (mv 1 G (pu (v:= a9 gn) G (mv 1 G (pu (v:= a9 xn) G (aR G G G ((xn+80:Nat):Int) (bN (a:=xn) (b:=80) G G) (aA G G G false (k8 (a:=gn) (b:=xn+80) G G) (aS ?_)))))))))))))
 refine aC (aN G (aW (aC (a7 (sr (mv 1 G (a1 (bI ?_))))))))
 refine cU (T:=a0×Nat)
  (fun⟨wr,j⟩=> [(0,a9 i),(1,i9 XA xn xc),(2,i9 GA gn gc),(7,a9 j)])
  (fun⟨wr,j⟩=>wr)
  (fun⟨wr,j⟩=>(Ext w wr)∧(j≤xn)∧(Rd wr XA xn xc (fL i xn))∧(Rd wr GA gn gc (fL i gn)))
  (fun⟨wr,j⟩=>xn-j)
  (⟨w,0⟩:a0×Nat) ⟨(Ext.refl w),(bJ _),hx,hg⟩ G ⟨rfl,rfl,rfl,rfl,up⟩ ?_
 rintro⟨wr,j⟩ ⟨e,hj,o,h⟩
 refine cR [(0,a9 i),(1,i9 XA xn xc),(2,i9 GA gn gc),(7,a9 j)] wr G ⟨rfl,rfl,rfl,rfl,up⟩ (a7 (a7 ?_))
 by_cases r:j<xn
 ·refine a6 (mv 2 G (pu (v:= a9 xn) G (aA G G G true (dG (a:=j) (b:=xn) G G) (a1 (aY G (aW (aC (a7 (bI (a7 ?_))))))))))
  have Y:=AH (i:=i) r
  obtain⟨p1,X,ag,_⟩:=(o).at (i:=j) (by omega)
  refine eI cQ 8 [] [Is (i9 XA xn xc),Is (a9 j),Is (.pointer (some p1)),Is (i5 (((fL i xn).getD j 0:Nat):Int)),Is (a9 i),Is (a9 j),Is (i5 ((eE i j:Nat):Int)),Is (t9)] [[],[],[0,1],[2],[],[],[4,5],[3,6]] [[],[],[0,1],[0,1,2],[],[],[4,5],[0,1,2,3,4,5,6]] rfl
   (aJ G G (aF G G ?_) (aJ G G (aF G G ?_) (aJ G G (aF G G ?_) (aJ G G (aF G G ?_) (aJ G G (aF G G ?_) (aJ G G (aF G G ?_) (aJ G G (aF G G ?_) (aJ G G (aF G G ?_) dY)))))))) ?_
  ·exact fun _ _=>aG (mv 1 G (aI G aK G))
  ·exact fun _ _=>aG (mv 1 G (aI G aK G))
  ·exact fun _ _=>dk G G (dk G G (aG (bK G G G bS bM j G p1 X (aI G aK G))))
  ·exact fun _ ae=>dk G G (aG (aL G G (cT d7 (ae.cell ag)) (aI G aK G)))
  ·exact fun _ _=>aG (mv 1 G (aI G aK G))
  ·exact fun _ _=>aG (mv 1 G (aI G aK G))
  ·intro _ V
   have f:=e.trans V
   refine dk G G (dk G G (aG (cl (vs:= [a9 i,a9 j]) f (nX) G (by kernel_rfl) fun _ _ ab Z aa=>?_)))
   obtain rfl:=ab
   exact aI G Z rfl
  ·exact fun _ _=>dk G G (dk G G (aG (aA G G G false (k8 (a:=(fL i xn).getD j 0) (b:=eE i j) G G) (aI G aK G))))
  ·intro W q
   have f:=e.trans q
   refine dk G G (dk G G (dk G G (dk G G (dk G G (dk G G (dk G G (dk G G (aG (aS (eB (aC (aN G (aW ?_)))))))))))))
   refine bG (aC (a6 (mv 1 G (aR G G G ((j+1:Nat):Int) (bN (a:=j) (b:=1) G G) (mv 1 G (aS (bW (⟨W,j+1⟩:a0×Nat) ⟨f,(by omega),(o.ext q),(h.ext q)⟩ (show xn-(j+1)<xn-j by omega) G ⟨rfl,rfl,rfl,rfl,up⟩)))))))
 ·refine a6 (mv 2 G (pu (v:= a9 xn) G (aA G G G false (cW (a:=j) (b:=xn) G G) (a1 (aN G (cN (cI (cL (cM (aC (a7 (sr (mv 1 G ?_)))))))))))))
  refine a1 (bI ?_)
  refine cU (T:=a0×Nat)
   (fun⟨wr,j⟩=> [(0,a9 i),(1,i9 XA xn xc),(2,i9 GA gn gc),(8,a9 j)])
   (fun⟨wr,j⟩=>wr)
   (fun⟨wr,j⟩=>(Ext w wr)∧(j≤gn)∧(Rd wr XA xn xc (fL i xn))∧(Rd wr GA gn gc (fL i gn)))
   (fun⟨wr,j⟩=>gn-j)
   (⟨wr,0⟩:a0×Nat) ⟨e,(bJ _),o,h⟩ G ⟨rfl,rfl,rfl,rfl,up⟩ ?_
  rintro⟨wr,j⟩ ⟨e,hj,o,h⟩
  refine cR [(0,a9 i),(1,i9 XA xn xc),(2,i9 GA gn gc),(8,a9 j)] wr G ⟨rfl,rfl,rfl,rfl,up⟩ (a7 (a7 ?_))
  by_cases r:j<gn
  ·refine a6 (mv 2 G (pu (v:= a9 gn) G (aA G G G true (dG (a:=j) (b:=gn) G G) (a1 (aY G (aW (aC (a7 (bI (a7 ?_))))))))))
   have Y:=AH (i:=i) r
   obtain⟨F,L,H,_⟩:=(h).at (i:=j) (by omega)
   refine eI cQ 8 [] [Is (i9 GA gn gc),Is (a9 j),Is (.pointer (some F)),Is (i5 (((fL i gn).getD j 0:Nat):Int)),Is (a9 i),Is (a9 j),Is (i5 ((eE i j:Nat):Int)),Is (t9)] [[],[],[0,1],[2],[],[],[4,5],[3,6]] [[],[],[0,1],[0,1,2],[],[],[4,5],[0,1,2,3,4,5,6]] rfl
    (aJ G G (aF G G ?_) (aJ G G (aF G G ?_) (aJ G G (aF G G ?_) (aJ G G (aF G G ?_) (aJ G G (aF G G ?_) (aJ G G (aF G G ?_) (aJ G G (aF G G ?_) (aJ G G (aF G G ?_) dY)))))))) ?_
   ·exact fun _ _=>aG (mv 1 G (aI G aK G))
   ·exact fun _ _=>aG (mv 1 G (aI G aK G))
   ·exact fun _ _=>dk G G (dk G G (aG (bK G G G bS bM j G F L (aI G aK G))))
   ·exact fun _ D=>dk G G (aG (aL G G (cT d7 (D.cell H)) (aI G aK G)))
   ·exact fun _ _=>aG (mv 1 G (aI G aK G))
   ·exact fun _ _=>aG (mv 1 G (aI G aK G))
   ·intro _ E
    have f:=e.trans E
    refine dk G G (dk G G (aG (cl (vs:= [a9 i,a9 j]) f (nX) G (by kernel_rfl) fun _ _ M U aa=>?_)))
    obtain rfl:=M
    exact aI G U rfl
   ·exact fun _ _=>dk G G (dk G G (aG (aA G G G false (k8 (a:=(fL i gn).getD j 0) (b:=eE i j) G G) (aI G aK G))))
   ·intro I p
    have f:=e.trans p
    refine dk G G (dk G G (dk G G (dk G G (dk G G (dk G G (dk G G (dk G G (aG (aS (eB (aC (aN G (aW ?_)))))))))))))
    refine bG (aC (a6 (mv 1 G (aR G G G ((j+1:Nat):Int) (bN (a:=j) (b:=1) G G) (mv 1 G (aS (bW (⟨I,j+1⟩:a0×Nat) ⟨f,(by omega),(o.ext p),(h.ext p)⟩ (show gn-(j+1)<gn-j by omega) G ⟨rfl,rfl,rfl,rfl,up⟩)))))))
  ·refine a6 (mv 2 G (pu (v:= a9 gn) G (aA G G G false (cW (a:=j) (b:=gn) G G) (a1 (aN G (cN (cI (cL (cM (aC (sr (mv 1 G (aS ?_)))))))))))))
   refine aC (aU (aT [no] G ⟨rfl,up⟩ ?_))
   exact⟨_,rfl,rfl,e⟩
theorem V4 {l:List Nat}(h:q<l.length):l.drop q=l.getD q 0::l.drop (q+1):=by rw [List.drop_eq_getElem_cons h,bE,bR h];rfl
def sU (i:Nat):Nat:=6510516211317473280+i
def i6 (xs:List Nat):List Nat:=xs++(fI 80).map fun k=>sU (xs.length+k)
theorem zL (xs:List Nat):(i6 xs).length=xs.length+80:=by unfold i6;rw [eN,List.length_map,List.length_range]
theorem EW (h:i<xs.length):(i6 xs).getD i 0=xs.getD i 0:=by
 unfold i6;rw [bE,List.getElem?_append_left h,←bE]
theorem EX (h:xs.length≤i)(h2:i<xs.length+80):(i6 xs).getD i 0=sU i:=by
 unfold i6;rw [bE,List.getElem?_append_right h,iK,List.getElem?_range (by omega)]
 show sU _=_
 congr 1;omega
theorem EV {l:List Nat}(hl:l.length=xs.length+80)(hi:i<xs.length+80)(h:l.take i=(i6 xs).take i):(l.set i ((i6 xs).getD i 0)).take (i+1)=(i6 xs).take (i+1):=by
 rw [List.take_add_one,List.take_add_one,List.take_set_of_le (aX _),h,List.getElem?_set_self (by omega),bR (by rw [zL];exact hi),bE,bR (by rw [zL];exact hi)]
 rfl
section
variable {P:bV}{Q:Exit→Act→a0→Prop}{n:Nat}{l:Fr}{w:a0}{ops:Array Oper}{rest:List Oper}{d:Nat}{ty:aV}{pos:String}{af:Array Edge}
end
def eM (n:Nat):List Nat:=(fI 80).map fun k=>sU (n+k)
theorem G8 (h:n≤1099511627776):Wf (eM n):=fun x hx=>by
 obtain⟨k,e,rfl⟩:=lN.1 hx
 have:=gF.1 e
 unfold sU;rw [cC];omega
theorem qW (n:Nat):(eM n).length=80:=by unfold eM;rw [List.length_map,List.length_range]
theorem jX {ys:List Nat}(h:Bk w g 65 ((ys++eM n).map bC))(hl:ys.length=n)(hw:Wf ys)(hn:n≤1099511627776):Rd w (some ⟨g,0,none⟩) n (n+80) ys:=by
 have h1:=h.rd (tN hw (G8 hn)) (o:=0) (n:=n) (cap:=n+80) (by omega) (by rw [eN,qW];omega) (by rw [eA];omega)
 rwa [gQ,List.take_left' hl] at h1
theorem vB {ys:List Nat}(h:Bk w g 65 ((ys++eM n).map bC))(hl:ys.length=n)(hw:Wf ys)(hn:n≤1099511627776):Rd w (some ⟨g,0,none⟩) (n+80) (n+80) (ys++eM n):=by
 have h1:=h.rd (tN hw (G8 hn)) (o:=0) (n:=n+80) (cap:=n+80) (by omega) (by rw [eN,qW];omega) (by rw [eA];omega)
 rwa [gQ,List.take_of_length_le (by rw [eN,qW];omega)] at h1
theorem Al0.ext {ls:List Lst}(h:Al0 w lb ls)(e:Ext w w'):Al0 w' lb ls:=Al1.ext h e
end
end Go.Proofs.YtkepckmdjncehaaGreatDoor
