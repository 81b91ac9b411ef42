/- Parts Rc8r, Ref5r, Plj, Rd8, Rd8r, Fr8c, Rd9, Lid, Ch9, Un9, Rc9, Tt8, One, Pl8, Ops8s, Book, Bookw, Keep, Keepw, BookI, joined. -/
import Derived.Test.YtkkabncicmhjfaaGreatDoorK4
import Derived.Deep.Slices

open Go renaming Addr → a7, Calls → aQ, Oper → bE, Operand → cR, Program → cO, TypeId → aS, Value → aF, World → a6, info_parts → qY, run_underlying → nL
open Array renaming getElem?_eq_some_iff → qB
open Go.Builtin renaming append_ → pG, lenOf → zB
open Classical renaming choose → zA, choose_spec → H8
open Go.Instr renaming makeSlice → sS
open List renaming drop_zero → iN, eq_nil_of_length_eq_zero → uL, getD_eq_getElem?_getD → bL, getElem?_eq_getElem → cT, getElem?_eq_some_iff → gU, getElem?_take → lK, getElem_mem → oG, length_append → f8, length_drop → iK, length_take → eB, map_cons → jS, map_nil → kR, map_toArray → pE, mem_append → m5, mem_cons → qA, mem_map → m4, mem_range → j5, mem_singleton → rB, range → eI, replicate → dF
open Nat renaming add_mul → eE, le_refl → aU, le_trans → a8, lt_of_lt_of_le → dA, min_eq_left → iJ, mul_le_mul → kP, mul_le_mul_right → fC, mul_one → eH, zero_add → eR, zero_le → bX
open Option.some renaming inj → kO, injEq → f7
open Or renaming inl → cJ, inr → cN
open Go.Result renaming andThen_ok → fK
open Go.Sem renaming run_bind → cV, run_pure → iH
open Go.Proofs.Tryz renaming prog → aM
open Go.Value renaming int → eL
namespace Go.Proofs.YtkkabncicmhjfaaGreatDoor
set_option maxHeartbeats 8000000
set_option maxRecDepth 20000
variable {A A' Aa Ab Ad B GA S XA:Option a7}{D e m q r u x y:Int}{H:Type}{K M N ac b b' b0 b00 base bytes c c' ca cap cb cd fuel g i j k lb n na:Nat}{L zs:List Int}{P:cO}{T T' t ty:aS}{W w:a6}{a bs ms xs ys:List Nat}{cs news us vs:List aF}{p:a7}{pl:List MemPlace}{s sa sb sd:Bool}{u0 u1:aF}
section
open Go.RowKit
theorem XU (hb:b≤w.heap.size){X:Nat}(hm:0<m)(hX:X=(m.natAbs-1)/2)(hx:Wi w A n cap X)(hl:n≤67108864):aQ aM 106 #[up A n cap] w (Gv w (T2 (WR b (rK m)) (WR b (X-rK m*rK m)))):=by
 obtain⟨xs,h1,rfl⟩:=hx;refine (WV h1 i9).mono ?_;rintro e w' ⟨r,hr,h⟩;obtain rfl:=L0 hm hX hr;exact Gv.imp (T2.imp (WR.imp hb) (WR.imp hb)) _ _ h
theorem XF (hb:b≤w.heap.size)(hm:Zi w sa Aa na ca m)(la:na≤1048576)(hm0:0<m):aQ aM 69 #[O sa Aa na ca] w (Gv w (ZR b (((rK m:Nat):Int)))):=by
 refine Calls.mono (R:=Gv w (ZR w.heap.size (((rK m:Nat):Int)))) ?_ (Gv.imp (ZR.imp hb));have Lm:=bP hm la;refine bU Tryz.func69 27 J (sr (bx (a5 sa Aa na ca) bN J J J fun _ _ fq _ _ gi=>(bV [F0,S0] gi fq.lt J fun g6 v7 ef ei _ e8 au=>(aG (aD ?_)))));refine dW cM 4 [] [Is (O sa Aa na ca),ZR w.heap.size (1),ZR w.heap.size (m-1),PR v7.heap.size 24 [F0,S0]] [[],[],[0,1],[]] rfl (bY J ?_ ?_ ?_ ?_ dN) ?_
 ·exact fun _ gb=>aC (lo aB (fq.ext (e8.t gb)) (a5 sa Aa na ca) J J J (aI J))
 ·intro _ gf;have F:=au.trans gf;refine aC (bI [no 1] F (nF (n:=1) F.size) J ?_);rintro _ _ ⟨_,_,_,_,rfl,ib⟩ ie L;exact bQ J ie ⟨_,_,_,_,rfl,ib⟩
 ·intro _ fz;have F:=au.trans fz;refine aO J (aW J ?_);rintro _ _ ⟨_,_,_,_,rfl,ar⟩ _ gx;have ar:=ar.ext gx;refine aC (aX F (BK F.size (hm.ext F) (aJ la J) ar.zi (ar.le (a8 (show ln 1≤1 by decide+kernel) yd))) J ?_);rintro _ _ ⟨_,_,_,_,rfl,ij⟩ gg L;exact bQ J gg ⟨_,_,_,_,rfl,ij⟩
 ·intro _ ga;refine aC (iL J (z:= .agg #[F0,S0]) (vs:= [F0,S0]) ye J fun _ _ nb=>?_);exact bQ J nb.ext ⟨_,rfl,by rw [←nb.at_];exact ga.size,nb.bk⟩
 intro _ dt;have F:=au.trans dt;refine aO J (aW J ?_);rintro _ _ ⟨_,_,_,_,rfl,eg⟩ _ ig;have eg:=eg.ext ig;refine aW J ?_;rintro _ _ ⟨da,de,df,dh,rfl,av⟩ _ gy;have av:=av.ext gy;refine aW J ?_;rintro _ _ ⟨aw,rfl,V,W⟩ _ gj;have W:=W.ext gj;have ix:g6<aw:=dA ef.lt V;have V:w.heap.size≤aw:=a8 au.size V;refine aC (so aB W (a5 da de df dh) F V J J J J fun fa aj fy L=>(cF (dM (aL (aD ?_)))));refine vW cM 9 [4,5,6] [7,8] [Is (O da de df dh),ZR w.heap.size (2),T3 (ZR w.heap.size ((m-1)/2)) (ZR w.heap.size ((m-1)%2)) (Is (no 0)),T3 (ZR w.heap.size ((m-1)/2)) (ZR w.heap.size ((m-1)%2)) (Is (no 0)),ZR w.heap.size ((m-1)/2),ZR w.heap.size ((m-1)%2),Is (no 0),PR fa.heap.size 24 [F0,S0],PR fa.heap.size 24 [F0,S0]] [[],[],[0,1],[2],[3],[3],[3],[],[]] [[],[],[0,1],[0,1,2],[0,1,2,3],[0,1,2,3],[0,1,2,3],[],[],[0,1,2,3,4,7,8],[0,1,2,3,4,5,7,8,9],[0,1,2,3,4,5,6,7,8,9,10]] J J ⟨fun _ _ h=>PR.old h,fun _ _ h=>PR.old h,xl⟩ (bY J ?_ ?_ ?_ ?_ (gL J J (gM J ?_) (gL J J (gM J ?_) (gL J J (gM J ?_) (oU J J (vR J ?_) (oU J J (vR J ?_) dN)))))) ?_
 ·exact fun _ ia=>aC (lo aB (aj.ext ia) (a5 da de df dh) J J J (aI J))
 ·intro _ ik;have U:=L.trans ik;refine aC (bI [no 2] U (nF (n:=2) U.size) J ?_);rintro _ _ ⟨_,_,_,_,rfl,ge⟩ gk dg;exact bQ J gk ⟨_,_,_,_,rfl,ge⟩
 ·intro _ fi;have U:=L.trans fi;refine aO J (aW J ?_);rintro _ _ ⟨_,_,_,_,rfl,X⟩ _ fv;have X:=X.ext fv;refine aC (aX U (LB U.size ((av.updT W fy).ext fi).zi (av.le (a8 (a8 (fR i9) Lm) yd)) X.zi (X.le (a8 (show ln 2≤1 by decide+kernel) yd)) yd) J ?_);rintro _ _ ⟨_,_,_,rfl,⟨_,_,_,_,rfl,fe⟩,⟨_,_,_,_,rfl,el⟩,rfl⟩ fc dg;exact bQ J fc ⟨_,_,_,rfl,⟨_,_,_,_,rfl,fe⟩,⟨_,_,_,_,rfl,el⟩,rfl⟩
 ·intro _ _;refine aW J ?_;rintro _ _ ⟨_,_,_,rfl,⟨_,_,_,_,rfl,ah⟩,⟨_,_,_,_,rfl,ak⟩,rfl⟩ _ ba;have ah:=ah.ext ba;have ak:=ak.ext ba;refine aC (mv 1 J ?_);exact bQ J bN ⟨_,_,_,rfl,⟨_,_,_,_,rfl,ah⟩,⟨_,_,_,_,rfl,ak⟩,rfl⟩
 ·intro _ _;refine aW J ?_;rintro _ _ ⟨_,_,_,rfl,⟨fm,ez,du,fg,rfl,ag⟩,⟨_,_,_,_,rfl,bm⟩,rfl⟩ _ cj;have ag:=ag.ext cj;have bm:=bm.ext cj;refine aC ?_;exact⟨O fm ez du fg,rfl,rfl,fun _=>by kernel_rfl,⟨_,_,_,_,rfl,ag⟩⟩
 ·intro _ _;refine aW J ?_;rintro _ _ ⟨_,_,_,rfl,⟨_,_,_,_,rfl,bw⟩,⟨ee,en,fh,ew,rfl,ae⟩,rfl⟩ _ ct;have bw:=bw.ext ct;have ae:=ae.ext ct;refine aC ?_;exact⟨O ee en fh ew,rfl,rfl,fun _=>by kernel_rfl,⟨_,_,_,_,rfl,ae⟩⟩
 ·intro _ _;refine aW J ?_;rintro _ _ ⟨_,_,_,rfl,⟨_,_,_,_,rfl,bd⟩,⟨_,_,_,_,rfl,bo⟩,rfl⟩ _ bu;have bd:=bd.ext bu;have bo:=bo.ext bu;refine aC ?_;exact⟨no 0,rfl,rfl,fun _=>by kernel_rfl,rfl⟩
 ·intro _ dw;refine aC (iL J (z:= .agg #[F0,S0]) (vs:= [F0,S0]) ye J fun _ _ nb=>?_);exact bQ J nb.ext ⟨⟨_,rfl,by rw [←nb.at_];exact dw.size,nb.bk⟩,_,rfl,Nat.le_of_eq nb.at_⟩
 ·intro _ dr;refine aC (iL J (z:= .agg #[F0,S0]) (vs:= [F0,S0]) ye J fun _ _ nb=>?_);exact bQ J nb.ext ⟨⟨_,rfl,by rw [←nb.at_];exact dr.size,nb.bk⟩,_,rfl,Nat.le_of_eq nb.at_⟩
 intro _ bh;have U:=L.trans bh;refine aO J (aW J ?_);rintro _ _ ⟨_,_,_,_,rfl,br⟩ _ dy;have br:=br.ext dy;refine aW J ?_;rintro _ _ ⟨_,_,_,rfl,⟨_,_,_,_,rfl,ci⟩,⟨_,_,_,_,rfl,az⟩,rfl⟩ _ ch;have ci:=ci.ext ch;have az:=az.ext ch;refine aW J ?_;rintro _ _ ⟨_,_,_,rfl,⟨_,_,_,_,rfl,bj⟩,⟨_,_,_,_,rfl,bp⟩,rfl⟩ _ bi;have bj:=bj.ext bi;have bp:=bp.ext bi;refine aW J ?_;rintro _ _ ⟨ej,bf,cm,cp,rfl,Z⟩ _ ey;have Z:=Z.ext ey;refine aW J ?_;rintro _ _ ⟨ft,fo,eh,dz,rfl,bg⟩ _ dl;have bg:=bg.ext dl;refine aO J (aW J ?_);rintro _ _ ⟨Y,rfl,f,E⟩ _ fj;have E:=E.ext fj;have io:aw<Y:=dA aj.lt f;have f:w.heap.size≤Y:=a8 L.size f;refine aW J ?_;rintro _ _ ⟨aa,rfl,o,M⟩ _ dm;have M:=M.ext dm;have ir:aw<aa:=dA aj.lt o;have o:w.heap.size≤aa:=a8 L.size o;refine aC ?_;intro ab;have iq:aa≠Y:=fun e=>ab 8 yd 7 yd yd _ _ J J _ _ J J _ (cJ J) (by rw [e];exact cJ J);clear ab;refine so aB E (a5 ej bf cm cp) U f J J J J fun _ cz ai dg=>?_;have am:=(M.vN ai);refine so aB am (a5 ft fo eh dz) dg o J J J J fun _ _ aq em=>(bS 1 J (dM (aL (sr (pf Y 1 J (bG (cE dY (cz.vN aq) J) J ?_))))));have L235a:(wd (rK m)).length≤1048576:=by have h:=xH hm0 Lm;rw [oW] at h;exact a8 h yd
 have L235b:(wd (Int.natAbs ((m-1)/2)-rK m*rK m)).length≤1048576:=a8 (iP (Nat.sub_le _ _)) (a8 (fR i9) Lm);refine bI [up bf cm cp] em (XU em.size hm0 (a0J hm0) ((Z.updT E ai).updT am aq).zi.wi (Z.le (a8 (a8 (fR i9) Lm) yd))) J ?_;rintro _ _ ⟨_,_,rfl,⟨I,H,G,rfl,fx,fb⟩,⟨fk,fd,fw,rfl,_,_⟩⟩ fp go;refine mv 1 J (aA (up I H G) J (aA (up fk fd fw) J (aE 2 J (aV 1 J (aA (.agg #[F0,up I H G]) J ?_)))));have ao:=((((((ef.ext dt).vN fy).ext bh).vN ai).vN aq).ext fp);refine so aB ao [F0,up I H G] go ei J J J J fun _ cv dx il=>(aG (bA (aZ [.agg #[F0,up I H G]] J ⟨⟨_,rfl,bK aB cv [F0,up I H G] J (bq J) rfl⟩,xl⟩ ?_)));exact⟨_,rfl,⟨_,_,_,_,rfl,((sI fx fb).updT ao dx)⟩,il⟩
theorem XK {nb:Nat}(hb:b≤w.heap.size)(hr:Zi w sa Aa na ca r)(la:na≤1048576)(hm:Zi w sb Ab nb cb m)(lb:nb≤1048576):aQ aM 30 #[O sa Aa na ca,O sb Ab nb cb] w (Gv w (T2 (FR b (kW m r) (kX m r)) (Is (no (kB m r))))):=by
 refine Calls.mono (R:=Gv w (T2 (FR w.heap.size (kW m r) (kX m r)) (Is (no (kB m r))))) ?_ (Gv.imp (T2.imp (FR.imp hb) Is.imp));have Lr:=bP hr la;have Lm:=bP hm lb;refine bU Tryz.func30 90 J (sr (bx (a5 sa Aa na ca) bN J J J fun g1 _ ko _ _ ey=>(fY (a5 sb Ab nb cb) ey ko.lt J J J fun g6 _ fb _ _ e8 df=>(bV [F0,S0,F0,S0] df fb.lt J fun ij _ ia gy _ eg bi=>(aE 1 J (aD (aD ?_)))))));by_cases bu:0<m
 ·refine bH (lo aB (fb.ext eg) (a5 sb Ab nb cb) J J J (aX bi (gR (hm.ext bi) (aJ lb J)) J ?_));rintro _ _ rfl dx aa;refine aH J (DT bu) (aG (aT J (bB (aL (sr (lo aB (fb.ext (eg.t dx)) (a5 sb Ab nb cb) J J J (aX aa (XF aa.size (hm.ext aa) (aJ lb J) bu) J ?_)))))));rintro _ _ ⟨dh,de,ct,cv,rfl,qq⟩ ew E;refine bV [F0,S0] E (ia.ext (dx.t ew)).lt J fun io _ jj mp _ fc aw=>(so aB jj (a5 dh de ct cv) aw mp J J J J fun _ jf fa fd=>(aG (sr (lo aB ((fb.ext (eg.t (dx.t (ew.t fc)))).vN fa) (a5 sb Ab nb cb) J J J (aX fd (FL fd.size (hm.ext fd) (aJ lb J)) J ?_)))));rintro _ _ ⟨oo,mn,pm,pq,rfl,qj⟩ dr kf;refine bV [F0,S0] kf (jf.ext dr).lt J fun mi _ gj jh _ dz fz=>(so aB gj (a5 oo mn pm pq) fz jh J J J J fun _ ka du ak=>(aG (sr (lo aB ((((ko.ext (e8.t (eg.t (dx.t (ew.t fc))))).vN fa).ext (dr.t dz)).vN du) (a5 sa Aa na ca) J J J (lo aB ((((fb.ext (eg.t (dx.t (ew.t fc)))).vN fa).ext (dr.t dz)).vN du) (a5 sb Ab nb cb) J J J (aX ak (a0s ak.size (hr.ext ak) (aJ la J) (hm.ext ak) (aJ lb J) (show m≠0 by omega)) J ?_))))));rintro _ _ ⟨_,_,rfl,⟨kq,kj,ku,ke,rfl,qi⟩,rfl⟩ dw ee;refine mv 1 J (aA (O kq kj ku ke) J (aA (no 0) J (bV [F0,S0] ee (ka.ext dw).lt J fun il _ fw ie _ dm gx=>(so aB fw (a5 kq kj ku ke) gx ie J J J J fun _ ji eh fe=>(aE 1 J (sr (bI [I0] fe (nF (n:=0) fe.size) J ?_)))))));rintro _ _ ⟨ow,oy,mb,oe,rfl,qp⟩ ci mh;refine bV [F0,S0] mh (ji.ext ci).lt J fun nt _ ei jl _ cj py=>(so aB ei (a5 ow oy mb oe) py jl J J J J fun _ jw ch ja=>(aG (sr (bI [no 1] ja (nF (n:=1) ja.size) J ?_))));rintro _ _ ⟨mq,oh,nj,mf,rfl,qo⟩ bo ny;refine bV [F0,S0] ny (jw.ext bo).lt J fun ik _ cm gk _ br oa=>(so aB cm (a5 mq oh nj mf) oa gk J J J J fun qm nx bp pk=>(aG (aD (bO ?_))));refine dC (T:=a6×Int×Int×Int×Int×ZC×ZC×ZC×ZC) (fun⟨wr,x,y,t,u,k0,k1,k2,f⟩=> [(2,i5 g1 0),(3,i5 g6 0),(4,i5 ij 0),(5,no 0),(6,i5 io 0),(7,i5 mi 0),(8,i5 il 0),(10,i5 nt 0),(11,i5 ik 0)]) (fun⟨wr,x,y,t,u,k0,k1,k2,f⟩=>wr) (fun⟨wr,x,y,t,u,k0,k1,k2,f⟩=>(Ext w wr)∧(RecI m r x y t u)∧(jD (rK m) y.toNat x y t u=oQ m r)∧(Bk wr g1 24 (a5 sa Aa na ca))∧(Bk wr g6 24 (a5 sb Ab nb cb))∧(Bk wr ij 26 [F0,S0,F0,S0])∧(Bk wr io 24 (a5 dh de ct cv))∧(Bk wr mi 24 (a5 k0.s k0.A k0.n k0.c))∧(Bk wr nt 24 (a5 k2.s k2.A k2.n k2.c))∧(Bk wr il 24 (a5 k1.s k1.A k1.n k1.c))∧(Bk wr ik 24 (a5 f.s f.A f.n f.c))∧(Zr wr w.heap.size dh de ct cv ((rK m:Nat):Int))∧(Zr wr w.heap.size k0.s k0.A k0.n k0.c x)∧(Zr wr w.heap.size k1.s k1.A k1.n k1.c y)∧(Zr wr w.heap.size k2.s k2.A k2.n k2.c t)∧(Zr wr w.heap.size f.s f.A f.n f.c u)) (fun⟨wr,x,y,t,u,k0,k1,k2,f⟩=>y.natAbs) (⟨qm,_,_,_,_,⟨oo,mn,pm,pq⟩,⟨kq,kj,ku,ke⟩,⟨ow,oy,mb,oe⟩,⟨mq,oh,nj,mf⟩⟩:a6×Int×Int×Int×Int×ZC×ZC×ZC×ZC) ⟨pk,RecI.init8 bu,rfl,((((((((((ko.ext (e8.t (eg.t (dx.t (ew.t fc))))).vN fa).ext (dr.t dz)).vN du).ext (dw.t dm)).vN eh).ext (ci.t cj)).vN ch).ext (bo.t br)).vN bp),((((((((((fb.ext (eg.t (dx.t (ew.t fc)))).vN fa).ext (dr.t dz)).vN du).ext (dw.t dm)).vN eh).ext (ci.t cj)).vN ch).ext (bo.t br)).vN bp),((((((((((ia.ext (dx.t (ew.t fc))).vN fa).ext (dr.t dz)).vN du).ext (dw.t dm)).vN eh).ext (ci.t cj)).vN ch).ext (bo.t br)).vN bp),((((((((jf.ext (dr.t dz)).vN du).ext (dw.t dm)).vN eh).ext (ci.t cj)).vN ch).ext (bo.t br)).vN bp),((((((ka.ext (dw.t dm)).vN eh).ext (ci.t cj)).vN ch).ext (bo.t br)).vN bp),((jw.ext (bo.t br)).vN bp),((((ji.ext (ci.t cj)).vN ch).ext (bo.t br)).vN bp),nx,((((((((((qq.ext fc).updT jj fa).ext (dr.t dz)).updT gj du).ext (dw.t dm)).updT fw eh).ext (ci.t cj)).updT ei ch).ext (bo.t br)).updT cm bp),((((((((qj.ext dz).updT gj du).ext (dw.t dm)).updT fw eh).ext (ci.t cj)).updT ei ch).ext (bo.t br)).updT cm bp),((((((qi.ext dm).updT fw eh).ext (ci.t cj)).updT ei ch).ext (bo.t br)).updT cm bp),((((qp.ext cj).updT ei ch).ext (bo.t br)).updT cm bp),((qo.ext br).updT cm bp)⟩ J (aP J) ?_;rintro⟨wr,x,y,t,u,k0,k1,k2,f⟩ ⟨ey,hI,hR,b_2,b_3,b_4,b_6,b_7,b_10,b_8,b_11,zkk,pr,ba,po,ah⟩;refine ?_;have Lx:ln x≤4194305:=a8 (hI.ln_x) (aJ Lm J);have Ly:ln y≤4194305:=a8 (hI.ln_y) (aJ Lm J);have Lt:ln t≤4194305:=a8 (hI.ln_t bu) (aJ Lm J);have Lu:ln u≤4194305:=a8 (hI.ln_u bu) (aJ Lm J);refine aD (aD ?_);by_cases lj:((rK m:Nat):Int)<y
  ·refine bH (lo aB b_8 (a5 k1.s k1.A k1.n k1.c) J J J (lo aB b_6 (a5 dh de ct cv) J J J (aX ey (s7 ba.zi (ba.le (aJ Ly J)) zkk.zi (zkk.le (a8 (xH bu Lm) yd))) J ?_)));rintro _ _ rfl eP df;refine aH J (AB lj) (aG (bC J (bB (aL (bO (sr (lo aB (b_7.ext eP) (a5 k0.s k0.A k0.n k0.c) J J J (lo aB (b_8.ext eP) (a5 k1.s k1.A k1.n k1.c) J J J ?_))))))));have fo:ln (x.tdiv y)≤4194305:=ZW Lx;have qx:ln (x.tmod y)≤4194305:=ZV (show y≠0 by omega) Ly;refine dP [O k0.s k0.A k0.n k0.c,O k1.s k1.A k1.n k1.c] (by have h:=F5 df.size (pr.ext eP).zi (pr.le (aJ Lx J)) (ba.ext eP).zi (ba.le (aJ Ly J)) (show y≠0 by omega);rw [←Int.tdiv_eq_ediv_of_nonneg hI.x0,←Int.tmod_eq_emod_of_nonneg hI.x0] at h;exact h) J ?_;rintro _ _ ⟨_,rfl,om,Z⟩;refine dO ?_;have bi:=df.trans Z;obtain⟨_,_,_,rfl,⟨fx,fy,fv,fp,rfl,je⟩,⟨dl,dt,en,dy,rfl,ma⟩,rfl⟩:=om;refine mv 1 J (aA (O fx fy fv fp) J (aA (O dl dt en dy) J (aA (no 0) J (bV [F0,S0] bi (b_11.ext (eP.t Z)).lt J fun _ _ go kx _ X aa=>(bV [F0,S0] aa go.lt J fun pg _ kg kc _ I E=>?_)))));have ao:=(go.ext I);refine so aB ao (a5 fx fy fv fp) E kx J J J J fun _ kz M aw=>?_;have ar:=(kg.vN M);refine so aB ar (a5 dl dt en dy) aw kc J J J J fun _ ga H fd=>(aE 1 J (sr (lo aB (((b_8.ext (eP.t (Z.t (X.t I)))).vN M).vN H) (a5 k1.s k1.A k1.n k1.c) J J J ?_)));have au:=(((b_7.ext (eP.t (Z.t (X.t I)))).vN M).vN H);refine so aB au (a5 k1.s k1.A k1.n k1.c) fd jh J J J J fun _ ky L kf=>(aG (sr (lo aB (ga.vN L) (a5 dl dt en dy) J J J ?_)));have am:=((((b_8.ext (eP.t (Z.t (X.t I)))).vN M).vN H).vN L);refine so aB am (a5 dl dt en dy) kf ie J J J J fun me kr W fz=>(aG (aD ?_));have qw:ln (t-x.tdiv y*u)≤8388611:=a8 (jY Lt (dI fo Lu)) yd;refine dW cM 6 [] [Is (O k2.s k2.A k2.n k2.c),Is (O fx fy fv fp),Is (O f.s f.A f.n f.c),ZR w.heap.size (x.tdiv y*u),ZR w.heap.size (t-x.tdiv y*u),PR me.heap.size 24 [F0,S0]] [[],[],[],[1,2],[0,3],[]] rfl (bY J ?_ ?_ ?_ ?_ (cG J ?_ (cG J ?_ dN))) ?_
   ·exact fun _ pj=>aC (lo aB ((((((b_10.ext (eP.t (Z.t (X.t I)))).vN M).vN H).vN L).vN W).ext pj) (a5 k2.s k2.A k2.n k2.c) J J J (aI J))
   ·exact fun _ nk=>aC (lo aB ((((kz.vN H).vN L).vN W).ext nk) (a5 fx fy fv fp) J J J (aI J))
   ·exact fun _ nz=>aC (lo aB ((((((b_11.ext (eP.t (Z.t (X.t I)))).vN M).vN H).vN L).vN W).ext nz) (a5 f.s f.A f.n f.c) J J J (aI J))
   ·intro _ gg;have ak:=fz.trans gg;refine aY J (aC (aX ak (rZ ak.size ((((((je.ext (X.t I)).updT ao M).updT ar H).updT au L).updT am W).ext gg).zi (je.le (aJ fo J)) ((((((ah.ext (eP.t (Z.t (X.t I)))).updT ao M).updT ar H).updT au L).updT am W).ext gg).zi (ah.le (aJ Lu J))) J ?_));rintro _ _ ⟨_,_,_,_,rfl,mo⟩ mj ee;exact bQ J mj ⟨_,_,_,_,rfl,mo⟩
   ·intro _ iy;have ak:=fz.trans iy;refine aO J (aW J ?_);rintro _ _ ⟨_,_,_,_,rfl,fg⟩ _ ot;have fg:=fg.ext ot;refine aC ?_;have qy:ln (t-x.tdiv y*u)≤8388611:=a8 (jY Lt (dI fo Lu)) yd;refine aX ak (BK ak.size ((((((po.ext (eP.t (Z.t (X.t I)))).updT ao M).updT ar H).updT au L).updT am W).ext iy).zi (po.le (aJ Lt J)) fg.zi (fg.le (a8 (dI fo Lu) yd))) J ?_;rintro _ _ ⟨_,_,_,_,rfl,oi⟩ qd ee;exact bQ J qd ⟨_,_,_,_,rfl,oi⟩
   ·intro _ qe;refine aC (iL J (z:= .agg #[F0,S0]) (vs:= [F0,S0]) ye J fun _ _ nb=>?_);exact bQ J nb.ext ⟨_,rfl,by rw [←nb.at_];exact qe.size,nb.bk⟩
   intro _ ag;have ak:=fz.trans ag;refine aY J (aO J (aW J ?_));rintro _ _ ⟨_,_,_,_,rfl,iz⟩ _ mw;have iz:=iz.ext mw;refine aW J ?_;rintro _ _ ⟨ft,fq,fk,fm,rfl,gi⟩ _ mt;have gi:=gi.ext mt;refine aW J ?_;rintro _ _ ⟨jy,rfl,da,aq⟩ _ pz;have aq:=aq.ext pz;have rj:pg<jy:=dA ((ga.vN L).vN W).lt da;have da:w.heap.size≤jy:=a8 fz.size da;refine aC (so aB aq (a5 ft fq fk fm) ak da J J J J fun _ kt ae ee=>(cF (dM (aL (sr (lo aB (((((((b_11.ext (eP.t (Z.t (X.t I)))).vN M).vN H).vN L).vN W).ext ag).vN ae) (a5 f.s f.A f.n f.c) J J J ?_))))));have bh:=(((((((b_10.ext (eP.t (Z.t (X.t I)))).vN M).vN H).vN L).vN W).ext ag).vN ae);refine so aB bh (a5 f.s f.A f.n f.c) ee jl J J J J fun _ kp ai gx=>(aG (bH (lo aB (kt.vN ai) (a5 ft fq fk fm) J J J ?_)));have bg:=((((((((b_11.ext (eP.t (Z.t (X.t I)))).vN M).vN H).vN L).vN W).ext ag).vN ae).vN ai);refine so aB bg (a5 ft fq fk fm) gx gk J J J J fun ov ks aj fe=>(cF (bT (cP (⟨ov,_,_,_,_,⟨k1.s,k1.A,k1.n,k1.c⟩,⟨dl,dt,en,dy⟩,⟨f.s,f.A,f.n,f.c⟩,⟨ft,fq,fk,fm⟩⟩:a6×Int×Int×Int×Int×ZC×ZC×ZC×ZC) ⟨fe,hI.step i9,KW hI.x0 lj hR,(((((((((b_2.ext (eP.t (Z.t (X.t I)))).vN M).vN H).vN L).vN W).ext ag).vN ae).vN ai).vN aj),(((((((((b_3.ext (eP.t (Z.t (X.t I)))).vN M).vN H).vN L).vN W).ext ag).vN ae).vN ai).vN aj),(((((((((b_4.ext (eP.t (Z.t (X.t I)))).vN M).vN H).vN L).vN W).ext ag).vN ae).vN ai).vN aj),(((((((((b_6.ext (eP.t (Z.t (X.t I)))).vN M).vN H).vN L).vN W).ext ag).vN ae).vN ai).vN aj),(((((ky.vN W).ext ag).vN ae).vN ai).vN aj),(kp.vN aj),((((kr.ext ag).vN ae).vN ai).vN aj),ks,(((((((((zkk.ext (eP.t (Z.t (X.t I)))).updT ao M).updT ar H).updT au L).updT am W).ext ag).updT aq ae).updT bh ai).updT bg aj),(((((((((ba.ext (eP.t (Z.t (X.t I)))).updT ao M).updT ar H).updT au L).updT am W).ext ag).updT aq ae).updT bh ai).updT bg aj),(((((((((ma.ext (X.t I)).updT ao M).updT ar H).updT au L).updT am W).ext ag).updT aq ae).updT bh ai).updT bg aj),(((((((((ah.ext (eP.t (Z.t (X.t I)))).updT ao M).updT ar H).updT au L).updT am W).ext ag).updT aq ae).updT bh ai).updT bg aj),(((gi.updT aq ae).updT bh ai).updT bg aj)⟩ (nS (x:=x) (show y≠0 by omega)) J (aP J))))
  have hv:=KX lj hR;refine bH (lo aB b_8 (a5 k1.s k1.A k1.n k1.c) J J J (lo aB b_6 (a5 dh de ct cv) J J J (aX ey (s7 ba.zi (ba.le (aJ Ly J)) zkk.zi (zkk.le (a8 (xH bu Lm) yd))) J ?_)));rintro _ _ rfl o df;refine aH J (AC) (aG (aT J (d9 (cY (d7 (d8 (aL (tZ (T:=a6×Int×Int×ZC×ZC) (fun⟨wr,Y,U,k1,f⟩=> [(2,i5 g1 0),(3,i5 g6 0),(4,i5 ij 0),(5,no 0),(6,i5 io 0),(8,i5 il 0),(11,i5 ik 0)]) (fun⟨wr,Y,U,k1,f⟩=>wr) (fun⟨wr,Y,U,k1,f⟩=>(Ext w wr)∧(jO m r=(Y,U))∧(U≠0)∧(ln Y≤4194305)∧(ln U≤4194305)∧(Bk wr g1 24 (a5 sa Aa na ca))∧(Bk wr g6 24 (a5 sb Ab nb cb))∧(Bk wr ij 26 [F0,S0,F0,S0])∧(Bk wr io 24 (a5 dh de ct cv))∧(Bk wr il 24 (a5 k1.s k1.A k1.n k1.c))∧(Bk wr ik 24 (a5 f.s f.A f.n f.c))∧(Zr wr w.heap.size dh de ct cv ((rK m:Nat):Int))∧(Zr wr w.heap.size k1.s k1.A k1.n k1.c Y)∧(Zr wr w.heap.size f.s f.A f.n f.c U)) ?_ ?_))))))))
  ·refine aD ?_;by_cases hu:u<0
   ·refine bH (lo aB (b_11.ext o) (a5 f.s f.A f.n f.c) J J J (aX df (gR (ah.ext o).zi (ah.le (aJ Lu J))) J ?_));rintro _ _ rfl av bi;refine aH J (tB hu) (aG (bC J (sr (lo aB (b_11.ext (o.t av)) (a5 f.s f.A f.n f.c) J J J (aX bi (OK bi.size (ah.ext (o.t av)).zi (ah.le (aJ Lu J))) J ?_)))));rintro _ _ ⟨jq,jz,jk,jc,rfl,md⟩ az aa;have cz:=(b_11.ext (o.t (av.t az)));refine so aB cz (a5 jq jz jk jc) aa gk J J J J fun _ ll bf E=>(aG (bH (lo aB ((b_8.ext (o.t (av.t az))).vN bf) (a5 k1.s k1.A k1.n k1.c) J J J (aX E (OK E.size ((ba.ext (o.t (av.t az))).updT cz bf).zi (ba.le (aJ Ly J))) J ?_))));rintro _ _ ⟨ju,jr,jp,iw,rfl,oq⟩ bj aw;have dg:=(((b_8.ext (o.t (av.t az))).vN bf).ext bj);refine so aB dg (a5 ju jr jp iw) aw ie J J J J fun nh lh bm fd=>(cF (eO (⟨nh,-y,-u,⟨ju,jr,jp,iw⟩,⟨jq,jz,jk,jc⟩⟩:a6×Int×Int×ZC×ZC) ⟨fd,KV hv hu,(by have:=hI.u0;omega),(by rw [gQ];exact Ly),(by rw [gQ];exact Lu),((((b_2.ext (o.t (av.t az))).vN bf).ext bj).vN bm),((((b_3.ext (o.t (av.t az))).vN bf).ext bj).vN bm),((((b_4.ext (o.t (av.t az))).vN bf).ext bj).vN bm),((((b_6.ext (o.t (av.t az))).vN bf).ext bj).vN bm),lh,((ll.ext bj).vN bm),((((zkk.ext (o.t (av.t az))).updT cz bf).ext bj).updT dg bm),(oq.updT dg bm),(((md.updT cz bf).ext bj).updT dg bm)⟩ J (aP J)))
   refine bH (lo aB (b_11.ext o) (a5 f.s f.A f.n f.c) J J J (aX df (gR (ah.ext o).zi (ah.le (aJ Lu J))) J ?_));rintro _ ou rfl bd bi;refine aH J (tC) (aG (aT J (bB (eO (⟨ou,y,u,⟨k1.s,k1.A,k1.n,k1.c⟩,⟨f.s,f.A,f.n,f.c⟩⟩:a6×Int×Int×ZC×ZC) ⟨bi,KU hv hu,(by have:=hI.u0;omega),Ly,Lu,(b_2.ext (o.t bd)),(b_3.ext (o.t bd)),(b_4.ext (o.t bd)),(b_6.ext (o.t bd)),(b_8.ext (o.t bd)),(b_11.ext (o.t bd)),(zkk.ext (o.t bd)),(ba.ext (o.t bd)),(ah.ext (o.t bd))⟩ J (aP J)))))
  rintro⟨wr,Y,U,k1,f⟩ ⟨ey,hS,qr,LY,LU,b_2,b_3,b_4,b_6,b_8,b_11,zkk,ba,ah⟩;refine sr (bI [no 1] ey (nF (n:=1) ey.size) J ?_);rintro _ _ ⟨ef,ej,em,el,rfl,fi⟩ V df;refine bV [F0,S0] df (b_11.ext V).lt J fun _ _ ab kw _ F bi=>(so aB ab (a5 ef ej em el) bi kw J J J J fun _ gf G aa=>(aG (aD (aD ?_))));obtain⟨ck,kk⟩:∃c,c=decide (((rK m:Nat):Int)<U):=⟨_,rfl⟩;obtain⟨cy,kn⟩:∃c,c=decide ((Int.gcd Y U:Int)≠1):=⟨_,rfl⟩;obtain⟨cu,kd⟩:∃c,c=decide ((Int.gcd U m:Int)≠1):=⟨_,rfl⟩;have ni:ln ((Int.gcd U m:Int))≤4194305:=a8 (nC _ _) (Nat.max_le.2 ⟨a8 LU yd,a8 Lm yd⟩);have pd:ln ((Int.gcd Y U:Int))≤4194305:=a8 (nC _ _) (Nat.max_le.2 ⟨a8 LY yd,a8 LU yd⟩);refine dW cM 25 [] [Is (O f.s f.A f.n f.c),Is (no (bM U 0)),Is (wk),Is (wk),Is (O f.s f.A f.n f.c),Is (O dh de ct cv),Is (no (bM U ((rK m:Nat):Int))),Is (.bool ck),Is (.bool ck),Is (.bool ck),Gd ck (Is (O f.s f.A f.n f.c)),Gd ck (Is (O sb Ab nb cb)),Gd ck (ZR w.heap.size ((Int.gcd U m:Int))),Gd ck (Is (O ef ej em el)),Gd ck (Is (no (bM (Int.gcd U m:Int) 1))),Gd ck (Is (.bool cu)),Is (.bool (ck||cu)),Is (.bool (ck||cu)),Gd (ck||cu) (Is (O k1.s k1.A k1.n k1.c)),Gd (ck||cu) (Is (O f.s f.A f.n f.c)),Gd (ck||cu) (ZR w.heap.size ((Int.gcd Y U:Int))),Gd (ck||cu) (Is (O ef ej em el)),Gd (ck||cu) (Is (no (bM (Int.gcd Y U:Int) 1))),Gd (ck||cu) (Is (.bool cy)),Is (.bool ((ck||cu)||cy))] [[],[0],[1],[2],[3],[3],[3,4,5],[3,6],[3,7],[8],[9],[9],[9,10,11],[9],[9,12,13],[9,14],[9,15],[16],[17],[17],[17,18,19],[17],[17,20,21],[17,22],[17,23]] rfl (bY J ?_ ?_ ?_ ?_ (bY J ?_ ?_ ?_ ?_ (bY J ?_ ?_ ?_ ?_ (bY J ?_ ?_ ?_ ?_ (bY J ?_ ?_ ?_ ?_ (bY J ?_ ?_ ?_ ?_ (cG J ?_ dN))))))) ?_
  ·exact fun _ pt=>aC (lo aB (((b_11.ext (V.t F)).vN G).ext pt) (a5 f.s f.A f.n f.c) J J J (aI J))
  ·intro _ jo;have E:=aa.trans jo;refine aO J (aC (aX E (gR (((ah.ext (V.t F)).updT ab G).ext jo).zi (ah.le (aJ LU J))) J ?_));rintro _ _ rfl pe aw;exact bQ J pe rfl
  ·exact fun _ _=>aO J (aC (aH J (uY qr) (aI J)))
  ·exact fun _ _=>aO J (aC (mv 1 J (aI J)))
  ·exact fun _ mr=>aO J (aC (lo aB (((b_11.ext (V.t F)).vN G).ext mr) (a5 f.s f.A f.n f.c) J J J (aI J)))
  ·exact fun _ mg=>aO J (aC (lo aB (((b_6.ext (V.t F)).vN G).ext mg) (a5 dh de ct cv) J J J (aI J)))
  ·intro _ ib;have E:=aa.trans ib;refine aY J (aO J (aC (aX E (s7 (((ah.ext (V.t F)).updT ab G).ext ib).zi (ah.le (aJ LU J)) (((zkk.ext (V.t F)).updT ab G).ext ib).zi (zkk.le (a8 (xH bu Lm) yd))) J ?_)));rintro _ _ rfl nu aw;exact bQ J nu rfl
  ·exact fun _ _=>aY J (aC (fP J J J ck (aI J) (hc:=(JF kk))))
  ·exact fun _ _=>aY J (aC (aA (.bool ck) J (aI J)))
  ·exact fun _ _=>aO J (aC (mv 1 J (aI J)))
  ·intro _ kb;have E:=aa.trans kb;cases ck
   ·exact aO J (aC (lo aB (((b_11.ext (V.t F)).vN G).ext kb) (a5 f.s f.A f.n f.c) J J J (aI J)))
   exact aO J (aC (mv 1 J (aI J)))
  ·intro _ jt;have E:=aa.trans jt;cases ck
   ·exact aO J (aC (lo aB (((b_3.ext (V.t F)).vN G).ext jt) (a5 sb Ab nb cb) J J J (aI J)))
   exact aO J (aC (mv 1 J (aI J)))
  ·intro _ ir;have E:=aa.trans ir;cases ck
   ·refine aY J (aO J (aC ?_));have qv:ln ((Int.gcd U m:Int))≤4194305:=a8 (nC _ _) (Nat.max_le.2 ⟨a8 LU yd,a8 Lm yd⟩);refine aX E (BJ E.size (((ah.ext (V.t F)).updT ab G).ext ir).zi (ah.le (aJ LU J)) (hm.ext E) (aJ lb J)) J ?_;rintro _ _ ⟨_,_,_,_,rfl,ph⟩ mc aw;exact bQ J mc ⟨_,_,_,_,rfl,ph⟩
   exact aY J (aO J (aC (mv 1 J (aI J))))
  ·intro _ jv;have E:=aa.trans jv;cases ck
   ·exact aO J (aC (lo aB (gf.ext jv) (a5 ef ej em el) J J J (aI J)))
   exact aO J (aC (mv 1 J (aI J)))
  ·intro _ jx;have E:=aa.trans jx;cases ck
   ·refine aO J (aW J ?_);rintro _ _ ⟨_,_,_,_,rfl,fj⟩ _ lv;have fj:=fj.ext lv;refine aO J (aC (aX E (s7 fj.zi (fj.le (aJ ni J)) (((fi.ext F).updT ab G).ext jx).zi (fi.le (a8 (show ln 1≤1 by decide+kernel) yd))) J ?_));rintro _ _ rfl px aw;exact bQ J px rfl
   exact aY J (aO J (aC (mv 1 J (aI J))))
  ·intro _ lu;have E:=aa.trans lu;cases ck
   ·exact aY J (aC (fP J J J cu (aI J) (hc:=(zU kd))))
   exact aY J (aC (mv 1 J (aI J)))
  ·intro _ my;have E:=aa.trans my;cases ck
   ·exact aY J (aC (aA (.bool cu) J (aI J)))
   exact aY J (aC (aA (we) J (aI J)))
  ·exact fun _ _=>aO J (aC (mv 1 J (aI J)))
  ·intro _ ix;have E:=aa.trans ix;cases ck
   ·cases cu
    ·exact aO J (aC (lo aB (((b_8.ext (V.t F)).vN G).ext ix) (a5 k1.s k1.A k1.n k1.c) J J J (aI J)))
    exact aO J (aC (mv 1 J (aI J)))
   exact aO J (aC (mv 1 J (aI J)))
  ·intro _ jg;have E:=aa.trans jg;cases ck
   ·cases cu
    ·exact aO J (aC (lo aB (((b_11.ext (V.t F)).vN G).ext jg) (a5 f.s f.A f.n f.c) J J J (aI J)))
    exact aO J (aC (mv 1 J (aI J)))
   exact aO J (aC (mv 1 J (aI J)))
  ·intro _ gb;have E:=aa.trans gb;cases ck
   ·cases cu
    ·refine aY J (aO J (aC ?_));have qz:ln ((Int.gcd Y U:Int))≤4194305:=a8 (nC _ _) (Nat.max_le.2 ⟨a8 LY yd,a8 LU yd⟩);refine aX E (BJ E.size (((ba.ext (V.t F)).updT ab G).ext gb).zi (ba.le (aJ LY J)) (((ah.ext (V.t F)).updT ab G).ext gb).zi (ah.le (aJ LU J))) J ?_;rintro _ _ ⟨_,_,_,_,rfl,mz⟩ lp aw;exact bQ J lp ⟨_,_,_,_,rfl,mz⟩
    exact aY J (aO J (aC (mv 1 J (aI J))))
   exact aY J (aO J (aC (mv 1 J (aI J))))
  ·intro _ iu;have E:=aa.trans iu;cases ck
   ·cases cu
    ·exact aO J (aC (lo aB (gf.ext iu) (a5 ef ej em el) J J J (aI J)))
    exact aO J (aC (mv 1 J (aI J)))
   exact aO J (aC (mv 1 J (aI J)))
  ·intro _ jb;have E:=aa.trans jb;cases ck
   ·cases cu
    ·refine aO J (aW J ?_);rintro _ _ ⟨_,_,_,_,rfl,fh⟩ _ nl;have fh:=fh.ext nl;refine aO J (aC (aX E (s7 fh.zi (fh.le (aJ pd J)) (((fi.ext F).updT ab G).ext jb).zi (fi.le (a8 (show ln 1≤1 by decide+kernel) yd))) J ?_));rintro _ _ rfl nw aw;exact bQ J nw rfl
    exact aY J (aO J (aC (mv 1 J (aI J))))
   exact aY J (aO J (aC (mv 1 J (aI J))))
  ·intro _ mu;have E:=aa.trans mu;cases ck
   ·cases cu
    ·exact aY J (aC (fP J J J cy (aI J) (hc:=(zU kn))))
    exact aY J (aC (mv 1 J (aI J)))
   exact aY J (aC (mv 1 J (aI J)))
  ·intro _ oz;have E:=aa.trans oz;cases ck
   ·cases cu
    ·exact aY J (aC (aA (.bool cy) J (aI J)))
    exact aY J (aC (aA (we) J (aI J)))
   exact aY J (aC (aA (we) J (aI J)))
  intro _ bw;have E:=aa.trans bw;refine d6 J (d6 J (aY J (aW J fun _ _ _ _ _=>(aW J fun _ _ _ _ _=>(aW J fun _ _ _ _ _=>(aW J fun _ _ _ _ _=>?_))))));refine aW J fun _ _ _ _ _=>(aW J fun _ _ _ _ _=>(aY J (aW J fun _ _ _ _ _=>(aW J fun _ _ _ _ _=>(aW J fun _ _ _ _ _=>(aW J fun _ _ _ _ _=>(aW J fun _ _ _ _ _=>(aW J fun _ _ _ _ _=>(aO J (aC ?_))))))))));cases hb:((ck||cu)||cy)
  ·have hE:=KS bu hS kk kn kd (by revert hb;cases ck <;> cases cy <;> cases cu <;> decide);refine cF (dM (aL (aT J (bB (aL (sr (lo aB (((b_8.ext (V.t F)).vN G).ext bw) (a5 k1.s k1.A k1.n k1.c) J J J (lo aB (((b_11.ext (V.t F)).vN G).ext bw) (a5 f.s f.A f.n f.c) J J J (aA (a9 k1.s k1.A k1.n k1.c f.s f.A f.n f.c) J ?_)))))))));have ez:=(((b_4.ext (V.t F)).vN G).ext bw);refine so bJ ez [.bool k1.s,up k1.A k1.n k1.c,.bool f.s,up f.A f.n f.c] E gy J J J J fun _ ki jm aw=>(aE 1 J (bA (aZ [a9 k1.s k1.A k1.n k1.c f.s f.A f.n f.c,I0] J ⟨⟨_,rfl,bK bJ ki [.bool k1.s,up k1.A k1.n k1.c,.bool f.s,up f.A f.n f.c] J (bq J) rfl⟩,rfl,xl⟩ ?_)));exact⟨_,rfl,⟨_,_,rfl,⟨_,_,_,_,_,_,_,_,rfl,(((((ba.ext (V.t F)).updT ab G).ext bw).updT ez jm)).cast (by rw [hE.1]),(((((ah.ext (V.t F)).updT ab G).ext bw).updT ez jm)).cast (by rw [hE.2.1])⟩,(show (no 0:aF)=_ by rw [hE.2.2])⟩,aw⟩
  have hE:=KR bu hS kk kn kd (by revert hb;cases ck <;> cases cy <;> cases cu <;> decide);refine cF (dM (aL (bC J (sr (aA (.agg #[F0,S0,F0,S0]) J ?_)))));refine so bJ (((b_4.ext (V.t F)).vN G).ext bw) [F0,S0,F0,S0] E gy J J J J fun jd lm _ aw=>(aE 1 J (bA (cI (aZ [.agg #[F0,S0,F0,S0],no 6] J ⟨⟨_,rfl,bK bJ lm [F0,S0,F0,S0] J (bq J) rfl⟩,rfl,xl⟩ ?_))));exact⟨_,rfl,⟨_,_,rfl,⟨_,_,_,_,_,_,_,_,rfl,((Zr.zero (w:=jd) (base:=w.heap.size))).cast (by rw [hE.1]),((Zr.zero (w:=jd) (base:=w.heap.size))).cast (by rw [hE.2.1])⟩,(show (no 6:aF)=_ by rw [hE.2.2])⟩,aw⟩
 have hE:=KT (r:=r) bu;refine bH (lo aB (fb.ext eg) (a5 sb Ab nb cb) J J J (aX bi (gR (hm.ext bi) (aJ lb J)) J ?_));rintro _ _ rfl mx aa;refine aH J (JN i9) (aG (bC J (sr (aA (.agg #[F0,S0,F0,S0]) J ?_))));refine so bJ (ia.ext mx) [F0,S0,F0,S0] aa gy J J J J fun iq kv _ E=>(aE 1 J (bA (cI (aZ [.agg #[F0,S0,F0,S0],no 3] J ⟨⟨_,rfl,bK bJ kv [F0,S0,F0,S0] J (bq J) rfl⟩,rfl,xl⟩ ?_))));exact⟨_,rfl,⟨_,_,rfl,⟨_,_,_,_,_,_,_,_,rfl,((Zr.zero (w:=iq) (base:=w.heap.size))).cast (by rw [hE.1]),((Zr.zero (w:=iq) (base:=w.heap.size))).cast (by rw [hE.2.1])⟩,(show (no 3:aF)=_ by rw [hE.2.2])⟩,E⟩
end
section
open Go.RowKit
open Classical in
noncomputable def rV (bs:List Nat):Int:=if fH 10 (gD bs) then pJ bs else 0
open Classical in
noncomputable def rE (bs:List Nat):Int:=if fH 10 (gD bs) then 0 else 7
theorem J0 (h:bs.take 1= [c]):0<bs.length∧bs.getD 0 0=c:=by
 cases bs with
 | nil=>cases h
 | cons x r=>simp at h;exact⟨by simp,h⟩
theorem TQ {a:Nat}(h:bs.take 3= [a,b,c]):3≤bs.length∧bs.getD 0 0=a∧bs.getD 1 0=b∧bs.getD 2 0=c:=by
 match bs,h with
 | [],h=>cases h
 | [_],h=>cases h
 | [_,_],h=>cases h
 | x::y::z::r,h=>simp at h;exact⟨by simp,h.1,h.2.1,h.2.2⟩
theorem IZ (h:bs.length>0)(e:bs.getD 0 0=c):bs.take 1= [c]:=by
 cases bs with
 | nil=>simp at h
 | cons x r=>simp at e;simp [e]
theorem IY {a:Nat}(h:bs.length>2)(e0:bs.getD 0 0=a)(e1:bs.getD 1 0=b)(e2:bs.getD 2 0=c):bs.take 3= [a,b,c]:=by
 match bs,h with
 | [],h=>simp at h
 | [_],h=>simp at h
 | [_,_],h=>simp at h
 | x::y::z::r,h=>simp at e0 e1 e2;simp [e0,e1,e2]
theorem a07 (hbs:∀b,b∈bs→b<256)(hlen:bs.length≤1048576):aQ aM 67 #[.string (aN bs)] w (Gv w (T2 (ZR w.heap.size (rV bs)) (Is (no (rE bs))))):=by
 refine bU Tryz.func67 55 J (sr (nI [F0,S0] bN J fun g1 M E am _ o=>(aE 1 J (sr (aE 1 J (sr (aE 1 J (tZ (T:=a6×Bool×Nat) (fun⟨wr,ng,pa⟩=> [(0,.string (aN bs)),(2,i5 g1 0),(4,.bool ng),(5,no pa)]) (fun⟨wr,ng,pa⟩=>wr) (fun⟨wr,ng,pa⟩=>(Ext w wr)∧(jV bs=ng)∧(gD bs=bs.drop pa)∧(pa≤bs.length)∧(Bk wr g1 24 [F0,S0])) ?_ ?_))))))))
 ·refine aD ?_;by_cases F:bs.take 1= [43]
  ·have f:gD bs=bs.drop 1:=by unfold gD;rw [if_pos F]
   have h:jV bs=false:=by unfold jV;rw [if_pos F]
   obtain⟨h0l,h0v⟩:=J0 F;refine aK 1 J (eQ J J (v:= no ((aN bs).size:Nat)) (v':= no (bs.length:Nat)) (by rw [eJ]) (aH J (gB bs.length 0 J) (mv 2 J (fF (bs:=bs) (i:=0) J J J Tryz.underlying9 hbs (aH J (gZ (bs.getD 0 0) 43 J) (mv 4 J (aA (we) J (aA (we) J (aG (bC J (aV 1 J ?_)))))))))));refine fF (bs:=bs) (i:=0) J J J Tryz.underlying9 hbs (aH J (hJ (bs.getD 0 0) 45 J) (aE 1 J (bH (bS 1 J (eO (⟨M,false,1⟩:a6×Bool×Nat) ⟨o,h,f,i9,E⟩ J (aP J))))))
  by_cases G:bs.take 1= [45]
  ·have f:gD bs=bs.drop 1:=by unfold gD;rw [if_neg F,if_pos G]
   have h:jV bs=true:=by unfold jV;rw [if_neg F,if_pos G]
   obtain⟨h0l,h0v⟩:=J0 G;refine aK 1 J (eQ J J (v:= no ((aN bs).size:Nat)) (v':= no (bs.length:Nat)) (by rw [eJ]) (aH J (gB bs.length 0 J) (mv 2 J (fF (bs:=bs) (i:=0) J J J Tryz.underlying9 hbs (aH J (hJ (bs.getD 0 0) 43 J) (mv 2 J (fF (bs:=bs) (i:=0) J J J Tryz.underlying9 hbs (aH J (gZ (bs.getD 0 0) 45 J) (aA (we) J (aA (we) J (aG (bC J ?_))))))))))));refine aV 1 J (fF (bs:=bs) (i:=0) J J J Tryz.underlying9 hbs (aH J (gZ (bs.getD 0 0) 45 J) (aE 1 J (bH (bS 1 J (eO (⟨M,true,1⟩:a6×Bool×Nat) ⟨o,h,f,i9,E⟩ J (aP J)))))))
  by_cases H:bs.take 3= [226,136,146]
  ·have f:gD bs=bs.drop 3:=by unfold gD;rw [if_neg F,if_neg G,if_pos H]
   have h:jV bs=true:=by unfold jV;rw [if_neg F,if_neg G,if_pos H]
   obtain⟨h3l,h0v,h1v,h2v⟩:=TQ H;refine aK 1 J (eQ J J (v:= no ((aN bs).size:Nat)) (v':= no (bs.length:Nat)) (by rw [eJ]) (aH J (gB bs.length 0 J) (mv 2 J (fF (bs:=bs) (i:=0) J J J Tryz.underlying9 hbs (aH J (hJ (bs.getD 0 0) 43 J) (mv 2 J (fF (bs:=bs) (i:=0) J J J Tryz.underlying9 hbs (aH J (hJ (bs.getD 0 0) 45 J) (aA (wk) J (aA (wk) J (aG (aT J ?_))))))))))));refine aV 1 J (eQ J J (v:= no ((aN bs).size:Nat)) (v':= no (bs.length:Nat)) (by rw [eJ]) (aH J (gB bs.length 2 J) (mv 2 J (fF (bs:=bs) (i:=0) J J J Tryz.underlying9 hbs (aH J (gZ (bs.getD 0 0) 226 J) (aA (we) J (mv 2 J (fF (bs:=bs) (i:=1) J J J Tryz.underlying9 hbs (aH J (gZ (bs.getD 1 0) 136 J) (aA (we) J (mv 2 J (fF (bs:=bs) (i:=2) J J J Tryz.underlying9 hbs ?_))))))))))));refine aH J (gZ (bs.getD 2 0) 146 J) (aA (we) J (aG (bC J (sr (aE 1 J (bH (bS 1 J (eO (⟨M,true,3⟩:a6×Bool×Nat) ⟨o,h,f,i9,E⟩ J (aP J)))))))))
  have f:gD bs=bs.drop 0:=by unfold gD;rw [if_neg F,if_neg G,if_neg H];rfl
  have h:jV bs=false:=by unfold jV;rw [if_neg F,if_neg G,if_neg H]
  by_cases ag:bs.length>0
  ·have bw:bs.getD 0 0≠43:=fun e=>F (IZ ag e);have bp:bs.getD 0 0≠45:=fun e=>G (IZ ag e);refine aK 1 J (eQ J J (v:= no ((aN bs).size:Nat)) (v':= no (bs.length:Nat)) (by rw [eJ]) (aH J (gB bs.length 0 J) (mv 2 J (fF (bs:=bs) (i:=0) J J J Tryz.underlying9 hbs (aH J (hJ (bs.getD 0 0) 43 J) (mv 2 J (fF (bs:=bs) (i:=0) J J J Tryz.underlying9 hbs (aH J (hJ (bs.getD 0 0) 45 J) (aA (wk) J (aA (wk) J (aG (aT J ?_))))))))))));refine aD ?_;by_cases Y:bs.length>2
   ·by_cases I:bs.getD 0 0=226
    ·by_cases L:bs.getD 1 0=136
     ·have h2n:bs.getD 2 0≠146:=fun e=>H (IY Y I L e);refine aK 1 J (eQ J J (v:= no ((aN bs).size:Nat)) (v':= no (bs.length:Nat)) (by rw [eJ]) (aH J (gB bs.length 2 J) (mv 2 J (fF (bs:=bs) (i:=0) J J J Tryz.underlying9 hbs (aH J (gZ (bs.getD 0 0) 226 J) (aA (we) J (mv 2 J (fF (bs:=bs) (i:=1) J J J Tryz.underlying9 hbs (aH J (gZ (bs.getD 1 0) 136 J) (aA (we) J (mv 2 J (fF (bs:=bs) (i:=2) J J J Tryz.underlying9 hbs ?_))))))))))));refine aH J (hJ (bs.getD 2 0) 146 J) (aA (wk) J (aG (aT J (bB (eO (⟨M,false,0⟩:a6×Bool×Nat) ⟨o,h,f,i9,E⟩ J (aP J))))))
     refine aK 1 J (eQ J J (v:= no ((aN bs).size:Nat)) (v':= no (bs.length:Nat)) (by rw [eJ]) (aH J (gB bs.length 2 J) (mv 2 J (fF (bs:=bs) (i:=0) J J J Tryz.underlying9 hbs (aH J (gZ (bs.getD 0 0) 226 J) (aA (we) J (mv 2 J (fF (bs:=bs) (i:=1) J J J Tryz.underlying9 hbs (aH J (hJ (bs.getD 1 0) 136 J) (aA (wk) J (mv 4 J (aA (wk) J ?_))))))))))));refine aG (aT J (bB (eO (⟨M,false,0⟩:a6×Bool×Nat) ⟨o,h,f,i9,E⟩ J (aP J))))
    refine aK 1 J (eQ J J (v:= no ((aN bs).size:Nat)) (v':= no (bs.length:Nat)) (by rw [eJ]) (aH J (gB bs.length 2 J) (mv 2 J (fF (bs:=bs) (i:=0) J J J Tryz.underlying9 hbs (aH J (hJ (bs.getD 0 0) 226 J) (aA (wk) J (mv 4 J (aA (wk) J (mv 4 J (aA (wk) J (aG (aT J ?_))))))))))));refine bB (eO (⟨M,false,0⟩:a6×Bool×Nat) ⟨o,h,f,i9,E⟩ J (aP J))
   refine aK 1 J (eQ J J (v:= no ((aN bs).size:Nat)) (v':= no (bs.length:Nat)) (by rw [eJ]) (aH J (i7 bs.length 2 J) (mv 4 J (aA (wk) J (mv 4 J (aA (wk) J (mv 4 J (aA (wk) J (aG (aT J (bB (eO (⟨M,false,0⟩:a6×Bool×Nat) ⟨o,h,f,i9,E⟩ J (aP J)))))))))))))
  refine aK 1 J (eQ J J (v:= no ((aN bs).size:Nat)) (v':= no (bs.length:Nat)) (by rw [eJ]) (aH J (i7 bs.length 0 J) (mv 9 J (aA (wk) J (aG (aT J (aD ?_)))))));by_cases Y:bs.length>2
  ·by_cases I:bs.getD 0 0=226
   ·by_cases L:bs.getD 1 0=136
    ·have h2n:bs.getD 2 0≠146:=fun e=>H (IY Y I L e);refine aK 1 J (eQ J J (v:= no ((aN bs).size:Nat)) (v':= no (bs.length:Nat)) (by rw [eJ]) (aH J (gB bs.length 2 J) (mv 2 J (fF (bs:=bs) (i:=0) J J J Tryz.underlying9 hbs (aH J (gZ (bs.getD 0 0) 226 J) (aA (we) J (mv 2 J (fF (bs:=bs) (i:=1) J J J Tryz.underlying9 hbs (aH J (gZ (bs.getD 1 0) 136 J) (aA (we) J (mv 2 J (fF (bs:=bs) (i:=2) J J J Tryz.underlying9 hbs ?_))))))))))));refine aH J (hJ (bs.getD 2 0) 146 J) (aA (wk) J (aG (aT J (bB (eO (⟨M,false,0⟩:a6×Bool×Nat) ⟨o,h,f,i9,E⟩ J (aP J))))))
    refine aK 1 J (eQ J J (v:= no ((aN bs).size:Nat)) (v':= no (bs.length:Nat)) (by rw [eJ]) (aH J (gB bs.length 2 J) (mv 2 J (fF (bs:=bs) (i:=0) J J J Tryz.underlying9 hbs (aH J (gZ (bs.getD 0 0) 226 J) (aA (we) J (mv 2 J (fF (bs:=bs) (i:=1) J J J Tryz.underlying9 hbs (aH J (hJ (bs.getD 1 0) 136 J) (aA (wk) J (mv 4 J (aA (wk) J ?_))))))))))));refine aG (aT J (bB (eO (⟨M,false,0⟩:a6×Bool×Nat) ⟨o,h,f,i9,E⟩ J (aP J))))
   refine aK 1 J (eQ J J (v:= no ((aN bs).size:Nat)) (v':= no (bs.length:Nat)) (by rw [eJ]) (aH J (gB bs.length 2 J) (mv 2 J (fF (bs:=bs) (i:=0) J J J Tryz.underlying9 hbs (aH J (hJ (bs.getD 0 0) 226 J) (aA (wk) J (mv 4 J (aA (wk) J (mv 4 J (aA (wk) J (aG (aT J ?_))))))))))));refine bB (eO (⟨M,false,0⟩:a6×Bool×Nat) ⟨o,h,f,i9,E⟩ J (aP J))
  refine aK 1 J (eQ J J (v:= no ((aN bs).size:Nat)) (v':= no (bs.length:Nat)) (by rw [eJ]) (aH J (i7 bs.length 2 J) (mv 4 J (aA (wk) J (mv 4 J (aA (wk) J (mv 4 J (aA (wk) J (aG (aT J (bB (eO (⟨M,false,0⟩:a6×Bool×Nat) ⟨o,h,f,i9,E⟩ J (aP J)))))))))))))
 rintro⟨wr,ng,pa⟩ ⟨o,h,f,_,b_2⟩;refine aD ?_;have ak:∀b,b∈bs.drop pa→b<256:=fun b hb=>hbs b (List.mem_of_mem_drop hb);have aj:(bs.drop pa).length≤17179869184:=by rw [iK];omega
 by_cases hg:fH 10 (bs.drop pa)
 ·have ai:(wd (cZ 10 ((bs.drop pa).map dv))).length≤1048576:=a8 (qO (base:=10) hg.2) (by rw [iK];omega);refine aK 2 J (uO (bs:=bs) (i:=pa) J J J Tryz.underlying9 (bI [.string (aN (bs.drop pa))] o ((WO ak aj hg).mono (Gv.imp (T2.imp (WR.imp o.size) Is.imp))) J ?_));rintro _ _ ⟨_,_,rfl,⟨ah,ar,ao,rfl,bm,bd⟩,rfl⟩ e7 U;refine mv 1 J (aA (up ah ar ao) J (aA (no 0) J (aE 2 J (aD (aV 1 J (fP J J J false (aG (aT J (bB (aL (aD ?_)))))))))));refine aK 2 J ?_;have br:ln (sg ng (cZ 10 ((bs.drop pa).map dv)))≤1048576:=by rw [kC];exact ai
  refine bI (a5 ng ah ar ao) U (l8 U.size bd.wi (by rw [bm];exact a8 ai yd)) J ?_;rintro _ _ ⟨aa,X,ae,ab,rfl,av⟩ aw Z;have W:=(b_2.ext (e7.t aw));refine so aB W (a5 aa X ae ab) Z am J J J J fun _ aq bh bj=>(aE 1 J (bA (aZ [O aa X ae ab,I0] J ⟨⟨_,rfl,bK aB aq (a5 aa X ae ab) J (bq J) rfl⟩,rfl,xl⟩ ?_)));have hV:rV bs=sg ng (cZ 10 ((bs.drop pa).map dv)):=by unfold rV;rw [f,if_pos hg,pJ,h,f];cases ng <;> rfl
  have hE:rE bs=0:=by unfold rE;rw [f,if_pos hg]
  exact⟨_,rfl,⟨_,_,rfl,⟨_,_,_,_,rfl,((av.updT W bh)).cast hV.symm⟩,(show eL .i64 (0)=_ by rw [hE])⟩,bj⟩
 refine aK 2 J (uO (bs:=bs) (i:=pa) J J J Tryz.underlying9 (bI [.string (aN (bs.drop pa))] o (WP ak aj hg) J ?_));rintro _ bf ⟨_,_,rfl,rfl,rfl⟩ bg U;refine mv 1 J (aA (up none 0 0) J (aA (no 7) J (aE 2 J (aD (aV 1 J (fP J J J true (aG (bC J (sr (aA (.agg #[F0,S0]) J ?_))))))))));have V:=(b_2.ext bg);refine so aB V [F0,S0] U am J J J J fun _ au bi Z=>(aE 1 J (bA (cI (aZ [.agg #[F0,S0],no 7] J ⟨⟨_,rfl,bK aB au [F0,S0] J (bq J) rfl⟩,rfl,xl⟩ ?_))));have hV:rV bs=0:=by unfold rV;rw [f,if_neg hg]
 have hE:rE bs=7:=by unfold rE;rw [f,if_neg hg]
 exact⟨_,rfl,⟨_,_,rfl,⟨_,_,_,_,rfl,(((Zr.zero (w:=bf) (base:=w.heap.size)).updT V bi)).cast hV.symm⟩,(show eL .i64 (7)=_ by rw [hE])⟩,Z⟩
theorem FK (hb:b≤w.heap.size)(hbs:∀b,b∈bs→b<256)(hlen:bs.length≤1048576):aQ aM 67 #[.string (aN bs)] w (Gv w (T2 (ZR b (rV bs)) (Is (no (rE bs))))):=(a07 hbs hlen).mono (Gv.imp (T2.imp (ZR.imp hb) Is.imp))
end
section
open Go.RowKit
def eD (n m:Nat):Int:=if n=m then 0 else 2
theorem vK (h:bs.length≤1048576):ln (rV bs)≤1048576:=by
 unfold rV;split
 ·rename_i hg
  have h1:(wd (cZ 10 ((gD bs).map dv))).length≤1048576:=by
   refine a8 (qO (base:=10) hg.2) (a8 ?_ h)
   unfold gD
   split
   ·rw [iK];omega
   ·split
    ·rw [iK];omega
    ·split
     ·rw [iK];omega
     ·exact aU _
  unfold pJ;split
  ·rw [gQ,oW];exact h1
  rw [oW];exact h1
 exact bX _
theorem NN (hb:b≤w.heap.size)(hbs:∀b,b∈bs→b<256)(hlen:bs.length≤1048576):aQ aM 81 #[.string (aN bs)] w (Gv w (T2 (ZR b (rV bs)) (Is (no (rE bs))))):=by
 by_cases hg:fH 10 (gD bs)
 ·simp only [rV,rE,if_pos hg];exact VE hb hbs (a8 hlen yd) J hg rfl
 simp only [rV,rE,if_neg hg];refine (VD hbs (a8 hlen yd) J hg).mono (Gv.imp (T2.imp ?_ Is.imp));rintro v w' rfl;exact⟨_,_,_,_,rfl,Zr.zero⟩
theorem L4 (a:List Nat):rE a=0∨rE a=7:=by unfold rE;split <;> simp
theorem a2I {b:List Nat}(ha:∀x,x∈a→x<256∧x≠47)(h:i<a.length):(a++47::b).getD i 0≠47:=by
 rw [bL,List.getElem?_append_left h,cT h];exact (ha _ (oG h)).2
theorem a2H (ha:∀x,x∈a→x<256∧x≠47)(h:i<a.length):a.getD i 0≠47:=by
 rw [bL,cT h];exact (ha _ (oG h)).2
theorem a2J (a b:List Nat):(a++47::b).getD a.length 0=47:=by
 rw [bL,List.getElem?_append_right (aU _),Nat.sub_self];rfl
theorem a2K (a b:List Nat):(a++47::b).drop (a.length+1)=b:=by
 rw [show a++47::b=(a++ [47])++b by simp,show a.length+1=(a++ [47]).length by simp,List.drop_left]
theorem a2L {b:List Nat}(ha:∀x,x∈a→x<256∧x≠47)(hb:∀x,x∈b→x<256):∀x,x∈a++47::b→x<256:=by
 intro x hx;rcases m5.1 hx with h | h
 ·exact (ha x h).1
 rcases qA.1 h with h | h
 ·rw [h];decide
 exact hb x h
theorem OH (hb:b≤w.heap.size){t:List Nat}(ht:t=bs)(hbs:∀b,b∈bs→b<256)(hlen:bs.length≤1048576):aQ aM 67 #[.string (aN t)] w (Gv w (T2 (ZR b (rV bs)) (Is (no (rE bs))))):=by subst ht;exact FK hb hbs hlen
theorem HD {b:List Nat}(h0:b≠ [])(h:48≤b.getD 0 0∧b.getD 0 0≤57):gD b=b∧jV b=false:=by
 cases b with
 | nil=>exact absurd rfl h0
 | cons c r=>
  have hc:48≤c∧c≤57:=h
  constructor
  ·unfold gD
   have h1:¬(c::r).take 1= [43]:=fun e=>by simp at e;omega
   have h2:¬(c::r).take 1= [45]:=fun e=>by simp at e;omega
   have f:¬(c::r).take 3= [226,136,146]:=fun e=>by simp at e;omega
   rw [if_neg h1,if_neg h2,if_neg f]
  ·unfold jV
   have h1:¬(c::r).take 1= [43]:=fun e=>by simp at e;omega
   have h2:¬(c::r).take 1= [45]:=fun e=>by simp at e;omega
   have f:¬(c::r).take 3= [226,136,146]:=fun e=>by simp at e;omega
   rw [if_neg h1,if_neg h2,if_neg f]
theorem L3 {b:List Nat}(h0:b≠ [])(h:48≤b.getD 0 0∧b.getD 0 0≤57)(hg:fH 10 b):rE b=0∧rV b=((cZ 10 (b.map dv):Nat):Int):=by
 obtain⟨h1,h2⟩:=HD h0 h;unfold rE rV pJ;rw [h1,h2,if_pos hg,if_pos hg,if_neg yd];exact⟨rfl,rfl⟩
theorem XE {b:List Nat}(h0:b≠ [])(h:48≤b.getD 0 0∧b.getD 0 0≤57)(hg:¬fH 10 b):rE b=7:=by
 obtain⟨h1,h2⟩:=HD h0 h;unfold rE;rw [h1,if_neg hg]
theorem a17 (h:dv c<10):48≤c∧c≤57:=by
 unfold dv at h;split at h
 ·assumption
 split at h
 ·omega
 split at h <;> omega
theorem L8 (hb00:b00≤w.heap.size)(ha:∀x,x∈a→x<256∧x≠47)(hla:a.length≤1048576){N:Int}(hbad:¬rE a=0→N=0∧D=0∧e=7)(hok:rE a=0→N=bW (rV a) 1∧D=cD (rV a) 1∧e=bR 1):aQ aM 27 #[.string (aN a)] w (Gv w (T2 (FR b00 N D) (Is (no e)))):=by
 have cz:∀x,x∈a→x<256:=fun x hx=>(ha x hx).1;refine bU Tryz.func27 73 J (sr (nI [F0,S0,F0,S0] bN J fun g1 v2 dy bm _ o=>(aE 1 J (aV 1 J (eQ J J (v:= no ((aN a).size:Nat)) (v':= no (a.length:Nat)) (by rw [eJ]) (aE 1 J (aD (aV 1 J ?_))))))));refine aG (bO ?_);refine dC (T:=a6×Nat) (fun⟨wr,i⟩=> [(0,.string (aN a)),(2,i5 g1 0),(4,no (a.length:Nat)),(5,no i)]) (fun⟨wr,i⟩=>wr) (fun⟨wr,i⟩=>(Ext w wr)∧(Bk wr g1 26 [F0,S0,F0,S0])∧(i≤a.length)) (fun⟨wr,i⟩=>a.length-i) (⟨v2,0⟩:a6×Nat) ⟨o,dy,(bX _)⟩ J (aP J) ?_;rintro⟨wr,i⟩ ⟨o,G,hi⟩;refine aD (aD ?_);by_cases dl:i<a.length
 ·refine aK 2 J (eQ J J (v:= no ((aN a).size:Nat)) (v':= no (a.length:Nat)) (by rw [eJ]) (aH J (dV i a.length J) (aG (bC J (bB (aL (aD (bO (aD ?_)))))))));have eh:=a2H ha dl;refine aK 2 J (fF (bs:=a) (i:=i) J J J Tryz.underlying9 cz (aH J (hJ (a.getD i 0) 47 J) (aG (aT J (bB (bT (aL (aK 1 J (bD J (cK i 1 J) (bS 1 J ?_))))))))));refine cP (⟨wr,i+1⟩:a6×Nat) ⟨o,G,i9⟩ (show a.length-(i+1)<a.length-i by omega) J (aP J)
 have eg:i=a.length:=by omega
 refine aK 2 J (eQ J J (v:= no ((aN a).size:Nat)) (v':= no (a.length:Nat)) (by rw [eJ]) (aH J (dQ i a.length J) (aG (aT J (d9 (cY (d7 (d8 (aL (aD ?_))))))))));have dg:(a).take a.length=a:=by exact List.take_of_length_le (aU _)
 refine aK 2 J (wU (bs:=a) (i:=a.length) J J J Tryz.underlying9 (bI [.string (aN (a.take a.length))] o (OH o.size dg (fun b hb=>(ha b hb).1) i9) J ?_));rintro _ _ ⟨_,_,rfl,⟨F,I,L,M,rfl,aw⟩,rfl⟩ e7 dt;refine mv 1 J (aA (O F I L M) J (aA (no (rE a)) J (bV [F0,S0] dt (G.ext e7).lt J fun _ _ V bh _ am df=>(so aB V (a5 F I L M) df bh J J J J fun _ br ah H=>(aE 1 J (aD (aD ?_)))))));by_cases he:rE a=0
 ·refine aK 1 J (aH J (pP he) (aG (aT J (bB (aL (aD (aV 2 J (eQ J J (v:= no ((aN a).size:Nat)) (v':= no (a.length:Nat)) (by rw [eJ]) (aH J (gZ a.length a.length J) (aG (bC J ?_)))))))))));refine aD ?_;refine dW cM 5 [3,4] [Is (O F I L M),ZR w.heap.size (1),T2 (FR w.heap.size (bW (rV a) 1) (cD (rV a) 1)) (Is (no (bR 1))),fun v' w'=>∃s0 A0 n0 c0 s1 A1 n1 c1,v'= a9 s0 A0 n0 c0 s1 A1 n1 c1∧Zr w' w.heap.size s0 A0 n0 c0 (bW (rV a) 1)∧Zr w' w.heap.size s1 A1 n1 c1 (cD (rV a) 1),Is (no (bR 1))] [[],[],[0,1],[2],[2]] rfl (cG J ?_ (cG J ?_ (cG J ?_ (gL J J (gM J ?_) (gL J J (gM J ?_) dN))))) ?_
  ·exact fun _ cp=>aC (lo aB (br.ext cp) (a5 F I L M) J J J (aI J))
  ·intro _ dm;have f:=H.trans dm;refine aC (bI [no 1] f (nF (n:=1) f.size) J ?_);rintro _ _ ⟨_,_,_,_,rfl,de⟩ cv ao;exact bQ J cv ⟨_,_,_,_,rfl,de⟩
  ·intro _ bg;have f:=H.trans bg;refine aO J (aW J ?_);rintro _ _ ⟨_,_,_,_,rfl,E⟩ _ ee;have E:=E.ext ee;refine aC (aX f (rL f.size (((aw.ext am).updT V ah).ext bg).zi (aw.le (a8 (vK hla) yd)) E.zi (E.le (a8 (show ln 1≤1 by decide+kernel) yd))) J ?_);rintro _ _ ⟨_,_,rfl,⟨_,_,_,_,_,_,_,_,rfl,da,bw⟩,rfl⟩ ci ao;exact bQ J ci ⟨_,_,rfl,⟨_,_,_,_,_,_,_,_,rfl,da,bw⟩,rfl⟩
  ·intro _ _;refine aW J ?_;rintro _ _ ⟨_,_,rfl,⟨ch,dh,dw,dz,cj,dx,du,ct,rfl,aj,Z⟩,rfl⟩ _ bu;have aj:=aj.ext bu;have Z:=Z.ext bu;refine aC ?_;exact⟨a9 ch dh dw dz cj dx du ct,rfl,rfl,fun _=>by kernel_rfl,⟨_,_,_,_,_,_,_,_,rfl,aj,Z⟩⟩
  ·intro _ _;refine aW J ?_;rintro _ _ ⟨_,_,rfl,⟨_,_,_,_,_,_,_,_,rfl,bf,av⟩,rfl⟩ _ ba;have bf:=bf.ext ba;have av:=av.ext ba;refine aC ?_;exact⟨no (bR 1),rfl,rfl,fun _=>by kernel_rfl,rfl⟩
  intro _ bp;have f:=H.trans bp;refine aO J (aW J ?_);rintro _ _ ⟨_,_,_,_,rfl,bo⟩ _ dr;have bo:=bo.ext dr;refine aW J ?_;rintro _ _ ⟨_,_,rfl,⟨_,_,_,_,_,_,_,_,rfl,az,bd⟩,rfl⟩ _ bi;have az:=az.ext bi;have bd:=bd.ext bi;refine aW J ?_;rintro _ _ ⟨ai,ag,ae,W,aa,Y,ak,ab,rfl,X,au⟩ _ bj;have X:=X.ext bj;have au:=au.ext bj;refine aO J (aC ?_);have h:=(((G.ext (e7.t am)).vN ah).ext bp);refine so bJ h [.bool ai,up ag ae W,.bool aa,up Y ak ab] f bm J J J J fun _ ar U ao=>(bS 1 J (dM (aL (bA (cI (aZ [a9 ai ag ae W aa Y ak ab,no (bR 1)] J ⟨⟨_,rfl,bK bJ ar [.bool ai,up ag ae W,.bool aa,up Y ak ab] J (bq J) rfl⟩,rfl,xl⟩ ?_))))));obtain⟨rfl,rfl,rfl⟩:=hok he;exact⟨_,rfl,⟨_,_,rfl,⟨_,_,_,_,_,_,_,_,rfl,((X.updT h U)).mono hb00,((au.updT h U)).mono hb00⟩,rfl⟩,ao⟩
 refine aK 1 J (aH J (pO he) (aG (bC J (sr (aA (.agg #[F0,S0,F0,S0]) J ?_)))));refine so bJ ((G.ext (e7.t am)).vN ah) [F0,S0,F0,S0] H bm J J J J fun _ aq _ f=>(aE 1 J (bA (cI (aZ [.agg #[F0,S0,F0,S0],no 7] J ⟨⟨_,rfl,bK bJ aq [F0,S0,F0,S0] J (bq J) rfl⟩,rfl,xl⟩ ?_))));obtain⟨rfl,rfl,rfl⟩:=hbad he;exact⟨_,rfl,⟨_,_,rfl,⟨_,_,_,_,_,_,_,_,rfl,Zr.zero,Zr.zero⟩,rfl⟩,f⟩
theorem L7 {b:List Nat}(hb00:b00≤w.heap.size)(ha:∀x,x∈a→x<256∧x≠47)(hla:a.length≤1048576)(hb:∀x,x∈b→x<256)(hlb:b.length≤1048576){N:Int}(hbad:¬(rE a=0∧(b≠ []∧(48≤b.getD 0 0∧b.getD 0 0≤57)∧fH 10 b))→N=0∧D=0∧e=7)(hok:rE a=0→(b≠ []∧(48≤b.getD 0 0∧b.getD 0 0≤57)∧fH 10 b)→N=bW (rV a) ((cZ 10 (b.map dv):Nat):Int)∧D=cD (rV a) ((cZ 10 (b.map dv):Nat):Int)∧e=bR ((cZ 10 (b.map dv):Nat):Int)):aQ aM 27 #[.string (aN (a++47::b))] w (Gv w (T2 (FR b00 N D) (Is (no e)))):=by
 have fa:(a++47::b).length=a.length+1+b.length:=by simp;omega
 have ci:=a2L ha hb;refine bU Tryz.func27 73 J (sr (nI [F0,S0,F0,S0] bN J fun g1 v2 ef L _ aa=>(aE 1 J (aV 1 J (eQ J J (v:= no ((aN (a++47::b)).size:Nat)) (v':= no ((a++47::b).length:Nat)) (by rw [eJ]) (aE 1 J (aD (aV 1 J ?_))))))));refine aG (bO ?_);refine dC (T:=a6×Nat) (fun⟨wr,i⟩=> [(0,.string (aN (a++47::b))),(2,i5 g1 0),(4,no ((a++47::b).length:Nat)),(5,no i)]) (fun⟨wr,i⟩=>wr) (fun⟨wr,i⟩=>(Ext w wr)∧(Bk wr g1 26 [F0,S0,F0,S0])∧(i≤a.length)) (fun⟨wr,i⟩=>a.length-i) (⟨v2,0⟩:a6×Nat) ⟨aa,ef,(bX _)⟩ J (aP J) ?_;rintro⟨wr,i⟩ ⟨aa,E,hi⟩;refine aD (aV 2 J (eQ J J (v:= no ((aN (a++47::b)).size:Nat)) (v':= no ((a++47::b).length:Nat)) (by rw [eJ]) (aH J (dV i ((a++47::b).length) J) (aG (bC J (bB (aL (aD (bO (aD ?_))))))))));by_cases eg:i<a.length
 ·have fb:=a2I (b:=b) ha eg;refine aK 2 J (fF (bs:=a++47::b) (i:=i) J J J Tryz.underlying9 ci (aH J (hJ ((a++47::b).getD i 0) 47 J) (aG (aT J (bB (bT (aL (aK 1 J (bD J (cK i 1 J) (bS 1 J ?_))))))))));refine cP (⟨wr,i+1⟩:a6×Nat) ⟨aa,E,i9⟩ (show a.length-(i+1)<a.length-i by omega) J (aP J)
 have az:i=a.length:=by omega
 have ez:(a++47::b).getD i 0=47:=by rw [az];exact a2J a b
 refine aK 2 J (fF (bs:=a++47::b) (i:=i) J J J Tryz.underlying9 ci (aH J (gZ ((a++47::b).getD i 0) 47 J) (aG (bC J (sr (aE 2 J (d9 (BQ (cY (d7 (d8 ?_)))))))))));refine aL (aD ?_);have dz:(a++47::b).take i=a:=by rw [az,List.take_left]
 refine aK 2 J (wU (bs:=a++47::b) (i:=i) J J J Tryz.underlying9 (bI [.string (aN ((a++47::b).take i))] aa (OH aa.size dz (fun b hb=>(ha b hb).1) i9) J ?_));rintro _ _ ⟨_,_,rfl,⟨U,I,M,V,rfl,bp⟩,rfl⟩ e7 ej;refine mv 1 J (aA (O U I M V) J (aA (no (rE a)) J (bV [F0,S0] ej (E.ext e7).lt J fun dt _ av ch _ H dy=>(so aB av (a5 U I M V) dy ch J J J J fun _ X G F=>(aE 1 J (aD (aD ?_)))))));by_cases he:rE a=0
 ·refine aK 1 J (aH J (pP he) (aG (aT J (bB (aL (aD (aV 2 J (eQ J J (v:= no ((aN (a++47::b)).size:Nat)) (v':= no ((a++47::b).length:Nat)) (by rw [eJ]) (aH J (hJ i ((a++47::b).length) J) (aG (aT J ?_)))))))))));refine bB (aL (aV 2 J (bD J (cK i 1 J) (uO (bs:=a++47::b) (i:=i+1) J J J Tryz.underlying9 (aE 1 J (aD (aD ?_)))))));have ee:(a++47::b).drop (i+1)=b:=by rw [az];exact a2K a b
  refine f9 [(0,.string (aN (a++47::b))),(2,i5 g1 0),(4,no i),(5,no i),(13,no i),(14,.string (aN (a++47::b))),(15,no ((a++47::b).length:Nat)),(16,we),(19,.string (aN (a++47::b))),(20,no i),(21,.int .u8 (((a++47::b).getD i 0:Nat):Int)),(22,we),(23,no i),(25,.string (aN (a++47::b))),(26,no i),(27,.string (aN ((a++47::b).take i))),(28,.tuple #[O U I M V,no (rE a)]),(24,.tuple #[O U I M V,no (rE a)]),(29,O U I M V),(30,no (rE a)),(6,i5 dt 0),(7,no (rE a)),(31,no (rE a)),(32,wk),(34,no i),(35,.string (aN (a++47::b))),(36,no ((a++47::b).length:Nat)),(37,wk),(43,.string (aN (a++47::b))),(44,no i),(45,no (i+1:Nat)),(46,.string (aN ((a++47::b).drop (i+1)))),(8,.string (aN ((a++47::b).drop (i+1))))] (aP J) ?_;rw [ee];by_cases f:b= []
  ·refine aK 1 J (pK (a:=b) (b:= []) J J J hb true (zS (f)) (mv 4 J (aA (we) J (mv 4 J (aA (we) J (aG (bC J (sr (aA (.agg #[F0,S0,F0,S0]) J ?_)))))))));refine so bJ ((E.ext (e7.t H)).vN G) [F0,S0,F0,S0] F L J J J J fun _ dh _ o=>(aE 1 J (bA (cI (aZ [.agg #[F0,S0,F0,S0],no 7] J ⟨⟨_,rfl,bK bJ dh [F0,S0,F0,S0] J (bq J) rfl⟩,rfl,xl⟩ ?_))));obtain⟨rfl,rfl,rfl⟩:=hbad (fun h=>h.2.1 f);exact⟨_,rfl,⟨_,_,rfl,⟨_,_,_,_,_,_,_,_,rfl,Zr.zero,Zr.zero⟩,rfl⟩,o⟩
  by_cases en:b.getD 0 0<48
  ·have au:0<b.length:=List.length_pos_iff.2 f;refine aK 1 J (pK (a:=b) (b:= []) J J J hb false (uU (f)) (mv 2 J (fF (bs:=b) (i:=0) J J J Tryz.underlying9 hb (aH J (dV (b.getD 0 0) 48 J) (aA (we) J (mv 4 J (aA (we) J (aG (bC J (sr (aA (.agg #[F0,S0,F0,S0]) J ?_)))))))))));refine so bJ ((E.ext (e7.t H)).vN G) [F0,S0,F0,S0] F L J J J J fun _ cv _ o=>(aE 1 J (bA (cI (aZ [.agg #[F0,S0,F0,S0],no 7] J ⟨⟨_,rfl,bK bJ cv [F0,S0,F0,S0] J (bq J) rfl⟩,rfl,xl⟩ ?_))));obtain⟨rfl,rfl,rfl⟩:=hbad (fun h=>by have:=h.2.2.1.1;omega);exact⟨_,rfl,⟨_,_,rfl,⟨_,_,_,_,_,_,_,_,rfl,Zr.zero,Zr.zero⟩,rfl⟩,o⟩
  by_cases ey:b.getD 0 0>57
  ·have au:0<b.length:=List.length_pos_iff.2 f;refine aK 1 J (pK (a:=b) (b:= []) J J J hb false (uU (f)) (mv 2 J (fF (bs:=b) (i:=0) J J J Tryz.underlying9 hb (aH J (dQ (b.getD 0 0) 48 J) (aA (wk) J (mv 2 J (fF (bs:=b) (i:=0) J J J Tryz.underlying9 hb (aH J (gB (b.getD 0 0) 57 J) (aA (we) J (aG (bC J (aD ?_))))))))))));refine bH (aA (.agg #[F0,S0,F0,S0]) J ?_);refine so bJ ((E.ext (e7.t H)).vN G) [F0,S0,F0,S0] F L J J J J fun _ bu _ o=>(aE 1 J (bA (cI (aZ [.agg #[F0,S0,F0,S0],no 7] J ⟨⟨_,rfl,bK bJ bu [F0,S0,F0,S0] J (bq J) rfl⟩,rfl,xl⟩ ?_))));obtain⟨rfl,rfl,rfl⟩:=hbad (fun h=>by have:=h.2.2.1.2;omega);exact⟨_,rfl,⟨_,_,rfl,⟨_,_,_,_,_,_,_,_,rfl,Zr.zero,Zr.zero⟩,rfl⟩,o⟩
  have hd:48≤b.getD 0 0∧b.getD 0 0≤57:=⟨by omega,by omega⟩;have au:0<b.length:=List.length_pos_iff.2 f;refine aK 1 J (pK (a:=b) (b:= []) J J J hb false (uU (f)) (mv 2 J (fF (bs:=b) (i:=0) J J J Tryz.underlying9 hb (aH J (dQ (b.getD 0 0) 48 J) (aA (wk) J (mv 2 J (fF (bs:=b) (i:=0) J J J Tryz.underlying9 hb (aH J (i7 (b.getD 0 0) 57 J) (aA (wk) J (aG (aT J (bB ?_))))))))))));refine aL (aD ?_);by_cases hg:fH 10 b
  ·have eh:ln ((cZ 10 (b.map dv):Nat):Int)≤1048576:=by rw [oW];exact a8 (qO (base:=10) hg.2) hlb
   refine aK 1 J (dP [.string (aN b)] (by have h:=FK (b:=w.heap.size) F.size hb hlb;rw [(L3 f hd hg).1,(L3 f hd hg).2] at h;exact h) J ?_);rintro _ _ ⟨_,rfl,ei,Y⟩;refine dO ?_;have o:=F.trans Y;obtain⟨_,_,rfl,⟨bd,aw,bj,bh,rfl,cz⟩,rfl⟩:=ei;refine mv 1 J (aA (O bd aw bj bh) J (aA (no 0) J (bV [F0,S0] o (X.ext Y).lt J fun _ _ Z df _ ai bi=>(so aB Z (a5 bd aw bj bh) bi df J J J J fun _ bo ag ar=>(aE 1 J (aD (aV 1 J (fP J J J false (aG (aT J (bB ?_)))))))))));refine aL (sr (lo aB ((X.ext (Y.t ai)).vN ag) (a5 U I M V) J J J (lo aB bo (a5 bd aw bj bh) J J J (aX ar (rL ar.size ((((bp.ext H).updT av G).ext (Y.t ai)).updT Z ag).zi (bp.le (a8 (vK hla) yd)) ((cz.ext ai).updT Z ag).zi (cz.le (aJ eh J))) J ?_))));rintro _ _ ⟨_,_,rfl,⟨ae,ah,ak,aj,am,ab,ao,aq,rfl,dw,dx⟩,rfl⟩ du ba;refine aA (a9 ae ah ak aj am ab ao aq) J (aA (no (bR ((cZ 10 (b.map dv):Nat):Int))) J ?_);have W:=(((((E.ext (e7.t H)).vN G).ext (Y.t ai)).vN ag).ext du);refine so bJ W [.bool ae,up ah ak aj,.bool am,up ab ao aq] ba L J J J J fun _ da cm em=>(aE 1 J (bA (aZ [a9 ae ah ak aj am ab ao aq,no (bR ((cZ 10 (b.map dv):Nat):Int))] J ⟨⟨_,rfl,bK bJ da [.bool ae,up ah ak aj,.bool am,up ab ao aq] J (bq J) rfl⟩,rfl,xl⟩ ?_)));obtain⟨rfl,rfl,rfl⟩:=hok he ⟨f,hd,hg⟩;exact⟨_,rfl,⟨_,_,rfl,⟨_,_,_,_,_,_,_,_,rfl,((dw.updT W cm)).mono hb00,((dx.updT W cm)).mono hb00⟩,rfl⟩,em⟩
  refine aK 1 J (dP [.string (aN b)] (by have h:=FK (b:=w.heap.size) F.size hb hlb;rw [XE f hd hg] at h;exact h) J ?_);rintro _ _ ⟨_,rfl,dm,bf⟩;refine dO ?_;have o:=F.trans bf;obtain⟨_,_,rfl,⟨cp,bm,br,de,rfl,_⟩,rfl⟩:=dm;refine mv 1 J (aA (O cp bm br de) J (aA (no 7) J (bV [F0,S0] o (X.ext bf).lt J fun _ _ dg cj _ kD bi=>(so aB dg (a5 cp bm br de) bi cj J J J J fun _ _ el ar=>(aE 1 J (aD (aV 1 J (fP J J J true (aG (bC J (aD ?_)))))))))));refine bH (aA (.agg #[F0,S0,F0,S0]) J ?_);refine so bJ ((((E.ext (e7.t H)).vN G).ext (bf.t kD)).vN el) [F0,S0,F0,S0] ar L J J J J fun _ ct _ ba=>(aE 1 J (bA (cI (aZ [.agg #[F0,S0,F0,S0],no 7] J ⟨⟨_,rfl,bK bJ ct [F0,S0,F0,S0] J (bq J) rfl⟩,rfl,xl⟩ ?_))));obtain⟨rfl,rfl,rfl⟩:=hbad (fun h=>hg h.2.2.2);exact⟨_,rfl,⟨_,_,rfl,⟨_,_,_,_,_,_,_,_,rfl,Zr.zero,Zr.zero⟩,rfl⟩,ba⟩
 refine aK 1 J (aH J (pO he) (aG (bC J (sr (aA (.agg #[F0,S0,F0,S0]) J ?_)))));refine so bJ ((E.ext (e7.t H)).vN G) [F0,S0,F0,S0] F L J J J J fun _ bw _ o=>(aE 1 J (bA (cI (aZ [.agg #[F0,S0,F0,S0],no 7] J ⟨⟨_,rfl,bK bJ bw [F0,S0,F0,S0] J (bq J) rfl⟩,rfl,xl⟩ ?_))));obtain⟨rfl,rfl,rfl⟩:=hbad (fun h=>he h.1);exact⟨_,rfl,⟨_,_,rfl,⟨_,_,_,_,_,_,_,_,rfl,Zr.zero,Zr.zero⟩,rfl⟩,o⟩
theorem SP (m:Nat):(wd m).getD 0 0%2=m%2:=by
 have h:=dZ m;cases hw:wd m with
 | nil=>rw [hw] at h;rw [←h];rfl
 | cons a r=>
  rw [hw] at h
  have e:nv (a::r)=a+WB*nv r:=rfl
  rw [e] at h
  show a%2=m%2
  rw [dJ] at h
  omega
theorem a1Z {nd:Nat}(hx:Zi w sa Aa na ca x)(la:na≤1048576)(hy:Zi w sd Ad nd cd y)(ld:nd≤1048576):aQ aM 38 #[a9 sa Aa na ca sd Ad nd cd] w (Gv w (T2 (ZR w.heap.size (qF x y)) (Is (no (eZ y))))):=by
 have Lx:=bP hx la;have Ly:=bP hy ld;refine bU Tryz.func38 18 J (sr (bx [.bool sa,up Aa na ca,.bool sd,up Ad nd cd] bN J J J fun g1 _ V _ _ bd=>(bV [F0,S0] bd V.lt J fun _ _ ae aj _ e8 F=>(aE 1 J (sr (pf g1 0 J (lo aB (V.ext e8) (a5 sa Aa na ca) J J J (pf g1 2 J (lo aB (V.ext e8) (a5 sd Ad nd cd) J J J (aX F (NQ F.size (hx.ext F) (aJ la J) (hy.ext F) (aJ ld J)) J ?_))))))))));rintro _ _ ⟨_,_,_,rfl,⟨o,h,f,E,rfl,av⟩,⟨am,ag,ak,ai,rfl,_⟩,rfl⟩ Z au;refine mv 1 J (aA (O o h f E) J (aA (O am ag ak ai) J (aA (no (eZ y)) J (bV [F0,S0] au (ae.ext Z).lt J fun _ _ L X _ ah ba=>(bV [F0,S0] ba L.lt J fun _ _ ao aa _ U az=>?_)))));have H:=(L.ext U);refine so aB H (a5 o h f E) az X J J J J fun _ ab M aq=>?_;have I:=(ao.vN M);refine so aB I (a5 am ag ak ai) aq aa J J J J fun _ _ W bf=>(aE 1 J (sr (lo aB (ab.vN W) (a5 o h f E) J J J (mv 1 J ?_))));have G:=(((ae.ext (Z.t (ah.t U))).vN M).vN W);refine so aB G (a5 o h f E) bf aj J J J J fun _ Y aw ar=>(aE 1 J (bA (aZ [O o h f E,no (eZ y)] J ⟨⟨_,rfl,bK aB Y (a5 o h f E) J (bq J) rfl⟩,rfl,xl⟩ ?_)));exact⟨_,rfl,⟨_,_,rfl,⟨_,_,_,_,rfl,((((av.ext (ah.t U)).updT H M).updT I W).updT G aw)⟩,rfl⟩,ar⟩
theorem a1X {nd:Nat}(hx:Zi w sa Aa na ca x)(la:na≤1048576)(hy:Zi w sd Ad nd cd y)(ld:nd≤1048576)(h0:y=0):aQ aM 39 #[a9 sa Aa na ca sd Ad nd cd] w (Gv w (T2 (ZR w.heap.size 0) (Is (no 4)))):=by
 have Lx:=bP hx la;have Ly:=bP hy ld;refine bU Tryz.func39 63 J (sr (bx [.bool sa,up Aa na ca,.bool sd,up Ad nd cd] bN J J J fun g1 _ h _ _ aj=>(bV [F0,S0] aj h.lt J fun _ _ L X _ e8 f=>(aE 1 J (sr (pf g1 0 J (lo aB (h.ext e8) (a5 sa Aa na ca) J J J (pf g1 2 J (lo aB (h.ext e8) (a5 sd Ad nd cd) J J J (aX f (OT f.size (hx.ext f) (aJ la J) (hy.ext f) (aJ ld J) h0) J ?_))))))))));rintro _ _ ⟨_,_,rfl,⟨W,V,G,Z,U,H,F,M,rfl,_,_⟩,rfl⟩ I ag;refine mv 1 J (aA (a9 W V G Z U H F M) J (aA (no 4) J (bV [F0,S0,F0,S0] ag (L.ext I).lt J fun _ _ E Y _ ae ai=>(so bJ E [.bool W,up V G Z,.bool U,up H F M] ai Y J J J J fun _ _ ab ah=>(aE 1 J (aD (aV 1 J (fP J J J true (aG (bC J (aD ?_)))))))))));refine bH (aA (.agg #[F0,S0]) J (mv 1 J ?_));refine so aB ((L.ext (I.t ae)).vN ab) [F0,S0] ah X J J J J fun _ o _ aa=>(aE 1 J (bA (cI (aZ [.agg #[F0,S0],no 4] J ⟨⟨_,rfl,bK aB o [F0,S0] J (bq J) rfl⟩,rfl,xl⟩ ?_))));exact⟨_,rfl,⟨_,_,rfl,⟨_,_,_,_,rfl,Zr.zero⟩,rfl⟩,aa⟩
theorem a1Y {p:Int}{nd:Nat}(hx:Zi w sa Aa na ca x)(la:na≤1048576)(hy:Zi w sd Ad nd cd y)(ld:nd≤1048576)(hlow:Low p q x y):aQ aM 39 #[a9 sa Aa na ca sd Ad nd cd] w (Gv w (T2 (ZR w.heap.size (jX p q)) (Is (no 0)))):=by
 have Lx:=bP hx la;have Ly:=bP hy ld;have Lp:ln p≤1048576:=a8 (fR hlow.np) Lx;have Lq:ln q≤1048576:=a8 (fR hlow.nq) Ly;have ab:=hlow.pos;refine bU Tryz.func39 63 J (sr (bx [.bool sa,up Aa na ca,.bool sd,up Ad nd cd] bN J J J fun g1 _ fp _ _ df=>(bV [F0,S0] df fp.lt J fun g6 _ ee bp _ e8 U=>(aE 1 J (sr (pf g1 0 J (lo aB (fp.ext e8) (a5 sa Aa na ca) J J J (pf g1 2 J (lo aB (fp.ext e8) (a5 sd Ad nd cd) J J J (aX U (OU U.size hlow (hx.ext U) (aJ la J) (hy.ext U) (aJ ld J)) J ?_))))))))));rintro _ _ ⟨_,_,rfl,⟨ch,bw,cj,bu,aq,bi,aj,bd,rfl,dl,ct⟩,rfl⟩ eg G;refine mv 1 J (aA (a9 ch bw cj bu aq bi aj bd) J (aA (no 0) J (bV [F0,S0,F0,S0] G (ee.ext eg).lt J fun ci _ Z ge _ ag ai=>(so bJ Z [.bool ch,up bw cj bu,.bool aq,up bi aj bd] ai ge J J J J fun _ ah ae cm=>(aE 1 J (aD (aV 1 J (fP J J J false (aG (aT J (bB ?_)))))))))));refine aL (sr (pf ci 0 J (lo aB ah (a5 ch bw cj bu) J J J (pf ci 2 J (lo aB ah (a5 aq bi aj bd) J J J (dP [O ch bw cj bu,O aq bi aj bd] (by have h:=NQ cm.size ((dl.ext ag).updT Z ae).zi (dl.le (aJ Lp J)) ((ct.ext ag).updT Z ae).zi (ct.le (aJ Lq J));rw [show eZ q=0 from if_neg i9] at h;exact h) J ?_))))));rintro _ _ ⟨_,rfl,jm,Y⟩;refine dO ?_;obtain⟨_,_,_,rfl,⟨X,W,F,V,rfl,br⟩,⟨au,ar,ao,av,rfl,fi⟩,rfl⟩:=jm;refine mv 1 J (aA (O X W F V) J (aA (O au ar ao av) J (aA (no 0) J (bV [F0,S0] (cm.trans Y) (ah.ext Y).lt J fun bj _ eh dh _ M jk=>(bV [F0,S0] jk eh.lt J fun gj _ ia jc _ L jl=>?_)))));have E:=(eh.ext L);refine so aB E (a5 X W F V) jl dh J J J J fun _ aa I jt=>?_;have o:=(ia.vN I);refine so aB o (a5 au ar ao av) jt jc J J J J fun fc cv f dw=>(aE 1 J (tZ (T:=a6×Bool) (fun⟨wr,od⟩=> [(2,i5 g6 0),(4,i5 ci 0),(6,i5 bj 0),(7,i5 gj 0),(9,.bool od)]) (fun⟨wr,od⟩=>wr) (fun⟨wr,od⟩=>(Ext w wr)∧(od=decide (qF p q%2≠0))∧(Bk wr g6 24 [F0,S0])∧(Bk wr ci 26 [.bool ch,up bw cj bu,.bool aq,up bi aj bd])∧(Bk wr bj 24 (a5 X W F V))∧(Bk wr gj 24 (a5 au ar ao av))∧(Zr wr w.heap.size ch bw cj bu p)∧(Zr wr w.heap.size aq bi aj bd q)∧(Zr wr w.heap.size X W F V (qF p q))∧(Zr wr w.heap.size au ar ao av (rF p q))) ?_ ?_))
 ·have gg:=((((br.ext (M.t L)).updT E I).updT o f)).len;by_cases fh:qF p q=0
  ·have jr:F=0:=by rw [gg,fh];rfl
   have fg:¬qF p q%2≠0:=by rw [fh];decide
   refine bH (pf bj 1 J (bG (cE dY (aa.vN f) J) J (aA (no F) J (aH J (i7 F 0 J) (mv 7 J (aA (wk) J (bS 1 J (eO (⟨fc,false⟩:a6×Bool) ⟨dw,(decide_eq_false fg).symm,(((((ee.ext (eg.t ag)).vN ae).ext (Y.t (M.t L))).vN I).vN f),(((ah.ext (Y.t (M.t L))).vN I).vN f),(aa.vN f),cv,(((((dl.ext ag).updT Z ae).ext (Y.t (M.t L))).updT E I).updT o f),(((((ct.ext ag).updT Z ae).ext (Y.t (M.t L))).updT E I).updT o f),(((br.ext (M.t L)).updT E I).updT o f),(((fi.ext (M.t L)).updT E I).updT o f)⟩ J (aP J)))))))))
  have jr:0<F:=by rw [gg];exact Nat.pos_of_ne_zero fun e=>fh (by have h:=dZ (Int.natAbs (qF p q));rw [uL e] at h;have h2:nv []=0:=rfl;omega)
  have kc:=SP (Int.natAbs (qF p q));have fb:(wd (Int.natAbs (qF p q))).getD 0 0≤18446744073709551615:=by have:=uB (qX (Int.natAbs (qF p q))) 0;rw [dJ] at this;omega
  by_cases ew:qF p q%2≠0
  ·have cp:qF p q%2≠0:=ew;refine bH (pf bj 1 J (bG (cE dY (aa.vN f) J) J (aA (no F) J (aH J (gB F 0 J) (mv 1 J (pf bj 1 J (bG (cE dY (aa.vN f) J) J ?_)))))));obtain⟨jg,gi,jd,_⟩:=((((((br.ext (M.t L)).updT E I).updT o f)).rd)).at (i:=0) i9;refine cA cH bZ 0 jg gi J (bG (d5 dK jd) J (pL J J J (r:= t9 ((((wd (Int.natAbs (qF p q))).getD 0 0)%2:Nat):Int)) J (fun w=>IO (x:=(wd (Int.natAbs (qF p q))).getD 0 0) (by first | omega | exact fb) _ _ w) (aH J (gZ (((wd (Int.natAbs (qF p q))).getD 0 0)%2) 1 J) (aA (we) J (bS 1 J (eO (⟨fc,true⟩:a6×Bool) ⟨dw,(decide_eq_true cp).symm,(((((ee.ext (eg.t ag)).vN ae).ext (Y.t (M.t L))).vN I).vN f),(((ah.ext (Y.t (M.t L))).vN I).vN f),(aa.vN f),cv,(((((dl.ext ag).updT Z ae).ext (Y.t (M.t L))).updT E I).updT o f),(((((ct.ext ag).updT Z ae).ext (Y.t (M.t L))).updT E I).updT o f),(((br.ext (M.t L)).updT E I).updT o f),(((fi.ext (M.t L)).updT E I).updT o f)⟩ J (aP J)))))))
  have fg:¬qF p q%2≠0:=ew;refine bH (pf bj 1 J (bG (cE dY (aa.vN f) J) J (aA (no F) J (aH J (gB F 0 J) (mv 1 J (pf bj 1 J (bG (cE dY (aa.vN f) J) J ?_)))))));obtain⟨je,iz,ig,_⟩:=((((((br.ext (M.t L)).updT E I).updT o f)).rd)).at (i:=0) i9;refine cA cH bZ 0 je iz J (bG (d5 dK ig) J (pL J J J (r:= t9 ((((wd (Int.natAbs (qF p q))).getD 0 0)%2:Nat):Int)) J (fun w=>IO (x:=(wd (Int.natAbs (qF p q))).getD 0 0) (by first | omega | exact fb) _ _ w) (aH J (hJ (((wd (Int.natAbs (qF p q))).getD 0 0)%2) 1 J) (aA (wk) J (bS 1 J (eO (⟨fc,false⟩:a6×Bool) ⟨dw,(decide_eq_false fg).symm,(((((ee.ext (eg.t ag)).vN ae).ext (Y.t (M.t L))).vN I).vN f),(((ah.ext (Y.t (M.t L))).vN I).vN f),(aa.vN f),cv,(((((dl.ext ag).updT Z ae).ext (Y.t (M.t L))).updT E I).updT o f),(((((ct.ext ag).updT Z ae).ext (Y.t (M.t L))).updT E I).updT o f),(((br.ext (M.t L)).updT E I).updT o f),(((fi.ext (M.t L)).updT E I).updT o f)⟩ J (aP J)))))))
 rintro⟨wr,od⟩ ⟨df,ej,b_2,b_4,b_6,b_7,_,gf,zq,zr⟩;refine aD ?_;have jj:ln (rF p q+rF p q)≤1048577:=a8 (eK (o8 ab Lq) (o8 ab Lq)) yd;refine dW cM 6 [] [Is (O au ar ao av),Is (O au ar ao av),ZR w.heap.size (rF p q+rF p q),Is (i5 ci 2),Is (O aq bi aj bd),Is (no (bM (rF p q+rF p q) q))] [[],[],[0,1],[],[3],[2,4]] rfl (bY J ?_ ?_ ?_ ?_ (cG J ?_ (cG J ?_ dN))) ?_
 ·exact fun _ jh=>aC (lo aB (b_7.ext jh) (a5 au ar ao av) J J J (aI J))
 ·exact fun _ jf=>aC (lo aB (b_7.ext jf) (a5 au ar ao av) J J J (aI J))
 ·intro _ fd;have U:=df.trans fd;refine aY J (aC ?_);have kb:ln (rF p q+rF p q)≤1048577:=a8 (eK (o8 ab Lq) (o8 ab Lq)) yd;refine aX U (tV U.size (zr.ext fd).zi (zr.le (a8 (o8 ab Lq) yd)) (zr.ext fd).zi (zr.le (a8 (o8 ab Lq) yd))) J ?_;rintro _ _ ⟨_,_,_,_,rfl,ji⟩ jp G;exact bQ J jp ⟨_,_,_,_,rfl,ji⟩
 ·exact fun _ _=>aC (pf ci 2 J (aI J))
 ·exact fun _ jo=>aO J (aC (lo aB (b_4.ext jo) (a5 aq bi aj bd) J J J (aI J)))
 ·intro _ ix;have U:=df.trans ix;refine aW J ?_;rintro _ _ ⟨_,_,_,_,rfl,dz⟩ _ jq;have dz:=dz.ext jq;refine aO J (aC (aX U (rX dz.zi (dz.le (aJ jj J)) (gf.ext ix).zi (gf.le (aJ Lq J))) J ?_));rintro _ _ rfl il G;exact bQ J il rfl
 intro _ H;have U:=df.trans H;refine aY J (aW J ?_);rintro _ _ ⟨_,_,_,_,rfl,ey⟩ _ ft;have ey:=ey.ext ft;refine aY J (aO J (aC (bS 1 J (dM (aL (aD (aD ?_)))))));by_cases ef:0<bM (rF p q+rF p q) q
 ·refine aK 1 J (aH J (qQ (h:=ef)) (mv 6 J (aA (we) J (aG (bC J ?_)))));have jz:ln (qF p q+1)≤1048577:=a8 (eK (lN ab Lp) (show ln (1)≤1 by decide+kernel)) yd;refine dW cM 3 [] [Is (O X W F V),ZR w.heap.size (1),ZR w.heap.size (qF p q+1)] [[],[],[0,1]] rfl (cG J ?_ (cG J ?_ (cG J ?_ dN))) ?_
  ·exact fun _ ik=>aC (lo aB (b_6.ext (H.t ik)) (a5 X W F V) J J J (aI J))
  ·intro _ jb;have G:=U.trans jb;refine aC (bI [no 1] G (l7 G.size yd yd) J ?_);rintro _ _ ⟨_,_,_,_,rfl,ie⟩ ir ai;exact bQ J ir ⟨_,_,_,_,rfl,ie⟩
  ·intro _ em;have G:=U.trans em;refine aO J (aW J ?_);rintro _ _ ⟨_,_,_,_,rfl,bo⟩ _ ja;have bo:=bo.ext ja;refine aC ?_;have jw:ln (qF p q+1)≤1048577:=a8 (eK (lN ab Lp) (show ln (1)≤1 by decide+kernel)) yd;refine aX G (tV G.size (zq.ext (H.t em)).zi (zq.le (a8 (lN ab Lp) yd)) bo.zi (bo.le (a8 (show ln (1)≤1 by decide+kernel) yd))) J ?_;rintro _ _ ⟨_,_,_,_,rfl,gb⟩ fy ai;exact bQ J fy ⟨_,_,_,_,rfl,gb⟩
  intro _ dr;have G:=U.trans dr;refine aO J (aW J ?_);rintro _ _ ⟨_,_,_,_,rfl,ei⟩ _ fw;have ei:=ei.ext fw;refine aW J ?_;rintro _ _ ⟨bf,bg,ak,az,rfl,dm⟩ _ ij;have dm:=dm.ext ij;refine aC ?_;have dy:=(b_6.ext (H.t dr));refine so aB dy (a5 bf bg ak az) G dh J J J J fun _ fm fa ai=>(cF (dM (aL (sr (lo aB fm (a5 bf bg ak az) J J J ?_)))));have de:=((b_2.ext (H.t dr)).vN fa);refine so aB de (a5 bf bg ak az) ai bp J J J J fun _ fj iq cm=>(aE 1 J (bA (aZ [O bf bg ak az,I0] J ⟨⟨_,rfl,bK aB fj (a5 bf bg ak az) J (bq J) rfl⟩,rfl,xl⟩ ?_)));exact⟨_,rfl,⟨_,_,rfl,⟨_,_,_,_,rfl,(((dm.updT dy fa).updT de iq)).cast (show _=jX p q by unfold jX;rw [if_pos (cJ ef)])⟩,rfl⟩,cm⟩
 by_cases hz:bM (rF p q+rF p q) q=0
 ·by_cases cp:qF p q%2≠0
  ·obtain rfl:od=true:=ej.trans (decide_eq_true cp);refine aK 1 J (aH J (pW) (mv 2 J (aH J (fE hz) (mv 2 J (aA (we) J (aA (we) J (aG (bC J ?_))))))));have ka:ln (qF p q+1)≤1048577:=a8 (eK (lN ab Lp) (show ln (1)≤1 by decide+kernel)) yd;refine dW cM 3 [] [Is (O X W F V),ZR w.heap.size (1),ZR w.heap.size (qF p q+1)] [[],[],[0,1]] rfl (cG J ?_ (cG J ?_ (cG J ?_ dN))) ?_
   ·exact fun _ gx=>aC (lo aB (b_6.ext (H.t gx)) (a5 X W F V) J J J (aI J))
   ·intro _ ga;have G:=U.trans ga;refine aC (bI [no 1] G (l7 G.size yd yd) J ?_);rintro _ _ ⟨_,_,_,_,rfl,gy⟩ iy ai;exact bQ J iy ⟨_,_,_,_,rfl,gy⟩
   ·intro _ en;have G:=U.trans en;refine aO J (aW J ?_);rintro _ _ ⟨_,_,_,_,rfl,bm⟩ _ gk;have bm:=bm.ext gk;refine aC ?_;have ju:ln (qF p q+1)≤1048577:=a8 (eK (lN ab Lp) (show ln (1)≤1 by decide+kernel)) yd;refine aX G (tV G.size (zq.ext (H.t en)).zi (zq.le (a8 (lN ab Lp) yd)) bm.zi (bm.le (a8 (show ln (1)≤1 by decide+kernel) yd))) J ?_;rintro _ _ ⟨_,_,_,_,rfl,fz⟩ go ai;exact bQ J go ⟨_,_,_,_,rfl,fz⟩
   intro _ da;have G:=U.trans da;refine aO J (aW J ?_);rintro _ _ ⟨_,_,_,_,rfl,el⟩ _ iu;have el:=el.ext iu;refine aW J ?_;rintro _ _ ⟨ba,bh,aw,am,rfl,cz⟩ _ iw;have cz:=cz.ext iw;refine aC ?_;have dg:=(b_6.ext (H.t da));refine so aB dg (a5 ba bh aw am) G dh J J J J fun _ fk ez ai=>(cF (dM (aL (sr (lo aB fk (a5 ba bh aw am) J J J ?_)))));have du:=((b_2.ext (H.t da)).vN ez);refine so aB du (a5 ba bh aw am) ai bp J J J J fun _ fe fv cm=>(aE 1 J (bA (aZ [O ba bh aw am,I0] J ⟨⟨_,rfl,bK aB fe (a5 ba bh aw am) J (bq J) rfl⟩,rfl,xl⟩ ?_)));exact⟨_,rfl,⟨_,_,rfl,⟨_,_,_,_,rfl,(((cz.updT dg ez).updT du fv)).cast (show _=jX p q by unfold jX;rw [if_pos (cN ⟨hz,cp⟩)])⟩,rfl⟩,cm⟩
  obtain rfl:od=false:=ej.trans (decide_eq_false cp);refine aK 1 J (aH J (pW) (mv 2 J (aH J (fE hz) (mv 2 J (aA (wk) J (aA (wk) J (aG (aT J (bB (aL (sr (lo aB (b_6.ext H) (a5 X W F V) J J J ?_))))))))))));have dt:=(b_2.ext H);refine so aB dt (a5 X W F V) U bp J J J J fun _ fq io G=>(aE 1 J (bA (aZ [O X W F V,I0] J ⟨⟨_,rfl,bK aB fq (a5 X W F V) J (bq J) rfl⟩,rfl,xl⟩ ?_)));exact⟨_,rfl,⟨_,_,rfl,⟨_,_,_,_,rfl,(((zq.ext H).updT dt io)).cast (show _=jX p q by unfold jX;rw [if_neg (fun h=>h.elim ef (fun h=>cp h.2))])⟩,rfl⟩,G⟩
 refine aK 1 J (aH J (pW) (mv 2 J (aH J (gC hz) (mv 2 J (aA (wk) J (aA (wk) J (aG (aT J (bB (aL (sr (lo aB (b_6.ext H) (a5 X W F V) J J J ?_))))))))))));have dx:=(b_2.ext H);refine so aB dx (a5 X W F V) U bp J J J J fun _ fo fx G=>(aE 1 J (bA (aZ [O X W F V,I0] J ⟨⟨_,rfl,bK aB fo (a5 X W F V) J (bq J) rfl⟩,rfl,xl⟩ ?_)));exact⟨_,rfl,⟨_,_,rfl,⟨_,_,_,_,rfl,(((zq.ext H).updT dx fx)).cast (show _=jX p q by unfold jX;rw [if_neg (fun h=>h.elim ef (fun h=>hz h.1))])⟩,rfl⟩,G⟩
theorem P1 (hb0:b0≤w.heap.size)(ha:∀x,x∈a→x<256∧x≠47)(hla:a.length≤1048576){N:Int}(hbad:¬rE a=0→N=0∧D=0∧e=7)(hok:rE a=0→N=bW (rV a) 1∧D=cD (rV a) 1∧e=bR 1):aQ aM 41 #[.string (aN a)] w (Gv w (T2 (FA b0 N D) (Is (no e)))):=by
 refine bU Tryz.func41 42 J (sr (nI [F0,S0,F0,S0] bN J fun _ _ ak ar _ bw=>(aE 1 J (aV 1 J (bI [.string (aN a),.string (aN ([47]))] bw (a1E (a:=a) (b:= []) ha i9) J ?_)))));rintro _ _ ⟨_,_,_,rfl,rfl,rfl,rfl⟩ e7 aw;refine mv 1 J (aA (.string (aN a)) J (aA (.string (aN ([]))) J (aA (wk) J (aE 3 J (aV 1 J (bI [.string (aN a)] aw (NN aw.size (fun b hb=>(ha b hb).1) i9) J ?_))))));rintro _ _ ⟨_,_,rfl,⟨X,M,I,U,rfl,ao⟩,rfl⟩ ag bj;refine mv 1 J (aA (O X M I U) J (aA (no (rE a)) J (bV [F0,S0] bj (ak.ext (e7.t ag)).lt J fun _ _ ab am _ ah bu=>(so aB ab (a5 X M I U) bu am J J J J fun _ az ai aj=>(aE 1 J (aD (aD ?_)))))));by_cases he:rE a=0
 ·refine aK 1 J (aH J (pP he) (aG (aT J (bB (aL (sr (iF J J (k:=1) (e:=43) [t9 1] ye fun au _ aa=>?_)))))));have bo:=O1.mk_ (x:=1) (b:=w.heap.size) aa aj.size;have L:=aa.ext;have E:=aj.trans L;have bf:=vB bo (show 1≤18446744073709551615 by decide) (show 1≠0 by decide);have ae:=vP (show 1≤18446744073709551615 by decide) (show 1≠0 by decide);refine aE 1 J (aD (sr (aE 1 J (aT J (bB (aL (sr (lo aB (az.ext L) (a5 X M I U) J J J (mv 1 J (aA (.agg #[F0,up (some ⟨au,0,none⟩) 1 1]) J (bI [O X M I U,.agg #[F0,up (some ⟨au,0,none⟩) 1 1]] E (pX E.size (((ao.ext ah).updT ab ai).ext L).zi (ao.le (a8 (vK hla) yd)) (sI ae bf).zi ((sI ae bf).le (a8 (show ln ((1:Nat):Int)≤1 by rw [oW];exact (Nat.le_of_eq ae.symm)) yd))) J ?_)))))))))));rintro _ _ ⟨_,_,rfl,⟨Y,V,Z,H,G,W,o,F,rfl,bh,br,bd⟩,rfl⟩ bp ch;refine aA (a9 Y V Z H G W o F) J (aA (no (bR ((1:Nat):Int))) J ?_);have f:=(((ak.ext (e7.t (ag.t ah))).vN ai).ext (L.t bp));refine so bJ f [.bool Y,up V Z H,.bool G,up W o F] ch ar J J J J fun _ ba av bi=>(aE 1 J (bA (aZ [a9 Y V Z H G W o F,no (bR ((1:Nat):Int))] J ⟨⟨_,rfl,bK bJ ba [.bool Y,up V Z H,.bool G,up W o F] J (bq J) rfl⟩,rfl,xl⟩ ?_)));obtain⟨rfl,rfl,rfl⟩:=hok he;exact⟨_,rfl,⟨_,_,rfl,⟨_,_,_,_,_,_,_,_,rfl,((bh.updT f av)).mono hb0,((br.updT f av)).mono hb0,bd⟩,rfl⟩,bi⟩
 have bg:=(L4 a).resolve_left he;refine aK 1 J (aH J (pO he) (aG (bC J (sr (aA (.agg #[F0,S0,F0,S0]) J (mv 1 J ?_))))));refine so bJ ((ak.ext (e7.t (ag.t ah))).vN ai) [F0,S0,F0,S0] aj ar J J J J fun _ aq _ E=>(aE 1 J (bA (cI (aZ [.agg #[F0,S0,F0,S0],no (rE a)] J ⟨⟨_,rfl,bK bJ aq [F0,S0,F0,S0] J (bq J) rfl⟩,rfl,xl⟩ ?_))));obtain⟨rfl,rfl,rfl⟩:=hbad he;exact⟨_,rfl,⟨_,_,rfl,⟨_,_,_,_,_,_,_,_,rfl,Zr.zero,Zr.zero,fun _ h _=>oX h⟩,(show eL .i64 (rE a)=_ by rw [bg])⟩,E⟩
theorem P0 {b:List Nat}(hb0:b0≤w.heap.size)(ha:∀x,x∈a→x<256∧x≠47)(hla:a.length≤1048576)(hb:∀x,x∈b→x<256)(hlb:b.length≤1048576){N:Int}(hbad:¬(rE a=0∧fH 10 b)→N=0∧D=0∧e=7)(hok:rE a=0→fH 10 b→N=bW (rV a) ((cZ 10 (b.map dv):Nat):Int)∧D=cD (rV a) ((cZ 10 (b.map dv):Nat):Int)∧e=bR ((cZ 10 (b.map dv):Nat):Int)):aQ aM 41 #[.string (aN (a++47::b))] w (Gv w (T2 (FA b0 N D) (Is (no e)))):=by
 have df:(a++47::b).length=a.length+1+b.length:=by simp;omega
 refine bU Tryz.func41 42 J (sr (nI [F0,S0,F0,S0] bN J fun _ _ Z ao _ cp=>(aE 1 J (aV 1 J (bI [.string (aN (a++47::b)),.string (aN ([47]))] cp (a1D ha i9) J ?_)))));rintro _ _ ⟨_,_,_,rfl,rfl,rfl,rfl⟩ e7 bm;refine mv 1 J (aA (.string (aN a)) J (aA (.string (aN b)) J (aA (we) J (aE 3 J (aV 1 J (bI [.string (aN a)] bm (NN bm.size (fun b hb=>(ha b hb).1) i9) J ?_))))));rintro _ _ ⟨_,_,rfl,⟨M,ae,I,ag,rfl,ba⟩,rfl⟩ W cj;refine mv 1 J (aA (O M ae I ag) J (aA (no (rE a)) J (bV [F0,S0] cj (Z.ext (e7.t W)).lt J fun _ _ aj bi _ X cm=>(so aB aj (a5 M ae I ag) cm bi J J J J fun _ bd H au=>(aE 1 J (aD (aD ?_)))))));by_cases he:rE a=0
 ·refine aK 1 J (aH J (pP he) (aG (aT J (bB (aL (sr (iF J J (k:=1) (e:=43) [t9 1] ye fun _ _ ai=>?_)))))));have bw:=O1.mk_ (x:=1) (b:=w.heap.size) ai au.size;have E:=ai.ext;have o:=au.trans E;have de:=vB bw (show 1≤18446744073709551615 by decide) (show 1≠0 by decide);have da:=vP (show 1≤18446744073709551615 by decide) (show 1≠0 by decide);refine aE 1 J (aD (sr (aE 1 J (bC J (aD ?_)))));by_cases hg:fH 10 b
  ·have cz:(wd (cZ 10 (b.map dv))).length≤1048576:=a8 (qO (base:=10) hg.2) hlb;refine aK 1 J (bI [.string (aN b)] o ((xC hb i9 hg).mono (Gv.imp (T2.imp (WR.imp o.size) Is.imp))) J ?_);rintro _ _ ⟨_,_,rfl,⟨av,ar,am,rfl,bf,bo⟩,rfl⟩ aq ah;refine mv 1 J (aA (up av ar am) J (aA (no 0) J (aE 2 J (aV 1 J (fP J J J false (aG (aT J (bB (aL (sr (lo aB (bd.ext (E.t aq)) (a5 M ae I ag) J J J ?_)))))))))));refine mv 1 J (aA (.agg #[F0,up av ar am]) J (bI [O M ae I ag,.agg #[F0,up av ar am]] ah (pX ah.size (((ba.ext X).updT aj H).ext (E.t aq)).zi (ba.le (a8 (vK hla) yd)) (sI bf bo).zi ((sI bf bo).le (a8 (show ln ((cZ 10 (b.map dv):Nat):Int)≤1048576 by rw [oW];exact cz) yd))) J ?_));rintro _ _ ⟨_,_,rfl,⟨V,L,F,aa,U,G,ab,Y,rfl,ch,cv,bh⟩,rfl⟩ br ak;refine aA (a9 V L F aa U G ab Y) J (aA (no (bR ((cZ 10 (b.map dv):Nat):Int))) J ?_);have f:=(((Z.ext (e7.t (W.t X))).vN H).ext (E.t (aq.t br)));refine so bJ f [.bool V,up L F aa,.bool U,up G ab Y] ak ao J J J J fun _ bj az ct=>(aE 1 J (bA (aZ [a9 V L F aa U G ab Y,no (bR ((cZ 10 (b.map dv):Nat):Int))] J ⟨⟨_,rfl,bK bJ bj [.bool V,up L F aa,.bool U,up G ab Y] J (bq J) rfl⟩,rfl,xl⟩ ?_)));obtain⟨rfl,rfl,rfl⟩:=hok he hg;exact⟨_,rfl,⟨_,_,rfl,⟨_,_,_,_,_,_,_,_,rfl,((ch.updT f az)).mono hb0,((cv.updT f az)).mono hb0,bh⟩,rfl⟩,ct⟩
  refine aK 1 J (bI [.string (aN b)] o (xD hb i9 hg) J ?_);rintro _ _ ⟨_,_,rfl,rfl,rfl⟩ bu ah;refine mv 1 J (aA (up none 0 0) J (aA (no 7) J (aE 2 J (aV 1 J (fP J J J true (aG (bC J (sr (aA (.agg #[F0,S0,F0,S0]) J (mv 1 J ?_))))))))));refine so bJ (((Z.ext (e7.t (W.t X))).vN H).ext (E.t bu)) [F0,S0,F0,S0] ah ao J J J J fun _ bg _ ak=>(aE 1 J (bA (cI (aZ [.agg #[F0,S0,F0,S0],no 7] J ⟨⟨_,rfl,bK bJ bg [F0,S0,F0,S0] J (bq J) rfl⟩,rfl,xl⟩ ?_))));obtain⟨rfl,rfl,rfl⟩:=hbad (fun h=>hg h.2);exact⟨_,rfl,⟨_,_,rfl,⟨_,_,_,_,_,_,_,_,rfl,Zr.zero,Zr.zero,fun _ h _=>oX h⟩,rfl⟩,ak⟩
 have ci:=(L4 a).resolve_left he;refine aK 1 J (aH J (pO he) (aG (bC J (sr (aA (.agg #[F0,S0,F0,S0]) J (mv 1 J ?_))))));refine so bJ ((Z.ext (e7.t (W.t X))).vN H) [F0,S0,F0,S0] au ao J J J J fun _ aw _ o=>(aE 1 J (bA (cI (aZ [.agg #[F0,S0,F0,S0],no (rE a)] J ⟨⟨_,rfl,bK bJ aw [F0,S0,F0,S0] J (bq J) rfl⟩,rfl,xl⟩ ?_))));obtain⟨rfl,rfl,rfl⟩:=hbad (fun h=>he h.1);exact⟨_,rfl,⟨_,_,rfl,⟨_,_,_,_,_,_,_,_,rfl,Zr.zero,Zr.zero,fun _ h _=>oX h⟩,(show eL .i64 (rE a)=_ by rw [ci])⟩,o⟩
def Ld (K b:Nat)(P:Nat→Prop)(w:a6)(lb:Nat)(A:Option a7)(n cap:Nat)(zs:List Int):Prop:=
 ∃es,Own w lb 24 2 A n cap (jN es)∧es.length=n∧zs.length=n∧(∀i,i<n→(es.getD i ZC.zero).n≤K∧Zr w b (es.getD i ZC.zero).s (es.getD i ZC.zero).A (es.getD i ZC.zero).n (es.getD i ZC.zero).c (zs.getD i 0)∧∀p,(es.getD i ZC.zero).A=some p→P p.block)∧
  ∀i j,i<n→j<n→i≠j→∀p q,(es.getD i ZC.zero).A=some p→(es.getD j ZC.zero).A=some q→p.block≠q.block
section
variable {K b lb:Nat}{P P':Nat→Prop}{w w':a6}{A:Option a7}{n cap:Nat}{zs:List Int}
theorem Ld.lz (h:Ld K b P w lb A n cap zs):Lz none K b w lb A n cap zs:=by
 obtain⟨es,h1,h2,o,f,_⟩:=h;exact⟨es,h1,h2,o,fun i hi=>⟨(f i hi).1,cJ (f i hi).2.1⟩⟩
theorem Ld.own (h:Ld K b P w lb A n cap zs):∃vs,Own w lb 24 2 A n cap vs:=h.lz.own
theorem Ld.block (h:Ld K b P w lb A n cap zs):∀a,A=some a→lb≤a.block∧a.block<w.heap.size:=h.lz.block
theorem Ld.len (h:Ld K b P w lb A n cap zs):zs.length=n:=h.lz.len
theorem Ld.ext (h:Ld K b P w lb A n cap zs)(x:Ext w w'):Ld K b P w' lb A n cap zs:=by
 obtain⟨es,h1,h2,E,f,o⟩:=h;exact⟨es,h1.ext x,h2,E,fun i hi=>⟨(f i hi).1,(f i hi).2.1.ext x,(f i hi).2.2⟩,o⟩
theorem Ld.updT (h:Ld K b P w lb A n cap zs)(hb:Bk w g T us)(x:Upd g w w')(hne:∀p,A=some p→p.block≠g)(hT:43≠T:=by decide):Ld K b P w' lb A n cap zs:=by
 obtain⟨es,h1,h2,E,f,o⟩:=h;exact⟨es,h1.upd x hne,h2,E,fun i hi=>⟨(f i hi).1,(f i hi).2.1.updT hb x hT,(f i hi).2.2⟩,o⟩
theorem Ld.nil (K b:Nat)(P:Nat→Prop)(w:a6)(lb:Nat):Ld K b P w lb none 0 0 []:=⟨[],Own.nil _ _ _ _,rfl,rfl,fun i hi=>by omega,fun i j hi=>by omega⟩
theorem Ld.mono {K' lb':Nat}(h:Ld K b P w lb A n cap zs)(hK:K≤K')(hb:b'≤b)(hl:lb'≤lb):Ld K' b' P w lb' A n cap zs:=by
 obtain⟨es,h1,h2,E,f,o⟩:=h;exact⟨es,h1.mono hl,h2,E,fun i hi=>⟨a8 (f i hi).1 hK,(f i hi).2.1.mono hb,(f i hi).2.2⟩,o⟩
theorem Ld.imp (h:Ld K b P w lb A n cap zs)(hP:∀g,P g→P' g):Ld K b P' w lb A n cap zs:=by
 obtain⟨es,h1,h2,E,f,o⟩:=h;exact⟨es,h1,h2,E,fun i hi=>⟨(f i hi).1,(f i hi).2.1,fun p F=>hP _ ((f i hi).2.2 p F)⟩,o⟩
theorem Ld.lt (h:Ld K b P w lb A n cap zs):Ld K b (fun g=>P g∧b≤g∧g<w.heap.size) w lb A n cap zs:=by
 obtain⟨es,h1,h2,F,f,E⟩:=h;exact⟨es,h1,h2,F,fun i hi=>⟨(f i hi).1,(f i hi).2.1,fun p o=>⟨(f i hi).2.2 p o,(f i hi).2.1.own.block p o⟩⟩,E⟩
end
section
variable {Q:Exit→Act→a6→Prop}{N:Nat}{l:Fr}{w:a6}{ops:Array bE}{rest:List bE}{d:Nat}{ty:aS}{pos:String}{af:Array Edge}{gd:Option (Nat×Bool)}
theorem SL {P P':Nat→Prop}{x y:cR}{e:ZC}{z:Int}(hw:dD ops l gd=some true)(hx:cB l x=some (up A n cap))(hy:cB l y=some (up (some ⟨g,0,none⟩) 1 c))(h:Ld K b P w lb A n cap zs)(hlb:lb≤w.heap.size)(hb:Bk w g 24 (nP e))(he:Zr w b e.s e.A e.n e.c z)(hK:e.n≤K)(hP:∀g,P g→P' g)(hn:∀p,e.A=some p→P' p.block∧¬P p.block)(hm:n≤1099511627775)(hd:d<N)(k:∀A' cap' w',Ld K b P' w' lb A' (n+1) cap' (zs++ [z])→UpdO A w w'→Kept w A A'→wl aM ops Q N rest ((d,up A' (n+1) cap')::l) w'):wl aM ops Q N (⟨some d,.call {callee:= .builtin .append,args:= #[x,y],argTypes:= #[27,27]},ty,pos,af,gd⟩::rest) l w:=by
 obtain⟨es,h1,h2,V,G,X⟩:=h;refine nR hw hx hy fI tP J h1 hlb (nP e) J (fun j u H=>?_) J (hn:=hd) fun A' cap' w' Y U Z=>k A' cap' w' ?_ U Z
 ·have L:j<(nP e).length:=(gU.1 H).1;rw [jI,eR,hb.cell L,bL,H];rfl
 have I:(es++ [e]).getD n ZC.zero=e:=by rw [←h2];exact y7
 have old:∀i,i<n→(es++ [e]).getD i ZC.zero=es.getD i ZC.zero:=fun i hi=>y8;refine⟨es++ [e],by rw [D0];exact Y,by simp [h2],by simp [V],fun i hi=>?_,fun i j hi H M p q o E=>?_⟩
 ·by_cases f:i<n
  ·rw [old i f,y8];exact⟨(G i f).1,(G i f).2.1.updOT h1 U,fun p o=>hP _ ((G i f).2.2 p o)⟩
  obtain rfl:i=n:=by omega
  have W:(zs++ [z]).getD i 0=z:=by rw [←V];exact y7
  rw [I,W];exact⟨hK,he.updOT h1 U,fun p o=>(hn p o).1⟩
 by_cases f:i<n
 ·rw [old i f] at o;by_cases F:j<n
  ·rw [old j F] at E;exact X i j f F M p q o E
  obtain rfl:j=n:=by omega
  rw [I] at E;exact fun e=>(hn q E).2 (e▸(G i f).2.2 p o)
 obtain rfl:i=n:=by omega
 rw [I] at o;rw [old j i9] at E;exact fun e=>(hn p o).2 (e▸(G j i9).2.2 q E)
end
theorem kZ (h:A=some p):iZ (O s A n c) p.block:=cN ⟨s,p,n,c,by rw [h],rfl⟩
def LRD (K b lb:Nat)(zs:List Int)(v:aF)(w:a6):Prop:=∃A cap,v= up A zs.length cap∧Ld K b (fun _=>True) w lb A zs.length cap zs
theorem LRD.imp {v:aF}(hb:b≤b')(h:LRD K b' lb zs v w):LRD K b lb zs v w:=by
 obtain⟨A,c,h1,h2⟩:=h;exact⟨A,c,h1,h2.mono (aU _) hb (aU _)⟩
theorem a0l:LRD K b lb [] (up none 0 0) w:=⟨none,0,rfl,Ld.nil _ _ _ _ _⟩
theorem a1G {nd:Nat}(hx:Zi w sa Aa na ca x)(la:na≤1048576)(hy:Zi w sd Ad nd cd y)(ld:nd≤1048576)(h0:y≠0):aQ aM 42 #[a9 sa Aa na ca sd Ad nd cd] w (Gv w (T2 (LRD 1048579 w.heap.size w.heap.size (eA (fX x y) (fJ y))) (Is (no 0)))):=by
 have Lx:=bP hx la;have Ly:=bP hy ld;refine bU Tryz.func42 41 J (sr (bx [.bool sa,up Aa na ca,.bool sd,up Ad nd cd] bN J J J fun g1 _ en _ _ aq=>(aE 2 J (aD (f9 [(0,a9 sa Aa na ca sd Ad nd cd),(1,i5 g1 0),(2,up none 0 0),(3,no 0)] (aP J) (PM cM 24 [F0,S0] (a5 sa Aa na ca) (a5 sd Ad nd cd) 4 6 1 5 7 3 [i5 g1 0,O sa Aa na ca,i5 g1 2,O sd Ad nd cd,undef,undef,undef,undef] [0,1,2,3] [[],[0],[],[2],[],[],[],[]] [[],[0],[],[2],[],[],[0,1,4,5],[0,1,2,3,4,5,6]] [(0,0),(0,1),(0,2),(1,0),(1,1),(1,2),(2,0),(2,1),(2,2),(3,0),(3,1),(3,2),(4,0),(4,1),(4,2),(5,0),(5,1),(5,2),(6,0),(6,1),(6,2),(7,0),(7,1),(7,2)] J J (B9 J (z:= .agg #[F0,S0]) ye J) (B9 J (z:= .agg #[F0,S0]) ye J) (BP J J J J (fun _ _=>rfl) (fun _ _=>rfl) aB J J J) (BP J J J J (fun _ _=>rfl) (fun _ _=>rfl) aB J J J) ?_ ?_))))))
 ·refine rG J J J (fun _ _=>(iO J)) (rG J J J (fun _ e9=>(cS J (bK aB (en.ext e9) (a5 sa Aa na ca) J (bq J) J))) (rG J J J (fun _ _=>(iO J)) (rG J J J (fun _ jp=>(cS J (bK aB (en.ext jp) (a5 sd Ad nd cd) J (bq J) J))) ?_)));exact trivial
 intro aj am _ je _ bu ct dx bf;have ki:g1<aj:=dA en.lt bu;have bu:w.heap.size≤aj:=a8 aq.size bu;have kk:g1<am:=dA en.lt ct;have ct:w.heap.size≤am:=a8 aq.size ct;have bd:=aq.trans je;refine fU [(0,a9 sa Aa na ca sd Ad nd cd),(1,i5 g1 0),(2,up none 0 0),(3,no 0),(10,i5 g1 0),(11,O sa Aa na ca),(12,i5 g1 2),(13,O sd Ad nd cd),(4,i5 aj 0),(5,i5 am 0)] (aP J) (aL (aD (sr (lo aB bf (a5 sd Ad nd cd) J J J (aX bd (jH (hy.ext bd) (aJ ld J)) J ?_)))));rintro _ _ rfl cm cz;refine aH J (uY h0) (aG (aT J (bB (aL (tZ (T:=a6×ZC×ZC) (fun⟨wr,k4,k5⟩=> [(4,i5 aj 0),(5,i5 am 0)]) (fun⟨wr,k4,k5⟩=>wr) (fun⟨wr,k4,k5⟩=>(Ext w wr)∧(Bk wr aj 24 (a5 k4.s k4.A k4.n k4.c))∧(Bk wr am 24 (a5 k5.s k5.A k5.n k5.c))∧(El (some w) w.heap.size wr k4 (fX x y))∧(El (some w) w.heap.size wr k5 (fJ y))∧(k4.n≤1048576)∧(k5.n≤1048576)) ?_ ?_)))))
 ·refine aD ?_;by_cases ci:y<0
  ·have fv: -x=fX x y:=by unfold fX;rw [if_pos ci]
   have fy: -y=fJ y:=by unfold fJ;rw [if_pos ci]
   refine bH (lo aB (bf.ext cm) (a5 sd Ad nd cd) J J J (aX cz (jH (hy.ext cz) (aJ ld J)) J ?_));rintro _ _ rfl em bw;refine aH J (tB ci) (aG (bC J ?_));have ja:ln (-x)≤1048576:=(by rw [gQ];exact Lx);have jl:ln (-y)≤1048576:=(by rw [gQ];exact Ly);refine dW cM 4 [] [Is (O sa Aa na ca),ZR w.heap.size (-x),Is (O sd Ad nd cd),ZR w.heap.size (-y)] [[],[0],[],[2]] rfl (bY J ?_ ?_ ?_ ?_ dN) ?_
   ·exact fun _ jf=>aC (lo aB (dx.ext (cm.t (em.t jf))) (a5 sa Aa na ca) J J J (aI J))
   ·intro _ jc;have aw:=bw.trans jc;refine aO J (aC ?_);have kn:ln (-x)≤1048576:=(by rw [gQ];exact Lx);refine aX aw (tS aw.size (hx.ext aw) (aJ la J)) J ?_;rintro _ _ ⟨_,_,_,_,rfl,ir⟩ mK ee;exact bQ J mK ⟨_,_,_,_,rfl,ir⟩
   ·exact fun _ jw=>aC (lo aB (bf.ext (cm.t (em.t jw))) (a5 sd Ad nd cd) J J J (aI J))
   ·intro _ jm;have aw:=bw.trans jm;refine aO J (aC ?_);have ke:ln (-y)≤1048576:=(by rw [gQ];exact Ly);refine aX aw (tS aw.size (hy.ext aw) (aJ ld J)) J ?_;rintro _ _ ⟨_,_,_,_,rfl,iy⟩ iw ee;exact bQ J iw ⟨_,_,_,_,rfl,iy⟩
   intro _ fk;have aw:=bw.trans fk;refine aO J (aW J ?_);rintro _ _ ⟨gy,ig,io,ij,rfl,ez⟩ _ jg;have ez:=ez.ext jg;refine aO J (aW J ?_);rintro _ _ ⟨gk,gx,go,ia,rfl,el⟩ _ jh;have el:=el.ext jh;refine aC ?_;have du:=(dx.ext (cm.t (em.t fk)));refine so aB du (a5 gy ig io ij) aw bu J J J J fun _ gi gb ee=>?_;have dy:=((bf.ext (cm.t (em.t fk))).vN gb);refine so aB dy (a5 gk gx go ia) ee ct J J J J fun jo il gf ej=>(cF (dM (eO (⟨jo,⟨gy,ig,io,ij⟩,⟨gk,gx,go,ia⟩⟩:a6×ZC×ZC) ⟨ej,(gi.vN gf),il,(fv▸(cJ ((ez.updT du gb).updT dy gf))),(fy▸(cJ ((el.updT du gb).updT dy gf))),(ez.le (aJ ja J)),(el.le (aJ jl J))⟩ J (aP J))))
  have fv:x=fX x y:=by unfold fX;rw [if_neg ci]
  have fy:y=fJ y:=by unfold fJ;rw [if_neg ci]
  refine bH (lo aB (bf.ext cm) (a5 sd Ad nd cd) J J J (aX cz (jH (hy.ext cz) (aJ ld J)) J ?_));rintro _ iz rfl eP bw;refine aH J (tC) (aG (aT J (bB (eO (⟨iz,⟨sa,Aa,na,ca⟩,⟨sd,Ad,nd,cd⟩⟩:a6×ZC×ZC) ⟨bw,(dx.ext (cm.t eP)),(bf.ext (cm.t eP)),(fv▸(cN ⟨_,rfl,cJ hx⟩)),(fy▸(cN ⟨_,rfl,cJ hy⟩)),(aJ la J),(aJ ld J)⟩ J (aP J)))))
 rintro⟨wr,k4,k5⟩ ⟨aq,b_4,b_5,jq,jk,jb,jj⟩;refine fW [(4,i5 aj 0),(5,i5 am 0)] wr J (aP J) (sr (aE 1 J (aD (bO ?_))));have kj:(eA (fX x y) (fJ y)).length≤200000000:=a8 (G5 _ _ (Int.le_of_lt (sF h0))) (by have:=GE (m:=(fJ y).natAbs) (n:=1048576) (by have h:=Ly;rw [←BD] at h;exact h);omega);obtain⟨bj,ew,_,eh,_,_⟩:∃lb,lb≤wr.heap.size∧wr.heap.size≤lb∧w.heap.size≤lb∧aj<lb∧am<lb:=⟨wr.heap.size,aU _,aU _,aq.size,b_4.lt,b_5.lt⟩;refine dC (T:=a6×Int×Int×List Int×Option a7×Nat×Nat×ZC×ZC×Nat) (fun⟨ak,nn,dd,pre,LA,ae,lc,n4,o,sz⟩=> [(4,i5 aj 0),(5,i5 am 0),(6,up LA ae lc)]) (fun⟨ak,nn,dd,pre,LA,ae,lc,n4,o,sz⟩=>ak) (fun⟨ak,nn,dd,pre,LA,ae,lc,n4,o,sz⟩=>(Ext w ak)∧(pre++eA nn dd=eA (fX x y) (fJ y))∧(0≤dd)∧(ln nn≤1048577)∧(ln dd≤1048577)∧(Ld 1048579 w.heap.size (fun g=>g<sz) ak bj LA ae lc pre)∧(bj≤ak.heap.size)∧(sz≤ak.heap.size)∧(Bk ak aj 24 (a5 n4.s n4.A n4.n n4.c))∧(Bk ak am 24 (a5 o.s o.A o.n o.c))∧(El (some w) w.heap.size ak n4 nn)∧(El (some w) w.heap.size ak o dd)∧(n4.n≤1048577)∧(o.n≤1048577)) (fun⟨ak,nn,dd,pre,LA,ae,lc,n4,o,sz⟩=>dd.toNat) (⟨wr,fX x y,fJ y,[],none,0,0,⟨k4.s,k4.A,k4.n,k4.c⟩,⟨k5.s,k5.A,k5.n,k5.c⟩,0⟩:a6×Int×Int×List Int×Option a7×Nat×Nat×ZC×ZC×Nat) ⟨aq,(by rw [List.nil_append]),(Int.le_of_lt (sF h0)),(a8 (by rw [N4];exact Lx) yd),(a8 (by rw [BD];exact Ly) yd),(Ld.nil 1048579 w.heap.size _ wr bj),ew,(bX _),b_4,b_5,jq,jk,(aJ jb J),(aJ jj J)⟩ J (aP J) ?_;rintro⟨ak,nn,dd,pre,LA,ae,lc,n4,o,sz⟩ ⟨aq,hI,_,jv,fw,bo,fe,gg,b_4,b_5,ji,eg,jt,fa⟩;refine fW [(4,i5 aj 0),(5,i5 am 0),(6,up LA ae lc)] ak J (aP J) ?_;have ey:=bo.block;have ju:=bo.len;have kd:ae≤200000000:=by have h:=congrArg List.length hI;rw [f8] at h;omega
 have dt:∀p,LA=some p→p.block≠aj:=fun p hp=>by have:=bo.block p hp;omega
 have cv:∀p,LA=some p→p.block≠am:=fun p hp=>by have:=bo.block p hp;omega
 refine aD (aD ?_);by_cases jx:dd≠0
 ·have ei:0<dd:=by omega
  refine bH (lo aB b_5 (a5 o.s o.A o.n o.c) J J J (aX aq (jH (eg.zi aq) (aJ fa J)) J ?_));rintro _ _ rfl f bd;refine aH J (qI jx) (aG (bC J (bB (aL (bO (sr (lo aB (b_4.ext f) (a5 n4.s n4.A n4.n n4.c) J J J (lo aB (b_5.ext f) (a5 o.s o.A o.n o.c) J J J (aX bd (a1C (aU _) ((ji.ext f).zi bd) (aJ jt J) ((eg.ext f).zi bd) (aJ fa J) ei) J ?_)))))))));rintro _ _ ⟨_,_,_,rfl,⟨ab,aa,Y,Z,rfl,bh⟩,r110_1,r110_2⟩ U cz;have nw_z111:=bh.new;replace bh:=bh.mono bd.size;obtain⟨I,V,L,M,rfl,br⟩:=r110_1;have nw_z112:=br.new;replace br:=br.mono bd.size;obtain rfl:=r110_2;refine mv 1 J (aA (O ab aa Y Z) J (aA (O I V L M) J (aA (no 0) J (iL J (z:= .agg #[F0,S0]) (vs:= [F0,S0]) ye J fun au _ nb=>?_))));have dm:=nb.bk;have ge:w.heap.size≤au:=by rw [←nb.at_];exact cz.size
  have ka:aj<au:=by rw [←nb.at_];exact (b_4.ext (f.t U)).lt
  have kb:am<au:=by rw [←nb.at_];exact (b_5.ext (f.t U)).lt
  have da:∀p,LA=some p→p.block≠au:=fun p hp=>by have:=((bo.ext (f.t U))).block p hp;have:=nb.at_;omega
  have G:=nb.ext;clear nb;have bw:=cz.trans G;refine iL J (z:= .agg #[F0,S0]) (vs:= [F0,S0]) ye J fun bg _ nb=>?_;have fj:=nb.bk;have fq:w.heap.size≤bg:=by rw [←nb.at_];exact bw.size
  have kc:au<bg:=by rw [←nb.at_];exact dm.lt
  have az:∀p,LA=some p→p.block≠bg:=fun p hp=>by have:=((bo.ext (f.t (U.t G)))).block p hp;have:=nb.at_;omega
  have F:=nb.ext;clear nb;have aw:=bw.trans F;have ah:=(dm.ext F);refine so aB ah (a5 ab aa Y Z) aw ge J J J J fun _ dw W ee=>?_;have ai:=(fj.vN W);refine so aB ai (a5 I V L M) ee fq J J J J fun _ bi H ej=>(aE 1 J (aV 1 J (lo aB (dw.vN H) (a5 ab aa Y Z) J J J (iF J J (k:=1) (e:=24) (a5 ab aa Y Z) ye fun ch fc nb=>?_))));have dz:=nb.bk;have jd:w.heap.size≤ch:=by rw [←nb.at_];exact ej.size
  have jz:bg<ch:=by rw [←nb.at_];exact bi.lt
  have fp:∀p,LA=some p→p.block≠ch:=fun p hp=>by have:=((((bo.ext (f.t (U.t (G.t F)))).updT ah W da).updT ai H az)).block p hp;have:=nb.at_;omega
  have E:=nb.ext;clear nb;have dr:=((((bo.ext (f.t (U.t (G.t F)))).updT ah W da).updT ai H az).ext E);obtain⟨_,de⟩:=dr.own;refine SL (P':=fun g=>g<fc.heap.size) (e:=⟨ab,aa,Y,Z⟩) (z:=nn/dd) J J J dr (a8 (a8 (a8 (a8 (a8 (a8 (a8 fe f.size) U.size) G.size) F.size) W.by_.size) H.by_.size) E.size) dz ((((bh.ext (G.t F)).updT ah W).updT ai H).ext E) (bh.le (a8 (MY ei jv yd) yd)) (fun g h=>dA h (a8 gg (a8 (a8 (a8 (a8 (a8 (a8 f.size U.size) G.size) F.size) W.by_.size) H.by_.size) E.size))) (fun p hp=>⟨(((((bh.ext (G.t F)).updT ah W).updT ai H).ext E).own.block p hp).2,fun h=>Nat.lt_irrefl _ (dA h (a8 (a8 gg f.size) (nw_z111 _ (kZ hp))))⟩) i9 yd fun cj cp fb ef X av=>?_;have jy:=X.ext (ej.trans E) (fun p hp=>by have:=ey p hp;omega);have dg:bj≤fb.heap.size:=a8 (a8 (a8 (a8 (a8 (a8 (a8 (a8 fe f.size) U.size) G.size) F.size) W.by_.size) H.by_.size) E.size) X.size;have fx:=pU av ((((b_4.ext (f.t (U.t (G.t F)))).vN W).vN H).ext E).lt dt;have fo:=pU av ((((b_5.ext (f.t (U.t (G.t F)))).vN W).vN H).ext E).lt cv;have ix:=pU av ((dw.vN H).ext E).lt da;have iu:=pU av (bi.ext E).lt az;have jr:=pU av dz.lt fp;have iq:=ef.block;refine aE 1 J (f9 [(4,i5 aj 0),(5,i5 am 0),(6,up cj (ae+1) cp),(24,O o.s o.A o.n o.c),(25,no (bM dd 0)),(26,we),(28,O n4.s n4.A n4.n n4.c),(29,O o.s o.A o.n o.c),(30,.tuple #[O ab aa Y Z,O I V L M,I0]),(27,.tuple #[O ab aa Y Z,O I V L M,I0]),(31,O ab aa Y Z),(32,O I V L M),(33,no 0),(7,i5 au 0),(8,i5 bg 0),(9,no 0),(34,up LA ae lc),(35,O ab aa Y Z),(36,up (some ⟨ch,0,none⟩) 1 1),(37,up cj (ae+1) cp)] (aP J) ?_);obtain⟨fg,hv,ag⟩:=gH fb;have bp:=((((((b_4.ext (f.t (U.t (G.t F)))).vN W).vN H).ext E).updO X dt).ext ag);obtain⟨ik,fm,ft,ao,_⟩:=gP (a5 o.s o.A o.n o.c) 0 aB bp (a5 o.s o.A o.n o.c) rfl;have bm:=(((((((b_5.ext (f.t (U.t (G.t F)))).vN W).vN H).ext E).updO X cv).ext ag).vN ao);obtain⟨fd,fz,ga,ar,_⟩:=gP (a5 I V L M) 0 aB bm (a5 I V L M) rfl;refine gJ cM fg [O o.s o.A o.n o.c,O I V L M,undef,undef] [fg,ik,fd] [2,3] [[],[],[0],[1]] [(0,0),(1,0),(1,1),(2,0),(3,1)] J hv ?_ ?_
  ·exact aR J (cS J (bK aB ((((((b_5.ext (f.t (U.t (G.t F)))).vN W).vN H).ext E).updO X cv).ext ag) (a5 o.s o.A o.n o.c) J (bq J) J)) (aR J (cS J (bK aB (((bi.ext E).updO X az).ext ag) (a5 I V L M) J (bq J) J)) (aR J (cS J (bK aB ((((bi.ext E).updO X az).ext ag).vN ao) (a5 I V L M) J (bq J) J)) (fV _ J J J J J J (fQ J J fm) (fV _ J J J J J J (fQ J J fz) gI))))
  refine fU [(4,i5 aj 0),(5,i5 am 0),(6,up cj (ae+1) cp),(24,O o.s o.A o.n o.c),(25,no (bM dd 0)),(26,we),(28,O n4.s n4.A n4.n n4.c),(29,O o.s o.A o.n o.c),(30,.tuple #[O ab aa Y Z,O I V L M,I0]),(27,.tuple #[O ab aa Y Z,O I V L M,I0]),(31,O ab aa Y Z),(32,O I V L M),(33,no 0),(7,i5 au 0),(8,i5 bg 0),(9,no 0),(34,up LA ae lc),(35,O ab aa Y Z),(36,up (some ⟨ch,0,none⟩) 1 1),(37,up cj (ae+1) cp),(38,O o.s o.A o.n o.c),(39,O I V L M)] (aP J) (bT (cP (⟨fd,dd,nn%dd,pre++ [nn/dd],cj,ae+1,cp,⟨o.s,o.A,o.n,o.c⟩,⟨I,V,L,M⟩,fc.heap.size⟩:a6×Int×Int×List Int×Option a7×Nat×Nat×ZC×ZC×Nat) ⟨(ar.ext (ao.ext (jy.trans ag) bu) ct),(by rw [List.append_assoc,←hI,mN ei];rfl),(Int.emod_nonneg _ i9),fw,(a8 (a8 (tL) fw) yd),(((ef.ext ag).updT bp ao fx).updT bm ar fo),(a8 (a8 (a8 dg ag.size) ao.by_.size) ar.by_.size),(a8 (a8 (a8 X.size ag.size) ao.by_.size) ar.by_.size),(ft.vN ar),ga,((((((((eg.ext (f.t (U.t (G.t F)))).updT ah W).updT ai H).ext E).updOT de X).ext ag).updT bp ao).updT bm ar),(cJ ((((((((br.ext (G.t F)).updT ah W).updT ai H).ext E).updOT de X).ext ag).updT bp ao).updT bm ar)),(aJ fa J),(br.le (a8 (a8 (tL) fw) yd))⟩ (show (nn%dd).toNat<dd.toNat by have h1:=Int.emod_lt_of_pos nn ei;omega) J (aP J)))
 have ib:dd=0:=by omega
 rw [ib,pY,List.append_nil] at hI;refine bH (lo aB b_5 (a5 o.s o.A o.n o.c) J J J (aX aq (jH (eg.zi aq) (aJ fa J)) J ?_));rintro _ _ rfl gj bd;refine aH J (rJ i9) (aG (aT J (d9 (cY (d7 (d8 (aL (sr (aE 3 J (bA (aZ [up LA ae lc,I0] J ⟨rfl,rfl,xl⟩ ?_)))))))))));have fi:=(((bo.ext gj)).mono (aU _) (aU _) eh).imp (P':=fun _=>True) (fun _ _=>trivial);rw [hI] at fi;have hn:ae=(eA (fX x y) (fJ y)).length:=by rw [←hI];exact ju.symm
 subst hn;exact⟨_,rfl,⟨_,_,rfl,⟨_,_,rfl,fi⟩,rfl⟩,bd⟩
theorem a1H (hb:b≤w.heap.size){nd:Nat}(hx:Zi w sa Aa na ca x)(la:na≤1048576)(hy:Zi w sd Ad nd cd y)(ld:nd≤1048576)(hzs:zs=eA (fX x y) (fJ y))(h0:y≠0):aQ aM 42 #[a9 sa Aa na ca sd Ad nd cd] w (Gv w (T2 (LRD 1048579 b w.heap.size zs) (Is (no 0)))):=by
 subst hzs;exact (a1G hx la hy ld h0).mono (Gv.imp (T2.imp (fun _ _ h=>h.imp hb) Is.imp))
theorem P2 (hb:b≤w.heap.size){t:Bool}{m cap':Nat}(hx:Zi w s A n cap x)(hl:n≤1073741824)(hy:Zi w t B m cap' y)(hl':m≤1073741824)(h0:0<y)(hg:Int.gcd x y=1):aQ aM 16 #[O s A n cap,O t B m cap'] w (Gv w (T2 (FA b x y) (Is (no 0)))):=by
 have h:=pX hb hx hl hy hl';have h1:=oS (x:=x) (y:=y) i9;obtain⟨o,f⟩:=F1 h1.co hg h1.pos h0 h1.eq;rw [o,f,oT i9] at h;exact h
theorem a1z (hb:b≤w.heap.size)(hl0:Zl w A n cap zs ms)(hln:n≤1048576)(hms:∀i,ms.getD i 0≤1048576)(hnd:∀k,ln (nd (zs.drop k)).1≤2097153∧ln (nd (zs.drop k)).2≤2097153)(hn0:0<n)(hf:p8 zs)(hD:0<(nd zs).2):aQ aM 43 #[up A n cap] w (Gv w (T2 (FA b ((nd zs).1) ((nd zs).2)) (Is (no 0)))):=by
 refine Calls.mono (R:=Gv w (T2 (FA w.heap.size ((nd zs).1) ((nd zs).2)) (Is (no 0)))) ?_ (Gv.imp (T2.imp (FA.imp hb) Is.imp));obtain⟨a,rfl⟩:=hl0.some hn0;have hl:=hl0;have bf:=hl.len;have gy:=hl.le;have jz:=hl.max;rw [eV] at jz;refine bU Tryz.func43 47 J (sr (nI [F0,S0,F0,S0] bN J fun g1 v2 jq jm _ o=>(aE 1 J (aD (aV 1 J (aA (no n) J (aH J (gC i9) (aG (aT J (bB ?_))))))))));refine aL (aD (aD ?_));by_cases ix:cap=1
 ·refine aK 1 J (mS J J sB aB.size (lo:=1) (hi:=n) J J i9 gy (v:= up (some a) (n-1) (cap-1)) (by rw [if_pos ix]) yd (aA (no ((n-1):Nat)) J (aE 1 J (bO ?_))));refine dC (T:=a6×Nat) (fun⟨wr,i⟩=> [(0,up (some a) n cap),(2,i5 g1 0),(3,no 0),(14,up (some a) (n-1) (cap-1)),(15,no ((n-1):Nat)),(16,no (i:Int))]) (fun⟨wr,i⟩=>wr) (fun⟨wr,i⟩=>(Ext w wr)∧(i≤n-1)∧(Bk wr g1 26 [F0,S0,F0,S0])) (fun⟨wr,i⟩=>n-i) (⟨v2,0⟩:a6×Nat) ⟨o,bX _,jq⟩ J (aP J) ?_;rintro⟨wr,i⟩ ⟨o,kg,b_2⟩;refine aD ?_;by_cases ig:i<n-1
  ·omega
  refine bH (aH J (MN i9) (aG (aD (aT J (d9 (cY (d7 (d8 (aL (sr (bI [no 1] o (l7 o.size yd yd) J ?_)))))))))));rintro _ _ ⟨s9,A9,n9,c9,rfl,z9⟩ e7 h;refine bI [I0] h (l7 h.size yd yd) J ?_;rintro _ _ ⟨il,ja,io,ji,rfl,kn⟩ fz E;refine bV [F0,S0] E (b_2.ext (e7.t fz)).lt J fun ik _ dm eh _ fj H=>(bV [F0,S0] H dm.lt J fun ir _ jo ee _ cz ge=>?_);have ci:=(dm.ext cz);refine so aB ci (a5 s9 A9 n9 c9) ge eh J J J J fun _ jx da fx=>?_;have ct:=(jo.vN da);refine so aB ct (a5 il ja io ji) fx ee J J J J fun kk jj cv fp=>(aG (aD (aV 1 J (aA (no n) J (eC J J J (((n:Nat):Int)-1) (fS J) (aE 1 J (bO ?_)))))));refine dC (T:=a6×Nat×Int×ZC×ZC) (fun⟨wr,k,ii,f,k1⟩=> [(0,up (some a) n cap),(2,i5 g1 0),(3,no 0),(6,i5 ik 0),(7,i5 ir 0),(8,no ii)]) (fun⟨wr,k,ii,f,k1⟩=>wr) (fun⟨wr,k,ii,f,k1⟩=>(Ext w wr)∧(k≤n)∧(ii=(k:Int)-1)∧(Bk wr g1 26 [F0,S0,F0,S0])∧(Bk wr ik 24 (a5 f.s f.A f.n f.c))∧(Bk wr ir 24 (a5 k1.s k1.A k1.n k1.c))∧(Zr wr w.heap.size f.s f.A f.n f.c (nd (zs.drop k)).1)∧(Zr wr w.heap.size k1.s k1.A k1.n k1.c (nd (zs.drop k)).2)) (fun⟨wr,k,ii,f,k1⟩=>k) (⟨kk,n,_,⟨s9,A9,n9,c9⟩,⟨il,ja,io,ji⟩⟩:a6×Nat×Int×ZC×ZC) ⟨fp,aU _,rfl,(((b_2.ext (e7.t (fz.t (fj.t cz)))).vN da).vN cv),(jx.vN cv),jj,((((z9.ext (fz.t (fj.t cz))).updT ci da).updT ct cv)).cast (by rw [List.drop_of_length_le (Nat.le_of_eq bf)];rfl),((((kn.ext (fj.t cz)).updT ci da).updT ct cv)).cast (by rw [List.drop_of_length_le (Nat.le_of_eq bf)];rfl)⟩ J (aP J) ?_;rintro⟨wr,k,ii,f,k1⟩ ⟨o,hk,kb,b_2,b_6,b_7,F,G⟩;refine aD (aD ?_);by_cases kq:0<k
  ·obtain⟨j,rfl⟩:∃j,k=j+1:=⟨k-1,by omega⟩;obtain rfl:ii=(j:Int):=by omega
   refine aK 1 J (aH J (tR) (aG (bC J (bB (aL (aD (bO ?_)))))));obtain⟨kd,kj,kp,go,kf⟩:=hl.elem (i:=j) i9;have lh:ln ((zs.getD (j) 0)*((nd (zs.drop (j+1))).1)+((nd (zs.drop (j+1))).2))≤3145730:=a8 (eK (dI (a8 (hl.ln (j) i9) (hms _)) (hnd (j+1)).1) (hnd (j+1)).2) yd;refine dW cM 8 [] [Is (up (some a) n cap),Is (no (j:Int)),Is (.pointer (some (a.add ((j)*2)))),Is (.agg #[.bool kd,up kj (ms.getD (j) 0) kp]),Is (O f.s f.A f.n f.c),Is (O k1.s k1.A k1.n k1.c),ZR w.heap.size ((zs.getD (j) 0)*((nd (zs.drop (j+1))).1)+((nd (zs.drop (j+1))).2)),Is (O f.s f.A f.n f.c)] [[],[],[0,1],[2],[],[],[3,4,5],[]] rfl (bY J ?_ ?_ ?_ ?_ (bY J ?_ ?_ ?_ ?_ dN)) ?_
   ·exact fun _ _=>aC (mv 1 J (aI J))
   ·exact fun _ _=>aC (mv 1 J (aI J))
   ·exact fun _ _=>aY J (aC (zI J J J sB aB.size (a.add ((j)*2)) J (aI J)))
   ·intro _ ko;have h:=o.trans ko;exact aO J (aC (bG (go _ h _ _ aB) J (aI J)))
   ·exact fun _ ke=>aC (lo aB (b_6.ext ke) (a5 f.s f.A f.n f.c) J J J (aI J))
   ·exact fun _ kc=>aC (lo aB (b_7.ext kc) (a5 k1.s k1.A k1.n k1.c) J J J (aI J))
   ·intro _ fe;have h:=o.trans fe;refine aY J (aO J (aC ?_));have lj:ln ((zs.getD (j) 0)*((nd (zs.drop (j+1))).1)+((nd (zs.drop (j+1))).2))≤3145730:=a8 (eK (dI (a8 (hl.ln (j) i9) (hms _)) (hnd (j+1)).1) (hnd (j+1)).2) yd;refine aX h (FI h.size (kf.ext h) (a8 (hms _) yd) (F.ext fe).zi (F.le (a8 (hnd (j+1)).1 yd)) (G.ext fe).zi (G.le (a8 (hnd (j+1)).2 yd))) J ?_;rintro _ _ ⟨_,_,_,_,rfl,ka⟩ ki E;exact bQ J ki ⟨_,_,_,_,rfl,ka⟩
   ·exact fun _ jy=>aC (lo aB (b_6.ext jy) (a5 f.s f.A f.n f.c) J J J (aI J))
   intro _ bo;have h:=o.trans bo;refine d6 J (aY J (aW J ?_));rintro _ _ ⟨ew,en,dg,dr,rfl,cp⟩ _ jr;have cp:=cp.ext jr;refine aO J (aC ?_);have Y:=(b_6.ext bo);refine so aB Y (a5 ew en dg dr) h eh J J J J fun _ fo bh E=>?_;have L:=((b_7.ext bo).vN bh);refine so aB L (a5 f.s f.A f.n f.c) E ee J J J J fun jf fd bj H=>(cF (dM (bT (aL (aK 1 J (eC J J J ((j:Int)-1) (fS J) (bS 1 J (cP (⟨jf,j,(j:Int)-1,⟨ew,en,dg,dr⟩,⟨f.s,f.A,f.n,f.c⟩⟩:a6×Nat×Int×ZC×ZC) ⟨H,i9,rfl,(((b_2.ext bo).vN bh).vN bj),(fo.vN bj),fd,(((cp.updT Y bh).updT L bj)).cast (by rw [tY (zs:=zs) (i:=j)];rfl),((((F.ext bo).updT Y bh).updT L bj)).cast (by rw [tY (zs:=zs) (i:=j)];rfl)⟩ (show j<j+1 by omega) J (aP J)))))))))
  obtain rfl:k=0:=by omega
  refine aK 1 J (aH J (mJ) (aG (aT J (d9 (cY (d7 (d8 (aL (sr (lo aB b_6 (a5 f.s f.A f.n f.c) J J J (lo aB b_7 (a5 k1.s k1.A k1.n k1.c) J J J (aX o (P2 o.size F.zi (F.le (a8 (hnd 0).1 yd)) G.zi (G.le (a8 (hnd 0).2 yd)) hD (B2 zs)) J ?_))))))))))));rintro _ _ ⟨_,_,rfl,⟨am,aw,ak,az,ar,aq,ag,au,rfl,ij,iu,gg⟩,rfl⟩ jh h;refine aA (a9 am aw ak az ar aq ag au) J (aA (no 0) J ?_);have Z:=(b_2.ext jh);refine so bJ Z [.bool am,up aw ak az,.bool ar,up aq ag au] h jm J J J J fun _ ft dx E=>(aE 1 J (bA (aZ [a9 am aw ak az ar aq ag au,I0] J ⟨⟨_,rfl,bK bJ ft [.bool am,up aw ak az,.bool ar,up aq ag au] J (bq J) rfl⟩,rfl,xl⟩ ?_)));exact⟨_,rfl,⟨_,_,rfl,⟨_,_,_,_,_,_,_,_,rfl,(ij.updT Z dx),(iu.updT Z dx),gg⟩,rfl⟩,E⟩
 refine aK 1 J (mS J J sB aB.size (lo:=1) (hi:=n) J J i9 gy (v:= up (some (a.add 2)) (n-1) (cap-1)) (by rw [if_neg ix];rfl) yd (aA (no ((n-1):Nat)) J (aE 1 J (bO ?_))));refine dC (T:=a6×Nat) (fun⟨wr,i⟩=> [(0,up (some a) n cap),(2,i5 g1 0),(3,no 0),(14,up (some (a.add 2)) (n-1) (cap-1)),(15,no ((n-1):Nat)),(16,no (i:Int))]) (fun⟨wr,i⟩=>wr) (fun⟨wr,i⟩=>(Ext w wr)∧(i≤n-1)∧(Bk wr g1 26 [F0,S0,F0,S0])) (fun⟨wr,i⟩=>n-i) (⟨v2,0⟩:a6×Nat) ⟨o,bX _,jq⟩ J (aP J) ?_;rintro⟨wr,i⟩ ⟨o,kg,b_2⟩;refine aD ?_;by_cases ig:i<n-1
 ·refine bH (aH J (MM ig) (aG (aD (bC J (bB (aL (aD (bO (sr ?_)))))))));obtain⟨em,ey,ej,fg,iz⟩:=hl.elem (i:=i+1) i9;refine zI J J J sB aB.size (a.add ((i+1)*2)) (by rw [oY];congr 1;omega) (bG (fg _ o _ _ aB) J (bV [F0,S0] o b_2.lt J fun _ _ fk gf _ jt h=>(so aB fk [.bool em,up ey (ms.getD (i+1) 0) ej] h gf J J J J fun _ fw ju E=>(aG (sr (lo aB fw [.bool em,up ey (ms.getD (i+1) 0) ej] J J J (aX E (jH (iz.ext E) (a8 (hms _) yd)) J ?_)))))));rintro _ jp rfl iy H;refine aH J (DU (hf.2 (i+1) i9 i9)) (aG (aT J (bB (bT (aL (bH (eC J J J ((i+1:Nat):Int) (vZ) (bS 1 J (cP (⟨jp,i+1⟩:a6×Nat) ⟨H,i9,(((b_2.ext jt).vN ju).ext iy)⟩ (show n-(i+1)<n-i by omega) J (aP J))))))))))
 refine bH (aH J (MN i9) (aG (aD (aT J (d9 (cY (d7 (d8 (aL (sr (bI [no 1] o (l7 o.size yd yd) J ?_)))))))))));rintro _ _ ⟨eg,ez,el,fb,rfl,jc⟩ du h;refine bI [I0] h (l7 h.size yd yd) J ?_;rintro _ _ ⟨dy,ef,dw,df,rfl,ib⟩ ch E;refine bV [F0,S0] E (b_2.ext (du.t ch)).lt J fun dz _ bp cm _ cj H=>(bV [F0,S0] H bp.lt J fun dt _ fq bw _ bm ge=>?_);have W:=(bp.ext bm);refine so aB W (a5 eg ez el fb) ge cm J J J J fun _ ga aj fx=>?_;have M:=(fq.vN aj);refine so aB M (a5 dy ef dw df) fx bw J J J J fun gx fi bd fp=>(aG (aD (aV 1 J (aA (no n) J (eC J J J (((n:Nat):Int)-1) (fS J) (aE 1 J (bO ?_)))))));refine dC (T:=a6×Nat×Int×ZC×ZC) (fun⟨wr,k,ii,f,k1⟩=> [(0,up (some a) n cap),(2,i5 g1 0),(3,no 0),(6,i5 dz 0),(7,i5 dt 0),(8,no ii)]) (fun⟨wr,k,ii,f,k1⟩=>wr) (fun⟨wr,k,ii,f,k1⟩=>(Ext w wr)∧(k≤n)∧(ii=(k:Int)-1)∧(Bk wr g1 26 [F0,S0,F0,S0])∧(Bk wr dz 24 (a5 f.s f.A f.n f.c))∧(Bk wr dt 24 (a5 k1.s k1.A k1.n k1.c))∧(Zr wr w.heap.size f.s f.A f.n f.c (nd (zs.drop k)).1)∧(Zr wr w.heap.size k1.s k1.A k1.n k1.c (nd (zs.drop k)).2)) (fun⟨wr,k,ii,f,k1⟩=>k) (⟨gx,n,_,⟨eg,ez,el,fb⟩,⟨dy,ef,dw,df⟩⟩:a6×Nat×Int×ZC×ZC) ⟨fp,aU _,rfl,(((b_2.ext (du.t (ch.t (cj.t bm)))).vN aj).vN bd),(ga.vN bd),fi,((((jc.ext (ch.t (cj.t bm))).updT W aj).updT M bd)).cast (by rw [List.drop_of_length_le (Nat.le_of_eq bf)];rfl),((((ib.ext (cj.t bm)).updT W aj).updT M bd)).cast (by rw [List.drop_of_length_le (Nat.le_of_eq bf)];rfl)⟩ J (aP J) ?_;rintro⟨wr,k,ii,f,k1⟩ ⟨o,hk,kb,b_2,b_6,b_7,F,G⟩;refine aD (aD ?_);by_cases kq:0<k
 ·obtain⟨j,rfl⟩:∃j,k=j+1:=⟨k-1,by omega⟩;obtain rfl:ii=(j:Int):=by omega
  refine aK 1 J (aH J (tR) (aG (bC J (bB (aL (aD (bO ?_)))))));obtain⟨iw,jb,jk,fm,jw⟩:=hl.elem (i:=j) i9;have ks:ln ((zs.getD (j) 0)*((nd (zs.drop (j+1))).1)+((nd (zs.drop (j+1))).2))≤3145730:=a8 (eK (dI (a8 (hl.ln (j) i9) (hms _)) (hnd (j+1)).1) (hnd (j+1)).2) yd;refine dW cM 8 [] [Is (up (some a) n cap),Is (no (j:Int)),Is (.pointer (some (a.add ((j)*2)))),Is (.agg #[.bool iw,up jb (ms.getD (j) 0) jk]),Is (O f.s f.A f.n f.c),Is (O k1.s k1.A k1.n k1.c),ZR w.heap.size ((zs.getD (j) 0)*((nd (zs.drop (j+1))).1)+((nd (zs.drop (j+1))).2)),Is (O f.s f.A f.n f.c)] [[],[],[0,1],[2],[],[],[3,4,5],[]] rfl (bY J ?_ ?_ ?_ ?_ (bY J ?_ ?_ ?_ ?_ dN)) ?_
  ·exact fun _ _=>aC (mv 1 J (aI J))
  ·exact fun _ _=>aC (mv 1 J (aI J))
  ·exact fun _ _=>aY J (aC (zI J J J sB aB.size (a.add ((j)*2)) J (aI J)))
  ·intro _ ia;have h:=o.trans ia;exact aO J (aC (bG (fm _ h _ _ aB) J (aI J)))
  ·exact fun _ iq=>aC (lo aB (b_6.ext iq) (a5 f.s f.A f.n f.c) J J J (aI J))
  ·exact fun _ je=>aC (lo aB (b_7.ext je) (a5 k1.s k1.A k1.n k1.c) J J J (aI J))
  ·intro _ br;have h:=o.trans br;refine aY J (aO J (aC ?_));have kv:ln ((zs.getD (j) 0)*((nd (zs.drop (j+1))).1)+((nd (zs.drop (j+1))).2))≤3145730:=a8 (eK (dI (a8 (hl.ln (j) i9) (hms _)) (hnd (j+1)).1) (hnd (j+1)).2) yd;refine aX h (FI h.size (jw.ext h) (a8 (hms _) yd) (F.ext br).zi (F.le (a8 (hnd (j+1)).1 yd)) (G.ext br).zi (G.le (a8 (hnd (j+1)).2 yd))) J ?_;rintro _ _ ⟨_,_,_,_,rfl,ie⟩ gi E;exact bQ J gi ⟨_,_,_,_,rfl,ie⟩
  ·exact fun _ jg=>aC (lo aB (b_6.ext jg) (a5 f.s f.A f.n f.c) J J J (aI J))
  intro _ I;have h:=o.trans I;refine d6 J (aY J (aW J ?_));rintro _ _ ⟨fa,dl,de,dh,rfl,bu⟩ _ jd;have bu:=bu.ext jd;refine aO J (aC ?_);have X:=(b_6.ext I);refine so aB X (a5 fa dl de dh) h cm J J J J fun _ gb bg E=>?_;have U:=((b_7.ext I).vN bg);refine so aB U (a5 f.s f.A f.n f.c) E bw J J J J fun gk fy bi H=>(cF (dM (bT (aL (aK 1 J (eC J J J ((j:Int)-1) (fS J) (bS 1 J (cP (⟨gk,j,(j:Int)-1,⟨fa,dl,de,dh⟩,⟨f.s,f.A,f.n,f.c⟩⟩:a6×Nat×Int×ZC×ZC) ⟨H,i9,rfl,(((b_2.ext I).vN bg).vN bi),(gb.vN bi),fy,(((bu.updT X bg).updT U bi)).cast (by rw [tY (zs:=zs) (i:=j)];rfl),((((F.ext I).updT X bg).updT U bi)).cast (by rw [tY (zs:=zs) (i:=j)];rfl)⟩ (show j<j+1 by omega) J (aP J)))))))))
 obtain rfl:k=0:=by omega
 refine aK 1 J (aH J (mJ) (aG (aT J (d9 (cY (d7 (d8 (aL (sr (lo aB b_6 (a5 f.s f.A f.n f.c) J J J (lo aB b_7 (a5 k1.s k1.A k1.n k1.c) J J J (aX o (P2 o.size F.zi (F.le (a8 (hnd 0).1 yd)) G.zi (G.le (a8 (hnd 0).2 yd)) hD (B2 zs)) J ?_))))))))))));rintro _ _ ⟨_,_,rfl,⟨aa,ba,ai,av,ao,ah,ae,ab,rfl,gj,jl,fv⟩,rfl⟩ jv h;refine aA (a9 aa ba ai av ao ah ae ab) J (aA (no 0) J ?_);have V:=(b_2.ext jv);refine so bJ V [.bool aa,up ba ai av,.bool ao,up ah ae ab] h jm J J J J fun _ fh fc E=>(aE 1 J (bA (aZ [a9 aa ba ai av ao ah ae ab,I0] J ⟨⟨_,rfl,bK bJ fh [.bool aa,up ba ai av,.bool ao,up ah ae ab] J (bq J) rfl⟩,rfl,xl⟩ ?_)));exact⟨_,rfl,⟨_,_,rfl,⟨_,_,_,_,_,_,_,_,rfl,(gj.updT V fc),(jl.updT V fc),fv⟩,rfl⟩,E⟩
theorem a1y (hb:b≤w.heap.size)(hl0:Zl w A n cap zs ms)(hln:n≤1048576)(hms:∀i,ms.getD i 0≤1048576)(hf:¬p8 zs):aQ aM 43 #[up A n cap] w (Gv w (T2 (FA b (0) (0)) (Is (no 3)))):=by
 refine Calls.mono (R:=Gv w (T2 (FA w.heap.size (0) (0)) (Is (no 3)))) ?_ (Gv.imp (T2.imp (FA.imp hb) Is.imp));refine bU Tryz.func43 47 J (sr (nI [F0,S0,F0,S0] bN J fun g1 v2 I ai _ f=>(aE 1 J (aD (aD ?_)))));by_cases hz:n=0
 ·subst hz;refine aK 1 J (aA (no 0) J (aA (we) J (aG (bC J (sr (aA (.agg #[F0,S0,F0,S0]) J (so bJ I [F0,S0,F0,S0] f ai J J J J fun v6 aw _ M=>(aE 1 J (bA (cI (aZ [.agg #[F0,S0,F0,S0],no 3] J ⟨⟨_,rfl,bK bJ aw [F0,S0,F0,S0] J (bq J) rfl⟩,rfl,xl⟩ ?_)))))))))));exact⟨_,rfl,⟨_,_,rfl,⟨_,_,_,_,_,_,_,_,rfl,(Zr.zero (w:=v6) (base:=w.heap.size)),(Zr.zero (w:=v6) (base:=w.heap.size)),(fun _ h _=>oX h)⟩,rfl⟩,M⟩
 obtain⟨a,rfl⟩:=hl0.some i9;have hl:=hl0;have E:=hl.len;have aa:=hl.le;have aq:=hl.max;rw [eV] at aq;have bf:0<n:=by omega
 refine aK 1 J (aA (no n) J (aH J (gC i9) (aG (aT J (bB (aL (aD (aD ?_))))))));by_cases ag:cap=1
 ·refine aK 1 J (mS J J sB aB.size (lo:=1) (hi:=n) J J i9 aa (v:= up (some a) (n-1) (cap-1)) (by rw [if_pos ag]) yd (aA (no ((n-1):Nat)) J (aE 1 J (bO ?_))));refine dC (T:=a6×Nat) (fun⟨wr,i⟩=> [(0,up (some a) n cap),(2,i5 g1 0),(3,no 0),(14,up (some a) (n-1) (cap-1)),(15,no ((n-1):Nat)),(16,no (i:Int))]) (fun⟨wr,i⟩=>wr) (fun⟨wr,i⟩=>(Ext w wr)∧(i≤n-1)∧(∀j,1≤j→j<i+1→0<zs.getD j 0)∧(Bk wr g1 26 [F0,S0,F0,S0])) (fun⟨wr,i⟩=>n-i) (⟨v2,0⟩:a6×Nat) ⟨f,bX _,(fun j h1 h2=>by omega),I⟩ J (aP J) ?_;rintro⟨wr,i⟩ ⟨f,av,o,b_2⟩;refine aD ?_;by_cases ah:i<n-1
  ·omega
  exact absurd ⟨fun e=>by rw [e] at E;simp at E;omega,fun j h1 h2=>o j h1 i9⟩ hf
 refine aK 1 J (mS J J sB aB.size (lo:=1) (hi:=n) J J i9 aa (v:= up (some (a.add 2)) (n-1) (cap-1)) (by rw [if_neg ag];rfl) yd (aA (no ((n-1):Nat)) J (aE 1 J (bO ?_))));refine dC (T:=a6×Nat) (fun⟨wr,i⟩=> [(0,up (some a) n cap),(2,i5 g1 0),(3,no 0),(14,up (some (a.add 2)) (n-1) (cap-1)),(15,no ((n-1):Nat)),(16,no (i:Int))]) (fun⟨wr,i⟩=>wr) (fun⟨wr,i⟩=>(Ext w wr)∧(i≤n-1)∧(∀j,1≤j→j<i+1→0<zs.getD j 0)∧(Bk wr g1 26 [F0,S0,F0,S0])) (fun⟨wr,i⟩=>n-i) (⟨v2,0⟩:a6×Nat) ⟨f,bX _,(fun j h1 h2=>by omega),I⟩ J (aP J) ?_;rintro⟨wr,i⟩ ⟨f,av,o,b_2⟩;refine aD ?_;by_cases ah:i<n-1
 ·refine bH (aH J (MM ah) (aG (aD (bC J (bB (aL (aD (bO (sr ?_)))))))));obtain⟨L,H,V,ae,aj⟩:=hl.elem (i:=i+1) i9;refine zI J J J sB aB.size (a.add ((i+1)*2)) (by rw [oY];congr 1;omega) (bG (ae _ f _ _ aB) J (bV [F0,S0] f b_2.lt J fun _ _ Y W _ Z M=>(so aB Y [.bool L,up H (ms.getD (i+1) 0) V] M W J J J J fun _ G ab F=>(aG (aD ?_)))));by_cases hx:zs.getD (i+1) 0≤0
  ·refine bH (lo aB G [.bool L,up H (ms.getD (i+1) 0) V] J J J (aX F (jH (aj.ext F) (a8 (hms _) yd)) J ?_));rintro _ _ rfl iB U;refine aH J (JO hx) (aG (bC J (sr (aA (.agg #[F0,S0,F0,S0]) J ?_))));refine so bJ (((b_2.ext Z).vN ab).ext iB) [F0,S0,F0,S0] U ai J J J J fun X ak _ ar=>(aE 1 J (bA (gV (cI (oC (gV (cI (aZ [.agg #[F0,S0,F0,S0],no 3] J ⟨⟨_,rfl,bK bJ ak [F0,S0,F0,S0] J (bq J) rfl⟩,rfl,xl⟩ ?_))))))));exact⟨_,rfl,⟨_,_,rfl,⟨_,_,_,_,_,_,_,_,rfl,(Zr.zero (w:=X) (base:=w.heap.size)),(Zr.zero (w:=X) (base:=w.heap.size)),(fun _ h _=>oX h)⟩,rfl⟩,ar⟩
  refine bH (lo aB G [.bool L,up H (ms.getD (i+1) 0) V] J J J (aX F (jH (aj.ext F) (a8 (hms _) yd)) J ?_));rintro _ au rfl ao U;refine aH rfl (DU i9) (aG (aT rfl (bB (bT (aL (bH (eC rfl rfl rfl ((i+1:Nat):Int) (vZ) (bS 1 rfl (cP (⟨au,i+1⟩:a6×Nat) ⟨U,i9,(fun j h1 h2=>by rcases Nat.lt_or_ge j (i+1) with h3 | h3;exact o j h1 h3;obtain rfl:j=i+1:=i9;omega),(((b_2.ext Z).vN ab).ext ao)⟩ (show n-(i+1)<n-i by omega) rfl (aP rfl))))))))))
 exact absurd ⟨fun e=>by rw [e] at E;simp at E;omega,fun j h1 h2=>o j h1 i9⟩ hf
theorem a1T {nb:Nat}(hb:b≤w.heap.size)(hr:Zi w sa Aa na ca r)(la:na≤4194304)(hm:Zi w sb Ab nb cb m)(lb:nb≤4194304):aQ aM 44 #[O sa Aa na ca,O sb Ab nb cb] w (Gv w (T2 (FA b (kW m r) (kX m r)) (Is (no (kB m r))))):=by
 refine Calls.mono (R:=Gv w (T2 (FA w.heap.size (kW m r) (kX m r)) (Is (no (kB m r))))) ?_ (Gv.imp (T2.imp (FA.imp hb) Is.imp));have Lr:=bP hr la;have Lm:=bP hm lb;refine bU Tryz.func44 103 J (sr (bx (a5 sa Aa na ca) bN J J J fun g1 _ qf _ _ fy=>(fY (a5 sb Ab nb cb) fy qf.lt J J J fun g6 _ ge _ _ e8 fj=>(bV [F0,S0,F0,S0] fj ge.lt J fun fq _ ia ju _ fv da=>(aE 1 J (aD (aD ?_)))))));by_cases em:0<m
 ·refine bH (lo aB (ge.ext fv) (a5 sb Ab nb cb) J J J (aX da (jH (hm.ext da) (aJ lb J)) J ?_));rintro _ vm rfl fb G;refine aH J (DU em) (aG (aT J (bB (aL (aD ?_)))));have jl:ln (m-1)≤4194305:=a8 (jY Lm (show ln (1)≤1 by decide+kernel)) yd;have ud:ln (((m-1)).tdiv 2)≤4194305:=a8 (jG _ _) jl;have yk:ln (((m-1)).tmod 2)≤4194305:=a8 (tK _ _) jl;refine vW cM 11 [6,7,8] [9,10] [Is (O sb Ab nb cb),ZR w.heap.size (1),ZR w.heap.size (m-1),ZR w.heap.size (2),T3 (ZR w.heap.size ((m-1).tdiv 2)) (ZR w.heap.size ((m-1).tmod 2)) (Is (no 0)),T3 (ZR w.heap.size ((m-1).tdiv 2)) (ZR w.heap.size ((m-1).tmod 2)) (Is (no 0)),ZR w.heap.size ((m-1).tdiv 2),ZR w.heap.size ((m-1).tmod 2),Is (no 0),PR vm.heap.size 24 [F0,S0],PR vm.heap.size 24 [F0,S0]] [[],[],[0,1],[],[2,3],[4],[5],[5],[5],[],[]] [[],[],[0,1],[0,1,2],[0,1,2,3],[0,1,2,3,4],[0,1,2,3,4,5],[0,1,2,3,4,5],[0,1,2,3,4,5],[],[],[0,1,2,3,4,5,6,9,10],[0,1,2,3,4,5,6,7,9,10,11],[0,1,2,3,4,5,6,7,8,9,10,11,12]] J J ⟨fun _ _ h=>PR.old h,fun _ _ h=>PR.old h,xl⟩ (bY J ?_ ?_ ?_ ?_ (cG J ?_ (cG J ?_ (gL J J (gM J ?_) (gL J J (gM J ?_) (gL J J (gM J ?_) (oU J J (vR J ?_) (oU J J (vR J ?_) dN)))))))) ?_
  ·exact fun _ wu=>aC (lo aB (ge.ext (fv.t (fb.t wu))) (a5 sb Ab nb cb) J J J (aI J))
  ·intro _ vu;have o:=G.trans vu;refine aC (bI [no 1] o (l7 o.size yd yd) J ?_);rintro _ _ ⟨_,_,_,_,rfl,vw⟩ xi bj;exact bQ J xi ⟨_,_,_,_,rfl,vw⟩
  ·intro _ wh;have o:=G.trans wh;refine aO J (aW J ?_);rintro _ _ ⟨_,_,_,_,rfl,kc⟩ _ xh;have kc:=kc.ext xh;refine aC ?_;have yi:ln (m-1)≤4194305:=a8 (jY Lm (show ln (1)≤1 by decide+kernel)) yd;refine aX o (vT o.size (hm.ext o) (aJ lb J) kc.zi (kc.le (a8 (show ln (1)≤1 by decide+kernel) yd))) J ?_;rintro _ _ ⟨_,_,_,_,rfl,vz⟩ vr bj;exact bQ J vr ⟨_,_,_,_,rfl,vz⟩
  ·intro _ xk;have o:=G.trans xk;refine aC (bI [no 2] o (l7 o.size yd yd) J ?_);rintro _ _ ⟨_,_,_,_,rfl,wg⟩ vt bj;exact bQ J vt ⟨_,_,_,_,rfl,wg⟩
  ·intro _ wm;have o:=G.trans wm;refine aW J ?_;rintro _ _ ⟨_,_,_,_,rfl,kb⟩ _ wy;have kb:=kb.ext wy;refine aW J ?_;rintro _ _ ⟨_,_,_,_,rfl,ke⟩ _ vq;have ke:=ke.ext vq;refine aC ?_;have yl:ln (((m-1)).tdiv 2)≤4194305:=a8 (jG _ _) jl;have yj:ln (((m-1)).tmod 2)≤4194305:=a8 (tK _ _) jl;refine aX o (FH o.size kb.zi (kb.le (aJ jl J)) ke.zi (ke.le (a8 (show ln (2)≤1 by decide+kernel) yd)) yd) J ?_;rintro _ _ ⟨_,_,_,rfl,⟨_,_,_,_,rfl,xj⟩,⟨_,_,_,_,rfl,ww⟩,rfl⟩ wp bj;exact bQ J wp ⟨_,_,_,rfl,⟨_,_,_,_,rfl,xj⟩,⟨_,_,_,_,rfl,ww⟩,rfl⟩
  ·intro _ _;refine aW J ?_;rintro _ _ ⟨_,_,_,rfl,⟨_,_,_,_,rfl,qt⟩,⟨_,_,_,_,rfl,pj⟩,rfl⟩ _ tr;have qt:=qt.ext tr;have pj:=pj.ext tr;refine aC (mv 1 J ?_);exact bQ J bN ⟨_,_,_,rfl,⟨_,_,_,_,rfl,qt⟩,⟨_,_,_,_,rfl,pj⟩,rfl⟩
  ·intro _ _;refine aW J ?_;rintro _ _ ⟨_,_,_,rfl,⟨qz,rk,tz,su,rfl,ig⟩,⟨_,_,_,_,rfl,oa⟩,rfl⟩ _ nk;have ig:=ig.ext nk;have oa:=oa.ext nk;refine aC ?_;exact⟨O qz rk tz su,rfl,rfl,fun _=>by kernel_rfl,⟨_,_,_,_,rfl,ig⟩⟩
  ·intro _ _;refine aW J ?_;rintro _ _ ⟨_,_,_,rfl,⟨_,_,_,_,rfl,kz⟩,⟨tf,uj,sk,uw,rfl,jf⟩,rfl⟩ _ md;have kz:=kz.ext md;have jf:=jf.ext md;refine aC ?_;exact⟨O tf uj sk uw,rfl,rfl,fun _=>by kernel_rfl,⟨_,_,_,_,rfl,jf⟩⟩
  ·intro _ _;refine aW J ?_;rintro _ _ ⟨_,_,_,rfl,⟨_,_,_,_,rfl,ot⟩,⟨_,_,_,_,rfl,kw⟩,rfl⟩ _ kt;have ot:=ot.ext kt;have kw:=kw.ext kt;refine aC ?_;exact⟨no 0,rfl,rfl,fun _=>by kernel_rfl,rfl⟩
  ·intro _ vh;refine aC (iL J (z:= .agg #[F0,S0]) (vs:= [F0,S0]) ye J fun _ _ nb=>?_);exact bQ J nb.ext ⟨⟨_,rfl,by rw [←nb.at_];exact vh.size,nb.bk⟩,_,rfl,Nat.le_of_eq nb.at_⟩
  ·intro _ rs;refine aC (iL J (z:= .agg #[F0,S0]) (vs:= [F0,S0]) ye J fun _ _ nb=>?_);exact bQ J nb.ext ⟨⟨_,rfl,by rw [←nb.at_];exact rs.size,nb.bk⟩,_,rfl,Nat.le_of_eq nb.at_⟩
  intro _ el;have o:=G.trans el;refine aO J (aW J ?_);rintro _ _ ⟨_,_,_,_,rfl,kk⟩ _ sj;have kk:=kk.ext sj;refine aW J ?_;rintro _ _ ⟨_,_,_,_,rfl,ll⟩ _ uh;have ll:=ll.ext uh;refine aW J ?_;rintro _ _ ⟨_,_,_,_,rfl,kp⟩ _ tq;have kp:=kp.ext tq;refine aW J ?_;rintro _ _ ⟨_,_,_,rfl,⟨_,_,_,_,rfl,nz⟩,⟨_,_,_,_,rfl,nx⟩,rfl⟩ _ mz;have nz:=nz.ext mz;have nx:=nx.ext mz;refine aW J ?_;rintro _ _ ⟨_,_,_,rfl,⟨_,_,_,_,rfl,ov⟩,⟨_,_,_,_,rfl,mo⟩,rfl⟩ _ oh;have ov:=ov.ext oh;have mo:=mo.ext oh;refine aW J ?_;rintro _ _ ⟨qx,lp,ko,mp,rfl,go⟩ _ sc;have go:=go.ext sc;refine aW J ?_;rintro _ _ ⟨ua,tx,vi,sn,rfl,lv⟩ _ uu;have lv:=lv.ext uu;refine aO J (aW J ?_);rintro _ _ ⟨fo,rfl,fd,fh⟩ _ vd;have fh:=fh.ext vd;have xr:fq<fo:=dA (ia.ext fb).lt fd;have fd:w.heap.size≤fo:=a8 G.size fd;refine aW J ?_;rintro _ _ ⟨ib,rfl,fg,gb⟩ _ rt;have gb:=gb.ext rt;have xu:fq<ib:=dA (ia.ext fb).lt fg;have fg:w.heap.size≤ib:=a8 G.size fg;refine aC ?_;intro en;have ya:ib≠fo:=fun e=>en 10 yd 9 yd yd _ _ J J _ _ J J _ (cJ J) (by rw [e];exact cJ J);clear en;refine so aB fh (a5 qx lp ko mp) o fd J J J J fun _ iu dx bj=>?_;have jm:=(gb.vN dx);refine so aB jm (a5 ua tx vi sn) bj fg J J J J fun _ qp dl kd=>(bS 1 J (dM (aL (sr (pf fo 1 J (bG (cE dY (iu.vN dl) J) J (dP [up lp ko mp] (a1t kd.size ((go.updT fh dx).updT jm dl).zi.wi (go.le (aJ ud J))) J ?_)))))));rintro _ _ ⟨_,ur,_,rfl,ry,dg⟩;obtain rfl:=L0 em (a0I em) ur;have L229a:(wd (rK m)).length≤4194305:=by have h:=xH em Lm;rw [oW] at h;exact a8 h yd
  have L229b:(wd (Int.natAbs ((m-1).tdiv 2)-(rK m)*(rK m))).length≤4194305:=a8 (iP (Nat.sub_le _ _)) ud;refine dO ?_;have jy:=kd.trans dg;obtain⟨_,_,rfl,⟨ai,ah,ag,rfl,vp,vk⟩,⟨sy,ti,rz,rfl,_,_⟩⟩:=ry;refine mv 1 J (aA (up ai ah ag) J (aA (up sy ti rz) J (aE 2 J (aV 1 J (aA (.agg #[F0,up ai ah ag]) J (iL J (z:= .agg #[F0,S0]) (vs:= [F0,S0]) ye J fun dh _ nb=>?_))))));have jh:=nb.bk;have qm:w.heap.size≤dh:=by rw [←nb.at_];exact jy.size
  have yf:fo<dh:=by rw [←nb.at_];exact ((iu.vN dl).ext dg).lt
  have yb:ib<dh:=by rw [←nb.at_];exact (qp.ext dg).lt
  have ef:=nb.ext;clear nb;have qg:=jy.trans ef;refine so aB jh [F0,up ai ah ag] qg qm J J J J fun _ jr ei ee=>(aG (sr (lo aB (((((ge.ext (fv.t (fb.t el))).vN dx).vN dl).ext (dg.t ef)).vN ei) (a5 sb Ab nb cb) J J J ?_)));have xw:ln ((Int.natAbs m:Int))≤4194304:=(by rw [vL];exact Lm);refine aX ee (a0Y ee.size (hm.ext ee) (aJ lb J)) J ?_;rintro _ _ ⟨ky,ma,nu,mw,rfl,rc⟩ dw cz;refine bI [I0] cz (l7 cz.size yd yd) J ?_;rintro _ _ ⟨mt,oi,mu,lj,rfl,ug⟩ cv fw;refine bV [F0,S0] fw (jr.ext (dw.t cv)).lt J fun ie _ je jb _ df jd=>(bV [F0,S0] jd je.lt J fun gj _ oz jj _ cp rj=>?_);have fk:=(je.ext cp);refine so aB fk (a5 ky ma nu mw) rj jb J J J J fun _ pq br tw=>?_;have fe:=(oz.vN br);refine so aB fe (a5 mt oi mu lj) tw jj J J J J fun _ ja bu gk=>(aG (sr (lo aB ((((((((qf.ext (e8.t (fv.t (fb.t el)))).vN dx).vN dl).ext (dg.t ef)).vN ei).ext (dw.t (cv.t (df.t cp)))).vN br).vN bu) (a5 sa Aa na ca) J J J (lo aB ((((((((ge.ext (fv.t (fb.t el))).vN dx).vN dl).ext (dg.t ef)).vN ei).ext (dw.t (cv.t (df.t cp)))).vN br).vN bu) (a5 sb Ab nb cb) J J J ?_))));have xz:ln (r%m)≤4194304:=a8 (tL) Lm;refine aX gk (a0U gk.size (hr.ext gk) (aJ la J) (hm.ext gk) (aJ lb J) i9) J ?_;rintro _ _ ⟨_,_,rfl,⟨jk,ji,ij,iz,rfl,kv⟩,rfl⟩ cj uz;refine mv 1 J (aA (O jk ji ij iz) J (aA (no 0) J (bV [F0,S0] uz (ja.ext cj).lt J fun ew _ dm fz _ bo sx=>(so aB dm (a5 jk ji ij iz) sx fz J J J J fun _ jw bm lu=>(aE 1 J (aD ?_))))));refine bH (bI [no 1] lu (l7 (aU _) yd yd) J ?_);rintro _ _ ⟨nh,mf,nl,ny,rfl,gf⟩ bf va;have qd:=(fun g h1 h2=>Nat.lt_irrefl _ (dA ((((kv.ext bo).updT dm bm).old) g h1) (gf.new g h2)));replace gf:=gf.mono lu.size;refine bV [F0,S0] va (jw.ext bf).lt J fun ez _ du ga _ bg ul=>(so aB du (a5 nh mf nl ny) ul ga J J J J fun vf pk ba vj=>(aG (aD (bO ?_))));refine dC (T:=a6×Int×Int×Int×Int×ZC×ZC×ZC×ZC) (fun⟨wr,x,y,t,u,k0,k1,k2,f⟩=> [(2,i5 g1 0),(3,i5 g6 0),(4,i5 fq 0),(5,no 0),(11,i5 dh 0),(12,i5 ie 0),(13,i5 gj 0),(14,i5 ew 0),(16,i5 ez 0)]) (fun⟨wr,x,y,t,u,k0,k1,k2,f⟩=>wr) (fun⟨wr,x,y,t,u,k0,k1,k2,f⟩=>(Ext w wr)∧(RecI m r x y t u)∧(jD (rK m) y.toNat x y t u=oQ m r)∧(Bk wr g1 24 (a5 sa Aa na ca))∧(Bk wr g6 24 (a5 sb Ab nb cb))∧(Bk wr fq 26 [F0,S0,F0,S0])∧(Bk wr dh 24 [F0,up ai ah ag])∧(Bk wr ie 24 (a5 k0.s k0.A k0.n k0.c))∧(Bk wr gj 24 (a5 k2.s k2.A k2.n k2.c))∧(Bk wr ew 24 (a5 k1.s k1.A k1.n k1.c))∧(Bk wr ez 24 (a5 f.s f.A f.n f.c))∧(Zr wr w.heap.size false ai ah ag ((rK m:Nat):Int))∧(Zr wr w.heap.size k0.s k0.A k0.n k0.c x)∧(Zr wr w.heap.size k1.s k1.A k1.n k1.c y)∧(Zr wr w.heap.size k2.s k2.A k2.n k2.c t)∧(Zr wr w.heap.size f.s f.A f.n f.c u)∧(∀g,iZ (O k1.s k1.A k1.n k1.c) g→iZ (O f.s f.A f.n f.c) g→False)) (fun⟨wr,x,y,t,u,k0,k1,k2,f⟩=>y.natAbs) (⟨vf,_,_,_,_,⟨ky,ma,nu,mw⟩,⟨jk,ji,ij,iz⟩,⟨mt,oi,mu,lj⟩,⟨nh,mf,nl,ny⟩⟩:a6×Int×Int×Int×Int×ZC×ZC×ZC×ZC) ⟨vj,RecI.init em,X9 em,((((((((((((qf.ext (e8.t (fv.t (fb.t el)))).vN dx).vN dl).ext (dg.t ef)).vN ei).ext (dw.t (cv.t (df.t cp)))).vN br).vN bu).ext (cj.t bo)).vN bm).ext (bf.t bg)).vN ba),((((((((((((ge.ext (fv.t (fb.t el))).vN dx).vN dl).ext (dg.t ef)).vN ei).ext (dw.t (cv.t (df.t cp)))).vN br).vN bu).ext (cj.t bo)).vN bm).ext (bf.t bg)).vN ba),((((((((((((ia.ext (fb.t el)).vN dx).vN dl).ext (dg.t ef)).vN ei).ext (dw.t (cv.t (df.t cp)))).vN br).vN bu).ext (cj.t bo)).vN bm).ext (bf.t bg)).vN ba),(((((((jr.ext (dw.t (cv.t (df.t cp)))).vN br).vN bu).ext (cj.t bo)).vN bm).ext (bf.t bg)).vN ba),(((((pq.vN bu).ext (cj.t bo)).vN bm).ext (bf.t bg)).vN ba),((((ja.ext (cj.t bo)).vN bm).ext (bf.t bg)).vN ba),((jw.ext (bf.t bg)).vN ba),pk,((((((((((sI vp vk).ext ef).updT jh ei).ext (dw.t (cv.t (df.t cp)))).updT fk br).updT fe bu).ext (cj.t bo)).updT dm bm).ext (bf.t bg)).updT du ba),(((((((rc.ext (cv.t (df.t cp))).updT fk br).updT fe bu).ext (cj.t bo)).updT dm bm).ext (bf.t bg)).updT du ba),((((kv.ext bo).updT dm bm).ext (bf.t bg)).updT du ba),(((((((ug.ext (df.t cp)).updT fk br).updT fe bu).ext (cj.t bo)).updT dm bm).ext (bf.t bg)).updT du ba),((gf.ext bg).updT du ba),qd⟩ J (aP J) ?_;rintro⟨wr,x,y,t,u,k0,k1,k2,f⟩ ⟨fy,hI,hR,b_2,b_3,b_4,b_11,b_12,b_13,b_14,b_16,zkk,tv,ct,vn,bi,oy⟩;refine ?_;have Lx:ln x≤4194305:=a8 (hI.ln_x) (aJ Lm J);have Ly:ln y≤4194305:=a8 (hI.ln_y) (aJ Lm J);have Lt:ln t≤4194305:=a8 (hI.ln_t em) (aJ Lm J);have Lu:ln u≤4194305:=a8 (hI.ln_u em) (aJ Lm J);refine aD (aD ?_);by_cases qr:((rK m:Nat):Int)<y
  ·refine bH (lo aB b_14 (a5 k1.s k1.A k1.n k1.c) J J J (lo aB b_11 [F0,up ai ah ag] J J J (bI [O k1.s k1.A k1.n k1.c,.agg #[F0,up ai ah ag]] fy (rX ct.zi (ct.le (aJ Ly J)) zkk.zi (zkk.le (a8 (show ln ((rK m:Nat):Int)≤4194305 by rw [oW];exact L229a) yd))) J ?_)));rintro _ _ rfl H fj;refine aH J (AB qr) (aG (bC J (bB (aL (bO (sr (lo aB (b_12.ext H) (a5 k0.s k0.A k0.n k0.c) J J J (lo aB (b_14.ext H) (a5 k1.s k1.A k1.n k1.c) J J J ?_))))))));have jo:ln ((x).tdiv y)≤4194305:=a8 (jG _ _) Lx;have xx:ln ((x).tmod y)≤4194305:=a8 (tK _ _) Lx;refine aX fj (FH fj.size (tv.ext H).zi (tv.le (aJ Lx J)) (ct.ext H).zi (ct.le (aJ Ly J)) i9) J ?_;rintro _ _ ⟨_,_,_,rfl,⟨ch,ci,cm,bw,rfl,nj⟩,⟨ao,am,aj,ak,rfl,ku⟩,rfl⟩ ab da;refine mv 1 J (aA (O ch ci cm bw) J (aA (O ao am aj ak) J (aA (no 0) J (bV [F0,S0] da (b_16.ext (H.t ab)).lt J fun kq _ jv po _ X G=>(bV [F0,S0] G jv.lt J fun kr _ pr py _ V o=>?_)))));have au:=(jv.ext V);refine so aB au (a5 ch ci cm bw) o po J J J J fun _ px I bj=>?_;have av:=(pr.vN I);refine so aB av (a5 ao am aj ak) bj py J J J J fun rm ix M kd=>(aE 1 J (aD (f9 [(2,i5 g1 0),(3,i5 g6 0),(4,i5 fq 0),(5,no 0),(11,i5 dh 0),(12,i5 ie 0),(13,i5 gj 0),(14,i5 ew 0),(16,i5 ez 0),(52,O k1.s k1.A k1.n k1.c),(53,.agg #[F0,up ai ah ag]),(54,no (bM y ((rK m:Nat):Int))),(55,we),(57,O k0.s k0.A k0.n k0.c),(58,O k1.s k1.A k1.n k1.c),(59,.tuple #[O ch ci cm bw,O ao am aj ak,I0]),(56,.tuple #[O ch ci cm bw,O ao am aj ak,I0]),(60,O ch ci cm bw),(61,O ao am aj ak),(62,no 0),(17,i5 kq 0),(18,i5 kr 0),(19,no 0)] (aP J) ?_)));obtain⟨mn,hv,F⟩:=gH rm;have jy:=kd.trans F;have aw:=((((b_12.ext (H.t (ab.t (X.t V)))).vN I).vN M).ext F);obtain⟨re,qq,qj,L,_⟩:=gP (a5 k1.s k1.A k1.n k1.c) 0 aB aw (a5 k1.s k1.A k1.n k1.c) rfl;have qg:=L.ext jy jb;have az:=(((((b_14.ext (H.t (ab.t (X.t V)))).vN I).vN M).ext F).vN L);obtain⟨mx,qe,pe,W,_⟩:=gP (a5 ao am aj ak) 0 aB az (a5 ao am aj ak) rfl;have ee:=W.ext qg fz;refine gJ cM mn [O k1.s k1.A k1.n k1.c,O ao am aj ak,undef,undef] [mn,re,mx] [2,3] [[],[],[0],[1]] [(0,0),(1,0),(1,1),(2,0),(3,1)] J hv ?_ ?_
   ·exact aR J (cS J (bK aB ((((b_14.ext (H.t (ab.t (X.t V)))).vN I).vN M).ext F) (a5 k1.s k1.A k1.n k1.c) J (bq J) J)) (aR J (cS J (bK aB (ix.ext F) (a5 ao am aj ak) J (bq J) J)) (aR J (cS J (bK aB ((ix.ext F).vN L) (a5 ao am aj ak) J (bq J) J)) (fV _ J J J J J J (fQ J J qq) (fV _ J J J J J J (fQ J J qe) gI))))
   clear hv;refine fU [(2,i5 g1 0),(3,i5 g6 0),(4,i5 fq 0),(5,no 0),(11,i5 dh 0),(12,i5 ie 0),(13,i5 gj 0),(14,i5 ew 0),(16,i5 ez 0),(52,O k1.s k1.A k1.n k1.c),(53,.agg #[F0,up ai ah ag]),(54,no (bM y ((rK m:Nat):Int))),(55,we),(57,O k0.s k0.A k0.n k0.c),(58,O k1.s k1.A k1.n k1.c),(59,.tuple #[O ch ci cm bw,O ao am aj ak,I0]),(56,.tuple #[O ch ci cm bw,O ao am aj ak,I0]),(60,O ch ci cm bw),(61,O ao am aj ak),(62,no 0),(17,i5 kq 0),(18,i5 kr 0),(19,no 0),(63,O k1.s k1.A k1.n k1.c),(64,O ao am aj ak)] (aP J) (aL ?_);have ve:=((((((ku.ext (X.t V)).updT au I).updT av M).ext F).updT aw L).updT az W).old;have il:ln ((x.tdiv y)*u)≤8388610:=a8 (dI jo Lu) yd;have xy:ln (t-((x.tdiv y)*u))≤8388611:=a8 (jY Lt il) yd;refine dW cM 6 [] [Is (O f.s f.A f.n f.c),Is (O k2.s k2.A k2.n k2.c),Is (O ch ci cm bw),Is (O f.s f.A f.n f.c),ZR w.heap.size ((x.tdiv y)*u),ZR mx.heap.size (t-((x.tdiv y)*u))] [[],[],[],[],[2,3],[1,4]] rfl (bY J ?_ ?_ ?_ ?_ (cG J ?_ (cG J ?_ dN))) ?_
   ·exact fun _ vb=>aC (lo aB (((((((b_16.ext (H.t (ab.t (X.t V)))).vN I).vN M).ext F).vN L).vN W).ext vb) (a5 f.s f.A f.n f.c) J J J (aI J))
   ·exact fun _ sm=>aC (lo aB (((((((b_13.ext (H.t (ab.t (X.t V)))).vN I).vN M).ext F).vN L).vN W).ext sm) (a5 k2.s k2.A k2.n k2.c) J J J (aI J))
   ·exact fun _ td=>aC (lo aB (((((px.vN M).ext F).vN L).vN W).ext td) (a5 ch ci cm bw) J J J (aI J))
   ·exact fun _ uc=>aC (lo aB (((((((b_16.ext (H.t (ab.t (X.t V)))).vN I).vN M).ext F).vN L).vN W).ext uc) (a5 f.s f.A f.n f.c) J J J (aI J))
   ·intro _ jq;have cz:=ee.trans jq;refine aY J (aC ?_);have xt:ln ((x.tdiv y)*u)≤8388610:=a8 (dI jo Lu) yd;refine aX cz (tT cz.size (((((((nj.ext (X.t V)).updT au I).updT av M).ext F).updT aw L).updT az W).ext jq).zi (nj.le (aJ jo J)) (((((((bi.ext (H.t (ab.t (X.t V)))).updT au I).updT av M).ext F).updT aw L).updT az W).ext jq).zi (bi.le (aJ Lu J))) J ?_;rintro _ _ ⟨_,_,_,_,rfl,te⟩ um fw;exact bQ J um ⟨_,_,_,_,rfl,te⟩
   ·intro _ ik;have cz:=ee.trans ik;refine aO J (aW J ?_);rintro _ _ ⟨_,_,_,_,rfl,gi⟩ _ rn;have gi:=gi.ext rn;refine aC ?_;have xo:ln (t-((x.tdiv y)*u))≤8388611:=a8 (jY Lt il) yd;refine aX cz (vT ik.size (((((((vn.ext (H.t (ab.t (X.t V)))).updT au I).updT av M).ext F).updT aw L).updT az W).ext ik).zi (vn.le (aJ Lt J)) gi.zi (gi.le (aJ il J))) J ?_;rintro _ _ ⟨_,_,_,_,rfl,ta⟩ si fw;exact bQ J si ⟨_,_,_,_,rfl,ta⟩
   intro _ ar;have cz:=ee.trans ar;refine d6 J (aW J ?_);rintro _ _ ⟨_,_,_,_,rfl,kj⟩ _ ro;have kj:=kj.ext ro;refine aW J ?_;rintro _ _ ⟨kg,mi,lh,my,rfl,ey⟩ _ tc;have ey:=ey.ext tc;have nw_z436:=ey.new;replace ey:=ey.mono ee.size;refine aC ?_;have dt:=(((((((b_13.ext (H.t (ab.t (X.t V)))).vN I).vN M).ext F).vN L).vN W).ext ar);refine so aB dt (a5 f.s f.A f.n f.c) cz jj J J J J fun _ pt bh fw=>?_;have dr:=((((((((b_16.ext (H.t (ab.t (X.t V)))).vN I).vN M).ext F).vN L).vN W).ext ar).vN bh);refine so aB dr (a5 kg mi lh my) fw ga J J J J fun uf pm bd jd=>(cF (dM (bT (cP (⟨uf,_,_,_,_,⟨k1.s,k1.A,k1.n,k1.c⟩,⟨ao,am,aj,ak⟩,⟨f.s,f.A,f.n,f.c⟩,⟨kg,mi,lh,my⟩⟩:a6×Int×Int×Int×Int×ZC×ZC×ZC×ZC) ⟨jd,hI.step i9,KW hI.x0 qr hR,(((((((((b_2.ext (H.t (ab.t (X.t V)))).vN I).vN M).ext F).vN L).vN W).ext ar).vN bh).vN bd),(((((((((b_3.ext (H.t (ab.t (X.t V)))).vN I).vN M).ext F).vN L).vN W).ext ar).vN bh).vN bd),(((((((((b_4.ext (H.t (ab.t (X.t V)))).vN I).vN M).ext F).vN L).vN W).ext ar).vN bh).vN bd),(((((((((b_11.ext (H.t (ab.t (X.t V)))).vN I).vN M).ext F).vN L).vN W).ext ar).vN bh).vN bd),((((qj.vN W).ext ar).vN bh).vN bd),(pt.vN bd),(((pe.ext ar).vN bh).vN bd),pm,(((((((((zkk.ext (H.t (ab.t (X.t V)))).updT au I).updT av M).ext F).updT aw L).updT az W).ext ar).updT dt bh).updT dr bd),(((((((((ct.ext (H.t (ab.t (X.t V)))).updT au I).updT av M).ext F).updT aw L).updT az W).ext ar).updT dt bh).updT dr bd),(((((((((ku.ext (X.t V)).updT au I).updT av M).ext F).updT aw L).updT az W).ext ar).updT dt bh).updT dr bd),(((((((((bi.ext (H.t (ab.t (X.t V)))).updT au I).updT av M).ext F).updT aw L).updT az W).ext ar).updT dt bh).updT dr bd),((ey.updT dt bh).updT dr bd),(fun g h1 h2=>Nat.lt_irrefl _ (dA (ve g h1) (nw_z436 g h2)))⟩ (nS (x:=x) (show y≠0 by omega)) J (aP J)))))
  have hv:=KX qr hR;refine bH (lo aB b_14 (a5 k1.s k1.A k1.n k1.c) J J J (lo aB b_11 [F0,up ai ah ag] J J J (bI [O k1.s k1.A k1.n k1.c,.agg #[F0,up ai ah ag]] fy (rX ct.zi (ct.le (aJ Ly J)) zkk.zi (zkk.le (a8 (show ln ((rK m:Nat):Int)≤4194305 by rw [oW];exact L229a) yd))) J ?_)));rintro _ _ rfl E fj;refine aH J (AC) (aG (aT J (d9 (cY (d7 (d8 (aL (tZ (T:=a6×Int×Int×ZC×ZC) (fun⟨wr,Y,U,k1,f⟩=> [(2,i5 g1 0),(3,i5 g6 0),(4,i5 fq 0),(5,no 0),(11,i5 dh 0),(14,i5 ew 0),(16,i5 ez 0)]) (fun⟨wr,Y,U,k1,f⟩=>wr) (fun⟨wr,Y,U,k1,f⟩=>(Ext w wr)∧(jO m r=(Y,U))∧(U≠0)∧(ln Y≤4194305)∧(ln U≤4194305)∧(Bk wr g1 24 (a5 sa Aa na ca))∧(Bk wr g6 24 (a5 sb Ab nb cb))∧(Bk wr fq 26 [F0,S0,F0,S0])∧(Bk wr dh 24 [F0,up ai ah ag])∧(Bk wr ew 24 (a5 k1.s k1.A k1.n k1.c))∧(Bk wr ez 24 (a5 f.s f.A f.n f.c))∧(Zr wr w.heap.size false ai ah ag ((rK m:Nat):Int))∧(Zr wr w.heap.size k1.s k1.A k1.n k1.c Y)∧(Zr wr w.heap.size f.s f.A f.n f.c U)∧(∀g,iZ (O k1.s k1.A k1.n k1.c) g→iZ (O f.s f.A f.n f.c) g→False)) ?_ ?_))))))))
  ·refine aD ?_;by_cases hu:u<0
   ·refine bH (lo aB (b_16.ext E) (a5 f.s f.A f.n f.c) J J J (aX fj (jH (bi.ext E).zi (bi.le (aJ Lu J))) J ?_));rintro _ _ rfl bp da;refine aH J (tB hu) (aG (bC J ?_));have xq:ln (-y)≤4194305:=(by rw [gQ];exact Ly);have yg:ln (-u)≤4194305:=(by rw [gQ];exact Lu);refine vW cM 4 [] [1,3] [Is (O k1.s k1.A k1.n k1.c),ZR w.heap.size (-y),Is (O f.s f.A f.n f.c),ZR w.heap.size (-u)] [[],[0],[],[2]] [[],[0],[],[0,1,2],[0,1,2,3],[0,1,2,3,4]] J J ⟨fun _ _ h=>ZR.old h,fun _ _ h=>ZR.old h,xl⟩ (cG J ?_ (oU J J (y6 (fun _ _ h=>h) J ?_) (cG J ?_ (oU J J (y6 (fun _ _ h=>h) J ?_) dN)))) ?_
    ·exact fun _ uq=>aC (lo aB (b_14.ext (E.t (bp.t uq))) (a5 k1.s k1.A k1.n k1.c) J J J (aI J))
    ·intro _ ni;have G:=da.trans ni;refine aO J (aC ?_);have yh:ln (-y)≤4194305:=(by rw [gQ];exact Ly);refine aX G (tS (aU _) (ct.ext (E.t (bp.t ni))).zi (ct.le (aJ Ly J))) J ?_;rintro _ _ ⟨_,_,_,_,rfl,oe⟩ vl o;exact bQ J vl ⟨⟨_,_,_,_,rfl,oe.mono G.size⟩,oe.new⟩
    ·exact fun _ tk=>aC (lo aB (b_16.ext (E.t (bp.t tk))) (a5 f.s f.A f.n f.c) J J J (aI J))
    ·intro _ mj;have G:=da.trans mj;refine aO J (aC ?_);have xv:ln (-u)≤4194305:=(by rw [gQ];exact Lu);refine aX G (tS (aU _) (bi.ext (E.t (bp.t mj))).zi (bi.le (aJ Lu J))) J ?_;rintro _ _ ⟨_,_,_,_,rfl,mg⟩ uk o;exact bQ J uk ⟨⟨_,_,_,_,rfl,mg.mono G.size⟩,mg.new⟩
    intro _ eg;have G:=da.trans eg;refine aO J (aW J ?_);rintro _ _ ⟨mh,mc,ki,mq,rfl,iq⟩ _ sv;have iq:=iq.ext sv;refine aO J (aW J ?_);rintro _ _ ⟨kx,mr,kn,mb,rfl,io⟩ _ qw;have io:=io.ext qw;refine aC ?_;intro en;have qh:=en 1 yd 3 yd yd _ _ J J _ _ J rfl;clear en;have fc:=(b_14.ext (E.t (bp.t eg)));refine so aB fc (a5 mh mc ki mq) G fz J J J J fun _ ow dz o=>?_;have fi:=((b_16.ext (E.t (bp.t eg))).vN dz);refine so aB fi (a5 kx mr kn mb) o ga J J J J fun tj qo dy bj=>(cF (dM (eO (⟨tj,-y,-u,⟨mh,mc,ki,mq⟩,⟨kx,mr,kn,mb⟩⟩:a6×Int×Int×ZC×ZC) ⟨bj,KV hv hu,(by have:=hI.u0;omega),(by rw [gQ];exact Ly),(by rw [gQ];exact Lu),(((b_2.ext (E.t (bp.t eg))).vN dz).vN dy),(((b_3.ext (E.t (bp.t eg))).vN dz).vN dy),(((b_4.ext (E.t (bp.t eg))).vN dz).vN dy),(((b_11.ext (E.t (bp.t eg))).vN dz).vN dy),(ow.vN dy),qo,(((zkk.ext (E.t (bp.t eg))).updT fc dz).updT fi dy),((iq.updT fc dz).updT fi dy),((io.updT fc dz).updT fi dy),qh⟩ J (aP J))))
   refine bH (lo aB (b_16.ext E) (a5 f.s f.A f.n f.c) J J J (aX fj (jH (bi.ext E).zi (bi.le (aJ Lu J))) J ?_));rintro _ ut rfl de da;refine aH J (tC) (aG (aT J (bB (eO (⟨ut,y,u,⟨k1.s,k1.A,k1.n,k1.c⟩,⟨f.s,f.A,f.n,f.c⟩⟩:a6×Int×Int×ZC×ZC) ⟨da,KU hv hu,(by have:=hI.u0;omega),Ly,Lu,(b_2.ext (E.t de)),(b_3.ext (E.t de)),(b_4.ext (E.t de)),(b_11.ext (E.t de)),(b_14.ext (E.t de)),(b_16.ext (E.t de)),(zkk.ext (E.t de)),(ct.ext (E.t de)),(bi.ext (E.t de)),oy⟩ J (aP J)))))
  rintro⟨wr,Y,U,k1,f⟩ ⟨fy,hS,_,LY,LU,b_2,b_3,b_4,b_11,b_14,b_16,zkk,ct,bi,oy⟩;refine sr (bI [no 1] fy (l7 fy.size yd yd) J ?_);rintro _ _ ⟨fm,fp,fx,ft,rfl,gy⟩ ae fj;refine bV [F0,S0] fj (b_16.ext ae).lt J fun _ _ aq qi _ aa da=>(so aB aq (a5 fm fp fx ft) da qi J J J J fun _ jp Z G=>(aG (aD (aD ?_))));obtain⟨ck,pd⟩:∃c,c=decide (((rK m:Nat):Int)<U):=⟨_,rfl⟩;obtain⟨cy,pg⟩:∃c,c=decide ((Int.gcd Y U:Int)≠1):=⟨_,rfl⟩;obtain⟨cu,pz⟩:∃c,c=decide ((Int.gcd U m:Int)≠1):=⟨_,rfl⟩;have ru:ln ((Int.gcd Y U:Int))≤4194305:=a8 (nC _ _) (Nat.max_le.2 ⟨a8 LY yd,a8 LU yd⟩);have ub:ln ((Int.gcd U m:Int))≤4194305:=a8 (nC _ _) (Nat.max_le.2 ⟨a8 LU yd,a8 Lm yd⟩);refine dW cM 20 [] [Is (O f.s f.A f.n f.c),Is (.agg #[F0,up ai ah ag]),Is (no (bM U ((rK m:Nat):Int))),Is (.bool ck),Is (.bool ck),Gd ck (Is (O k1.s k1.A k1.n k1.c)),Gd ck (Is (O f.s f.A f.n f.c)),Gd ck (ZR w.heap.size ((Int.gcd Y U:Int))),Gd ck (Is (O fm fp fx ft)),Gd ck (Is (no (bM (Int.gcd Y U:Int) 1))),Gd ck (Is (.bool cy)),Is (.bool (ck||cy)),Is (.bool (ck||cy)),Gd (ck||cy) (Is (O f.s f.A f.n f.c)),Gd (ck||cy) (Is (O sb Ab nb cb)),Gd (ck||cy) (ZR w.heap.size ((Int.gcd U m:Int))),Gd (ck||cy) (Is (O fm fp fx ft)),Gd (ck||cy) (Is (no (bM (Int.gcd U m:Int) 1))),Gd (ck||cy) (Is (.bool cu)),Is (.bool ((ck||cy)||cu))] [[],[],[0,1],[2],[3],[4],[4],[4,5,6],[4],[4,7,8],[4,9],[4,10],[11],[12],[12],[12,13,14],[12],[12,15,16],[12,17],[12,18]] rfl (bY J ?_ ?_ ?_ ?_ (bY J ?_ ?_ ?_ ?_ (bY J ?_ ?_ ?_ ?_ (bY J ?_ ?_ ?_ ?_ (bY J ?_ ?_ ?_ ?_ dN))))) ?_
  ·exact fun _ ux=>aC (lo aB (((b_16.ext (ae.t aa)).vN Z).ext ux) (a5 f.s f.A f.n f.c) J J J (aI J))
  ·exact fun _ ss=>aC (lo aB (((b_11.ext (ae.t aa)).vN Z).ext ss) [F0,up ai ah ag] J J J (aI J))
  ·intro _ jg;have o:=G.trans jg;refine aY J (aC (bI [O f.s f.A f.n f.c,.agg #[F0,up ai ah ag]] o (rX (((bi.ext (ae.t aa)).updT aq Z).ext jg).zi (bi.le (aJ LU J)) (((zkk.ext (ae.t aa)).updT aq Z).ext jg).zi (zkk.le (a8 (show ln ((rK m:Nat):Int)≤4194305 by rw [oW];exact L229a) yd))) J ?_));rintro _ _ rfl ui bj;exact bQ J ui rfl
  ·exact fun _ _=>aO J (aC (fP J J J ck (aI J) (hc:=(JF pd))))
  ·exact fun _ _=>aO J (aC (mv 1 J (aI J)))
  ·intro _ nt;have o:=G.trans nt;cases ck
   ·exact aO J (aC (lo aB (((b_14.ext (ae.t aa)).vN Z).ext nt) (a5 k1.s k1.A k1.n k1.c) J J J (aI J)))
   exact aO J (aC (mv 1 J (aI J)))
  ·intro _ kf;have o:=G.trans kf;cases ck
   ·exact aO J (aC (lo aB (((b_16.ext (ae.t aa)).vN Z).ext kf) (a5 f.s f.A f.n f.c) J J J (aI J)))
   exact aO J (aC (mv 1 J (aI J)))
  ·intro _ iw;have o:=G.trans iw;cases ck
   ·refine aY J (aO J (aC ?_));have xp:ln ((Int.gcd Y U:Int))≤4194305:=a8 (nC _ _) (Nat.max_le.2 ⟨a8 LY yd,a8 LU yd⟩);refine aX o (BN o.size (((ct.ext (ae.t aa)).updT aq Z).ext iw).zi (ct.le (aJ LY J)) (((bi.ext (ae.t aa)).updT aq Z).ext iw).zi (bi.le (aJ LU J))) J ?_;rintro _ _ ⟨_,_,_,_,rfl,uv⟩ vo bj;exact bQ J vo ⟨_,_,_,_,rfl,uv⟩
   exact aY J (aO J (aC (mv 1 J (aI J))))
  ·intro _ ou;have o:=G.trans ou;cases ck
   ·exact aO J (aC (lo aB (jp.ext ou) (a5 fm fp fx ft) J J J (aI J)))
   exact aO J (aC (mv 1 J (aI J)))
  ·intro _ ks;have o:=G.trans ks;cases ck
   ·refine aO J (aW J ?_);rintro _ _ ⟨_,_,_,_,rfl,gx⟩ _ sw;have gx:=gx.ext sw;refine aO J (aC (aX o (rX gx.zi (gx.le (aJ ru J)) (((gy.ext aa).updT aq Z).ext ks).zi (gy.le (a8 (show ln (1)≤1 by decide+kernel) yd))) J ?_));rintro _ _ rfl vc bj;exact bQ J vc rfl
   exact aY J (aO J (aC (mv 1 J (aI J))))
  ·intro _ ue;have o:=G.trans ue;cases ck
   ·exact aY J (aC (fP J J J cy (aI J) (hc:=(zU pg))))
   exact aY J (aC (mv 1 J (aI J)))
  ·intro _ vg;have o:=G.trans vg;cases ck
   ·exact aY J (aC (aA (.bool cy) J (aI J)))
   exact aY J (aC (aA (we) J (aI J)))
  ·exact fun _ _=>aO J (aC (mv 1 J (aI J)))
  ·intro _ lm;have o:=G.trans lm;cases ck
   ·cases cy
    ·exact aO J (aC (lo aB (((b_16.ext (ae.t aa)).vN Z).ext lm) (a5 f.s f.A f.n f.c) J J J (aI J)))
    exact aO J (aC (mv 1 J (aI J)))
   exact aO J (aC (mv 1 J (aI J)))
  ·intro _ nw;have o:=G.trans nw;cases ck
   ·cases cy
    ·exact aO J (aC (lo aB (((b_3.ext (ae.t aa)).vN Z).ext nw) (a5 sb Ab nb cb) J J J (aI J)))
    exact aO J (aC (mv 1 J (aI J)))
   exact aO J (aC (mv 1 J (aI J)))
  ·intro _ oo;have o:=G.trans oo;cases ck
   ·cases cy
    ·refine aY J (aO J (aC ?_));have yc:ln ((Int.gcd U m:Int))≤4194305:=a8 (nC _ _) (Nat.max_le.2 ⟨a8 LU yd,a8 Lm yd⟩);refine aX o (BN o.size (((bi.ext (ae.t aa)).updT aq Z).ext oo).zi (bi.le (aJ LU J)) (hm.ext o) (aJ lb J)) J ?_;rintro _ _ ⟨_,_,_,_,rfl,tg⟩ qy bj;exact bQ J qy ⟨_,_,_,_,rfl,tg⟩
    exact aY J (aO J (aC (mv 1 J (aI J))))
   exact aY J (aO J (aC (mv 1 J (aI J))))
  ·intro _ me;have o:=G.trans me;cases ck
   ·cases cy
    ·exact aO J (aC (lo aB (jp.ext me) (a5 fm fp fx ft) J J J (aI J)))
    exact aO J (aC (mv 1 J (aI J)))
   exact aO J (aC (mv 1 J (aI J)))
  ·intro _ oq;have o:=G.trans oq;cases ck
   ·cases cy
    ·refine aO J (aW J ?_);rintro _ _ ⟨_,_,_,_,rfl,gg⟩ _ tp;have gg:=gg.ext tp;refine aO J (aC (aX o (rX gg.zi (gg.le (aJ ub J)) (((gy.ext aa).updT aq Z).ext oq).zi (gy.le (a8 (show ln (1)≤1 by decide+kernel) yd))) J ?_));rintro _ _ rfl tn bj;exact bQ J tn rfl
    exact aY J (aO J (aC (mv 1 J (aI J))))
   exact aY J (aO J (aC (mv 1 J (aI J))))
  ·intro _ tu;have o:=G.trans tu;cases ck
   ·cases cy
    ·exact aY J (aC (fP J J J cu (aI J) (hc:=(zU pz))))
    exact aY J (aC (mv 1 J (aI J)))
   exact aY J (aC (mv 1 J (aI J)))
  ·intro _ uy;have o:=G.trans uy;cases ck
   ·cases cy
    ·exact aY J (aC (aA (.bool cu) J (aI J)))
    exact aY J (aC (aA (we) J (aI J)))
   exact aY J (aC (aA (we) J (aI J)))
  intro _ ej;have o:=G.trans ej;refine d6 J (aO J (aW J fun _ _ _ _ _=>(aW J fun _ _ _ _ _=>(aW J fun _ _ _ _ _=>(aW J fun _ _ _ _ _=>(aW J fun _ _ _ _ _=>(aW J fun _ _ _ _ _=>(aY J (aW J fun _ _ _ _ _=>?_)))))))));refine aW J fun _ _ _ _ _=>(aW J fun _ _ _ _ _=>(aW J fun _ _ _ _ _=>(aW J fun _ _ _ _ _=>(aW J fun _ _ _ _ _=>(aO J (aC ?_))))));cases hb:((ck||cy)||cu)
  ·have hE:=KS em hS pd pg pz (by revert hb;cases ck <;> cases cy <;> cases cu <;> decide);refine cF (dM (aL (aT J (bB (aL (sr (lo aB (((b_14.ext (ae.t aa)).vN Z).ext ej) (a5 k1.s k1.A k1.n k1.c) J J J (lo aB (((b_16.ext (ae.t aa)).vN Z).ext ej) (a5 f.s f.A f.n f.c) J J J (aA (a9 k1.s k1.A k1.n k1.c f.s f.A f.n f.c) J ?_)))))))));have fa:=(((b_4.ext (ae.t aa)).vN Z).ext ej);refine so bJ fa [.bool k1.s,up k1.A k1.n k1.c,.bool f.s,up f.A f.n f.c] o ju J J J J fun _ ka jt bj=>(aE 1 J (bA (aZ [a9 k1.s k1.A k1.n k1.c f.s f.A f.n f.c,I0] J ⟨⟨_,rfl,bK bJ ka [.bool k1.s,up k1.A k1.n k1.c,.bool f.s,up f.A f.n f.c] J (bq J) rfl⟩,rfl,xl⟩ ?_)));exact⟨_,rfl,⟨_,_,rfl,⟨_,_,_,_,_,_,_,_,rfl,(((((ct.ext (ae.t aa)).updT aq Z).ext ej).updT fa jt)).cast (by rw [hE.1]),(((((bi.ext (ae.t aa)).updT aq Z).ext ej).updT fa jt)).cast (by rw [hE.2.1]),oy⟩,(show (no 0:aF)=_ by rw [hE.2.2])⟩,bj⟩
  have hE:=KR em hS pd pg pz (by revert hb;cases ck <;> cases cy <;> cases cu <;> decide);refine cF (dM (aL (bC J (sr (aA (.agg #[F0,S0,F0,S0]) J ?_)))));refine so bJ (((b_4.ext (ae.t aa)).vN Z).ext ej) [F0,S0,F0,S0] o ju J J J J fun jc jx _ bj=>(aE 1 J (bA (cI (aZ [.agg #[F0,S0,F0,S0],no 6] J ⟨⟨_,rfl,bK bJ jx [F0,S0,F0,S0] J (bq J) rfl⟩,rfl,xl⟩ ?_))));exact⟨_,rfl,⟨_,_,rfl,⟨_,_,_,_,_,_,_,_,rfl,((Zr.zero (w:=jc) (base:=w.heap.size))).cast (by rw [hE.1]),((Zr.zero (w:=jc) (base:=w.heap.size))).cast (by rw [hE.2.1]),(fun _ h _=>oX h)⟩,(show (no 6:aF)=_ by rw [hE.2.2])⟩,bj⟩
 have hE:=KT (r:=r) em;refine bH (lo aB (ge.ext fv) (a5 sb Ab nb cb) J J J (aX da (jH (hm.ext da) (aJ lb J)) J ?_));rintro _ _ rfl ph G;refine aH J (JO i9) (aG (bC J (sr (aA (.agg #[F0,S0,F0,S0]) J ?_))));refine so bJ (ia.ext ph) [F0,S0,F0,S0] G ju J J J J fun iy jz _ o=>(aE 1 J (bA (cI (aZ [.agg #[F0,S0,F0,S0],no 3] J ⟨⟨_,rfl,bK bJ jz [F0,S0,F0,S0] J (bq J) rfl⟩,rfl,xl⟩ ?_))));exact⟨_,rfl,⟨_,_,rfl,⟨_,_,_,_,_,_,_,_,rfl,((Zr.zero (w:=iy) (base:=w.heap.size))).cast (by rw [hE.1]),((Zr.zero (w:=iy) (base:=w.heap.size))).cast (by rw [hE.2.1]),(fun _ h _=>oX h)⟩,(show (no 3:aF)=_ by rw [hE.2.2])⟩,o⟩
theorem EA {m r:Int}(hm:0<m)(k:Nat):∀(f:Nat) (x y t u:Int),RecI m r x y t u→(jD k f x y t u).1.natAbs≤m.natAbs∧(jD k f x y t u).2.natAbs≤m.natAbs
 | 0,x,y,t,u,h=>⟨by have:=h.y0;have:=h.yx;have:=h.xm;show y.natAbs≤_;omega,by
   show u.natAbs≤_
   have h1:=h.det
   have h2:1≤x.natAbs:=by have:=h.yx;have:=h.y0;omega
   have h3:u.natAbs≤x.natAbs*u.natAbs:=Nat.le_mul_of_pos_left _ h2
   omega⟩
 | f+1,x,y,t,u,h=>by
  rw [jD]
  split
  ·exact EA hm k f _ _ _ _ (h.step i9)
  ·exact EA hm k 0 x y t u h
theorem MQ (hm:0<m)(h:ln m≤N):ln (jO m r).1≤N∧ln (jO m r).2≤N:=by
 have h1:=EA hm (rK m) (r%m).toNat _ _ _ _ (RecI.init8 (r:=r) hm);have e:oQ m r=jD (rK m) (r%m).toNat m (r%m) 0 1:=rfl;rw [←e] at h1;unfold jO;split
 ·exact⟨by rw [gQ];exact a8 (fR h1.1) h,by rw [gQ];exact a8 (fR h1.2) h⟩
 exact⟨a8 (fR h1.1) h,a8 (fR h1.2) h⟩
theorem DG:∀c,c∈iX x→c<256:=by
 intro c hc;unfold iX at hc;split at hc
 ·rcases m5.1 hc with h | h
  ·rw [rB] at h;omega
  exact IQ yd yd c h
 exact IQ yd yd c hc
theorem OX (h:p8 zs):0<(nd zs).2:=by
 cases zs with
 | nil=>exact absurd rfl h.1
 | cons z r=>
  refine YX z r fun y f=>?_
  obtain⟨i,hi,rfl⟩:=List.mem_iff_getElem.1 f
  have:=h.2 (i+1) i9 (by rw [List.length_cons];omega)
  rw [bL,List.getElem?_cons_succ,cT hi] at this
  exact this
def yP (zs:List Int):Prop:=∀k,ln (nd (zs.drop k)).1≤2097153∧ln (nd (zs.drop k)).2≤2097153
noncomputable def nA (x y:Int):Int:=if y=0 then 0 else jX (bW x y) (cD x y)
noncomputable def kV (x y:Int):List Nat:=if y=0 then [] else mW (bW x y) (cD x y)
noncomputable def lD (x y:Int):List Int:=if y=0 then [] else eA (bW x y) (cD x y)
noncomputable def oL (zs:List Int):Int:=open Classical in if p8 zs then (nd zs).1 else 0
noncomputable def oM (zs:List Int):Int:=open Classical in if p8 zs then (nd zs).2 else 0
noncomputable def mV (zs:List Int):Int:=open Classical in if p8 zs then 0 else 3
theorem ZK:LRF K b lb [] (up none 0 0) w:=⟨none,0,rfl,Lz.nil _ _ _ _ _⟩
theorem T6 {p:Int}:∀c,c∈mW p q→c<256:=by
 intro c hc;unfold mW at hc;split at hc
 ·exact DG c hc
 rcases m5.1 hc with h | h
 ·rcases m5.1 h with h | h
  ·exact DG c h
  rw [rB] at h;omega
 exact DG c h
theorem IR:∀c,c∈kV x y→c<256:=by
 unfold kV;split
 ·intro c hc;cases hc
 exact T6
theorem PY (hx:ln x≤1048576)(hy:ln y≤1048576):(lD x y).length≤200000000:=by
 unfold lD;split
 ·exact bX _
 rename_i h0;rw [PW (oS h0)];exact (a22 h0 hx hy J).2.1
theorem MW (hx:ln x≤1048576):ln (nA x y)≤1048577:=by
 unfold nA;split
 ·decide
 rename_i h0;have f:=(oS (x:=x) h0).pos;have h1:=lN f (gY (y:=y) hx);unfold jX;split
 ·exact a8 (eK h1 (show ln 1≤1 by decide+kernel)) yd
 omega
theorem BB (hnd:∀k,ln (nd (zs.drop k)).1≤2097153∧ln (nd (zs.drop k)).2≤2097153):ln (oL zs)≤2097153∧ln (oM zs)≤2097153:=by
 have h:=hnd 0;rw [iN] at h;unfold oL oM;split
 ·exact h
 exact⟨by decide,by decide⟩
theorem BC (h:ln m≤N):ln (kW m r)≤N∧ln (kX m r)≤N:=by
 unfold kW kX;constructor
 ·split
  ·rename_i hc;exact (MQ hc.1 h).1
  exact bX _
 split
 ·rename_i hc;exact (MQ hc.1 h).2
 exact bX _
theorem TV (hb:b≤w.heap.size){nd:Nat}(hx:Zi w sa Aa na ca x)(la:na≤1048576)(hy:Zi w sd Ad nd cd y)(ld:nd≤1048576):aQ aM 25 #[a9 sa Aa na ca sd Ad nd cd] w (Gv w (T2 (ZR b (nA x y)) (Is (no (bR y))))):=by
 by_cases h0:y=0
 ·have h:=(XL hx la hy ld h0);rw [←qK h0] at h;unfold nA;rw [if_pos h0];exact h.mono (Gv.imp (T2.imp (ZR.imp hb) Is.imp))
 have h:=(XM hx la hy ld (oS h0));rw [←oT h0] at h;unfold nA;rw [if_neg h0];exact h.mono (Gv.imp (T2.imp (ZR.imp hb) Is.imp))
theorem U1 (hb:b≤w.heap.size){nd:Nat}(hx:Zi w sa Aa na ca x)(la:na≤1048576)(hy:Zi w sd Ad nd cd y)(ld:nd≤1048576):aQ aM 39 #[a9 sa Aa na ca sd Ad nd cd] w (Gv w (T2 (ZR b (nA x y)) (Is (no (bR y))))):=by
 by_cases h0:y=0
 ·have h:=(a1X hx la hy ld h0);rw [←qK h0] at h;unfold nA;rw [if_pos h0];exact h.mono (Gv.imp (T2.imp (ZR.imp hb) Is.imp))
 have h:=(a1Y hx la hy ld (oS h0));rw [←oT h0] at h;unfold nA;rw [if_neg h0];exact h.mono (Gv.imp (T2.imp (ZR.imp hb) Is.imp))
theorem TU {nd:Nat}(hx:Zi w sa Aa na ca x)(la:na≤1048576)(hy:Zi w sd Ad nd cd y)(ld:nd≤1048576):aQ aM 26 #[a9 sa Aa na ca sd Ad nd cd] w (Gv w (T2 (Is (.string (aN (kV x y)))) (Is (no (bR y))))):=by
 by_cases h0:y=0
 ·unfold kV;rw [if_pos h0,qK h0];exact (XI hx la hy ld h0)
 unfold kV;rw [if_neg h0,oT h0];exact (XJ hx la hy ld (oS h0))
theorem TZ {nd:Nat}(hx:Zi w sa Aa na ca x)(la:na≤1048576)(hy:Zi w sd Ad nd cd y)(ld:nd≤1048576)(hS:Signs w):aQ aM 40 #[a9 sa Aa na ca sd Ad nd cd] w (Gv w (T2 (Is (.string (aN (kV x y)))) (Is (no (bR y))))):=by
 by_cases h0:y=0
 ·unfold kV;rw [if_pos h0,qK h0];exact (a1r hx la hy ld h0)
 unfold kV;rw [if_neg h0,oT h0];exact (a1s hx la hy ld hS (oS h0))
theorem TX (hb:b≤w.heap.size){nd:Nat}(hx:Zi w sa Aa na ca x)(la:na≤1048576)(hy:Zi w sd Ad nd cd y)(ld:nd≤1048576):aQ aM 28 #[a9 sa Aa na ca sd Ad nd cd] w (Gv w (T2 (LRF 1048579 b w.heap.size (lD x y)) (Is (no (bR y))))):=by
 by_cases h0:y=0
 ·unfold lD;rw [if_pos h0,qK h0];exact (XR hx la hy ld h0).mono (Gv.imp (T2.imp (fun v _ h=>by rw [show v= .slice none 0 0 from h];exact ZK) Is.imp))
 unfold lD;rw [if_neg h0,oT h0];exact (XT hx la hy ld (oS h0)).mono (Gv.imp (T2.imp (fun _ _ h=>h.imp hb) Is.imp))
theorem U3 (hb:b≤w.heap.size){nd:Nat}(hx:Zi w sa Aa na ca x)(la:na≤1048576)(hy:Zi w sd Ad nd cd y)(ld:nd≤1048576):aQ aM 42 #[a9 sa Aa na ca sd Ad nd cd] w (Gv w (T2 (LRD 1048579 b w.heap.size (lD x y)) (Is (no (bR y))))):=by
 by_cases h0:y=0
 ·unfold lD;rw [if_pos h0,qK h0];exact (a1F hx la hy ld h0).mono (Gv.imp (T2.imp (fun v _ h=>by rw [show v= .slice none 0 0 from h];exact a0l) Is.imp))
 unfold lD;rw [if_neg h0,oT h0];exact (a1H (aU _) hx la hy ld (PW (oS h0)) h0).mono (Gv.imp (T2.imp (fun _ _ h=>h.imp hb) Is.imp))
theorem TT (hb:b≤w.heap.size)(hl:Zl w A n cap zs ms)(hn:n≤1048576)(hmb:∀i,ms.getD i 0≤1048576)(hnd:∀k,ln (nd (zs.drop k)).1≤2097153∧ln (nd (zs.drop k)).2≤2097153):aQ aM 29 #[up A n cap] w (Gv w (T2 (FR b (oL zs) (oM zs)) (Is (no (mV zs))))):=by
 by_cases hf:p8 zs
 ·unfold oL oM mV;rw [if_pos hf,if_pos hf,if_pos hf];exact XH hb hl hn hmb hnd hf (OX hf)
 unfold oL oM mV;rw [if_neg hf,if_neg hf,if_neg hf];exact XG hb hl hn hmb hf
theorem TY (hb:b≤w.heap.size)(hl:Zl w A n cap zs ms)(hn:n≤1048576)(hmb:∀i,ms.getD i 0≤1048576)(hnd:∀k,ln (nd (zs.drop k)).1≤2097153∧ln (nd (zs.drop k)).2≤2097153):aQ aM 43 #[up A n cap] w (Gv w (T2 (FA b (oL zs) (oM zs)) (Is (no (mV zs))))):=by
 by_cases hf:p8 zs
 ·unfold oL oM mV;rw [if_pos hf,if_pos hf,if_pos hf];exact a1z hb hl hn hmb hnd (by rw [←hl.len];exact List.length_pos_iff.2 hf.1) hf (OX hf)
 unfold oL oM mV;rw [if_neg hf,if_neg hf,if_neg hf];exact a1y hb hl hn hmb hf
theorem TW (hb:b≤w.heap.size){nd:Nat}(hx:Zi w sa Aa na ca x)(la:na≤1048576)(hy:Zi w sd Ad nd cd y)(ld:nd≤1048576):aQ aM 24 #[a9 sa Aa na ca sd Ad nd cd] w (Gv w (T2 (ZR b (qF x y)) (Is (no (eZ y))))):=(XO hx la hy ld).mono (Gv.imp (T2.imp (ZR.imp hb) Is.imp))
theorem U2 (hb:b≤w.heap.size){nd:Nat}(hx:Zi w sa Aa na ca x)(la:na≤1048576)(hy:Zi w sd Ad nd cd y)(ld:nd≤1048576):aQ aM 38 #[a9 sa Aa na ca sd Ad nd cd] w (Gv w (T2 (ZR b (qF x y)) (Is (no (eZ y))))):=(a1Z hx la hy ld).mono (Gv.imp (T2.imp (ZR.imp hb) Is.imp))
theorem PN:∀bs:List Nat,∃a,(∀x,x∈a→x≠47)∧(bs=a∨∃b,bs=a++47::b)
 | []=>⟨[],(fun x h=>by cases h),cJ rfl⟩
 | c::r=>by
  by_cases hc:c=47
  ·exact⟨[],(fun x h=>by cases h),cN ⟨r,by rw [hc];rfl⟩⟩
  ·obtain⟨a,h1,h2⟩:=PN r
   refine⟨c::a,fun x h=>?_,?_⟩
   ·rcases qA.1 h with h | h
    ·rw [h];exact hc
    ·exact h1 x h
   ·rcases h2 with h2 | ⟨b,h2⟩
    ·left;rw [h2]
    ·right;exact⟨b,by rw [h2];rfl⟩
theorem ZU {b:List Nat}(hg:fH 10 b)(hl:b.length≤1048576):ln ((cZ 10 (b.map dv):Nat):Int)≤1048576:=by rw [oW];exact a8 (qO (base:=10) hg.2) hl
theorem GB (h1:∀b,b∈bs→b<256)(h2:bs.length≤1048576):∃p:Int×Int×Int,ln p.1≤1048576∧ln p.2.1≤1048576∧∀{w:a6}{b:Nat},b≤w.heap.size→
  aQ aM 27 #[.string (aN bs)] w (Gv w (T2 (FR b p.1 p.2.1) (Is (no p.2.2))))∧aQ aM 41 #[.string (aN bs)] w (Gv w (T2 (FA b p.1 p.2.1) (Is (no p.2.2)))):=by
 obtain⟨a,G,rfl | ⟨b,rfl⟩⟩:=PN bs
 ·have f:∀x,x∈bs→x<256∧x≠47:=fun x hx=>⟨h1 x hx,G x hx⟩;by_cases he:rE bs=0
  ·exact⟨(bW (rV bs) 1,cD (rV bs) 1,bR 1),(show ln (bW (rV bs) 1)≤1048576 from gY (vK h2)),(show ln (cD (rV bs) 1)≤1048576 from i6 (show ln 1≤1048576 by decide+kernel)),fun hb=>⟨L8 hb f h2 (fun h=>absurd he h) (fun _=>⟨rfl,rfl,rfl⟩),P1 hb f h2 (fun h=>absurd he h) (fun _=>⟨rfl,rfl,rfl⟩)⟩⟩
  exact⟨(0,0,7),by decide,by decide,fun hb=>⟨L8 hb f h2 (fun _=>⟨rfl,rfl,rfl⟩) (fun h=>absurd h he),P1 hb f h2 (fun _=>⟨rfl,rfl,rfl⟩) (fun h=>absurd h he)⟩⟩
 have hl:(a++47::b).length=a.length+1+b.length:=by simp;omega
 have f:∀x,x∈a→x<256∧x≠47:=fun x hx=>⟨h1 x (List.mem_append_left _ hx),G x hx⟩;have F:∀x,x∈b→x<256:=fun x hx=>h1 x (List.mem_append_right _ (List.mem_cons_of_mem _ hx));have o:a.length≤1048576:=by omega
 have E:b.length≤1048576:=by omega
 have H:fH 10 b→48≤b.getD 0 0∧b.getD 0 0≤57:=fun hg=>by
  cases b with
  | nil=>exact absurd rfl hg.1
  | cons c r=>exact a17 (hg.2 c List.mem_cons_self)
 by_cases hg:rE a=0∧fH 10 b
 ·exact⟨(bW (rV a) ((cZ 10 (b.map dv):Nat):Int),cD (rV a) ((cZ 10 (b.map dv):Nat):Int),bR ((cZ 10 (b.map dv):Nat):Int)),(show ln (bW (rV a) ((cZ 10 (b.map dv):Nat):Int))≤1048576 from gY (vK o)),(show ln (cD (rV a) ((cZ 10 (b.map dv):Nat):Int))≤1048576 from i6 (ZU hg.2 E)),fun hb=>⟨L7 hb f o F E (fun h=>absurd ⟨hg.1,hg.2.1,H hg.2,hg.2⟩ h) (fun _ _=>⟨rfl,rfl,rfl⟩),P0 hb f o F E (fun h=>absurd hg h) (fun _ _=>⟨rfl,rfl,rfl⟩)⟩⟩
 exact⟨(0,0,7),by decide,by decide,fun hb=>⟨L7 hb f o F E (fun _=>⟨rfl,rfl,rfl⟩) (fun h k=>absurd ⟨h,k.2.2⟩ hg),P0 hb f o F E (fun _=>⟨rfl,rfl,rfl⟩) (fun h k=>absurd ⟨h,k⟩ hg)⟩⟩
noncomputable def fT (bs:List Nat):Int×Int×Int:=open Classical in if h:(∀b,b∈bs→b<256)∧bs.length≤1048576 then zA (GB h.1 h.2) else (0,0,0)
theorem vA (h1:∀b,b∈bs→b<256)(h2:bs.length≤1048576):ln (fT bs).1≤1048576∧ln (fT bs).2.1≤1048576∧∀{w:a6}{b:Nat},b≤w.heap.size→
  aQ aM 27 #[.string (aN bs)] w (Gv w (T2 (FR b (fT bs).1 (fT bs).2.1) (Is (no (fT bs).2.2))))∧aQ aM 41 #[.string (aN bs)] w (Gv w (T2 (FA b (fT bs).1 (fT bs).2.1) (Is (no (fT bs).2.2)))):=by
 have h:=H8 (GB h1 h2);have e:fT bs=zA (GB h1 h2):=by unfold fT;rw [dif_pos ⟨h1,h2⟩]
 rw [e];exact h
section
variable {P:cO}
theorem W7 {e:aS}{z:aF}(ht:P.underlying t=some (.slice e))(hinfo:(P.info? e).map (fun i=>(i.zero,i.size,i.bytes))=some (some z,1,bytes))(hzs:z.cells.size=1)(hby:bytes≤64)(hg:base≤g)(hb:base≤w.heap.size)(hk:Bk w g e []){m:Nat}(hr:Rv w 1 S m c news)(h1:∀u∈news,u.oneCell'=true)(hm:m≤1099511627776):∃A' cap' w',(pG #[t,t] ty #[up (some ⟨g,0,none⟩) 0 0,up S m c]).run P w= .ok (up A' m cap') w'∧Own w' base e 1 A' m cap' news∧Ext w w':=by
 obtain⟨i,hi,U,I,G⟩:=qY hinfo;have f:Own w base e 1 (some ⟨g,0,none⟩) 0 0 []:=Own.mk_ hg hk (aU _) (bX _) J rfl;have hl:=hr.len;have E:m=0→news= []:=fun h=>uL (by rw [hl,h]);cases S with
 | none=>
  have h0:m=0:=by
   rcases Nat.eq_zero_or_pos m with h0 | h0
   ·exact h0
   ·obtain⟨ad,h,_⟩:=hr.get 0 i9
    cases h
  rw [E h0,h0]
  exact⟨_,_,w,E3 (P:=P) w base t ty e i 1 ht hi _ 0 [] f.row c,f,Ext.refl w⟩
 | some a=>
  by_cases h0:m=0
  ·rw [E h0,h0]
   have H:=run_firstCells_some (P:=P) (w:=w) i.size 0 a 0 c [] ym ym
   exact⟨_,_,w,by simp [pG,nL ht,sizeOf,typeInfo,hi,zB,H,storeCells],f,Ext.refl w⟩
  ·obtain⟨v',w',o,h2,V⟩:=run_append_arg_grows (P:=P) w t ty e i z 1 bytes ht hi U I G hzs yd ⟨g,0,none⟩ 0 0 [] J (fun j u F=>by simp at F) a m c news hl
    (fun j u M=>by
     have F:j<news.length:=(gU.1 M).1
     obtain⟨a',ha',hc⟩:=hr.get j (by rw [←hl];exact F)
     cases ha'
     rw [hc,←M,bL,cT F]
     rfl) i9 (by rw [eV];omega) (by
     have:(0+m)*bytes≤1099511627776*64:=kP i9 hby
     omega)
   obtain⟨A',cap',rfl,L⟩:=Own.of_row h2
   rw [eR,List.nil_append] at L
   rw [eR] at o
   exact⟨A',cap',w',o,L.mono hb,(UpdO.of (A:=none) V).ext bN (fun p W=>by cases W)⟩
variable {Q:Exit→Act→a6→Prop}{n:Nat}{l:Fr}{w:a6}{ops:Array bE}{rest:List bE}{d:Nat}{ty:aS}{pos:String}{af:Array Edge}{gd:Option (Nat×Bool)}
theorem SN {x y:cR}{e:aS}{z:aF}{m:Nat}(hw:dD ops l gd=some true)(hx:cB l x=some (up (some ⟨g,0,none⟩) 0 0))(hy:cB l y=some (up S m c))(ht:P.underlying t=some (.slice e))(hinfo:(P.info? e).map (fun i=>(i.zero,i.size,i.bytes))=some (some z,1,bytes))(hzs:z.cells.size=1)(hby:bytes≤64)(hg:base≤g)(hb:base≤w.heap.size)(hk:Bk w g e [])(hr:Rv w 1 S m c news)(h1:∀u∈news,u.oneCell'=true)(hm:m≤1099511627776)(hn:d<n)(h:∀A' cap' w',Own w' base e 1 A' m cap' news→Ext w w'→wl P ops Q n rest ((d,up A' m cap')::l) w'):wl P ops Q n (⟨some d,.call {callee:= .builtin .append,args:= #[x,y],argTypes:= #[t,t]},ty,pos,af,gd⟩::rest) l w:=by
 obtain⟨A',cap',w',hr,h2,o⟩:=W7 (P:=P) (ty:=ty) ht hinfo hzs hby hg hb hk hr h1 hm;refine gO hw hn (fun a' f=>?_) (h A' cap' w' h2 o);unfold execOp;simp only [resolve,invoke,builtin,cV,iH,fK,pE,jS,kR,f.ev hx,f.ev hy];rw [hr];rfl
end
theorem ZI (k:Nat):(madeCells (Value.agg #[wk,up none 0 0]).cells (k*2)).toList=jN (dF k ZC.zero):=by
 refine List.ext_getElem ?_ fun j h1 h2=>?_
 ·rw [Array.length_toList,size_madeCells,CZ,List.length_replicate]
 have G:j<k*2:=by simpa [size_madeCells] using h1
 have F:(madeCells (Value.agg #[wk,up none 0 0]).cells (k*2)).toList[j]= #[Value.bool false,up none 0 0][j%2]!:=by
  simp [madeCells,Value.cells]
 rw [F];have o:j/2<(dF k ZC.zero).length:=by rw [List.length_replicate];omega
 have E:(dF k ZC.zero).getD (j/2) ZC.zero=ZC.zero:=by
  rw [bL,List.getElem?_replicate];split <;> rfl
 rcases Nat.mod_two_eq_zero_or_one j with h | h
 ·have f:=zD (dF k ZC.zero) (j/2) o;rw [show j/2*2=j by omega,cT h2,E] at f;injection f with f;rw [f,h];rfl
 have f:=zC (dF k ZC.zero) (j/2) o;rw [show j/2*2+1=j by omega,cT h2,E] at f;injection f with f;rw [f,h];rfl
section
variable {Q:Exit→Act→a6→Prop}{N:Nat}{l:Fr}{w:a6}{ops:Array bE}{rest:List bE}{d:Nat}{ty:aS}{pos:String}{af:Array Edge}{gd:Option (Nat×Bool)}
theorem SB {x y:cR}(m:Option a6)(K b:Nat)(hw:dD ops l gd=some true)(hx:cB l x=some (no (k:Int)))(hy:cB l y=some (no (k:Int)))(hk:k≤1099511627776)(hd:d<N)(h:∀g w',w.heap.size=g→Lz m K b w' g (some ⟨g,0,none⟩) k k (dF k 0)→Ext w w'→wl aM ops Q N rest ((d,up (some ⟨g,0,none⟩) k k)::l) w'):wl aM ops Q N (⟨some d,.makeSlice 27 x y,ty,pos,af,gd⟩::rest) l w:=by
 obtain⟨i,hi,E,H,G⟩:=qY tP;have hr:=run_make (P:=aM) w 27 24 i _ fI hi E .i64 .i64 (k:Int) (k:Int) i9 i9 (by rw [G];omega) i9;rw [Int.toNat_natCast,H] at hr;obtain⟨cs,F,o⟩:∃cs:List aF,madeCells (Value.agg #[.bool false,.slice none 0 0]).cells (k*2)=cs.toArray∧cs=jN (dF k ZC.zero):=⟨(madeCells (Value.agg #[wk,up none 0 0]).cells (k*2)).toList,Array.toArray_toList.symm,ZI k⟩;rw [F] at hr;have f:cs.length=k*2:=by rw [o,CZ,List.length_replicate]
 refine gO hw hd (fun a' I=>?_) (h _ (w.alloc (.cells cs.toArray 24)) J ⟨dF k ZC.zero,cN ⟨w.heap.size,cs,rfl,aU _,Bk.new _ _ _,aU _,by rw [eV];omega,f,by rw [List.take_of_length_le i9];exact o⟩,List.length_replicate ..,List.length_replicate ..,fun i hi=>?_⟩ ((Ext.refl w).alloc _))
 ·have e':(sS 27 (a'.eval x) (a'.eval y)).run aM w= .ok (up (some ⟨w.heap.size,0,none⟩) k k) (w.alloc (.cells cs.toArray 24)):=by rw [I.ev hx,I.ev hy];exact hr
  show ((sS 27 (a'.eval x) (a'.eval y)>>=fun r=>pure (Next.value r):Sem Next)).run aM w=_;rw [cV,e'];rfl
 have L:(dF k ZC.zero).getD i ZC.zero=ZC.zero:=by rw [bL,List.getElem?_replicate];split <;> rfl
 have M:(dF k (0:Int)).getD i 0=0:=by rw [bL,List.getElem?_replicate];split <;> rfl
 rw [L,M];exact⟨bX _,cJ Zr.zero⟩
end
def qE (zs:List Int)(n k:Nat):List Int:=zs.take k++dF (n-k) 0
theorem SW (zs:List Int)(n:Nat):dF n 0=qE zs n 0:=by simp [qE]
theorem SY (h:zs.length=n):qE zs n n=zs:=by simp [qE,←h]
theorem SX (h:zs.length=n)(hk:k<n):(qE zs n k).set k (zs.getD k 0)=qE zs n (k+1):=by
 unfold qE;rw [List.set_append_right _ _ (by rw [eB];omega),eB,iJ i9,Nat.sub_self,show n-k=(n-(k+1))+1 by omega,List.replicate_succ,List.set_cons_zero];rw [show zs.take (k+1)=zs.take k++ [zs.getD k 0] by rw [List.take_add_one,bL,cT i9];rfl,List.append_assoc];rfl
def ZOR (b:Nat)(s:Bool)(n:Nat)(z:Int)(v:aF)(w:a6):Prop:=∃A c,v= O s A n c∧Zo w b s A n c z
theorem ZOR.imp {z:Int}(h:b'≤b):∀v w,ZOR b s n z v w→ZOR b' s n z v w:=fun _ _ ⟨A,c,h1,h2⟩=>⟨A,c,h1,h2.mono h⟩
theorem lP:AggT aM 29 15:=⟨fun _=>by kernel_rfl,fun _=>by kernel_rfl⟩
theorem iC:AggT aM 33 10:=⟨fun _=>by kernel_rfl,fun _=>by kernel_rfl⟩
def Op8 (w:a6)(k x y u v p q:Int)(bs:List Nat)(zs:List Int)(n:Nat)(vv:aF):Prop:=
 ∃sa Aa na ca sb Ab nb cb sd Ad nd cd se Ae ne ce sf Af nf cf sg Ag ng cg C c ms,vv= .agg #[no k,.bool sa,up Aa na ca,.bool sb,up Ab nb cb,.bool sd,up Ad nd cd,.bool se,up Ae ne ce,.bool sf,up Af nf cf,.bool sg,up Ag ng cg,.string (aN bs),up C n c]∧
  Zi w sa Aa na ca x∧na≤1048576∧Zi w sb Ab nb cb y∧nb≤1048576∧Zi w sd Ad nd cd u∧nd≤1048576∧Zi w se Ae ne ce v∧ne≤1048576∧Zi w sf Af nf cf p∧nf≤1048576∧Zi w sg Ag ng cg q∧ng≤1048576∧Zl w C n c zs ms∧n≤1048576∧(∀i,ms.getD i 0≤1048576)∧yP zs
def QT (b:Nat)(k x y u v p q:Int)(bs:List Nat)(l:aF)(vv:aF)(w:a6):Prop:=
 ∃sa Aa na ca sb Ab nb cb sd Ad nd cd se Ae ne ce sf Af nf cf sg Ag ng cg,vv= .agg #[no k,.bool sa,up Aa na ca,.bool sb,up Ab nb cb,.bool sd,up Ad nd cd,.bool se,up Ae ne ce,.bool sf,up Af nf cf,.bool sg,up Ag ng cg,.string (aN bs),l]∧Zo w b sa Aa na ca x∧na≤1048576∧Zo w b sb Ab nb cb y∧nb≤1048576∧Zo w b sd Ad nd cd u∧nd≤1048576∧Zo w b se Ae ne ce v∧ne≤1048576∧Zo w b sf Af nf cf p∧nf≤1048576∧Zo w b sg Ag ng cg q∧ng≤1048576
structure Ans8 where
 F:Int
 G:Int
 X:Int
 L:List Int
 N:Int
 S:List Nat
 E:Int
def AnsR8 (b:Nat)(t:Ans8)(v:aF)(w:a6):Prop:=
 ∃s A n c s' A' n' c' s2 A2 n2 c2 B d,v= .agg #[.bool s,up A n c,.bool s',up A' n' c',.bool s2,up A2 n2 c2,up B t.L.length d,no t.N,.string (aN t.S),no t.E]∧Zr w b s A n c t.F∧Zr w b s' A' n' c' t.G∧Zr w b s2 A2 n2 c2 t.X∧Lz none 1048579 b w b B t.L.length d t.L∧ln t.F≤1099511627776∧ln t.G≤1099511627776∧ln t.X≤1099511627776∧(∀c,c∈t.S→c<256)∧t.L.length≤200000000
def oD (A B:Option a7):Prop:=∀p q,A=some p→B=some q→p.block≠q.block
def AnsA8 (b:Nat)(t:Ans8)(v:aF)(w:a6):Prop:=
 ∃s A n c s' A' n' c' s2 A2 n2 c2 B d,v= .agg #[.bool s,up A n c,.bool s',up A' n' c',.bool s2,up A2 n2 c2,up B t.L.length d,no t.N,.string (aN t.S),no t.E]∧Zr w b s A n c t.F∧Zr w b s' A' n' c' t.G∧Zr w b s2 A2 n2 c2 t.X∧Ld 1048579 b (fun g=>∀p,A=some p∨A'=some p∨A2=some p→p.block≠g) w b B t.L.length d t.L∧(ln t.F≤1099511620000∧ln t.G≤1099511620000∧ln t.X≤1099511620000∧(∀c,c∈t.S→c<256)∧t.L.length≤200000000)∧oD A A'∧oD A A2∧oD A' A2
theorem AnsA8.of {t t':Ans8}{v:aF}(h:t'=t)(k:AnsA8 b t v w):AnsA8 b t' v w:=h▸k
theorem AnsA8.imp {t:Ans8}(h:b'≤b):∀v w,AnsA8 b t v w→AnsA8 b' t v w:=fun _ _ ⟨s,A,n,c,s',A',n',c',s2,E,G,F,B,d,h1,h2,H,f,o,I⟩=>⟨s,A,n,c,s',A',n',c',s2,E,G,F,B,d,h1,h2.mono h,H.mono h,f.mono h,o.mono (aU _) h h,I⟩
theorem AnsR8.of {t t':Ans8}{v:aF}(h:t'=t)(k:AnsR8 b t v w):AnsR8 b t' v w:=h▸k
theorem AnsR8.imp {t:Ans8}(h:b'≤b):∀v w,AnsR8 b t v w→AnsR8 b' t v w:=fun _ _ ⟨s,A,n,c,s',A',n',c',s2,E,G,F,B,d,h1,h2,H,f,o,I⟩=>⟨s,A,n,c,s',A',n',c',s2,E,G,F,B,d,h1,h2.mono h,H.mono h,f.mono h,o.mono (aU _) h h,I⟩
noncomputable def mX (k x y u v p q:Int)(bs:List Nat)(zs:List Int):Ans8:=
 if k=1 then ⟨bW p q,cD p q,0,[],0,[],bR q⟩ else if k=2 then ⟨bW (x*v+u*y) (y*v),cD (x*v+u*y) (y*v),0,[],0,[],bR (y*v)⟩ else if k=3 then ⟨bW (x*v+ -u*y) (y*v),cD (x*v+ -u*y) (y*v),0,[],0,[],bR (y*v)⟩ else
 if k=4 then ⟨bW (x*u) (y*v),cD (x*u) (y*v),0,[],0,[],bR (y*v)⟩ else if k=5 then ⟨l9 x y u v,lB x y u v,0,[],0,[],lA y u v⟩ else if k=6 then ⟨0,0,0,[],bM (bW (x*v+ -u*y) (y*v)) 0,[],bR (y*v)⟩ else
 if k=7 then ⟨0,0,qF x y,[],0,[],eZ y⟩ else if k=8 then ⟨0,0,nA x y,[],0,[],bR y⟩ else if k=9 then ⟨0,0,0,[],0,kV x y,bR y⟩ else if k=10 then ⟨(fT bs).1,(fT bs).2.1,0,[],0,[],(fT bs).2.2⟩ else
 if k=11 then ⟨0,0,0,lD x y,0,[],bR y⟩ else if k=12 then ⟨oL zs,oM zs,0,[],0,[],mV zs⟩ else if k=13 then ⟨kW q p,kX q p,0,[],0,[],kB q p⟩ else ⟨0,0,0,[],0,[],0⟩
def J8 (w:a6)(b lb:Nat)(t:Ans8)(k1 k2 k3:ZC)(B:Option a7)(d:Nat):Prop:=Zr w b k1.s k1.A k1.n k1.c t.F∧Zr w b k2.s k2.A k2.n k2.c t.G∧Zr w b k3.s k3.A k3.n k3.c t.X∧Lz none 1048579 b w lb B t.L.length d t.L∧(ln t.F≤1099511627776∧ln t.G≤1099511627776∧ln t.X≤1099511627776∧(∀c,c∈t.S→c<256)∧t.L.length≤200000000)
def J9 (w:a6)(b lb:Nat)(t:Ans8)(k1 k2 k3:ZC)(B:Option a7)(d:Nat):Prop:=Zr w b k1.s k1.A k1.n k1.c t.F∧Zr w b k2.s k2.A k2.n k2.c t.G∧Zr w b k3.s k3.A k3.n k3.c t.X∧Ld 1048579 b (fun g=>∀p,k1.A=some p∨k2.A=some p∨k3.A=some p→p.block≠g) w lb B t.L.length d t.L∧(ln t.F≤1099511620000∧ln t.G≤1099511620000∧ln t.X≤1099511620000∧(∀c,c∈t.S→c<256)∧t.L.length≤200000000)∧oD k1.A k2.A∧oD k1.A k3.A∧oD k2.A k3.A
section
variable {w:a6}{b lb:Nat}{N D m e:Int}{s s':Bool}{A A':Option a7}{n c n' c':Nat}
theorem qV:oD none A:=fun _ _ h=>by cases h
theorem QC:oD A none:=fun _ _ _ h=>by cases h
theorem kJ:ln 0≤M:=a8 (by decide:ln 0≤0) (bX _)
theorem pN:∀c,c∈([]:List Nat)→c<M:=fun c h=>absurd h List.not_mem_nil
theorem rW (h1:Zr w b s A n c N)(h2:Zr w b s' A' n' c' D)(l1:ln N≤1099511627776)(l2:ln D≤1099511627776):J8 w b lb ⟨N,D,0,[],m,[],e⟩ ⟨s,A,n,c⟩ ⟨s',A',n',c'⟩ ⟨false,none,0,0⟩ none 0:=⟨h1,h2,Zr.zero,Lz.nil _ _ _ _ _,l1,l2,kJ,pN,bX _⟩
theorem NS (h1:Zr w b s A n c N)(l1:ln N≤1099511627776):J8 w b lb ⟨0,0,N,[],m,[],e⟩ ⟨false,none,0,0⟩ ⟨false,none,0,0⟩ ⟨s,A,n,c⟩ none 0:=⟨Zr.zero,Zr.zero,h1,Lz.nil _ _ _ _ _,kJ,kJ,l1,pN,bX _⟩
theorem F8 {S:List Nat}(h:∀c,c∈S→c<256):J8 w b lb ⟨0,0,0,[],m,S,e⟩ ⟨false,none,0,0⟩ ⟨false,none,0,0⟩ ⟨false,none,0,0⟩ none 0:=⟨Zr.zero,Zr.zero,Zr.zero,Lz.nil _ _ _ _ _,kJ,kJ,kJ,h,bX _⟩
theorem a0x (h:Lz none 1048579 b w lb A L.length c L)(hl:L.length≤200000000):J8 w b lb ⟨0,0,0,L,m,[],e⟩ ⟨false,none,0,0⟩ ⟨false,none,0,0⟩ ⟨false,none,0,0⟩ A c:=⟨Zr.zero,Zr.zero,Zr.zero,h,kJ,kJ,kJ,pN,hl⟩
theorem rU (h1:Zr w b s A n c N)(h2:Zr w b s' A' n' c' D)(l1:ln N≤1099511620000)(l2:ln D≤1099511620000)(ha:oD A A'):J9 w b lb ⟨N,D,0,[],m,[],e⟩ ⟨s,A,n,c⟩ ⟨s',A',n',c'⟩ ⟨false,none,0,0⟩ none 0:=⟨h1,h2,Zr.zero,Ld.nil _ _ _ _ _,⟨l1,l2,kJ,pN,bX _⟩,ha,QC,QC⟩
theorem NR (h1:Zr w b s A n c N)(l1:ln N≤1099511620000):J9 w b lb ⟨0,0,N,[],m,[],e⟩ ⟨false,none,0,0⟩ ⟨false,none,0,0⟩ ⟨s,A,n,c⟩ none 0:=⟨Zr.zero,Zr.zero,h1,Ld.nil _ _ _ _ _,⟨kJ,kJ,l1,pN,bX _⟩,qV,qV,qV⟩
theorem F7 {S:List Nat}(h:∀c,c∈S→c<256):J9 w b lb ⟨0,0,0,[],m,S,e⟩ ⟨false,none,0,0⟩ ⟨false,none,0,0⟩ ⟨false,none,0,0⟩ none 0:=⟨Zr.zero,Zr.zero,Zr.zero,Ld.nil _ _ _ _ _,⟨kJ,kJ,kJ,h,bX _⟩,qV,qV,qV⟩
theorem a0w {P:Nat→Prop}(h:Ld 1048579 b P w lb A L.length c L)(hl:L.length≤200000000):J9 w b lb ⟨0,0,0,L,m,[],e⟩ ⟨false,none,0,0⟩ ⟨false,none,0,0⟩ ⟨false,none,0,0⟩ A c:=⟨Zr.zero,Zr.zero,Zr.zero,h.imp (fun g _ p f=>by rcases f with h | h | h <;> cases h),⟨kJ,kJ,kJ,pN,hl⟩,qV,qV,qV⟩
end
theorem MZ {v:Int}(hx:ln x≤N)(hv:ln v≤M):ln (l9 x y u v)≤N+M:=by
 unfold l9;split
 ·exact bX _
 exact gY (dI hx hv)
theorem N0 {v:Int}(hy:ln y≤N)(hu:ln u≤M):ln (lB x y u v)≤N+M:=by
 unfold lB;split
 ·exact bX _
 exact i6 (dI hy hu)
end
section
open Go.ChangeShapes Go.WideShapes Go.ChangeAt Go.RowKit
theorem YK {enc:aS×aF→H}{v:aF}{d:DataW H}{p:List MemPlace}(hf:DataW.trod enc aM W 0 (fun _=>true) true fuel 27 [v]=some (d,p)):∃A n cap zs ms,v= up A n cap∧Zl W A n cap zs ms∧n+ms.sum≤Rows.uptoBulk d:=by
 rcases Go.Deep.open_slice Tryz.underlying27 hf with⟨f,hx⟩ | ⟨a,n,cap,m,k,D,Pl,f,_,hl,hm,o,hx,hi⟩
 ·obtain rfl:=List.singleton_inj.1 f;exact⟨none,0,0,[],[],rfl,⟨rfl,rfl,aU _,by decide,fun i hi=>by omega⟩,by simp⟩
 obtain rfl:=List.singleton_inj.1 f;simp only [if_true] at o;have hmm':=o.symm;subst hmm';simp only [Prod.mk.injEq] at hx;obtain⟨rfl,rfl⟩:=hx;rw [yG] at hi
 have G:∀i,i<cap→∃(q:Bool×Option a7×Nat×Nat×Int),W.cell? (a.add (i*2))=some (.bool q.1)∧W.cell? (a.add (i*2+1))=some (up q.2.1 q.2.2.1 q.2.2.2.1)∧Zi W q.1 q.2.1 q.2.2.1 q.2.2.2.1 q.2.2.2.2∧q.2.2.1+1≤Rows.uptoBulk (D i):=by
  intro i F
  obtain⟨cs',hc,ht'⟩:=hi i F
  obtain⟨_,L,E⟩:=World.cells?_some hc
  obtain⟨V,U,rfl⟩:=a13 L
  have I:DataW.trod enc aM W 0 (fun _=>true) true k 24 [V,U]=some (D i,Pl i):=ht'
  obtain⟨s,B,nb,c,z,rfl,rfl,Z,hb,rx⟩:=xK I
  refine⟨(s,B,nb,c,z),?_,?_,Z,hb⟩
  ·have:=E 0 ym
   simpa [Go.Deep.add_add] using this
  ·have:=E 1 ym
   simpa [Go.Deep.add_add] using this
 obtain⟨Q,M⟩:=Go.Deep.choose_lt G;refine⟨some a,n,cap,(eI n).map (fun i=>(Q i).2.2.2.2),(eI n).map (fun i=>(Q i).2.2.1),rfl,⟨by simp,by simp,hl,hm,fun i h=>?_⟩,?_⟩
 ·obtain⟨h1,h2,X,_⟩:=M i i9;have Y:((eI n).map (fun i=>(Q i).2.2.1)).getD i 0=(Q i).2.2.1:=by simp [bL,h]
  have e2:((eI n).map (fun i=>(Q i).2.2.2.2)).getD i 0=(Q i).2.2.2.2:=by simp [bL,h]
  rw [Y,e2];exact⟨a,_,_,_,rfl,h1,h2,X⟩
 have:=U5 D (fun i=>(Q i).2.2.1) n (fun i h=>(M i i9).2.2.2);simp only [Rows.uptoBulk];omega
theorem V0 {α:Type}{l:List α}(h:l.length=7):∃a b c d e f g,l= [a,b,c,d,e,f,g]:=by
 match l,h with
 | [a,b,c,d,e,f,g],_=>exact⟨a,b,c,d,e,f,g,rfl⟩
theorem a1P {α:Type}{l:List α}(h:l.length=15):∃a b c d e f g i j k m n o p q,l= [a,b,c,d,e,f,g,i,j,k,m,n,o,p,q]:=by
 match l,h with
 | [a,b,c,d,e,f,g,i,j,k,m,n,o,p,q],_=>exact⟨a,b,c,d,e,f,g,i,j,k,m,n,o,p,q,rfl⟩
theorem a1Q:∃f0 f1 f2 f3 f4 f5 f6:Field,Tryz.prog.underlying 29=some (.struct #[f0,f1,f2,f3,f4,f5,f6])∧(f0.type=3∧f0.offset=0)∧(f1.type=26∧f1.offset=1)∧(f2.type=26∧f2.offset=5)∧(f3.type=24∧f3.offset=9)∧(f4.type=24∧f4.offset=11)∧(f5.type=9∧f5.offset=13)∧(f6.type=27∧f6.offset=14):=
 ⟨_,_,_,_,_,_,_,Tryz.underlying29,⟨rfl,rfl⟩,⟨rfl,rfl⟩,⟨rfl,rfl⟩,⟨rfl,rfl⟩,⟨rfl,rfl⟩,⟨rfl,rfl⟩,⟨rfl,rfl⟩⟩
theorem a26:Tryz.prog.cellsOf 29=15:=by kernel_rfl
theorem a25:Tryz.prog.cellsOf 9=1:=by kernel_rfl
theorem a27:Tryz.prog.cellsOf 3=1:=by kernel_rfl
theorem a24:Tryz.prog.cellsOf 27=1:=by kernel_rfl
theorem LR {enc:aS×aF→H}{c0 c1 c2 c3:aF}{d:DataW H}{p:List MemPlace}(hf':DataW.trod enc aM W 0 (fun _=>true) true fuel 26 [c0,c1,c2,c3]=some (d,p)):∃s A n cap s' A' n' cap' x y,c0= .bool s∧c1= up A n cap∧c2= .bool s'∧c3= up A' n' cap'∧Zi W s A n cap x∧Zi W s' A' n' cap' y∧n+n'≤Rows.uptoBulk d:=by
 obtain⟨_,f1,h,L,F,t1,o⟩:=a1S;obtain⟨y0,y1,n,f,hl,h0,h1⟩:=trod_struct2 h hf';rw [L,F,yG] at h0;rw [t1,o,yG] at h1;have G:(([c0,c1,c2,c3]:List aF).drop 0).take 2= [c0,c1]:=rfl;have E:(([c0,c1,c2,c3]:List aF).drop 2).take 2= [c2,c3]:=rfl;rw [G] at h0;rw [E] at h1;obtain⟨s,A,k,cap,z,rfl,rfl,I,hb,_⟩:=xK h0;obtain⟨s',A',k',cap',z',rfl,rfl,hz',hb',_⟩:=xK h1;simp only [Prod.mk.injEq] at f;obtain⟨rfl,rfl⟩:=f;refine⟨s,A,k,cap,s',A',k',cap',z,z',rfl,rfl,rfl,rfl,I,hz',?_⟩;simp only [Rows.uptoBulk,Rows.uptoBulkAll];omega
def GU (w:a6)(us:List aF):Prop:=
 ∃(k:Int) (sa:Bool) (Aa:Option a7) (na ca:Nat) (za:Int) (sb:Bool) (Ab:Option a7) (nb cb:Nat) (zb:Int) (sd:Bool) (Ad:Option a7) (nd cd:Nat) (zd:Int) (se:Bool) (Ae:Option a7) (ne ce:Nat) (ze:Int) (sf:Bool) (Af:Option a7) (nf cf:Nat) (zf:Int) (sg:Bool) (Ag:Option a7) (ng cg:Nat) (zg:Int) (C:Option a7) (n c:Nat) (zs:List Int) (ms bs:List Nat),us= [no k,.bool sa,up Aa na ca,.bool sb,up Ab nb cb,.bool sd,up Ad nd cd,.bool se,up Ae ne ce,.bool sf,up Af nf cf,.bool sg,up Ag ng cg,.string (aN bs),up C n c]∧(Zi w sa Aa na ca za∧na≤1048576∧Zi w sb Ab nb cb zb∧nb≤1048576∧Zi w sd Ad nd cd zd∧nd≤1048576∧Zi w se Ae ne ce ze∧ne≤1048576∧Zi w sf Af nf cf zf∧nf≤1048576∧Zi w sg Ag ng cg zg∧ng≤1048576)∧Zl w C n c zs ms∧ms.sum≤1048576∧n≤1048576∧(∀b,b∈bs→b<256)∧bs.length≤1048576
theorem YM {enc:aS×aF→H}{x:DataW H×List MemPlace}(h:DataW.trod enc aM W 0 (fun _=>true) true fuel 29 cs=some x)(hle:Rows.uptoBulk x.1≤1048576):GU W cs:=by
 obtain⟨f0,f1,f2,f3,f4,f5,f6,hu,⟨t0,o0⟩,⟨t1,o1⟩,⟨t2,o2⟩,⟨t3,o3⟩,⟨t4,o4⟩,⟨t5,o5⟩,⟨t6,o6⟩⟩:=a1Q;obtain⟨ys,n,_,rfl,f,aa,hf⟩:=DataW.trod_struct hu h;rw [a26] at f;obtain⟨c0,c1,c2,c3,c4,c5,c6,c7,c8,c9,Y,I,X,E,Z,rfl⟩:=a1P f;obtain⟨y0,y1,V,y3,y4,y5,F,rfl⟩:=V0 (show ys.length=7 from aa);have g0:=hf 0 f0 rfl;have g1:=hf 1 f1 rfl;have g2:=hf 2 f2 rfl;have g3:=hf 3 f3 rfl;have g4:=hf 4 f4 rfl;have g5:=hf 5 f5 rfl;have g6:=hf 6 f6 rfl;rw [t0,o0,a27] at g0;rw [t1,o1,Q0] at g1;rw [t2,o2,Q0] at g2;rw [t3,o3,yG] at g3;rw [t4,o4,yG] at g4;rw [t5,o5,a25] at g5;rw [t6,o6,a24] at g6;obtain⟨k,hk,_,_⟩:=DataW.trod_int Tryz.underlying3 (show DataW.trod enc aM W 0 (fun _=>true) true n 3 [c0]=some y0 from g0);obtain⟨sa,Aa,na,ca,sb,Ab,nb,cb,x,y,rfl,rfl,rfl,rfl,hx,hy,_⟩:=LR (d:=y1.1) (p:=y1.2) (show DataW.trod enc aM W 0 (fun _=>true) true n 26 [c1,c2,c3,c4]=some y1 from g1);obtain⟨sd,Ad,nd,cd,se,Ae,ne,ce,u,v,rfl,rfl,rfl,rfl,M,hv,_⟩:=LR (d:=V.1) (p:=V.2) (show DataW.trod enc aM W 0 (fun _=>true) true n 26 [c5,c6,c7,c8]=some V from g2);obtain⟨sf,Af,nf,cf,p,rfl,rfl,hp,_,_⟩:=xK (show DataW.trod enc aM W 0 (fun _=>true) true n 24 [c9,Y]=some y3 from g3);obtain⟨sg,Ag,ng,cg,q,rfl,rfl,hq,_,_⟩:=xK (show DataW.trod enc aM W 0 (fun _=>true) true n 24 [I,X]=some y4 from g4);obtain⟨s,hs,G,_⟩:=DataW.trod_string Tryz.underlying9 (show DataW.trod enc aM W 0 (fun _=>true) true n 9 [E]=some y5 from g5);obtain⟨C,n1,c1q,zs,ms,rfl,hl,_⟩:=YK (d:=F.1) (p:=F.2) (show DataW.trod enc aM W 0 (fun _=>true) true n 27 [Z]=some F from g6);obtain rfl:=List.singleton_inj.1 hk;obtain rfl:=List.singleton_inj.1 hs;obtain⟨bs,rfl,U,_⟩:=U9 s;simp only [Rows.uptoBulk,jS,Rows.uptoBulkAll,G] at hle;have ao:(aN bs).data.toList.length=(aN bs).size:=Array.length_toList;have L:n1≤1048576:=by omega
 have o:ms.sum≤1048576:=by omega
 exact⟨k,_,_,_,_,_,_,_,_,_,_,_,_,_,_,_,_,_,_,_,_,_,_,_,_,_,_,_,_,_,_,C,n1,_,zs,ms,bs,rfl,⟨hx,by omega,hy,by omega,M,by omega,hv,by omega,hp,by omega,hq,by omega⟩,hl,o,L,U,by omega⟩
theorem YN {enc:aS×aF→H}{v:aF}{d:DataW H}(hval:Value.okWide aM W .any base 29 v)(h:DataW.Trod enc aM W 0 (fun _=>true) true 29 v d pl):∃us,v= .agg us.toArray∧(Rows.uptoBulk d≤1048576→GU W us):=by
 simp only [Value.okWide,Tryz.underlying29] at hval;obtain⟨cs,rfl,_,_⟩:=hval;obtain⟨fuel,hf⟩:=h;exact⟨cs.toList,by simp,fun f=>YM (show DataW.trod enc aM W 0 (fun _=>true) true fuel 29 cs.toList=some (d,pl) from hf) f⟩
end
section
open Go.RowKit
structure UpU (lb:Nat)(w w':a6):Prop where
 os:w'.os=w.os
 tape:w'.tape=w.tape
 output:w'.output=w.output
 size:w.heap.size≤w'.heap.size
 low:∀k,k<lb→k<w.heap.size→w'.heap[k]?=w.heap[k]?
 typ:∀(k:Nat) (cs:Array aF) (t:aS) (fr:Nat×Nat),w.heap[k]?=some (.cells cs t fr)→t≠43→w'.heap[k]?=some (.cells cs t fr)
section
variable {lb:Nat}{a b c w w':a6}
theorem UpU.refl (lb:Nat)(w:a6):UpU lb w w:=⟨rfl,rfl,rfl,aU _,fun _ _ _=>rfl,fun _ _ _ _ h _=>h⟩
theorem UpU.trans (h:UpU lb a b)(e:UpU lb b c):UpU lb a c:=
 ⟨e.os.trans h.os,e.tape.trans h.tape,e.output.trans h.output,a8 h.size e.size,fun k f hs=>(e.low k f (dA hs h.size)).trans (h.low k f hs),fun k cs t fr o h1=>e.typ k cs t fr (h.typ k cs t fr o h1) h1⟩
theorem UpU.of_ext (lb:Nat)(e:Ext w w'):UpU lb w w':=⟨e.below.os,e.below.tape,e.below.output,e.size,fun k _ hs=>e.below.block k hs,fun _ _ _ _ f _=>e.heap f⟩
theorem UpU.then_ext (h:UpU lb a b)(e:Ext b c):UpU lb a c:=h.trans (UpU.of_ext lb e)
theorem UpU.ext (h:UpU lb w w')(e:Ext a w)(hl:a.heap.size≤lb):Ext a w':=
 ⟨⟨h.os.trans e.below.os,h.tape.trans e.below.tape,h.output.trans e.below.output,a8 e.size h.size,fun k f=>(h.low k (dA f hl) (dA f e.size)).trans (e.below.block k f)⟩⟩
theorem UpU.bk (h:UpU lb w w')(hb:Bk w g t vs)(h1:t≠43):Bk w' g t vs:=h.typ g _ _ _ hb h1
theorem UpU.own {s:Nat}(h:UpU lb w w')(ho:Own w base t s A n cap vs)(h1:t≠43):Own w' base t s A n cap vs:=by
 rcases ho with ho | ⟨g,cs,o,hb,f,r⟩
 ·exact cJ ho
 exact cN ⟨g,cs,o,hb,h.bk f h1,r⟩
theorem UpU.ofO {s:Nat}(ho:Own w lb 43 s A n cap vs)(u:UpdO A w w'):UpU lb w w':=by
 refine⟨u.by_.os,u.by_.tape,u.by_.output,u.size,fun k o hs=>?_,fun k cs t fr h1 h2=>?_⟩
 ·refine u.by_.block k hs fun e=>?_;cases A with
  | none=>cases e
  | some p=>
   have e':k=p.block:=kO e
   have:=(ho.block p J).1
   omega
 refine u.heap h1 fun p f e=>h2 ?_;rcases ho with⟨h,_⟩ | ⟨g,cs',E,_,o,_⟩
 ·rw [h] at f;cases f
 rw [E] at f;cases f;simp only at e;subst e;unfold Bk at o;rw [o] at h1;injection h1 with h1;injection h1 with _ h1;exact h1.symm
end
theorem K5 {e:aS}{z:aF}{s:Nat}(ht:P.underlying t=some (.slice e))(hinfo:(P.info? e).map (fun i=>(i.zero,i.size,i.bytes))=some (some z,s,bytes))(hzs:z.cells.size=s)(hsz:0<s)(hby:bytes≤64){xs:List aF}(hown:Own w base e s A n cap xs)(hb:base≤w.heap.size){a:a7}{m:Nat}(hl:news.length=m*s)(hnews:∀j u,news[j]?=some u→w.cell? (a.add j)=some u)(h1:news.all (·.oneCell')=true)(hm:n+m≤1099511627776):∃A' cap' w',(pG #[t,t] ty #[up A n cap,up (some a) m c]).run P w= .ok (up A' (n+m) cap') w'∧Own w' base e s A' (n+m) cap' (xs++news)∧
   ((A'=A∧cap'=cap∧UpdO A w w')∨(Ext w w'∧∀a',A'=some a'→w.heap.size≤a'.block)):=by
 obtain⟨i,hi,hz,o,G⟩:=qY hinfo;have h1':∀u∈news,u.oneCell'=true:=by simpa [List.all_eq_true] using h1
 have H:n+m≤maxLen:=by rw [eV];omega
 have h:(n+m)*bytes≤140737488355328:=by
  have:(n+m)*bytes≤1099511627776*64:=kP hm hby
  omega
 rcases hown with⟨rfl,rfl,rfl,rfl⟩ | ⟨g,cs,rfl,hg,hk,hn,X,W,M⟩
 ·obtain⟨v',w',hr,h2,V,_⟩:=run_append_own (P:=P) w w.heap.size t ty e i z s bytes ht hi hz o G hzs hsz (up none 0 0) 0 [] (World.ownsRow_nil w _ e s) a m c news hl hnews h1' H h (aU _);obtain⟨A',cap',rfl,F⟩:=Own.of_row h2;exact⟨A',cap',w',hr,F.mono hb,cN ⟨Ext.of_grown V,fun a' Z=>(F.block a' Z).1⟩⟩
 by_cases f:n+m≤cap
 ·have aa:n*s+news.length≤cs.length:=by rw [hl,W,←eE];exact fC s f
  obtain⟨w',Y,E,hu,hs⟩:=zT (P:=P) news 0 (n*s) w cs hk i9 h1';rw [Nat.add_zero] at E;have L:=run_firstCells_some (P:=P) w i.size m a m c news (by rw [o];exact hl) hnews;rw [o] at L;refine⟨some ⟨g,0,none⟩,cap,w',?_,cN ⟨g,_,rfl,hg,E,f,X,?_,?_⟩,cJ ⟨rfl,rfl,hu.updO⟩⟩
  ·simp [pG,nL ht,sizeOf,typeInfo,hi,zB,f,L,Addr.add_lit,o,Y]
  ·unfold jP;simp only [f8,eB,iK];omega
  rw [eE,←hl];exact LP M i9
 obtain⟨v',w',hr,h2,V⟩:=run_append_arg_grows (P:=P) w t ty e i z s bytes ht hi hz o G hzs hsz ⟨g,0,none⟩ n cap xs
  (by rw [←M,eB];have:=fC s hn;omega)
  (fun j u I=>by
   have U:=(gU.1 I).1
   rw [jI,eR,hk.cell (by rw [←M,eB] at U;omega)]
   rw [←M,lK] at I
   split at I
   ·rw [bL,I];rfl
   ·cases I) a m c news hl hnews i9 H h
 obtain⟨A',cap',rfl,F⟩:=Own.of_row h2;exact⟨A',cap',w',hr,F.mono hb,cN ⟨Ext.of_grown V,fun a' Z=>(F.block a' Z).1⟩⟩
structure Lst where
 A:Option a7
 n:Nat
 c:Nat
def Lst.v (x:Lst):aF:= up x.A x.n x.c
def Lst.z:Lst:=⟨none,0,0⟩
def fM (i j:Nat):Nat:=4323455642275676160+i*1048576+j
def gX (i n:Nat):List Nat:=(eI n).map (fM i)
theorem EV (i n:Nat):(gX i n).length=n:=by unfold gX;rw [List.length_map,List.length_range]
theorem EW (h:j<n):(gX i n).getD j 0=fM i j:=by unfold gX;simp [bL,h]
theorem ZF (h:k≤n):(gX i n).take k=gX i k:=by
 unfold gX;rw [←List.map_take,List.take_range,iJ h]
theorem ZG (i n:Nat):gX i (n+1)=gX i n++ [fM i n]:=by unfold gX;rw [List.range_succ,List.map_append];rfl
structure Al1 (w:a6)(lb:Nat)(ls:List Lst)(i j:Nat):Prop where
 dis:∀a b,a<ls.length→b<ls.length→a≠b→∀p q,(ls.getD a Lst.z).A=some p→(ls.getD b Lst.z).A=some q→p.block≠q.block
 own:∀a,a<ls.length→∃xs:List Nat,Own w lb 43 1 (ls.getD a Lst.z).A (ls.getD a Lst.z).n (ls.getD a Lst.z).c (xs.map bF)∧(a<i→xs=gX a (ls.getD a Lst.z).n)∧(a=i→xs.take j=(gX a (ls.getD a Lst.z).n).take j)
section
variable {w w':a6}{lb i j:Nat}{ls:List Lst}
theorem Al1.ext (h:Al1 w lb ls i j)(e:Ext w w'):Al1 w' lb ls i j:=⟨h.dis,fun a f=>by
 obtain⟨xs,h1,h2⟩:=h.own a f
 exact⟨xs,h1.ext e,h2⟩⟩
theorem Al1.next (h:Al1 w lb ls i j)(hj:(ls.getD i Lst.z).n≤j):Al1 w lb ls (i+1) 0:=⟨h.dis,fun a E=>by
 obtain⟨xs,h1,h2,o⟩:=h.own a E
 refine⟨xs,h1,fun _=>?_,fun _=>rfl⟩
 by_cases e:a=i
 ·subst e
  have f:=o rfl
  have hl:=rM h1
  rwa [List.take_of_length_le i9,List.take_of_length_le (by rw [EV];exact hj)] at f
 ·exact h2 i9⟩
theorem Al1.addr (h:Al1 w lb ls i j)(hi:i<ls.length)(hk:k<(ls.getD i Lst.z).n):∃p,(ls.getD i Lst.z).A.map (·.add (k*1))=some p:=by
 obtain⟨xs,h1,_⟩:=h.own i hi;obtain⟨p,f,_⟩:=h1.at1 hk;exact⟨p,f⟩
theorem Al1.set (h:Al1 w lb ls i j)(hi:i<ls.length)(hj:j<(ls.getD i Lst.z).n)(hT:∀w,(sizeOf T').run P w= .ok 1 w)(hp:(ls.getD i Lst.z).A.map (·.add (j*1))=some p):∃w',(storeVar T' p (bF (fM i j))).run P w= .ok () w'∧Al1 w' lb ls i (j+1)∧UpU lb w w':=by
 obtain⟨xs,h1,h2,I⟩:=h.own i hi;obtain⟨w',hr,F,o⟩:=LL (P:=P) (T':=T') (f:=bF) (u:=fM i j) h1 hj J J hT hp;refine⟨w',hr,⟨h.dis,fun a E=>?_⟩,UpU.ofO h1 o⟩;by_cases e:a=i
 ·subst e;refine⟨_,F,fun h=>absurd h (Nat.lt_irrefl _),fun _=>?_⟩;have L:=I rfl;have hl:=rM h1;rw [List.take_add_one,List.take_add_one,List.take_set_of_le (aU _),L];congr 1;rw [List.getElem?_set_self i9];have:=EW (i:=a) hj;rw [bL,cT (by rw [EV];exact hj),Option.getD_some] at this;rw [cT (by rw [EV];exact hj),this]
 obtain⟨ys,H,G,_⟩:=h.own a E;exact⟨ys,H.updO o (fun p q hp M=>h.dis i a hi E (fun e'=>e e'.symm) p q hp M),G,fun e'=>absurd e' e⟩
end
structure Gr (w:a6)(lb:Nat)(x g:Lst)(i:Nat):Prop where
 ox:Own w lb 43 1 x.A x.n x.c ((gX i x.n).map bF)
 og:Own w lb 43 1 g.A g.n g.c ((gX i g.n).map bF)
 le:x.n≤g.n
 rel:(g.A=x.A∧g.c=x.c)∨(∀p q,x.A=some p→g.A=some q→p.block≠q.block)
def pV (x g:Lst)(k:Nat):Prop:=∃p,(x.A=some p∨g.A=some p)∧p.block=k
structure Al2 (w:a6)(lb:Nat)(ls gs:List Lst):Prop where
 len:gs.length=ls.length
 dis:∀a b,a<ls.length→b<ls.length→a≠b→∀k,pV (ls.getD a Lst.z) (gs.getD a Lst.z) k→¬pV (ls.getD b Lst.z) (gs.getD b Lst.z) k
 gr:∀a,a<ls.length→Gr w lb (ls.getD a Lst.z) (gs.getD a Lst.z) a
section
variable {w w':a6}{lb i:Nat}{ls gs:List Lst}
theorem Al2.start (h:Al1 w lb ls ls.length 0):Al2 w lb ls ls:=by
 refine⟨rfl,fun a b f hb F k h1 h2=>?_,fun a f=>?_⟩
 ·obtain⟨p,E,rfl⟩:=h1;obtain⟨q,o,G⟩:=h2;exact h.dis a b f hb F p q (by rcases E with E | E <;> exact E) (by rcases o with o | o <;> exact o) G.symm
 obtain⟨xs,h1,h2,_⟩:=h.own a f;rw [h2 f] at h1;exact⟨h1,h1,aU _,cJ ⟨rfl,rfl⟩⟩
theorem Gr.ext {x g:Lst}(h:Gr w lb x g i)(e:Ext w w'):Gr w' lb x g i:=⟨h.ox.ext e,h.og.ext e,h.le,h.rel⟩
theorem Al2.ext (h:Al2 w lb ls gs)(e:Ext w w'):Al2 w' lb ls gs:=⟨h.len,h.dis,fun a f=>(h.gr a f).ext e⟩
theorem mH {α:Type}{l:List α}{x d:α}(h:i<l.length):(l.set i x).getD i d=x:=by simp [bL,h]
theorem mI {α:Type}{l:List α}{x d:α}(h:j≠i):(l.set i x).getD j d=l.getD j d:=by
 rw [bL,List.getElem?_set_ne (fun e=>h e.symm),←bL]
theorem Al2.app (h:Al2 w lb ls gs)(hi:i<ls.length)(ho:Own w' lb 43 1 A' ((gs.getD i Lst.z).n+1) c' ((gX i ((gs.getD i Lst.z).n+1)).map bF))(hc:(A'=(gs.getD i Lst.z).A∧c'=(gs.getD i Lst.z).c∧UpdO (gs.getD i Lst.z).A w w')∨(Ext w w'∧∀a',A'=some a'→w.heap.size≤a'.block)):Al2 w' lb ls (gs.set i ⟨A',(gs.getD i Lst.z).n+1,c'⟩):=by
 have F:i<gs.length:=by rw [h.len];exact hi
 have f:=h.gr i hi;rcases hc with⟨rfl,rfl,V⟩ | ⟨he,L⟩
 ·refine⟨by rw [List.length_set];exact h.len,fun a b E hb G k h1 h2=>?_,fun a E=>?_⟩
  ·refine h.dis a b E hb G k ?_ ?_
   ·by_cases e:a=i
    ·subst e;rwa [mH F] at h1
    rwa [mI e] at h1
   by_cases e:b=i
   ·subst e;rwa [mH F] at h2
   rwa [mI e] at h2
  by_cases e:a=i
  ·subst e;rw [mH F];refine⟨?_,ho,Nat.le_succ_of_le f.le,f.rel⟩;rcases f.rel with⟨Z,e2⟩ | hd
   ·have I:=ho.take1 (k:=(ls.getD a Lst.z).n) (Nat.le_succ_of_le f.le);rw [ZF (Nat.le_succ_of_le f.le)] at I;rw [←Z,←e2];exact I
   exact f.ox.updO V (fun p q o M e=>hd q p M o e.symm)
  rw [mI e];have H:=h.gr a E;refine⟨H.ox.updO V (fun p q o M e'=>?_),H.og.updO V (fun p q o M e'=>?_),H.le,H.rel⟩
  ·exact h.dis i a hi E (fun e''=>e e''.symm) p.block ⟨p,cN o,rfl⟩ ⟨q,cJ M,e'.symm⟩
  exact h.dis i a hi E (fun e''=>e e''.symm) p.block ⟨p,cN o,rfl⟩ ⟨q,cN M,e'.symm⟩
 have old:∀a,a<ls.length→∀k,pV (ls.getD a Lst.z) (gs.getD a Lst.z) k→k<w.heap.size:=fun a E k U=>by
  obtain⟨p,o,rfl⟩:=U
  rcases o with o | o
  ·exact ((h.gr a E).ox.block p o).2
  ·exact ((h.gr a E).og.block p o).2
 have part:∀a,a<ls.length→∀k,pV (ls.getD a Lst.z) ((gs.set i ⟨A',(gs.getD i Lst.z).n+1,c'⟩).getD a Lst.z) k→pV (ls.getD a Lst.z) (gs.getD a Lst.z) k∨(a=i∧w.heap.size≤k):=fun a E k U=>by
  by_cases e:a=i
  ·subst e
   rw [mH F] at U
   obtain⟨p,o,rfl⟩:=U
   rcases o with o | o
   ·exact cJ ⟨p,cJ o,rfl⟩
   ·exact cN ⟨rfl,L p o⟩
  ·rw [mI e] at U;exact cJ U
 refine⟨by rw [List.length_set];exact h.len,fun a b E hb G k h1 h2=>?_,fun a E=>?_⟩
 ·rcases part a E k h1 with W | ⟨Y,W⟩
  ·rcases part b hb k h2 with I | ⟨X,I⟩
   ·exact h.dis a b E hb G k W I
   have:=old a E k W;omega
  rcases part b hb k h2 with I | ⟨X,I⟩
  ·have:=old b hb k I;omega
  exact G (Y.trans X.symm)
 by_cases e:a=i
 ·subst e;rw [mH F];refine⟨f.ox.ext he,ho,Nat.le_succ_of_le f.le,cN fun p q o M e=>?_⟩;have:=(f.ox.block p o).2;have:=L q M;omega
 rw [mI e];exact (h.gr a E).ext he
end
section
variable {Q:Exit→Act→a6→Prop}{N:Nat}{l:Fr}{w:a6}{ops:Array bE}{rest:List bE}{d:Nat}{ty:aS}{pos:String}{af:Array Edge}{gd:Option (Nat×Bool)}
theorem SA {x y:cR}{ls:List Lst}(hw:dD ops l gd=some true)(hx:cB l x=some (.pointer (some p)))(hy:cB l y=some (bF (fM i j)))(h:Al1 w lb ls i j)(hi:i<ls.length)(hj:j<(ls.getD i Lst.z).n)(hp:(ls.getD i Lst.z).A.map (·.add (j*1))=some p)(k:∀w',Al1 w' lb ls i (j+1)→UpU lb w w'→wl aM ops Q N rest l w'):wl aM ops Q N (⟨none,.store 43 x y,ty,pos,af,gd⟩::rest) l w:=by
 obtain⟨w',hr,h2,f⟩:=h.set (P:=aM) (T':=43) hi hj bZ hp;exact wV hw hx hy hr (k w' h2 f)
theorem SF {x y:cR}{ls gs:List Lst}(hw:dD ops l gd=some true)(hx:cB l x=some (.slice (gs.getD i Lst.z).A (gs.getD i Lst.z).n (gs.getD i Lst.z).c))(hy:cB l y=some (up (some ⟨g,0,none⟩) 1 c))(h:Al2 w lb ls gs)(hlb:lb≤w.heap.size)(hi:i<ls.length)(hb:Bk w g 43 [bF (fM i (gs.getD i Lst.z).n)])(hm:(gs.getD i Lst.z).n+1≤1099511627776)(hd:d<N)(k:∀A' c' w',Al2 w' lb ls (gs.set i ⟨A',(gs.getD i Lst.z).n+1,c'⟩)→UpU lb w w'→wl aM ops Q N rest ((d,up A' ((gs.getD i Lst.z).n+1) c')::l) w'):wl aM ops Q N (⟨some d,.call {callee:= .builtin .append,args:= #[x,y],argTypes:= #[22,22]},ty,pos,af,gd⟩::rest) l w:=by
 have hg:=h.gr i hi;obtain⟨A',cap',w',hr,h2,f⟩:=K5 (P:=aM) (ty:=ty) cH j9 J yd yd hg.og hlb (m:=1) (c:=c) (news:= [bF (fM i (gs.getD i Lst.z).n)]) J (YP _ hb) J hm;have E:Own w' lb 43 1 A' ((gs.getD i Lst.z).n+1) cap' ((gX i ((gs.getD i Lst.z).n+1)).map bF):=by rw [ZG,List.map_append];exact h2
 have G:=h.app hi E f
 have H:UpU lb w w':=by
  rcases f with⟨_,_,F⟩ | ⟨he,_⟩
  ·exact UpU.ofO hg.og F
  ·exact UpU.of_ext lb he
 refine gO hw hd (fun a' o=>?_) (k A' cap' w' G H);unfold execOp;simp only [resolve,invoke,builtin,cV,iH,fK,pE,jS,kR,o.ev hx,o.ev hy];rw [hr];rfl
end
theorem Own.atL {ls:List Lst}(h:Own w lb T 1 A n c (ls.map Lst.v))(hi:i<n):∃p,A.map (·.add (i*1))=some p∧w.cell? p=some (.slice (ls.getD i Lst.z).A (ls.getD i Lst.z).n (ls.getD i Lst.z).c):=by
 have hl:=h.rv.len;rw [List.length_map,eH] at hl;obtain⟨a,rfl,hc⟩:=h.rv.get i i9;refine⟨a.add i,by rw [eH];rfl,?_⟩;rw [hc];simp [bL,List.getElem?_map,cT (show i<ls.length by omega),Lst.v]
section
variable {w w':a6}{lb i g:Nat}{ls gs:List Lst}{T:aS}{us:List aF}
theorem Gr.updT {x y:Lst}(h:Gr w lb x y i)(hb:Bk w g T us)(hT:43≠T)(u:Upd g w w'):Gr w' lb x y i:=⟨h.ox.updT hb hT u,h.og.updT hb hT u,h.le,h.rel⟩
theorem Al2.updT (h:Al2 w lb ls gs)(hb:Bk w g T us)(hT:43≠T)(u:Upd g w w'):Al2 w' lb ls gs:=⟨h.len,h.dis,fun a f=>(h.gr a f).updT hb hT u⟩
theorem UpU.upd_new {a b c:a6}(h:UpU lb a b)(u:Upd g b c)(hg:a.heap.size≤g)(hlb:lb≤a.heap.size):UpU lb a c:=
 ⟨u.by_.os.trans h.os,u.by_.tape.trans h.tape,u.by_.output.trans h.output,a8 h.size u.size,fun k E hs=>(u.by_.block k (dA hs h.size) (fun e=>by injection e with e;omega)).trans (h.low k E hs),
  fun k cs t fr f h1=>by
   have o:k<a.heap.size:=(qB.1 f).1
   exact u.heap (h.typ k cs t fr f h1) i9⟩
end
def Al0 (w:a6)(lb:Nat)(ls:List Lst):Prop:=Al1 w lb ls 0 0
theorem Al2.rd1 {ls gs:List Lst}(h:Al2 w lb ls gs)(hi:i<ls.length)(hn:ls.length≤1073741824)(hl:(ls.getD i Lst.z).n≤1099511627776):Rd w (ls.getD i Lst.z).A (ls.getD i Lst.z).n (ls.getD i Lst.z).c (gX i (ls.getD i Lst.z).n):=(h.gr i hi).ox.rd (fun x hx=>by
 unfold gX at hx
 obtain⟨j,f,rfl⟩:=m4.1 hx
 have:=j5.1 f
 unfold fM;rw [dJ];omega)
theorem Al2.rd2 {ls gs:List Lst}(h:Al2 w lb ls gs)(hi:i<ls.length)(hn:ls.length≤1073741824)(hl:(gs.getD i Lst.z).n≤1099511627776):Rd w (gs.getD i Lst.z).A (gs.getD i Lst.z).n (gs.getD i Lst.z).c (gX i (gs.getD i Lst.z).n):=(h.gr i hi).og.rd (fun x hx=>by
 unfold gX at hx
 obtain⟨j,f,rfl⟩:=m4.1 hx
 have:=j5.1 f
 unfold fM;rw [dJ];omega)
theorem a0y:(Tryz.prog.info? 88).map (fun i=>(i.zero,i.size,i.bytes))=some (some (up none 0 0),1,24):=by kernel_rfl
theorem rY (hi:i≤1073741824:=by omega)(hj:j≤1099511627776:=by omega):aQ aM 88 #[no i,no j] w (Gv w (Is (t9 (fM i j:Nat)))):=by
 refine bU Tryz.func88 12 J (sr (aE 1 J (aV 1 J (mL i J (bD J (lV i 1048576 J) (bD J (jC 4323455642275676160 (i*1048576) J) (mv 1 J (mL j J (bD J (jC (4323455642275676160+(i*1048576)) j J) (mv 1 J ?_))))))))));refine aG (bA (aZ [t9 ((4323455642275676160+(i*1048576))+j:Nat)] J ⟨rfl,xl⟩ ?_));exact⟨_,rfl,(show eL .u64 _= t9 (fM i j:Nat) by unfold fM;rfl),bN⟩
theorem a1o {xn xc gn gc:Nat}(hi:i≤1073741824)(hx:Rd w XA xn xc (gX i xn))(hg:Rd w GA gn gc (gX i gn))(hn:gn=xn+80)(hl:xn≤1099511627000):aQ aM 89 #[no i,up XA xn xc,up GA gn gc] w (Gv w (Is (we))):=by
 refine bU Tryz.func89 43 J (sr (aE 1 J (aD (aV 1 J (aA (no gn) J (mv 1 J (aA (no xn) J (bD J (cK xn 80 J) (aH J (lW gn (xn+80) J) (cF ?_))))))))));refine aL (aT J (bB (aL (aD (sr (aE 1 J (bO ?_)))))));refine dC (T:=a6×Nat) (fun⟨wr,j⟩=> [(0,no i),(1,up XA xn xc),(2,up GA gn gc),(7,no j)]) (fun⟨wr,j⟩=>wr) (fun⟨wr,j⟩=>(Ext w wr)∧(j≤xn)∧(Rd wr XA xn xc (gX i xn))∧(Rd wr GA gn gc (gX i gn))) (fun⟨wr,j⟩=>xn-j) (⟨w,0⟩:a6×Nat) ⟨bN,(bX _),hx,hg⟩ J (aP J) ?_;rintro⟨wr,j⟩ ⟨h,hj,E,o⟩;refine aD (aD ?_);by_cases G:j<xn
 ·refine aK 2 J (aA (no xn) J (aH J (dV j xn J) (aG (bC J (bB (aL (aD (bO (aD ?_)))))))));have ae:=EW (i:=i) G;obtain⟨p1,ab,ah,_⟩:=(E).at (i:=j) i9;refine dW cM 8 [] [Is (up XA xn xc),Is (no j),Is (.pointer (some p1)),Is (t9 ((gX i xn).getD j 0:Nat)),Is (no i),Is (no j),Is (t9 (fM i j:Nat)),Is (wk)] [[],[],[0,1],[2],[],[],[4,5],[3,6]] rfl (bY J ?_ ?_ ?_ ?_ (bY J ?_ ?_ ?_ ?_ dN)) ?_
  ·exact fun _ _=>aC (mv 1 J (aI J))
  ·exact fun _ _=>aC (mv 1 J (aI J))
  ·exact fun _ _=>aY J (aC (cA cH bZ j p1 ab J (aI J)))
  ·exact fun _ Z=>aO J (aC (bG (d5 dK (Z.cell ah)) J (aI J)))
  ·exact fun _ _=>aC (mv 1 J (aI J))
  ·exact fun _ _=>aC (mv 1 J (aI J))
  ·intro _ Y;have f:=h.trans Y;refine aY J (aC (bI [no i,no j] f (rY) J ?_));rintro _ _ rfl ag _;exact bQ J ag rfl
  ·exact fun _ _=>aY J (aC (aH J (lW ((gX i xn).getD j 0) (fM i j) J) (aI J)))
  intro aa H;have f:=h.trans H;refine d6 J (d6 J (aC (cF (dM (aL (aT J (bB ?_)))))));refine bT (aL (aK 1 J (bD J (cK j 1 J) (bS 1 J (cP (⟨aa,j+1⟩:a6×Nat) ⟨f,i9,(E.ext H),(o.ext H)⟩ (show xn-(j+1)<xn-j by omega) J (aP J))))))
 refine aK 2 J (aA (no xn) J (aH J (dQ j xn J) (aG (aT J (d9 (cY (d7 (d8 (aL (aD (aV 1 J ?_)))))))))));refine aG (bO ?_);refine dC (T:=a6×Nat) (fun⟨wr,j⟩=> [(0,no i),(1,up XA xn xc),(2,up GA gn gc),(8,no j)]) (fun⟨wr,j⟩=>wr) (fun⟨wr,j⟩=>(Ext w wr)∧(j≤gn)∧(Rd wr XA xn xc (gX i xn))∧(Rd wr GA gn gc (gX i gn))) (fun⟨wr,j⟩=>gn-j) (⟨wr,0⟩:a6×Nat) ⟨h,(bX _),E,o⟩ J (aP J) ?_;rintro⟨wr,j⟩ ⟨h,hj,E,o⟩;refine aD (aD ?_);by_cases G:j<gn
 ·refine aK 2 J (aA (no gn) J (aH J (dV j gn J) (aG (bC J (bB (aL (aD (bO (aD ?_)))))))));have ae:=EW (i:=i) G;obtain⟨X,I,W,_⟩:=(o).at (i:=j) i9;refine dW cM 8 [] [Is (up GA gn gc),Is (no j),Is (.pointer (some X)),Is (t9 ((gX i gn).getD j 0:Nat)),Is (no i),Is (no j),Is (t9 (fM i j:Nat)),Is (wk)] [[],[],[0,1],[2],[],[],[4,5],[3,6]] rfl (bY J ?_ ?_ ?_ ?_ (bY J ?_ ?_ ?_ ?_ dN)) ?_
  ·exact fun _ _=>aC (mv 1 J (aI J))
  ·exact fun _ _=>aC (mv 1 J (aI J))
  ·exact fun _ _=>aY J (aC (cA cH bZ j X I J (aI J)))
  ·exact fun _ U=>aO J (aC (bG (d5 dK (U.cell W)) J (aI J)))
  ·exact fun _ _=>aC (mv 1 J (aI J))
  ·exact fun _ _=>aC (mv 1 J (aI J))
  ·intro _ V;have f:=h.trans V;refine aY J (aC (bI [no i,no j] f (rY) J ?_));rintro _ _ rfl M _;exact bQ J M rfl
  ·exact fun _ _=>aY J (aC (aH J (lW ((gX i gn).getD j 0) (fM i j) J) (aI J)))
  intro L F;have f:=h.trans F;refine d6 J (d6 J (aC (cF (dM (aL (aT J (bB ?_)))))));refine bT (aL (aK 1 J (bD J (cK j 1 J) (bS 1 J (cP (⟨L,j+1⟩:a6×Nat) ⟨f,i9,(E.ext F),(o.ext F)⟩ (show gn-(j+1)<gn-j by omega) J (aP J))))))
 refine aK 2 J (aA (no gn) J (aH J (dQ j gn J) (aG (aT J (d9 (cY (d7 (d8 (aL (sr (bS 1 J ?_)))))))))));refine aL (bA (aZ [we] J ⟨rfl,xl⟩ ?_));exact⟨_,rfl,rfl,h⟩
def j8 (n:Nat):List Nat:=(eI 80).map fun k=>xT (n+k)
theorem MI (h:n≤1099511627776):Wf (j8 n):=fun x hx=>by
 obtain⟨k,f,rfl⟩:=m4.1 hx
 have:=j5.1 f
 unfold xT;rw [dJ];omega
theorem vH (n:Nat):(j8 n).length=80:=by unfold j8;rw [List.length_map,List.length_range]
theorem E4 (h:Bk w g 43 ((ys++j8 n).map bF))(hl:ys.length=n)(hw:Wf ys)(hn:n≤1099511627776):Rd w (some ⟨g,0,none⟩) n (n+80) ys:=by
 have h1:=h.rd (yL hw (MI hn)) (o:=0) (n:=n) (cap:=n+80) i9 (by rw [f8,vH];omega) (by rw [eV];omega);rwa [iN,List.take_left' hl] at h1
theorem W9 (h:Bk w g 43 ((ys++j8 n).map bF))(hl:ys.length=n)(hw:Wf ys)(hn:n≤1099511627776):Rd w (some ⟨g,0,none⟩) (n+80) (n+80) (ys++j8 n):=by
 have h1:=h.rd (yL hw (MI hn)) (o:=0) (n:=n+80) (cap:=n+80) i9 (by rw [f8,vH];omega) (by rw [eV];omega);rwa [iN,List.take_of_length_le (by rw [f8,vH];omega)] at h1
theorem Al0.ext {w':a6}{ls:List Lst}(h:Al0 w lb ls)(e:Ext w w'):Al0 w' lb ls:=Al1.ext h e
def RM (b:Nat)(xs:List Nat)(v:aF)(w:a6):Prop:=∃g,v= up (some ⟨g,0,none⟩) (xs.length+80) (xs.length+80)∧b≤g∧Bk w g 43 ((xs++j8 xs.length).map bF)
theorem a1A (hx:Rd w A xs.length ac xs)(hal:xs.length≤1099511627000):aQ aM 32 #[up A xs.length ac] w (Gv w (RM w.heap.size xs)):=by
 refine bU Tryz.func32 33 J (sr (aE 1 J (aV 1 J (aA (no (xs.length:Nat)) J (bD J (cK xs.length 80 J) (mT J (k:=xs.length+80) J J J cH j9 J fun E v2 aa V e5=>?_))))));rw [kG] at V;have F:w.heap.size≤E:=by rw [←aa];exact (Ext.refl w).size
 have Z:0<ac→∀a,A=some a→a.block≠E:=fun hc a ha=>by have:=(hx).rv.blk a ha hc;omega
 clear aa;have o:=(Ext.refl w).trans e5;refine aE 1 J (aD (sr (aE 1 J (bO ?_))));refine dC (T:=a6×Nat×List Nat) (fun⟨wr,i,l⟩=> [(0,up A xs.length ac),(3,up (some ⟨E,0,none⟩) (xs.length+80) (xs.length+80)),(4,no i)]) (fun⟨wr,i,l⟩=>wr) (fun⟨wr,i,l⟩=>(Ext w wr)∧(Bk wr E 43 (l.map bF))∧(l.length=xs.length+80)∧(i≤xs.length+80)∧(l.take i=(k9 xs).take i)∧(Rd wr A xs.length ac xs)) (fun⟨wr,i,l⟩=>xs.length+80-i) (⟨v2,0,_⟩:a6×Nat×List Nat) ⟨o,V,(List.length_replicate (n:=xs.length+80) (a:=0)),(bX _),(by rw [List.take_zero,List.take_zero]),(hx.ext e5)⟩ J (aP J) ?_;rintro⟨wr,i,l⟩ ⟨o,hb,hl,hi,hv,G⟩;refine fW [(0,up A xs.length ac),(3,up (some ⟨E,0,none⟩) (xs.length+80) (xs.length+80)),(4,no i)] wr J (aP J) (aD (aD ?_));by_cases f:i<xs.length+80
 ·refine aK 2 J (aA (no ((xs.length+80):Nat)) J (aH J (dV i (xs.length+80) J) (aG (bC J (bB (aL (aD (bO (aD ?_)))))))));by_cases L:i<xs.length
  ·refine aK 2 J (aA (no (xs.length:Nat)) J (aH J (dV i xs.length J) (aG (bC J ?_))));have ao:xs.getD i 0≤18446744073709551615:=by have:=uB hx.wf i;rw [dJ] at this;omega
   refine aK 4 J ?_;obtain⟨p9,ae,aj,_⟩:=(G).at (i:=i) i9;refine cA cH bZ i p9 ae J (bG (d5 dK aj) J (cA cH bZ i ⟨E,i,none⟩ (eG _ _) J ?_));have X:=hb;refine i0 J J J bZ J X (iQ (by rw [hl];omega)) J ((l.set i (xs.getD i 0)).map bF) (eM _ _ _) fun ai W U _=>?_;have H:=U.ext o F;refine cF (bT (aL (aK 1 J (bD J (cK i 1 J) (bS 1 J (cP (⟨ai,i+1,l.set i (xs.getD i 0)⟩:a6×Nat×List Nat) ⟨H,W,(by rw [List.length_set];exact hl),i9,(by have h:=KA hl f hv;rw [KB L] at h;exact h),(Rd.updL G U Z)⟩ (show xs.length+80-(i+1)<xs.length+80-i by omega) J (aP J)))))))
  refine aK 2 J (aA (no (xs.length:Nat)) J (aH J (dQ i xs.length J) (aG (aT J (aK 3 J (mL i J (bD J (jC 6510516211317473280 i J) (cA cH bZ i ⟨E,i,none⟩ (eG _ _) J ?_))))))));have M:=hb;refine i0 J J J bZ J M (iQ (by rw [hl];omega)) J ((l.set i (6510516211317473280+i)).map bF) (eM _ _ _) fun ah Y I _=>?_;have H:=I.ext o F;refine cF (bT (aL (aK 1 J (bD J (cK i 1 J) (bS 1 J (cP (⟨ah,i+1,l.set i (6510516211317473280+i)⟩:a6×Nat×List Nat) ⟨H,Y,(by rw [List.length_set];exact hl),i9,(by have h:=KA hl f hv;rw [KC i9 f] at h;exact h),(Rd.updL G I Z)⟩ (show xs.length+80-(i+1)<xs.length+80-i by omega) J (aP J)))))))
 have ag:i=xs.length+80:=by omega
 have ak:l=k9 xs:=by rw [ag,List.take_of_length_le i9,List.take_of_length_le (by rw [E5];exact aU _)] at hv;exact hv
 refine aK 2 J (aA (no ((xs.length+80):Nat)) J (aH J (dQ i (xs.length+80) J) (aG (aT J (d9 (cY (d7 (d8 (aL (sr (bS 2 J ?_)))))))))));refine aL (bA (aZ [up (some ⟨E,0,none⟩) (xs.length+80) (xs.length+80)] J ⟨rfl,xl⟩ (⟨_,rfl,⟨E,rfl,F,?_⟩,o⟩)));have h:=hb;rw [ak] at h;exact h
theorem a1B {L:Option a7}{lc:Nat}(hr:Rd w L (xs.length+80) lc (k9 xs))(hx:Rd w A xs.length ac xs)(hal:xs.length≤1099511627000):aQ aM 12 #[up L (xs.length+80) lc,up A xs.length ac] w (Gv w (Is (we))):=by
 refine bU Tryz.func12 47 J (sr (aE 1 J (aD (aV 1 J (aA (no ((xs.length+80):Nat)) J (mv 1 J (aA (no (xs.length:Nat)) J (bD J (cK xs.length 80 J) (aH J (lW (xs.length+80) (xs.length+80) J) (cF ?_))))))))));refine aL (aT J (bB (aL (aD (sr (aE 1 J (bO ?_)))))));refine dC (T:=a6×Nat) (fun⟨wr,i⟩=> [(0,up L (xs.length+80) lc),(1,up A xs.length ac),(5,no i)]) (fun⟨wr,i⟩=>wr) (fun⟨wr,i⟩=>(Ext w wr)∧(i≤xs.length+80)∧(Rd wr L (xs.length+80) lc (k9 xs))∧(Rd wr A xs.length ac xs)) (fun⟨wr,i⟩=>xs.length+80-i) (⟨w,0⟩:a6×Nat) ⟨bN,(bX _),hr,hx⟩ J (aP J) ?_;rintro⟨wr,i⟩ ⟨I,hi,o,G⟩;refine aD (aD ?_);by_cases Y:i<xs.length+80
 ·refine aK 2 J (aA (no ((xs.length+80):Nat)) J (aH J (dV i (xs.length+80) J) (aG (bC J (bB (aL (aD (bO (aD (aD ?_))))))))));by_cases W:i<xs.length
  ·have ag:=KB W;obtain⟨p1,aa,ah,_⟩:=(o).at (i:=i) i9;obtain⟨p2,ab,Z,_⟩:=(G).at (i:=i) i9;refine dW cM 15 [] [Is (no i),Is (up A xs.length ac),Is (no (xs.length:Nat)),Is (we),Is (we),Is (up L (xs.length+80) lc),Is (no i),Is (.pointer (some p1)),Is (t9 ((k9 xs).getD i 0:Nat)),Is (up A xs.length ac),Is (no i),Is (.pointer (some p2)),Is (t9 (xs.getD i 0:Nat)),Is (wk),Is (wk)] [[],[],[1],[0,2],[3],[4],[4],[4,5,6],[4,7],[4],[4],[4,9,10],[4,11],[4,8,12],[4,13]] rfl (bY J ?_ ?_ ?_ ?_ (bY J ?_ ?_ ?_ ?_ (bY J ?_ ?_ ?_ ?_ (cG J ?_ (cG J ?_ (cG J ?_ dN)))))) ?_
   ·exact fun _ _=>aC (mv 1 J (aI J))
   ·exact fun _ _=>aC (mv 1 J (aI J))
   ·exact fun _ _=>aO J (aC (aA (no (xs.length:Nat)) J (aI J)))
   ·exact fun _ _=>aY J (aC (aH J (dV i xs.length J) (aI J)))
   ·exact fun _ _=>aO J (aC (mv 1 J (aI J)))
   ·exact fun _ _=>aO J (aC (mv 1 J (aI J)))
   ·exact fun _ _=>aO J (aC (mv 1 J (aI J)))
   ·exact fun _ _=>aY J (aO J (aC (cA cH bZ i p1 aa J (aI J))))
   ·exact fun _ ae=>aY J (aC (bG (d5 dK (ae.cell ah)) J (aI J)))
   ·exact fun _ _=>aO J (aC (mv 1 J (aI J)))
   ·exact fun _ _=>aO J (aC (mv 1 J (aI J)))
   ·exact fun _ _=>aY J (aO J (aC (cA cH bZ i p2 ab J (aI J))))
   ·exact fun _ U=>aY J (aC (bG (d5 dK (U.cell Z)) J (aI J)))
   ·exact fun _ _=>aY J (aO J (aC (aH J (lW ((k9 xs).getD i 0) (xs.getD i 0) J) (aI J))))
   ·exact fun _ _=>aY J (aC (aA (wk) J (aI J)))
   intro V h;have F:=I.trans h;refine d6 J (d6 J (d6 J (aY J ?_)));refine aO J (aC (cF (dM (aL (aT J (bB (aL (aV 2 J (aA (no (xs.length:Nat)) J (aH J (nE i xs.length J) (mv 9 J (aA (wk) J ?_))))))))))));refine aG (aT J (bB (bT (aL (aK 1 J (bD J (cK i 1 J) (bS 1 J (cP (⟨V,i+1⟩:a6×Nat) ⟨F,i9,(o.ext h),(G.ext h)⟩ (show xs.length+80-(i+1)<xs.length+80-i by omega) J (aP J)))))))))
  have ag:(k9 xs).getD i 0=6510516211317473280+i:=KC i9 Y;refine dW cM 15 [] [Is (no i),Is (up A xs.length ac),Is (no (xs.length:Nat)),Is (wk),Is (wk),Is (undef),Is (undef),Is (undef),Is (undef),Is (undef),Is (undef),Is (undef),Is (undef),Is (undef),Is (wk)] [[],[],[1],[0,2],[3],[4],[4],[4,5,6],[4,7],[4],[4],[4,9,10],[4,11],[4,8,12],[4,13]] rfl (bY J ?_ ?_ ?_ ?_ (bY J ?_ ?_ ?_ ?_ (bY J ?_ ?_ ?_ ?_ (cG J ?_ (cG J ?_ (cG J ?_ dN)))))) ?_
  ·exact fun _ _=>aC (mv 1 J (aI J))
  ·exact fun _ _=>aC (mv 1 J (aI J))
  ·exact fun _ _=>aO J (aC (aA (no (xs.length:Nat)) J (aI J)))
  ·exact fun _ _=>aY J (aC (aH J (dQ i xs.length J) (aI J)))
  ·exact fun _ _=>aO J (aC (mv 1 J (aI J)))
  ·exact fun _ _=>aO J (aC (mv 1 J (aI J)))
  ·exact fun _ _=>aO J (aC (mv 1 J (aI J)))
  ·exact fun _ _=>aY J (aO J (aC (mv 1 J (aI J))))
  ·exact fun _ _=>aY J (aC (mv 1 J (aI J)))
  ·exact fun _ _=>aO J (aC (mv 1 J (aI J)))
  ·exact fun _ _=>aO J (aC (mv 1 J (aI J)))
  ·exact fun _ _=>aY J (aO J (aC (mv 1 J (aI J))))
  ·exact fun _ _=>aY J (aC (mv 1 J (aI J)))
  ·exact fun _ _=>aY J (aO J (aC (mv 1 J (aI J))))
  ·exact fun _ _=>aY J (aC (aA (wk) J (aI J)))
  intro M f;have F:=I.trans f;refine d6 J (d6 J (d6 J (aY J ?_)));refine aO J (aC (cF (dM (aL (aT J (bB (aL (aV 2 J (aA (no (xs.length:Nat)) J (aH J (i8 i xs.length J) (mv 3 J ?_)))))))))));obtain⟨X,E,H,_⟩:=((o.ext f)).at (i:=i) i9;refine cA cH bZ i X E J (bG (d5 dK H) J (mv 1 J (mL i J (bD J (jC 6510516211317473280 i J) (aH J (lW ((k9 xs).getD i 0) (6510516211317473280+i) J) (aA (wk) J (aG (aT J (bB (bT (aL (aK 1 J ?_))))))))))));refine bD J (cK i 1 J) (bS 1 J (cP (⟨M,i+1⟩:a6×Nat) ⟨F,i9,(o.ext f),(G.ext f)⟩ (show xs.length+80-(i+1)<xs.length+80-i by omega) J (aP J)))
 refine aK 2 J (aA (no ((xs.length+80):Nat)) J (aH J (dQ i (xs.length+80) J) (aG (aT J (d9 (cY (d7 (d8 (aL (sr (bS 1 J ?_)))))))))));refine aL (bA (aZ [we] J ⟨rfl,xl⟩ ?_));exact⟨_,rfl,rfl,I⟩
structure UpI (lb:Nat)(w w':a6):Prop where
 os:w'.os=w.os
 tape:w'.tape=w.tape
 output:w'.output=w.output
 size:w.heap.size≤w'.heap.size
 low:∀k,k<lb→k<w.heap.size→w'.heap[k]?=w.heap[k]?
 typ:∀(k:Nat) (cs:Array aF) (t:aS) (fr:Nat×Nat),w.heap[k]?=some (.cells cs t fr)→t≠24→w'.heap[k]?=some (.cells cs t fr)
section
variable {lb:Nat}{a b c w w':a6}
theorem UpI.refl (lb:Nat)(w:a6):UpI lb w w:=⟨rfl,rfl,rfl,aU _,fun _ _ _=>rfl,fun _ _ _ _ h _=>h⟩
theorem UpI.trans (h:UpI lb a b)(e:UpI lb b c):UpI lb a c:=
 ⟨e.os.trans h.os,e.tape.trans h.tape,e.output.trans h.output,a8 h.size e.size,fun k f hs=>(e.low k f (dA hs h.size)).trans (h.low k f hs),fun k cs t fr o h1=>e.typ k cs t fr (h.typ k cs t fr o h1) h1⟩
theorem UpI.of_ext (lb:Nat)(e:Ext w w'):UpI lb w w':=⟨e.below.os,e.below.tape,e.below.output,e.size,fun k _ hs=>e.below.block k hs,fun _ _ _ _ f _=>e.heap f⟩
theorem UpI.then_ext (h:UpI lb a b)(e:Ext b c):UpI lb a c:=h.trans (UpI.of_ext lb e)
theorem UpI.ext (h:UpI lb w w')(e:Ext a w)(hl:a.heap.size≤lb):Ext a w':=
 ⟨⟨h.os.trans e.below.os,h.tape.trans e.below.tape,h.output.trans e.below.output,a8 e.size h.size,fun k f=>(h.low k (dA f hl) (dA f e.size)).trans (e.below.block k f)⟩⟩
theorem UpI.bk (h:UpI lb w w')(hb:Bk w g t vs)(h1:t≠24):Bk w' g t vs:=h.typ g _ _ _ hb h1
theorem UpI.own {s:Nat}(h:UpI lb w w')(ho:Own w base t s A n cap vs)(h1:t≠24):Own w' base t s A n cap vs:=by
 rcases ho with ho | ⟨g,cs,o,hb,f,r⟩
 ·exact cJ ho
 exact cN ⟨g,cs,o,hb,h.bk f h1,r⟩
theorem UpI.ofO {s:Nat}(ho:Own w lb 24 s A n cap vs)(u:UpdO A w w'):UpI lb w w':=by
 refine⟨u.by_.os,u.by_.tape,u.by_.output,u.size,fun k o hs=>?_,fun k cs t fr h1 h2=>?_⟩
 ·refine u.by_.block k hs fun e=>?_;cases A with
  | none=>cases e
  | some p=>
   have e':k=p.block:=kO e
   have:=(ho.block p J).1
   omega
 refine u.heap h1 fun p f e=>h2 ?_;rcases ho with⟨h,_⟩ | ⟨g,cs',E,_,o,_⟩
 ·rw [h] at f;cases f
 rw [E] at f;cases f;simp only at e;subst e;unfold Bk at o;rw [o] at h1;injection h1 with h1;injection h1 with _ h1;exact h1.symm
end
section
variable {lb g:Nat}{T:aS}{us:List aF}
theorem UpI.upd_new {a b c:a6}(h:UpI lb a b)(u:Upd g b c)(hg:a.heap.size≤g)(hlb:lb≤a.heap.size):UpI lb a c:=
 ⟨u.by_.os.trans h.os,u.by_.tape.trans h.tape,u.by_.output.trans h.output,a8 h.size u.size,fun k E hs=>(u.by_.block k (dA hs h.size) (fun e=>by injection e with e;omega)).trans (h.low k E hs),
  fun k cs t fr f h1=>by
   have o:k<a.heap.size:=(qB.1 f).1
   exact u.heap (h.typ k cs t fr f h1) i9⟩
end
theorem xJ {t T s:Nat}(h:Own w b t s A n c us)(hb:Bk w g T vs)(hT:t≠T):∀p,A=some p→p.block≠g:=fun p f e=>by
 rcases h with⟨h,_⟩ | ⟨g',cs,E,_,o,_⟩
 ·rw [h] at f;cases f
 ·rw [E] at f;cases f
  simp only at e
  subst e
  unfold Bk at o hb
  rw [o] at hb
  injection hb with hb
  injection hb with _ hb
  exact hT hb
theorem YH (h:i+2≤cs.length):jP cs i [u0,u1]=(cs.set i u0).set (i+1) u1:=by
 induction i generalizing cs with
 | zero=>match cs,h with
  | a::b::r,_=>rfl
 | succ i ih=>match cs,h with
  | a::r,h=>exact congrArg (a:: ·) (ih (cs:=r) (by simp at h;omega))
def Mk (w:a6)(a:Nat)(vs:List aF)(j:Nat):Prop:=∀q,q<j→∃g,vs[q*2]?=some (wk)∧vs[q*2+1]?=some (up (some ⟨g,0,none⟩) 1 1)∧Bk w g 43 [bF (fM a q)]
section
variable {w w':a6}{a j k lb i n c:Nat}{vs:List aF}
theorem Mk.ext (h:Mk w a vs j)(e:Ext w w'):Mk w' a vs j:=fun q f=>by
 obtain⟨g,h1,h2,o⟩:=h q f
 exact⟨g,h1,h2,o.ext e⟩
theorem Mk.mono (h:Mk w a vs j)(hk:k≤j):Mk w a vs k:=fun q _=>h q i9
theorem Mk.zero (w:a6)(a:Nat)(vs:List aF):Mk w a vs 0:=fun _ h=>absurd h (Nat.not_lt_zero _)
theorem Mk.updO (h:Mk w a vs j)(ho:Own w lb 24 2 A n c us)(u:UpdO A w w'):Mk w' a vs j:=fun q o=>by
 obtain⟨g,h1,h2,f⟩:=h q o
 exact⟨g,h1,h2,f.updO u (xJ ho f yd)⟩
theorem Mk.take (h:Mk w a vs j)(hk:j*2≤k):Mk w a (vs.take k) j:=fun q f=>by
 obtain⟨g,h1,h2,o⟩:=h q f
 exact⟨g,by rw [lK,if_pos i9];exact h1,by rw [lK,if_pos i9];exact h2,o⟩
theorem Mk.append (h:Mk w a vs j)(us:List aF):Mk w a (vs++us) j:=fun q f=>by
 obtain⟨g,h1,h2,o⟩:=h q f
 exact⟨g,by rw [List.getElem?_append_left (gU.1 h1).1];exact h1,by rw [List.getElem?_append_left (gU.1 h2).1];exact h2,o⟩
theorem Mk.snoc (h:Mk w a vs j)(hl:vs.length=j*2)(hb:Bk w g 43 [bF (fM a j)]):Mk w a (vs++ [wk,up (some ⟨g,0,none⟩) 1 1]) (j+1):=fun q _=>by
 by_cases e:q=j
 ·subst e
  exact⟨g,by rw [List.getElem?_append_right i9,show q*2-vs.length=0 by omega];rfl,by rw [List.getElem?_append_right i9,show q*2+1-vs.length=1 by omega];rfl,hb⟩
 ·exact h.append _ q i9
theorem Mk.set (h:Mk w a vs j)(hl:j*2+1<vs.length)(hb:Bk w g 43 [bF (fM a j)]):Mk w a ((vs.set (j*2) (wk)).set (j*2+1) (up (some ⟨g,0,none⟩) 1 1)) (j+1):=fun q _=>by
 by_cases e:q=j
 ·subst e
  exact⟨g,by rw [List.getElem?_set_ne i9,List.getElem?_set_self i9],by rw [List.getElem?_set_self (by rw [List.length_set];exact hl)],hb⟩
 ·obtain⟨o,h1,h2,f⟩:=h q i9
  exact⟨o,by rw [List.getElem?_set_ne i9,List.getElem?_set_ne i9];exact h1,by rw [List.getElem?_set_ne i9,List.getElem?_set_ne i9];exact h2,f⟩
theorem mD (h:Own w lb 24 2 A n c vs):vs.length=n*2:=h.rv.len
theorem YC (h:Own w lb 24 2 A n c vs)(hi:i<n)(h0:u0.oneCell'=true)(h1:u1.oneCell'=true)(hp:A.map (·.add (i*2))=some p):∃w',(storeVar 24 p (.agg #[u0,u1])).run aM w= .ok () w'∧Own w' lb 24 2 A n c ((vs.set (i*2) u0).set (i*2+1) u1)∧UpdO A w w':=by
 rcases h with⟨_,rfl,_,_⟩ | ⟨g,cs,rfl,hb,H,hn,hm,hl,F⟩
 ·omega
 rw [Option.map_some,f7,jI,eR] at hp;subst hp;have G:i*2+2≤n*2:=by omega
 have o:n*2≤c*2:=fC 2 hn;have e:jP cs (i*2) [u0,u1]=(cs.set (i*2) u0).set (i*2+1) u1:=YH i9;obtain⟨w',hr,f,E,_⟩:=AF (P:=aM) (us:= [u0,u1]) (off:=i*2) aB J H i9 (by simp [h0,h1]) _ e;refine⟨w',hr,cN ⟨g,_,rfl,hb,f,hn,hm,by rw [List.length_set,List.length_set,hl],?_⟩,E.updO⟩;rw [List.take_set,List.take_set,F]
end
structure Ai1 (w:a6)(lb:Nat)(ls:List Lst)(i j:Nat):Prop where
 dis:∀a b,a<ls.length→b<ls.length→a≠b→∀p q,(ls.getD a Lst.z).A=some p→(ls.getD b Lst.z).A=some q→p.block≠q.block
 own:∀a,a<ls.length→∃vs:List aF,Own w lb 24 2 (ls.getD a Lst.z).A (ls.getD a Lst.z).n (ls.getD a Lst.z).c vs∧(a<i→Mk w a vs (ls.getD a Lst.z).n)∧(a=i→Mk w a vs j)
section
variable {w w':a6}{lb i j:Nat}{ls:List Lst}
theorem Ai1.ext (h:Ai1 w lb ls i j)(e:Ext w w'):Ai1 w' lb ls i j:=⟨h.dis,fun a o=>by
 obtain⟨vs,h1,h2,f⟩:=h.own a o
 exact⟨vs,h1.ext e,fun hl=>(h2 hl).ext e,fun he=>(f he).ext e⟩⟩
theorem Ai1.next (h:Ai1 w lb ls i j)(hj:(ls.getD i Lst.z).n≤j):Ai1 w lb ls (i+1) 0:=⟨h.dis,fun a o=>by
 obtain⟨vs,h1,h2,f⟩:=h.own a o
 refine⟨vs,h1,fun _=>?_,fun _=>Mk.zero _ _ _⟩
 by_cases e:a=i
 ·subst e;exact (f J).mono hj
 ·exact h2 i9⟩
theorem Ai1.addr (h:Ai1 w lb ls i j)(hi:i<ls.length)(hk:k<(ls.getD i Lst.z).n):∃p,(ls.getD i Lst.z).A.map (·.add (k*2))=some p:=by
 obtain⟨vs,h1,_⟩:=h.own i hi;have hl:=mD h1;obtain⟨a,f,_⟩:=h1.rv.get (k*2) i9;rw [f];exact⟨_,rfl⟩
theorem Ai1.set (h:Ai1 w lb ls i j)(hi:i<ls.length)(hj:j<(ls.getD i Lst.z).n)(hb:Bk w g 43 [bF (fM i j)])(hp:(ls.getD i Lst.z).A.map (·.add (j*2))=some p):∃w',(storeVar 24 p (.agg #[wk,up (some ⟨g,0,none⟩) 1 1])).run aM w= .ok () w'∧Ai1 w' lb ls i (j+1)∧UpI lb w w':=by
 obtain⟨vs,h1,h2,H⟩:=h.own i hi;obtain⟨w',hr,E,f⟩:=YC (u0:= wk) (u1:= up (some ⟨g,0,none⟩) 1 1) h1 hj J J hp;refine⟨w',hr,⟨h.dis,fun a o=>?_⟩,UpI.ofO h1 f⟩;by_cases e:a=i
 ·subst e;have hl:=mD h1;exact⟨_,E,fun h=>absurd h (Nat.lt_irrefl _),fun _=>((H J).updO h1 f).set i9 (hb.updO f (xJ h1 hb yd))⟩
 obtain⟨ys,G,F,_⟩:=h.own a o;exact⟨ys,G.updO f (fun p q hp I=>h.dis i a hi o (fun e'=>e e'.symm) p q hp I),fun hl=>(F hl).updO h1 f,fun e'=>absurd e' e⟩
end
structure Gi (w:a6)(lb:Nat)(x g:Lst)(i:Nat):Prop where
 ox:∃vs:List aF,Own w lb 24 2 x.A x.n x.c vs∧Mk w i vs x.n
 og:∃vs:List aF,Own w lb 24 2 g.A g.n g.c vs∧Mk w i vs g.n
 le:x.n≤g.n
 rel:(g.A=x.A∧g.c=x.c)∨(∀p q,x.A=some p→g.A=some q→p.block≠q.block)
structure Ai2 (w:a6)(lb:Nat)(ls gs:List Lst):Prop where
 len:gs.length=ls.length
 dis:∀a b,a<ls.length→b<ls.length→a≠b→∀k,pV (ls.getD a Lst.z) (gs.getD a Lst.z) k→¬pV (ls.getD b Lst.z) (gs.getD b Lst.z) k
 gr:∀a,a<ls.length→Gi w lb (ls.getD a Lst.z) (gs.getD a Lst.z) a
section
variable {w w':a6}{lb i:Nat}{ls gs:List Lst}
theorem Ai2.start (h:Ai1 w lb ls ls.length 0):Ai2 w lb ls ls:=by
 refine⟨rfl,fun a b f hb F k h1 h2=>?_,fun a f=>?_⟩
 ·obtain⟨p,E,rfl⟩:=h1;obtain⟨q,o,G⟩:=h2;exact h.dis a b f hb F p q (by rcases E with E | E <;> exact E) (by rcases o with o | o <;> exact o) G.symm
 obtain⟨vs,h1,h2,_⟩:=h.own a f;exact⟨⟨vs,h1,h2 f⟩,⟨vs,h1,h2 f⟩,aU _,cJ ⟨rfl,rfl⟩⟩
theorem Gi.ext {x g:Lst}(h:Gi w lb x g i)(e:Ext w w'):Gi w' lb x g i:=by
 obtain⟨⟨vs,h1,h2⟩,⟨us,E,f⟩,o,F⟩:=h;exact⟨⟨vs,h1.ext e,h2.ext e⟩,⟨us,E.ext e,f.ext e⟩,o,F⟩
theorem Ai2.ext (h:Ai2 w lb ls gs)(e:Ext w w'):Ai2 w' lb ls gs:=⟨h.len,h.dis,fun a f=>(h.gr a f).ext e⟩
theorem Ai2.app (h:Ai2 w lb ls gs)(hi:i<ls.length){n':Nat}(hn:(gs.getD i Lst.z).n+1=n')(hw:Own w lb 24 2 (gs.getD i Lst.z).A (gs.getD i Lst.z).n (gs.getD i Lst.z).c us)(ho:Own w' lb 24 2 A' n' c' vs)(hm:Mk w' i vs n')(hc:(A'=(gs.getD i Lst.z).A∧c'=(gs.getD i Lst.z).c∧UpdO (gs.getD i Lst.z).A w w')∨(Ext w w'∧∀a',A'=some a'→w.heap.size≤a'.block)):Ai2 w' lb ls (gs.set i ⟨A',n',c'⟩):=by
 have F:i<gs.length:=by rw [h.len];exact hi
 have E:=h.gr i hi;have H:(ls.getD i Lst.z).n≤n':=by have:=E.le;omega
 rcases hc with⟨rfl,rfl,W⟩ | ⟨he,L⟩
 ·refine⟨by rw [List.length_set];exact h.len,fun a b o hb I k h1 h2=>?_,fun a o=>?_⟩
  ·refine h.dis a b o hb I k ?_ ?_
   ·by_cases e:a=i
    ·subst e;rwa [mH F] at h1
    rwa [mI e] at h1
   by_cases e:b=i
   ·subst e;rwa [mH F] at h2
   rwa [mI e] at h2
  by_cases e:a=i
  ·subst e;rw [mH F];refine⟨?_,⟨vs,ho,hm⟩,H,E.rel⟩;rcases E.rel with⟨e1,e2⟩ | Z
   ·have G:=ho.take (k:=(ls.getD a Lst.z).n) H;rw [←e1,←e2];exact⟨_,G,(hm.mono H).take (aU _)⟩
   obtain⟨xs,h7,h8⟩:=E.ox;exact⟨xs,h7.updO W (fun p q f U e=>Z q p U f e.symm),h8.updO hw W⟩
  rw [mI e];obtain⟨⟨xs,h1,h2⟩,⟨ys,M,G⟩,Y,h6⟩:=h.gr a o;refine⟨⟨xs,h1.updO W (fun p q f U e'=>?_),h2.updO hw W⟩,⟨ys,M.updO W (fun p q f U e'=>?_),G.updO hw W⟩,Y,h6⟩
  ·exact h.dis i a hi o (fun e''=>e e''.symm) p.block ⟨p,cN f,rfl⟩ ⟨q,cJ U,e'.symm⟩
  exact h.dis i a hi o (fun e''=>e e''.symm) p.block ⟨p,cN f,rfl⟩ ⟨q,cN U,e'.symm⟩
 have old:∀a,a<ls.length→∀k,pV (ls.getD a Lst.z) (gs.getD a Lst.z) k→k<w.heap.size:=fun a o k V=>by
  obtain⟨p,f,rfl⟩:=V
  obtain⟨⟨xs,h1,_⟩,⟨ys,M,_⟩,_⟩:=h.gr a o
  rcases f with f | f
  ·exact (h1.block p f).2
  ·exact (M.block p f).2
 have part:∀a,a<ls.length→∀k,pV (ls.getD a Lst.z) ((gs.set i ⟨A',n',c'⟩).getD a Lst.z) k→pV (ls.getD a Lst.z) (gs.getD a Lst.z) k∨(a=i∧w.heap.size≤k):=fun a o k V=>by
  by_cases e:a=i
  ·subst e
   rw [mH F] at V
   obtain⟨p,f,rfl⟩:=V
   rcases f with f | f
   ·exact cJ ⟨p,cJ f,rfl⟩
   ·exact cN ⟨rfl,L p f⟩
  ·rw [mI e] at V;exact cJ V
 refine⟨by rw [List.length_set];exact h.len,fun a b o hb I k h1 h2=>?_,fun a o=>?_⟩
 ·rcases part a o k h1 with M | ⟨e3,M⟩
  ·rcases part b hb k h2 with G | ⟨X,G⟩
   ·exact h.dis a b o hb I k M G
   have:=old a o k M;omega
  rcases part b hb k h2 with G | ⟨X,G⟩
  ·have:=old b hb k G;omega
  exact I (e3.trans X.symm)
 by_cases e:a=i
 ·subst e;rw [mH F];obtain⟨⟨xs,h1,h2⟩,_⟩:=E;refine⟨⟨xs,h1.ext he,h2.ext he⟩,⟨vs,ho,hm⟩,H,cN fun p q f U e=>?_⟩;have:=(h1.block p f).2;have:=L q U;omega
 rw [mI e];exact (h.gr a o).ext he
theorem Gi.at_ {x y:Lst}(h1:Own w lb 24 2 A n c vs)(h2:Mk w i vs n)(hj:j<n):∃p g,A.map (·.add (j*2))=some p∧w.cell? p=some (wk)∧w.cell? (p.add 1)=some (up (some ⟨g,0,none⟩) 1 1)∧Bk w g 43 [bF (fM i j)]:=by
 obtain⟨g,E,h,o⟩:=h2 j hj;have hl:=mD h1;obtain⟨a,f,hc⟩:=h1.rv.get (j*2) i9;obtain⟨a',ha',hc'⟩:=h1.rv.get (j*2+1) i9;rw [f] at ha';injection ha' with ha';subst ha';subst f;refine⟨_,g,rfl,?_,?_,o⟩
 ·rw [hc,bL,E];rfl
 rw [Go.Deep.add_add,hc',bL,h];rfl
theorem Ai2.atx (h:Ai2 w lb ls gs)(hi:i<ls.length)(hj:j<(ls.getD i Lst.z).n):∃p g,(ls.getD i Lst.z).A.map (·.add (j*2))=some p∧w.cell? p=some (wk)∧w.cell? (p.add 1)=some (up (some ⟨g,0,none⟩) 1 1)∧Bk w g 43 [bF (fM i j)]:=by
 obtain⟨vs,h1,h2⟩:=(h.gr i hi).ox;exact Gi.at_ (x:=Lst.z) (y:=Lst.z) h1 h2 hj
theorem Ai2.atg (h:Ai2 w lb ls gs)(hi:i<ls.length)(hj:j<(gs.getD i Lst.z).n):∃p g,(gs.getD i Lst.z).A.map (·.add (j*2))=some p∧w.cell? p=some (wk)∧w.cell? (p.add 1)=some (up (some ⟨g,0,none⟩) 1 1)∧Bk w g 43 [bF (fM i j)]:=by
 obtain⟨vs,h1,h2⟩:=(h.gr i hi).og;exact Gi.at_ (x:=Lst.z) (y:=Lst.z) h1 h2 hj
end
section
variable {Q:Exit→Act→a6→Prop}{N:Nat}{l:Fr}{w:a6}{ops:Array bE}{rest:List bE}{d:Nat}{ty:aS}{pos:String}{af:Array Edge}{gd:Option (Nat×Bool)}
theorem sW:Tryz.prog.underlying 45=some (.slice 27):=by kernel_rfl
theorem x8 (w:a6):(sizeOf 27).run aM w= .ok 1 w:=by kernel_rfl
theorem C9 (w:a6):(isAgg 27).run aM w= .ok false w:=by kernel_rfl
theorem NW:(Tryz.prog.info? 27).map (fun i=>(i.zero,i.size,i.bytes))=some (some (up none 0 0),1,24):=by kernel_rfl
theorem S9 {x y:cR}{ls:List Lst}(hw:dD ops l gd=some true)(hx:cB l x=some (.pointer (some p)))(hy:cB l y=some (.agg #[wk,up (some ⟨g,0,none⟩) 1 1]))(h:Ai1 w lb ls i j)(hi:i<ls.length)(hj:j<(ls.getD i Lst.z).n)(hb:Bk w g 43 [bF (fM i j)])(hp:(ls.getD i Lst.z).A.map (·.add (j*2))=some p)(k:∀w',Ai1 w' lb ls i (j+1)→UpI lb w w'→wl aM ops Q N rest l w'):wl aM ops Q N (⟨none,.store 24 x y,ty,pos,af,gd⟩::rest) l w:=by
 obtain⟨w',hr,h2,f⟩:=h.set hi hj hb hp;exact wV hw hx hy hr (k w' h2 f)
theorem SE {x y:cR}{g2:Nat}{ls gs:List Lst}(hw:dD ops l gd=some true)(hx:cB l x=some (.slice (gs.getD i Lst.z).A (gs.getD i Lst.z).n (gs.getD i Lst.z).c))(hy:cB l y=some (up (some ⟨g2,0,none⟩) 1 c))(h:Ai2 w lb ls gs)(hlb:lb≤w.heap.size)(hi:i<ls.length)(hb:Bk w g 43 [bF (fM i (gs.getD i Lst.z).n)])(hb2:Bk w g2 24 [wk,up (some ⟨g,0,none⟩) 1 1])(hm:(gs.getD i Lst.z).n+1≤1099511627776)(hd:d<N)(k:∀A' c' w',Ai2 w' lb ls (gs.set i ⟨A',(gs.getD i Lst.z).n+1,c'⟩)→UpI lb w w'→wl aM ops Q N rest ((d,up A' ((gs.getD i Lst.z).n+1) c')::l) w'):wl aM ops Q N (⟨some d,.call {callee:= .builtin .append,args:= #[x,y],argTypes:= #[27,27]},ty,pos,af,gd⟩::rest) l w:=by
 obtain⟨vs,hg,o⟩:=(h.gr i hi).og
 obtain⟨A',cap',w',hr,h2,G⟩:=K5 (P:=aM) (ty:=ty) fI tP J yd yd hg hlb (m:=1) (c:=c) (news:= [wk,up (some ⟨g,0,none⟩) 1 1]) J (fun j u H=>by
  have F:=(gU.1 H).1
  rw [jI,eR,hb2.cell F,bL,H];rfl) J hm
 have f:=mD hg
 have L:Mk w' i (vs++ [wk,up (some ⟨g,0,none⟩) 1 1]) ((gs.getD i Lst.z).n+1):=by
  rcases G with⟨_,_,E⟩ | ⟨he,_⟩
  ·exact (o.updO hg E).snoc f (hb.updO E (xJ hg hb yd))
  ·exact (o.ext he).snoc f (hb.ext he)
 have M:=h.app hi J hg h2 L G
 have U:UpI lb w w':=by
  rcases G with⟨_,_,E⟩ | ⟨he,_⟩
  ·exact UpI.ofO hg E
  ·exact UpI.of_ext lb he
 refine gO hw hd (fun a' I=>?_) (k A' cap' w' M U);unfold execOp;simp only [resolve,invoke,builtin,cV,iH,fK,pE,jS,kR,I.ev hx,I.ev hy];rw [hr];rfl
end
section
variable {w w':a6}{lb i g j:Nat}{ls gs:List Lst}{T:aS}{us:List aF}
theorem Mk.updT (h:Mk w i vs j)(hb:Bk w g T us)(hT:43≠T)(u:Upd g w w'):Mk w' i vs j:=fun q o=>by
 obtain⟨E,h1,h2,f⟩:=h q o
 refine⟨E,h1,h2,f.updN u fun e=>?_⟩
 subst e
 unfold Bk at f hb
 rw [f] at hb
 injection hb with hb
 injection hb with _ hb
 exact hT hb
theorem Gi.updT {x y:Lst}(h:Gi w lb x y i)(hb:Bk w g T us)(hT:43≠T)(hT2:24≠T)(u:Upd g w w'):Gi w' lb x y i:=by
 obtain⟨⟨vs,h1,h2⟩,⟨ws,E,f⟩,o,F⟩:=h;exact⟨⟨vs,h1.updT hb hT2 u,h2.updT hb hT u⟩,⟨ws,E.updT hb hT2 u,f.updT hb hT u⟩,o,F⟩
theorem Ai2.updT (h:Ai2 w lb ls gs)(hb:Bk w g T us)(hT:43≠T)(hT2:24≠T)(u:Upd g w w'):Ai2 w' lb ls gs:=⟨h.len,h.dis,fun a f=>(h.gr a f).updT hb hT hT2 u⟩
end
theorem ZS (h0:w.cell? p=some (wk))(h1:w.cell? (p.add 1)=some (up (some ⟨g,0,none⟩) 1 1)):(loadVar 24 p).run aM w= .ok (.agg #[wk,up (some ⟨g,0,none⟩) 1 1]) w:=
 tJ aB [wk,up (some ⟨g,0,none⟩) 1 1] J (fun j f=>by
  match j,f with
  | 0,_=>exact h0
  | 1,_=>exact h1)
def UpW (lb:Nat)(w w':a6):Prop:=∀a,Ext a w→a.heap.size≤lb→Ext a w'
section
variable {a b c w w':a6}{lb:Nat}{ms:List Lst}
theorem UpW.refl (lb:Nat)(w:a6):UpW lb w w:=fun _ e _=>e
theorem UpW.trans (h:UpW lb a b)(k:UpW lb b c):UpW lb a c:=fun x e hl=>k x (h x e hl) hl
theorem UpW.then_ext (h:UpW lb a b)(e:Ext b c):UpW lb a c:=fun x k hl=>(h x k hl).trans e
theorem UpU.upw (h:UpU lb w w'):UpW lb w w':=fun _ e hl=>h.ext e hl
theorem UpI.upw (h:UpI lb w w'):UpW lb w w':=fun _ e hl=>h.ext e hl
theorem Ai1.upU (h:Ai1 w lb ms 0 0)(u:UpU lb w w'):Ai1 w' lb ms 0 0:=⟨h.dis,fun a f=>by
 obtain⟨vs,h1,_,_⟩:=h.own a f
 exact⟨vs,u.own h1 yd,fun h=>absurd h (Nat.not_lt_zero _),fun _=>Mk.zero _ _ _⟩⟩
end
end
end Go.Proofs.YtkkabncicmhjfaaGreatDoor
