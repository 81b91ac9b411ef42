/- Parts Fbc, Fbd, joined. -/
import Derived.Test.YtipklngcpmkfhaaDoorH3

namespace Go.Proofs.YtipklngcpmkfhaaDoor
open Go.RowKit
def chX (x y:Int):Int:=if y<0 then-x else x
def chY (y:Int):Int:=if y<0 then-y else y
theorem chY_pos {y:Int}(h:y≠0):0<chY y:=by unfold chY;split <;> omega
theorem ln_chX {x y:Int}:ln (chX x y)=ln x:=by unfold chX;split;(· rw [ln_neg]);(· rfl)
theorem ln_chY {y:Int}:ln (chY y)=ln y:=by unfold chY;split;(· rw [ln_neg]);(· rfl)
theorem blen_bdF {m n:Nat}(h:(wd m).length≤n):blen m≤64*n:=by
 refine blen_le ?_
 have h1:=lt_pow_len m
 have h2:m<WB^n:=Nat.lt_of_lt_of_le h1 (Nat.pow_le_pow_right WB_pos h)
 rw [WB_pow] at h2
 rw [Nat.pow_mul]
 exact h2
def LRF (K b lb:Nat) (zs:List Int) (v:Value) (w:World):Prop:=∃A cap,v= .slice A zs.length cap∧Lz none K b w lb A zs.length cap zs
theorem g_FloorE {w:World}{b:Nat}(hb:b≤w.heap.size){s t:Bool}{A B:Option Addr}{n cap m cap':Nat}{x y:Int}(hx:Zi w s A n cap x) (hl:n≤68719476736) (hy:Zi w t B m cap' y) (hl':m≤68719476736) (h0:0<y):
  Calls Tryd.prog 42 #[.agg #[.bool s,.slice A n cap],.agg #[.bool t,.slice B m cap']] w (Gv w (T3 (ZR b (x/y)) (ZR b (x%y)) (Is (.int .i64 0)))):=by
 refine (g_zint_FloorD hb hx hl hy hl' (by omega)).mono fun e w' h=>?_
 obtain⟨q,r,h1,h2⟩:=h
 have h3:=h1.eq
 have h4:=h1.pos h0
 obtain⟨e1,e2⟩:=(Int.ediv_emod_unique (b:=y) h0).2 ⟨show r+y*q=x by rw [Int.mul_comm];omega,h4⟩
 rw [e1,e2];exact h2
theorem Lz.zlN {K b lb:Nat}{w:World}{A:Option Addr}{n cap:Nat}{zs:List Int}(h:Lz none K b w lb A n cap zs):∃ms,Zl w A n cap zs ms∧∀i,ms.getD i 0≤K:=by
 obtain⟨es,h1,h2,h3,h4⟩:=h
 have h5:Lz (some w) K b w lb A n cap zs:=⟨es,h1,h2,h3,fun i hi=>⟨(h4 i hi).1,Or.inl (h4 i hi).2.zr⟩⟩
 exact h5.zl (Ext.refl _)
set_option maxHeartbeats 4000000 in
theorem g_Chain_bad {w:World}{sa:Bool}{Aa:Option Addr}{na ca:Nat}{x:Int}{sd:Bool}{Ad:Option Addr}{nd cd:Nat}{y:Int}(hx:Zi w sa Aa na ca x) (la:na≤1048576) (hy:Zi w sd Ad nd cd y) (ld:nd≤1048576) (h0:y=0):
    Calls Tryd.prog 9 #[.agg #[.bool sa,.slice Aa na ca,.bool sd,.slice Ad nd cd]] w (Gv w (T2 (Is (.slice none 0 0)) (Is (.int .i64 4)))):=by
 have Lx:ln x≤1048576:=Nat.le_trans hx.ln la
 have Ly:ln y≤1048576:=Nat.le_trans hy.ln ld
 refine sx_enter Tryd.func9 rfl (n:=41) rfl (bq rfl) (args:= [.agg #[.bool sa,.slice Aa na ca,.bool sd,.slice Ad nd cd]]) (cw_keep [(0,.agg #[.bool sa,.slice Aa na ca,.bool sd,.slice Ad nd cd])] ⟨rfl,trivial⟩ (sr (bx [.bool sa,.slice Aa na ca,.bool sd,.slice Ad nd cd] (Ext.refl w) rfl rfl rfl fun g1 v2 hb4 ge5 e3 hw1=>(mv 2 rfl (ne_ (cw_seq (cw_keep [(0,.agg #[.bool sa,.slice Aa na ca,.bool sd,.slice Ad nd cd]),(1,.pointer (some ⟨g1,0,none⟩)),(2,.slice none 0 0),(3,.int .i64 0)] ⟨rfl,rfl,rfl,rfl,trivial⟩ (cw_twin mix 24 [F0,S0] [.bool sa,.slice Aa na ca] [.bool sd,.slice Ad nd cd] 4 6 1 5 7 3 [.pointer (some ⟨g1,0,none⟩),.agg #[.bool sa,.slice Aa na ca],.pointer (some ⟨g1,2,none⟩),.agg #[.bool sd,.slice Ad nd cd],undef,undef,undef,undef] [0,1,2,3] [[],[0],[],[2],[],[],[],[]] [[],[0],[],[2],[],[],[0,1,4,5],[0,1,2,3,4,5,6]] [(0,0),(0,1),(0,2),(1,0),(1,1),(1,2),(2,0),(2,1),(2,2),(3,0),(3,1),(3,2),(4,0),(4,1),(4,2),(5,0),(5,1),(5,2),(6,0),(6,1),(6,2),(7,0),(7,1),(7,2)] rfl rfl (makes rfl (z:= .agg #[F0,S0]) (fun _=>by kernel_rfl) rfl) (makes rfl (z:= .agg #[F0,S0]) (fun _=>by kernel_rfl) rfl) (fills rfl rfl rfl rfl (fun _ _=>rfl) (fun _ _=>rfl) aggInt rfl rfl rfl) (fills rfl rfl rfl rfl (fun _ _=>rfl) (fun _ _=>rfl) aggInt rfl rfl rfl) ?_ ?_))))))))
 · 
  refine vobs_cons rfl rfl rfl (fun v6 e7=>(rd_pure rfl (by kernel_rfl))) (vobs_cons rfl rfl rfl (fun v8 e9=>(rd_load rfl (load_agg aggInt (hb4.ext e9) [.bool sa,.slice Aa na ca] rfl (bq rfl) rfl))) (vobs_cons rfl rfl rfl (fun v10 e11=>(rd_pure rfl (by kernel_rfl))) (vobs_cons rfl rfl rfl (fun v12 e13=>(rd_load rfl (load_agg aggInt (hb4.ext e13) [.bool sd,.slice Ad nd cd] rfl (bq rfl) rfl))) ?_)))
  exact trivial
 · 
  intro g14 g15 v16 e17 q18 ge19 ge20 hb21 hb22
  have q23:g1<g14:=Nat.lt_of_lt_of_le hb4.lt ge19
  have ge19:w.heap.size≤g14:=Nat.le_trans hw1.size ge19
  have q24:g1<g15:=Nat.lt_of_lt_of_le hb4.lt ge20
  have ge20:w.heap.size≤g15:=Nat.le_trans hw1.size ge20
  have hw2:=hw1.trans e17
  refine eo_keep [(0,.agg #[.bool sa,.slice Aa na ca,.bool sd,.slice Ad nd cd]),(1,.pointer (some ⟨g1,0,none⟩)),(2,.slice none 0 0),(3,.int .i64 0),(10,.pointer (some ⟨g1,0,none⟩)),(11,.agg #[.bool sa,.slice Aa na ca]),(12,.pointer (some ⟨g1,2,none⟩)),(13,.agg #[.bool sd,.slice Ad nd cd]),(4,.pointer (some ⟨g14,0,none⟩)),(5,.pointer (some ⟨g15,0,none⟩))] ⟨rfl,rfl,rfl,rfl,rfl,rfl,rfl,rfl,rfl,rfl,trivial⟩ (eo_then (cw_seq (sr (lo aggInt hb22 [.bool sd,.slice Ad nd cd] rfl rfl rfl (cl (vs:= [.agg #[.bool sd,.slice Ad nd cd]]) hw2 (g_zint_Sign (hy.ext hw2) (lx_ ld rfl)) rfl (by kernel_rfl) fun xr27 v25 r27 e26 hw3=>?_)))))
  obtain rfl:=r27
  refine wl_cmp rfl rfl rfl true (scmp_eq_t h0) (by decide) (ne_ (cw_true rfl (sr (mv 2 rfl (ne_ (cw_ret (eo_thenR (eo_ret [S0,.int .i64 4] rfl ⟨rfl,rfl,trivial⟩ ?_))))))))
  exact⟨_,rfl,⟨_,_,rfl,rfl,rfl⟩,hw3⟩
set_option maxHeartbeats 8000000 in
set_option maxRecDepth 20000 in
theorem g_ChainI {w:World}{sa:Bool}{Aa:Option Addr}{na ca:Nat}{x:Int}{sd:Bool}{Ad:Option Addr}{nd cd:Nat}{y:Int}(hx:Zi w sa Aa na ca x) (la:na≤1048576) (hy:Zi w sd Ad nd cd y) (ld:nd≤1048576) (h0:y≠0):
    Calls Tryd.prog 9 #[.agg #[.bool sa,.slice Aa na ca,.bool sd,.slice Ad nd cd]] w (Gv w (T2 (LRF 1048579 w.heap.size w.heap.size (chn (chX x y) (chY y))) (Is (.int .i64 0)))):=by
 have Lx:ln x≤1048576:=Nat.le_trans hx.ln la
 have Ly:ln y≤1048576:=Nat.le_trans hy.ln ld
 refine sx_enter Tryd.func9 rfl (n:=41) rfl (bq rfl) (args:= [.agg #[.bool sa,.slice Aa na ca,.bool sd,.slice Ad nd cd]]) (cw_keep [(0,.agg #[.bool sa,.slice Aa na ca,.bool sd,.slice Ad nd cd])] ⟨rfl,trivial⟩ (sr (bx [.bool sa,.slice Aa na ca,.bool sd,.slice Ad nd cd] (Ext.refl w) rfl rfl rfl fun g1 v2 hb4 ge5 e3 hw1=>(mv 2 rfl (ne_ (cw_seq (cw_keep [(0,.agg #[.bool sa,.slice Aa na ca,.bool sd,.slice Ad nd cd]),(1,.pointer (some ⟨g1,0,none⟩)),(2,.slice none 0 0),(3,.int .i64 0)] ⟨rfl,rfl,rfl,rfl,trivial⟩ (cw_twin mix 24 [F0,S0] [.bool sa,.slice Aa na ca] [.bool sd,.slice Ad nd cd] 4 6 1 5 7 3 [.pointer (some ⟨g1,0,none⟩),.agg #[.bool sa,.slice Aa na ca],.pointer (some ⟨g1,2,none⟩),.agg #[.bool sd,.slice Ad nd cd],undef,undef,undef,undef] [0,1,2,3] [[],[0],[],[2],[],[],[],[]] [[],[0],[],[2],[],[],[0,1,4,5],[0,1,2,3,4,5,6]] [(0,0),(0,1),(0,2),(1,0),(1,1),(1,2),(2,0),(2,1),(2,2),(3,0),(3,1),(3,2),(4,0),(4,1),(4,2),(5,0),(5,1),(5,2),(6,0),(6,1),(6,2),(7,0),(7,1),(7,2)] rfl rfl (makes rfl (z:= .agg #[F0,S0]) (fun _=>by kernel_rfl) rfl) (makes rfl (z:= .agg #[F0,S0]) (fun _=>by kernel_rfl) rfl) (fills rfl rfl rfl rfl (fun _ _=>rfl) (fun _ _=>rfl) aggInt rfl rfl rfl) (fills rfl rfl rfl rfl (fun _ _=>rfl) (fun _ _=>rfl) aggInt rfl rfl rfl) ?_ ?_))))))))
 · 
  refine vobs_cons rfl rfl rfl (fun v6 e7=>(rd_pure rfl (by kernel_rfl))) (vobs_cons rfl rfl rfl (fun v8 e9=>(rd_load rfl (load_agg aggInt (hb4.ext e9) [.bool sa,.slice Aa na ca] rfl (bq rfl) rfl))) (vobs_cons rfl rfl rfl (fun v10 e11=>(rd_pure rfl (by kernel_rfl))) (vobs_cons rfl rfl rfl (fun v12 e13=>(rd_load rfl (load_agg aggInt (hb4.ext e13) [.bool sd,.slice Ad nd cd] rfl (bq rfl) rfl))) ?_)))
  exact trivial
 · 
  intro g14 g15 v16 e17 q18 ge19 ge20 hb21 hb22
  have q23:g1<g14:=Nat.lt_of_lt_of_le hb4.lt ge19
  have ge19:w.heap.size≤g14:=Nat.le_trans hw1.size ge19
  have q24:g1<g15:=Nat.lt_of_lt_of_le hb4.lt ge20
  have ge20:w.heap.size≤g15:=Nat.le_trans hw1.size ge20
  have hw2:=hw1.trans e17
  refine eo_keep [(0,.agg #[.bool sa,.slice Aa na ca,.bool sd,.slice Ad nd cd]),(1,.pointer (some ⟨g1,0,none⟩)),(2,.slice none 0 0),(3,.int .i64 0),(10,.pointer (some ⟨g1,0,none⟩)),(11,.agg #[.bool sa,.slice Aa na ca]),(12,.pointer (some ⟨g1,2,none⟩)),(13,.agg #[.bool sd,.slice Ad nd cd]),(4,.pointer (some ⟨g14,0,none⟩)),(5,.pointer (some ⟨g15,0,none⟩))] ⟨rfl,rfl,rfl,rfl,rfl,rfl,rfl,rfl,rfl,rfl,trivial⟩ (eo_then (cw_seq (sr (lo aggInt hb22 [.bool sd,.slice Ad nd cd] rfl rfl rfl (cl (vs:= [.agg #[.bool sd,.slice Ad nd cd]]) hw2 (g_zint_Sign (hy.ext hw2) (lx_ ld rfl)) rfl (by kernel_rfl) fun xr27 v25 r27 e26 hw3=>?_)))))
  obtain rfl:=r27
  refine wl_cmp rfl rfl rfl false (scmp_eq_f h0) (by decide) (ne_ (cw_false rfl (cw_skip (eo_then (cw_mid (T:=World×ZC×ZC) (fun⟨wr,k4,k5⟩=> [(4,.pointer (some ⟨g14,0,none⟩)),(5,.pointer (some ⟨g15,0,none⟩))]) (fun⟨wr,k4,k5⟩=>wr) (fun⟨wr,k4,k5⟩=>(Ext w wr)∧(Bk wr g14 24 [.bool k4.s,.slice k4.A k4.n k4.c])∧(Bk wr g15 24 [.bool k5.s,.slice k5.A k5.n k5.c])∧(El (some w) w.heap.size wr k4 (chX x y))∧(El (some w) w.heap.size wr k5 (chY y))∧(k4.n≤1048576)∧(k5.n≤1048576)) ?_ ?_)))))
  · 
   refine cw_seq ?_
   by_cases hneg:y<0
   · 
    have hcx: -x=chX x y:=by unfold chX;rw [if_pos hneg]
    have hcy: -y=chY y:=by unfold chY;rw [if_pos hneg]
    refine cw_region (lo aggInt (hb22.ext e26) [.bool sd,.slice Ad nd cd] rfl rfl rfl (cl (vs:= [.agg #[.bool sd,.slice Ad nd cd]]) hw3 (g_zint_Sign (hy.ext hw3) (lx_ ld rfl)) rfl (by kernel_rfl) fun xr30 v28 r30 e29 hw4=>?_))
    obtain rfl:=r30
    refine wl_cmp rfl rfl rfl true (scmp_lt_t hneg) (by decide) (ne_ (cw_true rfl ?_))
    have L31:ln (-x)≤1048576:=(by rw [ln_neg];exact Lx)
    have L33:ln (-y)≤1048576:=(by rw [ln_neg];exact Ly)
    refine cw_draw mix 4 [] [Is (.agg #[.bool sa,.slice Aa na ca]),ZR w.heap.size (-x),Is (.agg #[.bool sd,.slice Ad nd cd]),ZR w.heap.size (-y)] [[],[0],[],[2]] [[],[0],[],[0,1,2],[0,1,2,3],[0,1,2,3,4]] rfl
     (obs_cons rfl rfl (hob rfl rfl ?_) (obs_cons rfl rfl (hob rfl rfl ?_) (obs_cons rfl rfl (hob rfl rfl ?_) (obs_cons rfl rfl (hob rfl rfl ?_) obs_nil)))) ?_
    · 
     exact fun _ e36=>deps_nil (lo aggInt (hb21.ext (e26.trans (e29.trans e36))) [.bool sa,.slice Aa na ca] rfl rfl rfl (pi_done rfl (Ext.refl _) rfl))
    · 
     intro v37 e38
     have hw5:=hw4.trans e38
     refine dk rfl rfl (deps_nil ?_)
     have L44:ln (-x)≤1048576:=(by rw [ln_neg];exact Lx)
     refine cl (vs:= [.agg #[.bool sa,.slice Aa na ca]]) hw5 (g_zint_Neg hw5.size (hx.ext hw5) (lx_ la rfl)) rfl (by kernel_rfl) fun xr47 v45 r47 e46 hw6=>?_
     obtain⟨s48,A48,n48,c48,rfl,z48⟩:=r47
     exact pi_done rfl e46 ⟨_,_,_,_,rfl,z48⟩
    · 
     exact fun _ e50=>deps_nil (lo aggInt (hb22.ext (e26.trans (e29.trans e50))) [.bool sd,.slice Ad nd cd] rfl rfl rfl (pi_done rfl (Ext.refl _) rfl))
    · 
     intro v51 e52
     have hw5:=hw4.trans e52
     refine dk rfl rfl (deps_nil ?_)
     have L58:ln (-y)≤1048576:=(by rw [ln_neg];exact Ly)
     refine cl (vs:= [.agg #[.bool sd,.slice Ad nd cd]]) hw5 (g_zint_Neg hw5.size (hy.ext hw5) (lx_ ld rfl)) rfl (by kernel_rfl) fun xr61 v59 r61 e60 hw6=>?_
     obtain⟨s62,A62,n62,c62,rfl,z62⟩:=r61
     exact pi_done rfl e60 ⟨_,_,_,_,rfl,z62⟩
    · 
     intro v63 e64
     have hw5:=hw4.trans e64
     refine dk rfl rfl (deps_cons rfl rfl fun x70 y71 h72 e73 f74=>?_)
     obtain⟨s75,A75,n75,c75,rfl,z75⟩:=h72
     have z75:=z75.ext f74
     refine dk rfl rfl (deps_cons rfl rfl fun x81 y82 h83 e84 f85=>?_)
     obtain⟨s86,A86,n86,c86,rfl,z86⟩:=h83
     have z86:=z86.ext f85
     refine deps_nil ?_
     have hb88:=(hb21.ext (e26.trans (e29.trans e64)))
     refine so aggInt hb88 [.bool s75,.slice A75 n75 c75] hw5 ge19 rfl rfl rfl rfl fun v87 hb89 u90 hw6=>?_
     have hb93:=((hb22.ext (e26.trans (e29.trans e64))).updN u90 (by omega))
     refine so aggInt hb93 [.bool s86,.slice A86 n86 c86] hw6 ge20 rfl rfl rfl rfl fun v92 hb94 u95 hw7=>(wl_nil (eo_np (eo_mid (⟨v92,⟨s75,A75,n75,c75⟩,⟨s86,A86,n86,c86⟩⟩:World×ZC×ZC) ⟨hw7,(hb89.updN u95 (by omega)),hb94,(hcx▸(Or.inl ((z75.updT hb88 u90).updT hb93 u95))),(hcy▸(Or.inl ((z86.updT hb88 u90).updT hb93 u95))),(z75.le (lx_ L31 rfl)),(z86.le (lx_ L33 rfl))⟩ rfl ⟨rfl,rfl,trivial⟩)))
   · 
    have hcx:x=chX x y:=by unfold chX;rw [if_neg hneg]
    have hcy:y=chY y:=by unfold chY;rw [if_neg hneg]
    refine cw_region (lo aggInt (hb22.ext e26) [.bool sd,.slice Ad nd cd] rfl rfl rfl (cl (vs:= [.agg #[.bool sd,.slice Ad nd cd]]) hw3 (g_zint_Sign (hy.ext hw3) (lx_ ld rfl)) rfl (by kernel_rfl) fun xr99 v97 r99 e98 hw4=>?_))
    obtain rfl:=r99
    refine wl_cmp rfl rfl rfl false (scmp_lt_f (by omega)) (by decide) (ne_ (cw_false rfl (cw_skip (eo_mid (⟨v97,⟨sa,Aa,na,ca⟩,⟨sd,Ad,nd,cd⟩⟩:World×ZC×ZC) ⟨hw4,(hb21.ext (e26.trans e98)),(hb22.ext (e26.trans e98)),(hcx▸(Or.inr ⟨_,rfl,Or.inl hx⟩)),(hcy▸(Or.inr ⟨_,rfl,Or.inl hy⟩)),(lx_ la rfl),(lx_ ld rfl)⟩ rfl ⟨rfl,rfl,trivial⟩))))
  · 
   rintro⟨wr,k4,k5⟩ ⟨hw1,b_4,b_5,zk4,zk5,hk4,hk5⟩
   refine cw_re [(4,.pointer (some ⟨g14,0,none⟩)),(5,.pointer (some ⟨g15,0,none⟩))] wr rfl ⟨rfl,rfl,trivial⟩ (sr (mv 1 rfl (ne_ (cw_seq (cw_block ?_)))))
   have hcl:(chn (chX x y) (chY y)).length≤200000000:=Nat.le_trans (chn_len _ _ (Int.le_of_lt (chY_pos h0))) (by have:=blen_bdF (m:=(chY y).natAbs) (n:=1048576) (by have h:=Ly;rw [←ln_chY] at h;exact h);omega)
   obtain⟨lb100,hlb100,hlelb100,hgl100,hq100_0,hq100_1⟩:∃lb,lb≤wr.heap.size∧wr.heap.size≤lb∧w.heap.size≤lb∧g14<lb∧g15<lb:=⟨wr.heap.size,Nat.le_refl _,Nat.le_refl _,hw1.size,b_4.lt,b_5.lt⟩
   refine cw_loop (T:=World×Int×Int×List Int×Option Addr×Nat×Nat×ZC×ZC)
    (fun⟨wr2,nn,dd,pre,LA,ln2,lc,n4,n5⟩=> [(4,.pointer (some ⟨g14,0,none⟩)),(5,.pointer (some ⟨g15,0,none⟩)),(6,.slice LA ln2 lc)])
    (fun⟨wr2,nn,dd,pre,LA,ln2,lc,n4,n5⟩=>wr2)
    (fun⟨wr2,nn,dd,pre,LA,ln2,lc,n4,n5⟩=>(Ext w wr2)∧(pre++chn nn dd=chn (chX x y) (chY y))∧(0≤dd)∧(ln nn≤1048577)∧(ln dd≤1048577)∧(Lz none 1048579 w.heap.size wr2 lb100 LA ln2 lc pre)∧(lb100≤wr2.heap.size)∧(Bk wr2 g14 24 [.bool n4.s,.slice n4.A n4.n n4.c])∧(Bk wr2 g15 24 [.bool n5.s,.slice n5.A n5.n n5.c])∧(El (some w) w.heap.size wr2 n4 nn)∧(El (some w) w.heap.size wr2 n5 dd)∧(n4.n≤1048577)∧(n5.n≤1048577))
    (fun⟨wr2,nn,dd,pre,LA,ln2,lc,n4,n5⟩=>dd.toNat)
    (⟨wr,chX x y,chY y,[],none,0,0,⟨k4.s,k4.A,k4.n,k4.c⟩,⟨k5.s,k5.A,k5.n,k5.c⟩⟩:World×Int×Int×List Int×Option Addr×Nat×Nat×ZC×ZC) ⟨hw1,(by rw [List.nil_append]),(Int.le_of_lt (chY_pos h0)),(Nat.le_trans (by rw [ln_chX];exact Lx) (by decide)),(Nat.le_trans (by rw [ln_chY];exact Ly) (by decide)),(Lz.nil none 1048579 w.heap.size wr lb100),hlb100,b_4,b_5,zk4,zk5,(lx_ hk4 rfl),(lx_ hk5 rfl)⟩ rfl ⟨rfl,rfl,rfl,trivial⟩ ?_
   rintro⟨wr2,nn,dd,pre,LA,ln2,lc,n4,n5⟩ ⟨hw1,hI,hd0,hnl,hdl,hlz,hlbw,b_4,b_5,zn4,zn5,hn4,hn5⟩
   refine cw_re [(4,.pointer (some ⟨g14,0,none⟩)),(5,.pointer (some ⟨g15,0,none⟩)),(6,.slice LA ln2 lc)] wr2 rfl ⟨rfl,rfl,rfl,trivial⟩ ?_
   have blk101:=hlz.block
   have hpl:=hlz.len
   have hpt:ln2≤200000000:=by have h:=congrArg List.length hI;rw [List.length_append] at h;omega
   have ne102:∀p,LA=some p→p.block≠g14:=fun p hp=>by have:=hlz.block p hp;omega
   have ne103:∀p,LA=some p→p.block≠g15:=fun p hp=>by have:=hlz.block p hp;omega
   refine cw_seq (cw_seq ?_)
   by_cases hdz:dd≠0
   · 
    have hdp:0<dd:=by omega
    refine cw_region (lo aggInt b_5 [.bool n5.s,.slice n5.A n5.n n5.c] rfl rfl rfl (cl (vs:= [.agg #[.bool n5.s,.slice n5.A n5.n n5.c]]) hw1 (g_zint_Sign (zn5.zi hw1) (lx_ hn5 rfl)) rfl (by kernel_rfl) fun xr106 v104 r106 e105 hw2=>?_))
    obtain rfl:=r106
    refine wl_cmp rfl rfl rfl true (scmp_ne_t hdz) (by decide) (ne_ (cw_true rfl (cw_skip (eo_then (cw_block (sr (lo aggInt (b_4.ext e105) [.bool n4.s,.slice n4.A n4.n n4.c] rfl rfl rfl (lo aggInt (b_5.ext e105) [.bool n5.s,.slice n5.A n5.n n5.c] rfl rfl rfl (cl (vs:= [.agg #[.bool n4.s,.slice n4.A n4.n n4.c],.agg #[.bool n5.s,.slice n5.A n5.n n5.c]]) hw2 (g_FloorE hw2.size ((zn4.ext e105).zi hw2) (lx_ hn4 rfl) ((zn5.ext e105).zi hw2) (lx_ hn5 rfl) hdp) rfl (by kernel_rfl) fun xr109 v107 r109 e108 hw3=>?_)))))))))
    obtain⟨_,_,_,rfl,⟨s111,A111,n111,c111,rfl,z111⟩,⟨s112,A112,n112,c112,rfl,z112⟩,rfl⟩:=r109
    refine mv 1 rfl (pu (v:= .agg #[.bool s111,.slice A111 n111 c111]) rfl (by kernel_rfl) (pu (v:= .agg #[.bool s112,.slice A112 n112 c112]) rfl (by kernel_rfl) (pu (v:= .int .i64 0) rfl (by kernel_rfl) (wl_alloc rfl (z:= .agg #[F0,S0]) (vs:= [F0,S0]) (fun _=>by kernel_rfl) rfl (by decide) fun g113 v114 nb=>?_))))
    have hb116:=nb.bk
    have ge117:w.heap.size≤g113:=by rw [←nb.at_];exact hw3.size
    have q118:g14<g113:=by rw [←nb.at_];exact (b_4.ext (e105.trans e108)).lt
    have q119:g15<g113:=by rw [←nb.at_];exact (b_5.ext (e105.trans e108)).lt
    have ne120:∀p,LA=some p→p.block≠g113:=fun p hp=>by have:=((hlz.ext (e105.trans e108))).block p hp;have:=nb.at_;omega
    have e115:=nb.ext
    clear nb
    have hw4:=hw3.trans e115
    refine wl_alloc rfl (z:= .agg #[F0,S0]) (vs:= [F0,S0]) (fun _=>by kernel_rfl) rfl (by decide) fun g121 v122 nb=>?_
    have hb124:=nb.bk
    have ge125:w.heap.size≤g121:=by rw [←nb.at_];exact hw4.size
    have q126:g113<g121:=by rw [←nb.at_];exact hb116.lt
    have ne127:∀p,LA=some p→p.block≠g121:=fun p hp=>by have:=((hlz.ext (e105.trans (e108.trans e115)))).block p hp;have:=nb.at_;omega
    have e123:=nb.ext
    clear nb
    have hw5:=hw4.trans e123
    have hb129:=(hb116.ext e123)
    refine so aggInt hb129 [.bool s111,.slice A111 n111 c111] hw5 ge117 rfl rfl rfl rfl fun v128 hb130 u131 hw6=>?_
    have hb134:=(hb124.updN u131 (by omega))
    refine so aggInt hb134 [.bool s112,.slice A112 n112 c112] hw6 ge125 rfl rfl rfl rfl fun v133 hb135 u136 hw7=>(mv 1 rfl (ne_ (sr (mv 1 rfl (lo aggInt (hb130.updN u136 (by omega)) [.bool s111,.slice A111 n111 c111] rfl rfl rfl (wl_bslice rfl rfl (by decide) (k:=1) (e:=24) [.bool s111,.slice A111 n111 c111] (fun _=>by kernel_rfl) fun g138 v139 nb=>?_))))))
    have hb141:=nb.bk
    have ge142:w.heap.size≤g138:=by rw [←nb.at_];exact hw7.size
    have q143:g121<g138:=by rw [←nb.at_];exact hb135.lt
    have ne144:∀p,LA=some p→p.block≠g138:=fun p hp=>by have:=((((hlz.ext (e105.trans (e108.trans (e115.trans e123)))).updT hb129 u131 ne120).updT hb134 u136 ne127)).block p hp;have:=nb.at_;omega
    have e140:=nb.ext
    clear nb
    have hw8:=hw7.trans e140
    have lt150:=((((hlz.ext (e105.trans (e108.trans (e115.trans e123)))).updT hb129 u131 ne120).updT hb134 u136 ne127).ext e140)
    obtain⟨us148,own149⟩:=lt150.own
    refine wl_appI (e:=⟨s111,A111,n111,c111⟩) (z:=nn/dd) rfl rfl rfl lt150 (Nat.le_trans (Nat.le_trans (Nat.le_trans (Nat.le_trans (Nat.le_trans (Nat.le_trans (Nat.le_trans hlbw e105.size) e108.size) e115.size) e123.size) u131.by_.size) u136.by_.size) e140.size) hb141 (Or.inl ((((z111.ext (e115.trans e123)).updT hb129 u131).updT hb134 u136).ext e140)) (z111.le (Nat.le_trans (ln_edivF hdp hnl (by decide)) (by decide))) (by omega) (by decide) fun A151 c152 v145 lz146 uo147 kp153=>?_
    have hw9:=uo147.ext hw8 (fun p hp=>by have:=blk101 p hp;omega)
    have hlblz146:lb100≤v145.heap.size:=Nat.le_trans (Nat.le_trans (Nat.le_trans (Nat.le_trans (Nat.le_trans (Nat.le_trans (Nat.le_trans (Nat.le_trans hlbw e105.size) e108.size) e115.size) e123.size) u131.by_.size) u136.by_.size) e140.size) uo147.size
    have ne154:=kept_ne kp153 ((((b_4.ext (e105.trans (e108.trans (e115.trans e123)))).updN u131 (by omega)).updN u136 (by omega)).ext e140).lt ne102
    have ne155:=kept_ne kp153 ((((b_5.ext (e105.trans (e108.trans (e115.trans e123)))).updN u131 (by omega)).updN u136 (by omega)).ext e140).lt ne103
    have ne156:=kept_ne kp153 ((hb130.updN u136 (by omega)).ext e140).lt ne120
    have ne157:=kept_ne kp153 (hb135.ext e140).lt ne127
    have ne158:=kept_ne kp153 hb141.lt ne144
    have blk159:=lz146.block
    refine mv 1 rfl (ne_ (cw_keep [(4,.pointer (some ⟨g14,0,none⟩)),(5,.pointer (some ⟨g15,0,none⟩)),(6,.slice A151 (ln2+1) c152),(24,.agg #[.bool n5.s,.slice n5.A n5.n n5.c]),(25,.int .i64 (scmp dd 0)),(26,.bool true),(28,.agg #[.bool n4.s,.slice n4.A n4.n n4.c]),(29,.agg #[.bool n5.s,.slice n5.A n5.n n5.c]),(30,.tuple #[.agg #[.bool s111,.slice A111 n111 c111],.agg #[.bool s112,.slice A112 n112 c112],I0]),(27,.tuple #[.agg #[.bool s111,.slice A111 n111 c111],.agg #[.bool s112,.slice A112 n112 c112],I0]),(31,.agg #[.bool s111,.slice A111 n111 c111]),(32,.agg #[.bool s112,.slice A112 n112 c112]),(33,.int .i64 0),(7,.pointer (some ⟨g113,0,none⟩)),(8,.pointer (some ⟨g121,0,none⟩)),(9,.int .i64 0),(34,.slice LA ln2 lc),(35,.agg #[.bool s111,.slice A111 n111 c111]),(36,.slice (some ⟨g138,0,none⟩) 1 1),(37,.slice A151 (ln2+1) c152)] ⟨rfl,rfl,rfl,rfl,rfl,rfl,rfl,rfl,rfl,rfl,rfl,rfl,rfl,rfl,rfl,rfl,rfl,rfl,rfl,rfl,trivial⟩ ?_))
    obtain⟨v160,hv,e161⟩:∃v,v=v145.drew∧Ext v145 v:=⟨_,rfl,(Ext.refl _).drew⟩
    have hw10:=hw9.trans e161
    have hb163:=((((((b_4.ext (e105.trans (e108.trans (e115.trans e123)))).updN u131 (by omega)).updN u136 (by omega)).ext e140).updO uo147 ne102).ext e161)
    obtain⟨v162,hr167,hb164,u165,hs166⟩:=run_stored (P:=Tryd.prog) (us:= [.bool n5.s,.slice n5.A n5.n n5.c]) (off:=0) aggInt rfl hb163 (bq rfl) rfl [.bool n5.s,.slice n5.A n5.n n5.c] rfl
    have hw11:=u165.ext hw10 ge19
    have hb169:=(((((((b_5.ext (e105.trans (e108.trans (e115.trans e123)))).updN u131 (by omega)).updN u136 (by omega)).ext e140).updO uo147 ne103).ext e161).updN u165 (by omega))
    obtain⟨v168,hr173,hb170,u171,hs172⟩:=run_stored (P:=Tryd.prog) (us:= [.bool s112,.slice A112 n112 c112]) (off:=0) aggInt rfl hb169 (bq rfl) rfl [.bool s112,.slice A112 n112 c112] rfl
    have hw12:=u171.ext hw11 ge20
    refine cw_det mix (w:=v160) [.agg #[.bool n5.s,.slice n5.A n5.n n5.c],.agg #[.bool s112,.slice A112 n112 c112],undef,undef] [v160,v162,v168] [2,3] [[],[],[0],[1]] [[],[],[0],[0,1,2]] [(0,0),(1,0),(1,1),(2,0),(3,1)] rfl hv ?_ ?_
    · 
     refine dobs_val _ rfl rfl rfl rfl rfl (rd_load rfl (load_agg aggInt ((((((b_5.ext (e105.trans (e108.trans (e115.trans e123)))).updN u131 (by omega)).updN u136 (by omega)).ext e140).updO uo147 ne103).ext e161) [.bool n5.s,.slice n5.A n5.n n5.c] rfl (bq rfl) rfl)) (dobs_val _ rfl rfl rfl rfl rfl (rd_load rfl (load_agg aggInt (((hb135.ext e140).updO uo147 ne127).ext e161) [.bool s112,.slice A112 n112 c112] rfl (bq rfl) rfl)) (dobs_val _ rfl rfl rfl rfl rfl (rd_load rfl (load_agg aggInt ((((hb135.ext e140).updO uo147 ne127).ext e161).updN u165 (by omega)) [.bool s112,.slice A112 n112 c112] rfl (bq rfl) rfl)) (dobs_sto _ rfl rfl rfl rfl rfl (rd_store rfl rfl hr167) (dobs_sto _ rfl rfl rfl rfl rfl (rd_store rfl rfl hr173) ?_))))
     exact dobs_nil
    clear hv
    refine eo_keep [(4,.pointer (some ⟨g14,0,none⟩)),(5,.pointer (some ⟨g15,0,none⟩)),(6,.slice A151 (ln2+1) c152),(24,.agg #[.bool n5.s,.slice n5.A n5.n n5.c]),(25,.int .i64 (scmp dd 0)),(26,.bool true),(28,.agg #[.bool n4.s,.slice n4.A n4.n n4.c]),(29,.agg #[.bool n5.s,.slice n5.A n5.n n5.c]),(30,.tuple #[.agg #[.bool s111,.slice A111 n111 c111],.agg #[.bool s112,.slice A112 n112 c112],I0]),(27,.tuple #[.agg #[.bool s111,.slice A111 n111 c111],.agg #[.bool s112,.slice A112 n112 c112],I0]),(31,.agg #[.bool s111,.slice A111 n111 c111]),(32,.agg #[.bool s112,.slice A112 n112 c112]),(33,.int .i64 0),(7,.pointer (some ⟨g113,0,none⟩)),(8,.pointer (some ⟨g121,0,none⟩)),(9,.int .i64 0),(34,.slice LA ln2 lc),(35,.agg #[.bool s111,.slice A111 n111 c111]),(36,.slice (some ⟨g138,0,none⟩) 1 1),(37,.slice A151 (ln2+1) c152),(38,.agg #[.bool n5.s,.slice n5.A n5.n n5.c]),(39,.agg #[.bool s112,.slice A112 n112 c112])] ⟨rfl,rfl,rfl,rfl,rfl,rfl,rfl,rfl,rfl,rfl,rfl,rfl,rfl,rfl,rfl,rfl,rfl,rfl,rfl,rfl,rfl,rfl,trivial⟩ (eo_block_normal (eo_round (⟨v168,dd,nn%dd,pre++ [nn/dd],A151,ln2+1,c152,⟨n5.s,n5.A,n5.n,n5.c⟩,⟨s112,A112,n112,c112⟩⟩:World×Int×Int×List Int×Option Addr×Nat×Nat×ZC×ZC) ⟨hw12,(by rw [List.append_assoc,←hI,chn_step hdp];rfl),(Int.emod_nonneg _ (by omega)),hdl,(Nat.le_trans (Nat.le_trans (ln_emod (by omega)) hdl) (by decide)),(((lz146.ext e161).updT hb163 u165 ne154).updT hb169 u171 ne155),(Nat.le_trans (Nat.le_trans (Nat.le_trans hlblz146 e161.size) u165.by_.size) u171.by_.size),(hb164.updN u171 (by omega)),hb170,((((((((zn5.ext (e105.trans (e108.trans (e115.trans e123)))).updT hb129 u131).updT hb134 u136).ext e140).updOT own149 uo147).ext e161).updT hb163 u165).updT hb169 u171),(Or.inl ((((((((z112.ext (e115.trans e123)).updT hb129 u131).updT hb134 u136).ext e140).updOT own149 uo147).ext e161).updT hb163 u165).updT hb169 u171)),(lx_ hn5 rfl),(z112.le (Nat.le_trans (Nat.le_trans (ln_emod (by omega)) hdl) (by decide)))⟩ (show (nn%dd).toNat<dd.toNat by have h1:=Int.emod_lt_of_pos nn hdp;omega) rfl ⟨rfl,rfl,rfl,trivial⟩))
   · 
    have hdz2:dd=0:=by omega
    rw [hdz2,chn_zero,List.append_nil] at hI
    refine cw_region (lo aggInt b_5 [.bool n5.s,.slice n5.A n5.n n5.c] rfl rfl rfl (cl (vs:= [.agg #[.bool n5.s,.slice n5.A n5.n n5.c]]) hw1 (g_zint_Sign (zn5.zi hw1) (lx_ hn5 rfl)) rfl (by kernel_rfl) fun xr176 v174 r176 e175 hw2=>?_))
    obtain rfl:=r176
    refine wl_cmp rfl rfl rfl false (scmp_ne_f (by omega)) (by decide) (ne_ (cw_false rfl (cw_exit (eo_thenX (eo_loopX (eo_block_here (eo_then (sr (mv 3 rfl (ne_ (cw_ret (eo_ret [.slice LA ln2 lc,I0] rfl ⟨rfl,rfl,trivial⟩ ?_))))))))))))
    have hlz2:=((hlz.ext e175)).mono (Nat.le_refl _) (Nat.le_refl _) hgl100
    rw [hI] at hlz2
    have hn:ln2=(chn (chX x y) (chY y)).length:=by rw [←hI];exact hpl.symm
    subst hn
    exact⟨_,rfl,⟨_,_,rfl,⟨_,_,rfl,hlz2⟩,rfl⟩,hw2⟩
set_option maxHeartbeats 4000000 in
theorem g_UnchainF {w:World}{A:Option Addr}{n cap:Nat}{zs:List Int}{ms:List Nat}{b:Nat}(hb:b≤w.heap.size) (hl0:Zl w A n cap zs ms) (hln:n≤1073741824) (hms:∀i,ms.getD i 0≤1048579) (hnd:∀k,ln (nd (zs.drop k)).1≤2097150∧ln (nd (zs.drop k)).2≤2097150) (hn0:0<n) (hf:Fit zs) (hD:0<(nd zs).2):
    Calls Tryd.prog 15 #[.slice A n cap] w (Gv w (T2 (FR b ((nd zs).1) ((nd zs).2)) (Is (.int .i64 0)))):=by
 refine Calls.mono (R:=Gv w (T2 (FR w.heap.size ((nd zs).1) ((nd zs).2)) (Is (.int .i64 0)))) ?_ (Gv.imp (T2.imp (FR.imp hb) Is.imp))
 obtain⟨a,rfl⟩:=hl0.some hn0
 have hl:=hl0
 have hlen:=hl.len
 have hle:=hl.le
 have hmx:=hl.max
 rw [len_maxLen] at hmx
 refine sx_enter Tryd.func15 rfl (n:=47) rfl (bq rfl) (args:= [.slice (some a) n cap]) (cw_keep [(0,.slice (some a) n cap)] ⟨rfl,trivial⟩ (sr (al [F0,S0,F0,S0] (Ext.refl w) (fun _=>by kernel_rfl) rfl fun g1 v2 hb4 ge5 e3 hw1=>(mv 1 rfl (ne_ (cw_seq (sr (mv 1 rfl (pu (v:= .int .i64 ((n:Nat):Int)) rfl (by kernel_rfl) (wl_cmp rfl rfl rfl false (eq_f (by omega)) (by decide) (ne_ (cw_false rfl (cw_skip ?_)))))))))))))
 refine eo_then (cw_seq (cw_seq ?_))
 by_cases hc1:cap=1
 · 
  refine cw_region (mv 1 rfl (wl_slice rfl rfl elemInt aggInt.size (lo:=1) (hi:=n) rfl rfl (by omega) hle (v:= .slice (some a) (n-1) (cap-1)) (by rw [if_pos hc1]) (by decide) (pu (v:= .int .i64 (((n-1):Nat):Int)) rfl (by kernel_rfl) (mv 1 rfl (ne_ (cw_block ?_))))))
  refine cw_loop (T:=World×Nat)
   (fun⟨wr,i⟩=> [(0,.slice (some a) n cap),(2,.pointer (some ⟨g1,0,none⟩)),(3,.int .i64 0),(14,.slice (some a) (n-1) (cap-1)),(15,.int .i64 (((n-1):Nat):Int)),(16,.int .i64 (i:Int))])
   (fun⟨wr,i⟩=>wr)
   (fun⟨wr,i⟩=>(Ext w wr)∧(i≤n-1)∧(Bk wr g1 26 [F0,S0,F0,S0]))
   (fun⟨wr,i⟩=>n-i)
   (⟨v2,0⟩:World×Nat) ⟨hw1,Nat.zero_le _,hb4⟩ rfl ⟨rfl,rfl,rfl,rfl,rfl,rfl,trivial⟩ ?_
  rintro⟨wr,i⟩ ⟨hw1,hin,b_2⟩
  refine cw_re [(0,.slice (some a) n cap),(2,.pointer (some ⟨g1,0,none⟩)),(3,.int .i64 0),(14,.slice (some a) (n-1) (cap-1)),(15,.int .i64 (((n-1):Nat):Int)),(16,.int .i64 (i:Int))] wr rfl ⟨rfl,rfl,rfl,rfl,rfl,rfl,trivial⟩ (cw_seq ?_)
  by_cases hlt:i<n-1
  · 
   omega
  · 
   refine cw_region (wl_cmp rfl rfl rfl false (lt_nat_f (by omega)) (by decide) (ne_ (cw_seq (cw_false rfl (cw_exit (eo_thenX (eo_loopX (eo_block_here (eo_then (sr (cl (vs:= [.int .i64 1]) hw1 (g_zint_Of hw1.size (by decide) (by decide)) rfl (by kernel_rfl) fun xr8 v6 r8 e7 hw2=>?_)))))))))))
   obtain⟨s9,A9,n9,c9,rfl,z9⟩:=r8
   refine cl (vs:= [I0]) hw2 (g_zint_Of hw2.size (by decide) (by decide)) rfl (by kernel_rfl) fun xr12 v10 r12 e11 hw3=>?_
   obtain⟨s13,A13,n13,c13,rfl,z13⟩:=r12
   refine alq [F0,S0] hw3 (b_2.ext (e7.trans e11)).lt (fun _=>by kernel_rfl) rfl fun g14 v15 hb17 ge18 q19 e16 hw4=>(alq [F0,S0] hw4 hb17.lt (fun _=>by kernel_rfl) rfl fun g20 v21 hb23 ge24 q25 e22 hw5=>?_)
   have hb27:=(hb17.ext e22)
   refine so aggInt hb27 [.bool s9,.slice A9 n9 c9] hw5 ge18 rfl rfl rfl rfl fun v26 hb28 u29 hw6=>?_
   have hb32:=(hb23.updN u29 (by omega))
   refine so aggInt hb32 [.bool s13,.slice A13 n13 c13] hw6 ge24 rfl rfl rfl rfl fun v31 hb33 u34 hw7=>(ne_ (cw_seq (sr (mv 1 rfl (pu (v:= .int .i64 ((n:Nat):Int)) rfl (by kernel_rfl) (wl_ar rfl rfl rfl (((n:Nat):Int)-1) (ar_i64s rfl (by omega) (by omega)) (by decide) (mv 1 rfl (ne_ (cw_block ?_)))))))))
   refine cw_loop (T:=World×Nat×Int×ZC×ZC)
    (fun⟨wr,k,ii,k0,k1⟩=> [(0,.slice (some a) n cap),(2,.pointer (some ⟨g1,0,none⟩)),(3,.int .i64 0),(6,.pointer (some ⟨g14,0,none⟩)),(7,.pointer (some ⟨g20,0,none⟩)),(8,.int .i64 ii)])
    (fun⟨wr,k,ii,k0,k1⟩=>wr)
    (fun⟨wr,k,ii,k0,k1⟩=>(Ext w wr)∧(k≤n)∧(ii=(k:Int)-1)∧(Bk wr g1 26 [F0,S0,F0,S0])∧(Bk wr g14 24 [.bool k0.s,.slice k0.A k0.n k0.c])∧(Bk wr g20 24 [.bool k1.s,.slice k1.A k1.n k1.c])∧(Zr wr w.heap.size k0.s k0.A k0.n k0.c (nd (zs.drop k)).1)∧(Zr wr w.heap.size k1.s k1.A k1.n k1.c (nd (zs.drop k)).2))
    (fun⟨wr,k,ii,k0,k1⟩=>k)
    (⟨v31,n,_,⟨s9,A9,n9,c9⟩,⟨s13,A13,n13,c13⟩⟩:World×Nat×Int×ZC×ZC) ⟨hw7,Nat.le_refl _,rfl,(((b_2.ext (e7.trans (e11.trans (e16.trans e22)))).updN u29 (by omega)).updN u34 (by omega)),(hb28.updN u34 (by omega)),hb33,((((z9.ext (e11.trans (e16.trans e22))).updT hb27 u29).updT hb32 u34)).cast (by rw [List.drop_of_length_le (Nat.le_of_eq hlen)];rfl),((((z13.ext (e16.trans e22)).updT hb27 u29).updT hb32 u34)).cast (by rw [List.drop_of_length_le (Nat.le_of_eq hlen)];rfl)⟩ rfl ⟨rfl,rfl,rfl,rfl,rfl,rfl,trivial⟩ ?_
   rintro⟨wr,k,ii,k0,k1⟩ ⟨hw1,hk,hii,b_2,b_6,b_7,zk0,zk1⟩
   refine cw_re [(0,.slice (some a) n cap),(2,.pointer (some ⟨g1,0,none⟩)),(3,.int .i64 0),(6,.pointer (some ⟨g14,0,none⟩)),(7,.pointer (some ⟨g20,0,none⟩)),(8,.int .i64 ii)] wr rfl ⟨rfl,rfl,rfl,rfl,rfl,rfl,trivial⟩ (cw_seq (cw_seq ?_))
   by_cases hkp:0<k
   · 
    obtain⟨j,rfl⟩:∃j,k=j+1:=⟨k-1,by omega⟩
    obtain rfl:ii=(j:Int):=by omega
    refine cw_region (mv 1 rfl (wl_cmp rfl rfl rfl true (ge_t (by omega)) (by decide) (ne_ (cw_true rfl (cw_skip (eo_then (cw_seq (cw_block ?_))))))))
    obtain⟨s36,B36,c36,ld36,z36⟩:=hl.elem (i:=j) (by omega)
    have L37:ln ((zs.getD (j) 0)*((nd (zs.drop (j+1))).1)+((nd (zs.drop (j+1))).2))≤3145730:=Nat.le_trans (ln_add (ln_mul (Nat.le_trans (hl.ln (j) (by omega)) (hms _)) (hnd (j+1)).1) (hnd (j+1)).2) (by decide)
    refine cw_draw mix 8 [] [Is (.slice (some a) n cap),Is (.int .i64 (j:Int)),Is (.pointer (some (a.add ((j)*2)))),Is (.agg #[.bool s36,.slice B36 (ms.getD (j) 0) c36]),Is (.agg #[.bool k0.s,.slice k0.A k0.n k0.c]),Is (.agg #[.bool k1.s,.slice k1.A k1.n k1.c]),ZR w.heap.size ((zs.getD (j) 0)*((nd (zs.drop (j+1))).1)+((nd (zs.drop (j+1))).2)),Is (.agg #[.bool k0.s,.slice k0.A k0.n k0.c])] [[],[],[0,1],[2],[],[],[3,4,5],[]] [[],[],[0,1],[0,1,2],[],[],[0,1,2,3,4,5],[],[0,1,2,3,4,5,6,7],[0,1,2,3,4,5,6,7,8]] rfl
     (obs_cons rfl rfl (hob rfl rfl ?_) (obs_cons rfl rfl (hob rfl rfl ?_) (obs_cons rfl rfl (hob rfl rfl ?_) (obs_cons rfl rfl (hob rfl rfl ?_) (obs_cons rfl rfl (hob rfl rfl ?_) (obs_cons rfl rfl (hob rfl rfl ?_) (obs_cons rfl rfl (hob rfl rfl ?_) (obs_cons rfl rfl (hob rfl rfl ?_) obs_nil)))))))) ?_
    · 
     exact fun _ _=>deps_nil (mv 1 rfl (pi_done rfl (Ext.refl _) rfl))
    · 
     exact fun _ _=>deps_nil (mv 1 rfl (pi_done rfl (Ext.refl _) rfl))
    · 
     exact fun _ _=>dk rfl rfl (dk rfl rfl (deps_nil (wl_index rfl rfl rfl elemInt aggInt.size (by omega) (by omega) (a.add ((j)*2)) rfl (by decide) (pi_done rfl (Ext.refl _) rfl))))
    · 
     intro v55 e56
     have hw2:=hw1.trans e56
     refine dk rfl rfl (deps_nil (wl_load rfl rfl (ld36 _ hw2 _ _ aggInt) (by decide) ?_))
     exact pi_done rfl (Ext.refl _) rfl
    · 
     exact fun _ e63=>deps_nil (lo aggInt (b_6.ext e63) [.bool k0.s,.slice k0.A k0.n k0.c] rfl rfl rfl (pi_done rfl (Ext.refl _) rfl))
    · 
     exact fun _ e65=>deps_nil (lo aggInt (b_7.ext e65) [.bool k1.s,.slice k1.A k1.n k1.c] rfl rfl rfl (pi_done rfl (Ext.refl _) rfl))
    · 
     intro v66 e67
     have hw2:=hw1.trans e67
     refine dk rfl rfl (dk rfl rfl (dk rfl rfl (deps_nil ?_)))
     have L83:ln ((zs.getD (j) 0)*((nd (zs.drop (j+1))).1)+((nd (zs.drop (j+1))).2))≤3145730:=Nat.le_trans (ln_add (ln_mul (Nat.le_trans (hl.ln (j) (by omega)) (hms _)) (hnd (j+1)).1) (hnd (j+1)).2) (by decide)
     refine cl (vs:= [.agg #[.bool s36,.slice B36 (ms.getD (j) 0) c36],.agg #[.bool k0.s,.slice k0.A k0.n k0.c],.agg #[.bool k1.s,.slice k1.A k1.n k1.c]]) hw2 (g_zint_MulAdd hw2.size (z36.ext hw2) (Nat.le_trans (hms _) (by decide)) (zk0.ext e67).zi (zk0.le (Nat.le_trans (hnd (j+1)).1 (by decide))) (zk1.ext e67).zi (zk1.le (Nat.le_trans (hnd (j+1)).2 (by decide)))) rfl (by kernel_rfl) fun xr86 v84 r86 e85 hw3=>?_
     obtain⟨s87,A87,n87,c87,rfl,z87⟩:=r86
     exact pi_done rfl e85 ⟨_,_,_,_,rfl,z87⟩
    · 
     exact fun _ e89=>deps_nil (lo aggInt (b_6.ext e89) [.bool k0.s,.slice k0.A k0.n k0.c] rfl rfl rfl (pi_done rfl (Ext.refl _) rfl))
    · 
     intro v90 e91
     have hw2:=hw1.trans e91
     refine dk rfl rfl (dk rfl rfl (dk rfl rfl (dk rfl rfl (dk rfl rfl (dk rfl rfl (deps_cons rfl rfl fun x122 y123 h124 e125 f126=>?_))))))
     obtain⟨s127,A127,n127,c127,rfl,z127⟩:=h124
     have z127:=z127.ext f126
     refine dk rfl rfl (deps_nil ?_)
     have hb134:=(b_6.ext e91)
     refine so aggInt hb134 [.bool s127,.slice A127 n127 c127] hw2 ge18 rfl rfl rfl rfl fun v133 hb135 u136 hw3=>?_
     have hb139:=((b_7.ext e91).updN u136 (by omega))
     refine so aggInt hb139 [.bool k0.s,.slice k0.A k0.n k0.c] hw3 ge24 rfl rfl rfl rfl fun v138 hb140 u141 hw4=>(wl_nil (eo_np (eo_block_normal (eo_then (cw_region (mv 1 rfl (wl_ar rfl rfl rfl ((j:Int)-1) (ar_i64s rfl (by omega) (by omega)) (by decide) (mv 1 rfl (wl_nil (eo_round (⟨v138,j,(j:Int)-1,⟨s127,A127,n127,c127⟩,⟨k0.s,k0.A,k0.n,k0.c⟩⟩:World×Nat×Int×ZC×ZC) ⟨hw4,(by omega),rfl,(((b_2.ext e91).updN u136 (by omega)).updN u141 (by omega)),(hb135.updN u141 (by omega)),hb140,(((z127.updT hb134 u136).updT hb139 u141)).cast (by rw [drop_cons (zs:=zs) (i:=j) (by omega)];rfl),((((zk0.ext e91).updT hb134 u136).updT hb139 u141)).cast (by rw [drop_cons (zs:=zs) (i:=j) (by omega)];rfl)⟩ (show j<j+1 by omega) rfl ⟨rfl,rfl,rfl,rfl,rfl,rfl,trivial⟩))))))))))
   · 
    obtain rfl:k=0:=by omega
    refine cw_region (mv 1 rfl (wl_cmp rfl rfl rfl false (ge_f (by omega)) (by decide) (ne_ (cw_false rfl (cw_exit (eo_thenX (eo_loopX (eo_block_here (eo_then (sr (lo aggInt b_6 [.bool k0.s,.slice k0.A k0.n k0.c] rfl rfl rfl (lo aggInt b_7 [.bool k1.s,.slice k1.A k1.n k1.c] rfl rfl rfl (cl (vs:= [.agg #[.bool k0.s,.slice k0.A k0.n k0.c],.agg #[.bool k1.s,.slice k1.A k1.n k1.c]]) hw1 (g_frac_Of_low hw1.size zk0.zi (zk0.le (Nat.le_trans (hnd 0).1 (by decide))) zk1.zi (zk1.le (Nat.le_trans (hnd 0).2 (by decide))) hD (nd_gcd zs)) rfl (by kernel_rfl) fun xr145 v143 r145 e144 hw2=>?_)))))))))))))
    obtain⟨_,_,rfl,⟨s147,A147,n147,c147,t147,B147,m147,d147,rfl,z147,y147⟩,rfl⟩:=r145
    refine pu (v:= .agg #[.bool s147,.slice A147 n147 c147,.bool t147,.slice B147 m147 d147]) rfl (by kernel_rfl) (pu (v:= .int .i64 0) rfl (by kernel_rfl) ?_)
    have hb149:=(b_2.ext e144)
    refine so aggFrac hb149 [.bool s147,.slice A147 n147 c147,.bool t147,.slice B147 m147 d147] hw2 ge5 rfl rfl rfl rfl fun v148 hb150 u151 hw3=>(mv 1 rfl (ne_ (cw_ret (eo_ret [.agg #[.bool s147,.slice A147 n147 c147,.bool t147,.slice B147 m147 d147],I0] rfl ⟨⟨_,rfl,load_agg aggFrac hb150 [.bool s147,.slice A147 n147 c147,.bool t147,.slice B147 m147 d147] rfl (bq rfl) rfl⟩,rfl,trivial⟩ ?_))))
    exact⟨_,rfl,⟨_,_,rfl,⟨_,_,_,_,_,_,_,_,rfl,(z147.updT hb149 u151),(y147.updT hb149 u151)⟩,rfl⟩,hw3⟩
 · 
  refine cw_region (mv 1 rfl (wl_slice rfl rfl elemInt aggInt.size (lo:=1) (hi:=n) rfl rfl (by omega) hle (v:= .slice (some (a.add 2)) (n-1) (cap-1)) (by rw [if_neg hc1];rfl) (by decide) (pu (v:= .int .i64 (((n-1):Nat):Int)) rfl (by kernel_rfl) (mv 1 rfl (ne_ (cw_block ?_))))))
  refine cw_loop (T:=World×Nat)
   (fun⟨wr,i⟩=> [(0,.slice (some a) n cap),(2,.pointer (some ⟨g1,0,none⟩)),(3,.int .i64 0),(14,.slice (some (a.add 2)) (n-1) (cap-1)),(15,.int .i64 (((n-1):Nat):Int)),(16,.int .i64 (i:Int))])
   (fun⟨wr,i⟩=>wr)
   (fun⟨wr,i⟩=>(Ext w wr)∧(i≤n-1)∧(Bk wr g1 26 [F0,S0,F0,S0]))
   (fun⟨wr,i⟩=>n-i)
   (⟨v2,0⟩:World×Nat) ⟨hw1,Nat.zero_le _,hb4⟩ rfl ⟨rfl,rfl,rfl,rfl,rfl,rfl,trivial⟩ ?_
  rintro⟨wr,i⟩ ⟨hw1,hin,b_2⟩
  refine cw_re [(0,.slice (some a) n cap),(2,.pointer (some ⟨g1,0,none⟩)),(3,.int .i64 0),(14,.slice (some (a.add 2)) (n-1) (cap-1)),(15,.int .i64 (((n-1):Nat):Int)),(16,.int .i64 (i:Int))] wr rfl ⟨rfl,rfl,rfl,rfl,rfl,rfl,trivial⟩ (cw_seq ?_)
  by_cases hlt:i<n-1
  · 
   refine cw_region (wl_cmp rfl rfl rfl true (lt_nat_t hlt) (by decide) (ne_ (cw_seq (cw_true rfl (cw_skip (eo_then (cw_seq (cw_block (sr ?_)))))))))
   obtain⟨s153,B153,c153,ld153,z153⟩:=hl.elem (i:=i+1) (by omega)
   refine wl_index rfl rfl rfl elemInt aggInt.size (by omega) (by omega) (a.add ((i+1)*2)) (by rw [add_of_add];congr 1;omega) (by decide) (wl_load rfl rfl (ld153 _ hw1 _ _ aggInt) (by decide) (alq [F0,S0] hw1 b_2.lt (fun _=>by kernel_rfl) rfl fun g154 v155 hb157 ge158 q159 e156 hw2=>(so aggInt hb157 [.bool s153,.slice B153 (ms.getD (i+1) 0) c153] hw2 ge158 rfl rfl rfl rfl fun v160 hb162 u163 hw3=>(ne_ (sr (lo aggInt hb162 [.bool s153,.slice B153 (ms.getD (i+1) 0) c153] rfl rfl rfl (cl (vs:= [.agg #[.bool s153,.slice B153 (ms.getD (i+1) 0) c153]]) hw3 (g_zint_Sign (z153.ext hw3) (Nat.le_trans (hms _) (by decide))) rfl (by kernel_rfl) fun xr167 v165 r167 e166 hw4=>?_)))))))
   obtain rfl:=r167
   refine wl_cmp rfl rfl rfl false (scmp_le_f (hf.2 (i+1) (by omega) (by omega))) (by decide) (ne_ (cw_false rfl (cw_skip (eo_block_normal (eo_then (cw_region (wl_ar rfl rfl rfl ((i+1:Nat):Int) (ar_i64 (by omega) (by omega) (by omega)) (by decide) (mv 1 rfl (wl_nil (eo_round (⟨v165,i+1⟩:World×Nat) ⟨hw4,(by omega),(((b_2.ext e156).updN u163 (by omega)).ext e166)⟩ (show n-(i+1)<n-i by omega) rfl ⟨rfl,rfl,rfl,rfl,rfl,rfl,trivial⟩))))))))))
  · 
   refine cw_region (wl_cmp rfl rfl rfl false (lt_nat_f (by omega)) (by decide) (ne_ (cw_seq (cw_false rfl (cw_exit (eo_thenX (eo_loopX (eo_block_here (eo_then (sr (cl (vs:= [.int .i64 1]) hw1 (g_zint_Of hw1.size (by decide) (by decide)) rfl (by kernel_rfl) fun xr170 v168 r170 e169 hw2=>?_)))))))))))
   obtain⟨s171,A171,n171,c171,rfl,z171⟩:=r170
   refine cl (vs:= [I0]) hw2 (g_zint_Of hw2.size (by decide) (by decide)) rfl (by kernel_rfl) fun xr174 v172 r174 e173 hw3=>?_
   obtain⟨s175,A175,n175,c175,rfl,z175⟩:=r174
   refine alq [F0,S0] hw3 (b_2.ext (e169.trans e173)).lt (fun _=>by kernel_rfl) rfl fun g176 v177 hb179 ge180 q181 e178 hw4=>(alq [F0,S0] hw4 hb179.lt (fun _=>by kernel_rfl) rfl fun g182 v183 hb185 ge186 q187 e184 hw5=>?_)
   have hb189:=(hb179.ext e184)
   refine so aggInt hb189 [.bool s171,.slice A171 n171 c171] hw5 ge180 rfl rfl rfl rfl fun v188 hb190 u191 hw6=>?_
   have hb194:=(hb185.updN u191 (by omega))
   refine so aggInt hb194 [.bool s175,.slice A175 n175 c175] hw6 ge186 rfl rfl rfl rfl fun v193 hb195 u196 hw7=>(ne_ (cw_seq (sr (mv 1 rfl (pu (v:= .int .i64 ((n:Nat):Int)) rfl (by kernel_rfl) (wl_ar rfl rfl rfl (((n:Nat):Int)-1) (ar_i64s rfl (by omega) (by omega)) (by decide) (mv 1 rfl (ne_ (cw_block ?_)))))))))
   refine cw_loop (T:=World×Nat×Int×ZC×ZC)
    (fun⟨wr,k,ii,k0,k1⟩=> [(0,.slice (some a) n cap),(2,.pointer (some ⟨g1,0,none⟩)),(3,.int .i64 0),(6,.pointer (some ⟨g176,0,none⟩)),(7,.pointer (some ⟨g182,0,none⟩)),(8,.int .i64 ii)])
    (fun⟨wr,k,ii,k0,k1⟩=>wr)
    (fun⟨wr,k,ii,k0,k1⟩=>(Ext w wr)∧(k≤n)∧(ii=(k:Int)-1)∧(Bk wr g1 26 [F0,S0,F0,S0])∧(Bk wr g176 24 [.bool k0.s,.slice k0.A k0.n k0.c])∧(Bk wr g182 24 [.bool k1.s,.slice k1.A k1.n k1.c])∧(Zr wr w.heap.size k0.s k0.A k0.n k0.c (nd (zs.drop k)).1)∧(Zr wr w.heap.size k1.s k1.A k1.n k1.c (nd (zs.drop k)).2))
    (fun⟨wr,k,ii,k0,k1⟩=>k)
    (⟨v193,n,_,⟨s171,A171,n171,c171⟩,⟨s175,A175,n175,c175⟩⟩:World×Nat×Int×ZC×ZC) ⟨hw7,Nat.le_refl _,rfl,(((b_2.ext (e169.trans (e173.trans (e178.trans e184)))).updN u191 (by omega)).updN u196 (by omega)),(hb190.updN u196 (by omega)),hb195,((((z171.ext (e173.trans (e178.trans e184))).updT hb189 u191).updT hb194 u196)).cast (by rw [List.drop_of_length_le (Nat.le_of_eq hlen)];rfl),((((z175.ext (e178.trans e184)).updT hb189 u191).updT hb194 u196)).cast (by rw [List.drop_of_length_le (Nat.le_of_eq hlen)];rfl)⟩ rfl ⟨rfl,rfl,rfl,rfl,rfl,rfl,trivial⟩ ?_
   rintro⟨wr,k,ii,k0,k1⟩ ⟨hw1,hk,hii,b_2,b_6,b_7,zk0,zk1⟩
   refine cw_re [(0,.slice (some a) n cap),(2,.pointer (some ⟨g1,0,none⟩)),(3,.int .i64 0),(6,.pointer (some ⟨g176,0,none⟩)),(7,.pointer (some ⟨g182,0,none⟩)),(8,.int .i64 ii)] wr rfl ⟨rfl,rfl,rfl,rfl,rfl,rfl,trivial⟩ (cw_seq (cw_seq ?_))
   by_cases hkp:0<k
   · 
    obtain⟨j,rfl⟩:∃j,k=j+1:=⟨k-1,by omega⟩
    obtain rfl:ii=(j:Int):=by omega
    refine cw_region (mv 1 rfl (wl_cmp rfl rfl rfl true (ge_t (by omega)) (by decide) (ne_ (cw_true rfl (cw_skip (eo_then (cw_seq (cw_block ?_))))))))
    obtain⟨s198,B198,c198,ld198,z198⟩:=hl.elem (i:=j) (by omega)
    have L199:ln ((zs.getD (j) 0)*((nd (zs.drop (j+1))).1)+((nd (zs.drop (j+1))).2))≤3145730:=Nat.le_trans (ln_add (ln_mul (Nat.le_trans (hl.ln (j) (by omega)) (hms _)) (hnd (j+1)).1) (hnd (j+1)).2) (by decide)
    refine cw_draw mix 8 [] [Is (.slice (some a) n cap),Is (.int .i64 (j:Int)),Is (.pointer (some (a.add ((j)*2)))),Is (.agg #[.bool s198,.slice B198 (ms.getD (j) 0) c198]),Is (.agg #[.bool k0.s,.slice k0.A k0.n k0.c]),Is (.agg #[.bool k1.s,.slice k1.A k1.n k1.c]),ZR w.heap.size ((zs.getD (j) 0)*((nd (zs.drop (j+1))).1)+((nd (zs.drop (j+1))).2)),Is (.agg #[.bool k0.s,.slice k0.A k0.n k0.c])] [[],[],[0,1],[2],[],[],[3,4,5],[]] [[],[],[0,1],[0,1,2],[],[],[0,1,2,3,4,5],[],[0,1,2,3,4,5,6,7],[0,1,2,3,4,5,6,7,8]] rfl
     (obs_cons rfl rfl (hob rfl rfl ?_) (obs_cons rfl rfl (hob rfl rfl ?_) (obs_cons rfl rfl (hob rfl rfl ?_) (obs_cons rfl rfl (hob rfl rfl ?_) (obs_cons rfl rfl (hob rfl rfl ?_) (obs_cons rfl rfl (hob rfl rfl ?_) (obs_cons rfl rfl (hob rfl rfl ?_) (obs_cons rfl rfl (hob rfl rfl ?_) obs_nil)))))))) ?_
    · 
     exact fun _ _=>deps_nil (mv 1 rfl (pi_done rfl (Ext.refl _) rfl))
    · 
     exact fun _ _=>deps_nil (mv 1 rfl (pi_done rfl (Ext.refl _) rfl))
    · 
     exact fun _ _=>dk rfl rfl (dk rfl rfl (deps_nil (wl_index rfl rfl rfl elemInt aggInt.size (by omega) (by omega) (a.add ((j)*2)) rfl (by decide) (pi_done rfl (Ext.refl _) rfl))))
    · 
     intro v217 e218
     have hw2:=hw1.trans e218
     refine dk rfl rfl (deps_nil (wl_load rfl rfl (ld198 _ hw2 _ _ aggInt) (by decide) ?_))
     exact pi_done rfl (Ext.refl _) rfl
    · 
     exact fun _ e225=>deps_nil (lo aggInt (b_6.ext e225) [.bool k0.s,.slice k0.A k0.n k0.c] rfl rfl rfl (pi_done rfl (Ext.refl _) rfl))
    · 
     exact fun _ e227=>deps_nil (lo aggInt (b_7.ext e227) [.bool k1.s,.slice k1.A k1.n k1.c] rfl rfl rfl (pi_done rfl (Ext.refl _) rfl))
    · 
     intro v228 e229
     have hw2:=hw1.trans e229
     refine dk rfl rfl (dk rfl rfl (dk rfl rfl (deps_nil ?_)))
     have L245:ln ((zs.getD (j) 0)*((nd (zs.drop (j+1))).1)+((nd (zs.drop (j+1))).2))≤3145730:=Nat.le_trans (ln_add (ln_mul (Nat.le_trans (hl.ln (j) (by omega)) (hms _)) (hnd (j+1)).1) (hnd (j+1)).2) (by decide)
     refine cl (vs:= [.agg #[.bool s198,.slice B198 (ms.getD (j) 0) c198],.agg #[.bool k0.s,.slice k0.A k0.n k0.c],.agg #[.bool k1.s,.slice k1.A k1.n k1.c]]) hw2 (g_zint_MulAdd hw2.size (z198.ext hw2) (Nat.le_trans (hms _) (by decide)) (zk0.ext e229).zi (zk0.le (Nat.le_trans (hnd (j+1)).1 (by decide))) (zk1.ext e229).zi (zk1.le (Nat.le_trans (hnd (j+1)).2 (by decide)))) rfl (by kernel_rfl) fun xr248 v246 r248 e247 hw3=>?_
     obtain⟨s249,A249,n249,c249,rfl,z249⟩:=r248
     exact pi_done rfl e247 ⟨_,_,_,_,rfl,z249⟩
    · 
     exact fun _ e251=>deps_nil (lo aggInt (b_6.ext e251) [.bool k0.s,.slice k0.A k0.n k0.c] rfl rfl rfl (pi_done rfl (Ext.refl _) rfl))
    · 
     intro v252 e253
     have hw2:=hw1.trans e253
     refine dk rfl rfl (dk rfl rfl (dk rfl rfl (dk rfl rfl (dk rfl rfl (dk rfl rfl (deps_cons rfl rfl fun x284 y285 h286 e287 f288=>?_))))))
     obtain⟨s289,A289,n289,c289,rfl,z289⟩:=h286
     have z289:=z289.ext f288
     refine dk rfl rfl (deps_nil ?_)
     have hb296:=(b_6.ext e253)
     refine so aggInt hb296 [.bool s289,.slice A289 n289 c289] hw2 ge180 rfl rfl rfl rfl fun v295 hb297 u298 hw3=>?_
     have hb301:=((b_7.ext e253).updN u298 (by omega))
     refine so aggInt hb301 [.bool k0.s,.slice k0.A k0.n k0.c] hw3 ge186 rfl rfl rfl rfl fun v300 hb302 u303 hw4=>(wl_nil (eo_np (eo_block_normal (eo_then (cw_region (mv 1 rfl (wl_ar rfl rfl rfl ((j:Int)-1) (ar_i64s rfl (by omega) (by omega)) (by decide) (mv 1 rfl (wl_nil (eo_round (⟨v300,j,(j:Int)-1,⟨s289,A289,n289,c289⟩,⟨k0.s,k0.A,k0.n,k0.c⟩⟩:World×Nat×Int×ZC×ZC) ⟨hw4,(by omega),rfl,(((b_2.ext e253).updN u298 (by omega)).updN u303 (by omega)),(hb297.updN u303 (by omega)),hb302,(((z289.updT hb296 u298).updT hb301 u303)).cast (by rw [drop_cons (zs:=zs) (i:=j) (by omega)];rfl),((((zk0.ext e253).updT hb296 u298).updT hb301 u303)).cast (by rw [drop_cons (zs:=zs) (i:=j) (by omega)];rfl)⟩ (show j<j+1 by omega) rfl ⟨rfl,rfl,rfl,rfl,rfl,rfl,trivial⟩))))))))))
   · 
    obtain rfl:k=0:=by omega
    refine cw_region (mv 1 rfl (wl_cmp rfl rfl rfl false (ge_f (by omega)) (by decide) (ne_ (cw_false rfl (cw_exit (eo_thenX (eo_loopX (eo_block_here (eo_then (sr (lo aggInt b_6 [.bool k0.s,.slice k0.A k0.n k0.c] rfl rfl rfl (lo aggInt b_7 [.bool k1.s,.slice k1.A k1.n k1.c] rfl rfl rfl (cl (vs:= [.agg #[.bool k0.s,.slice k0.A k0.n k0.c],.agg #[.bool k1.s,.slice k1.A k1.n k1.c]]) hw1 (g_frac_Of_low hw1.size zk0.zi (zk0.le (Nat.le_trans (hnd 0).1 (by decide))) zk1.zi (zk1.le (Nat.le_trans (hnd 0).2 (by decide))) hD (nd_gcd zs)) rfl (by kernel_rfl) fun xr307 v305 r307 e306 hw2=>?_)))))))))))))
    obtain⟨_,_,rfl,⟨s309,A309,n309,c309,t309,B309,m309,d309,rfl,z309,y309⟩,rfl⟩:=r307
    refine pu (v:= .agg #[.bool s309,.slice A309 n309 c309,.bool t309,.slice B309 m309 d309]) rfl (by kernel_rfl) (pu (v:= .int .i64 0) rfl (by kernel_rfl) ?_)
    have hb311:=(b_2.ext e306)
    refine so aggFrac hb311 [.bool s309,.slice A309 n309 c309,.bool t309,.slice B309 m309 d309] hw2 ge5 rfl rfl rfl rfl fun v310 hb312 u313 hw3=>(mv 1 rfl (ne_ (cw_ret (eo_ret [.agg #[.bool s309,.slice A309 n309 c309,.bool t309,.slice B309 m309 d309],I0] rfl ⟨⟨_,rfl,load_agg aggFrac hb312 [.bool s309,.slice A309 n309 c309,.bool t309,.slice B309 m309 d309] rfl (bq rfl) rfl⟩,rfl,trivial⟩ ?_))))
    exact⟨_,rfl,⟨_,_,rfl,⟨_,_,_,_,_,_,_,_,rfl,(z309.updT hb311 u313),(y309.updT hb311 u313)⟩,rfl⟩,hw3⟩
def chR (x y:Int):Int:=if y<0 then-((-x)%(-y)) else x%y
theorem flo_ch {q r x y:Int}(h0:y≠0) (h:Flo q r x y):q=chX x y/chY y∧r=chR x y:=by
 obtain⟨h1,h2,h3⟩:=h
 unfold chX chY chR
 by_cases hn:y<0
 ·rw [if_pos hn,if_pos hn,if_pos hn]
  have h4:=h3 hn
  obtain⟨e1,e2⟩:=(Int.ediv_emod_unique (a:= -x) (b:= -y) (r:= -r) (q:=q) (by omega)).2 ⟨by rw [Int.neg_mul,Int.mul_comm y q];omega,by omega,by omega⟩
  rw [e1,e2];omega
 ·rw [if_neg hn,if_neg hn,if_neg hn]
  have h4:=h2 (by omega)
  obtain⟨e1,e2⟩:=(Int.ediv_emod_unique (a:=x) (b:=y) (r:=r) (q:=q) (by omega)).2 ⟨by rw [Int.mul_comm y q];omega,h4.1,h4.2⟩
  rw [e1,e2];omega
theorem ln_chQ {x y:Int}{N:Nat}(h0:y≠0) (hx:ln x≤N) (hN:1≤N):ln (chX x y/chY y)≤N+1:=ln_edivF (chY_pos h0) (by rw [ln_chX];exact hx) hN
theorem g_FloorC {w:World}{b:Nat}(hb:b≤w.heap.size){s t:Bool}{A B:Option Addr}{n cap m cap':Nat}{x y:Int}(hx:Zi w s A n cap x) (hl:n≤68719476736) (hy:Zi w t B m cap' y) (hl':m≤68719476736) (h0:y≠0):
  Calls Tryd.prog 42 #[.agg #[.bool s,.slice A n cap],.agg #[.bool t,.slice B m cap']] w (Gv w (T3 (ZR b (chX x y/chY y)) (ZR b (chR x y)) (Is (.int .i64 0)))):=by
 refine (g_zint_FloorD hb hx hl hy hl' h0).mono fun e w' h=>?_
 obtain⟨q,r,h1,h2⟩:=h
 obtain⟨e1,e2⟩:=flo_ch h0 h1
 rw [←e1,←e2];exact h2
theorem LRF.imp {K b b' lb:Nat}{zs:List Int}{v:Value}{w:World}(hb:b≤b') (h:LRF K b' lb zs v w):LRF K b lb zs v w:=by
 obtain⟨A,c,h1,h2⟩:=h
 exact⟨A,c,h1,h2.mono (Nat.le_refl _) hb (Nat.le_refl _)⟩
theorem g_ChainZ {w:World}{b:Nat}(hb:b≤w.heap.size){sa:Bool}{Aa:Option Addr}{na ca:Nat}{x:Int}{sd:Bool}{Ad:Option Addr}{nd cd:Nat}{y:Int}(hx:Zi w sa Aa na ca x) (la:na≤1048576) (hy:Zi w sd Ad nd cd y) (ld:nd≤1048576){zs:List Int}(hzs:zs=chn (chX x y) (chY y)) (h0:y≠0):Calls Tryd.prog 9 #[.agg #[.bool sa,.slice Aa na ca,.bool sd,.slice Ad nd cd]] w (Gv w (T2 (LRF 1048579 b w.heap.size zs) (Is (.int .i64 0)))):=by
 subst hzs
 exact (g_ChainI hx la hy ld h0).mono (Gv.imp (T2.imp (fun _ _ h=>h.imp hb) Is.imp))
theorem low_chn {x y:Int}(h0:y≠0):Low (nd (chn (chX x y) (chY y))).1 (nd (chn (chX x y) (chY y))).2 x y:=by
 obtain⟨g,hg,h1,h2⟩:=chn_nd (chX x y) (chY y) (Int.le_of_lt (chY_pos h0)) (Or.inl (chY_pos h0))
 have hy:=chY_pos h0
 generalize hp:(nd (chn (chX x y) (chY y))).1=p at*
 generalize hq:(nd (chn (chX x y) (chY y))).2=q at*
 have hq0:0<q:=by
  refine Int.lt_of_not_ge fun hc=>?_
  have:g*q≤g*0:=Int.mul_le_mul_of_nonneg_left hc (by omega)
  omega
 have e1:p.natAbs≤(chX x y).natAbs:=by rw [h1,Int.natAbs_mul];exact Nat.le_mul_of_pos_left _ (by omega)
 have e2:q.natAbs≤(chY y).natAbs:=by rw [h2,Int.natAbs_mul];exact Nat.le_mul_of_pos_left _ (by omega)
 have a1:(chX x y).natAbs=x.natAbs:=by unfold chX;split <;> omega
 have a2:(chY y).natAbs=y.natAbs:=by unfold chY;split <;> omega
 refine⟨hq0,by rw [←hp,←hq];exact nd_gcd _,?_,by omega,by omega⟩
 have e3:p*chY y=chX x y*q:=by rw [h1,h2];grind
 unfold chX chY at e3
 by_cases hn:y<0
 ·rw [if_pos hn,if_pos hn] at e3
  rw [Int.mul_neg,Int.neg_mul] at e3;omega
 ·rw [if_neg hn,if_neg hn] at e3;exact e3
theorem chn_facts {x y:Int}{zs:List Int}(h0:y≠0) (Lx:ln x≤1048576) (Ly:ln y≤1048576) (hzs:zs=chn (chX x y) (chY y)):Fit zs∧zs.length≤200000000∧0<zs.length∧zs.getD 0 0=chX x y/chY y∧(1<zs.length→1<zs.getD (zs.length-1) 0)∧(∀k,ln (nd (zs.drop k)).1≤2097150∧ln (nd (zs.drop k)).2≤2097150)∧Low (nd zs).1 (nd zs).2 x y:=by
 have hy:=chY_pos h0
 have e:=chn_step (n:=chX x y) hy
 have hlow:=low_chn (x:=x) h0
 rw [←hzs] at hlow
 have hlen:zs.length≤200000000:=by
  rw [hzs]
  refine Nat.le_trans (chn_len _ _ (Int.le_of_lt hy)) ?_
  have h:=Ly
  rw [←ln_chY] at h
  have:=blen_bdF (m:=(chY y).natAbs) (n:=1048576) h
  omega
 have hpos:0<zs.length:=by rw [hzs,e,List.length_cons];omega
 have htail:∀i,1≤i→i<zs.length→0<zs.getD i 0:=fun i h1 h2=>by
  have:=chn_tail (n:=chX x y) hy (zs.getD i 0) (by
   rw [←hzs]
   have e1:zs.getD i 0=(zs.drop 1).getD (i-1) 0:=by
    rw [List.getD_eq_getElem?_getD,List.getD_eq_getElem?_getD,List.getElem?_drop,show 1+(i-1)=i by omega]
   rw [e1]
   have hl:i-1<(zs.drop 1).length:=by rw [List.length_drop];omega
   rw [List.getD_eq_getElem?_getD,List.getElem?_eq_getElem hl]
   exact List.getElem_mem _)
  omega
 refine⟨⟨fun h=>(by rw [h] at hpos;cases hpos),htail⟩,hlen,hpos,by rw [hzs,e];rfl,fun h1=>?_,fun k=>?_,hlow⟩
 ·rw [hzs,e,List.length_cons] at h1
  rw [hzs,e,List.length_cons,Nat.add_sub_cancel]
  have ha:=Int.emod_nonneg (chX x y) (show chY y≠0 by omega)
  have hb:=Int.emod_lt_of_pos (chX x y) hy
  have hr:0<chX x y%chY y:=by
   rcases Int.lt_or_eq_of_le ha with h | h
   ·exact h
   ·rw [←h,chn_zero] at h1;simp at h1
  have:=chn_last (chY y) (chX x y%chY y) ha hr hb
  obtain⟨k,hk⟩:∃k,(chn (chY y) (chX x y%chY y)).length=k+1:=⟨(chn (chY y) (chX x y%chY y)).length-1,by omega⟩
  rw [hk,Nat.add_sub_cancel] at this
  rw [hk]
  exact this
 ·rw [hzs]
  have:=chn_lnd (n:=chX x y) hy (N:=1048576) (by rw [ln_chX];exact Lx) (by rw [ln_chY];exact Ly) k
  omega
theorem g_alikeF {w:World}{base base':Nat}{s t:Bool}{A B:Option Addr}{n cap m cap':Nat}{x y:Int}(h:x=y) (hx:Zr w base s A n cap x) (hl:n≤1099511627776) (hy:Zr w base' t B m cap' y) (hl':m≤1099511627776):
  Calls Tryd.prog 16 #[.agg #[.bool s,.slice A n cap],.agg #[.bool t,.slice B m cap']] w (Gv w (Is (.bool true))):=g_law8_alike hx hl hy hl' h
set_option maxHeartbeats 4000000 in
theorem g_fFloor {w:World}{sa:Bool}{Aa:Option Addr}{na ca:Nat}{x:Int}{sd:Bool}{Ad:Option Addr}{nd cd:Nat}{y:Int}(hx:Zi w sa Aa na ca x) (la:na≤1048576) (hy:Zi w sd Ad nd cd y) (ld:nd≤1048576) (h0:y≠0):
    Calls Tryd.prog 14 #[.agg #[.bool sa,.slice Aa na ca,.bool sd,.slice Ad nd cd]] w (Gv w (T2 (ZR w.heap.size (chX x y/chY y)) (Is (.int .i64 0)))):=by
 have Lx:ln x≤1048576:=Nat.le_trans hx.ln la
 have Ly:ln y≤1048576:=Nat.le_trans hy.ln ld
 refine sx_enter Tryd.func14 rfl (n:=18) rfl (bq rfl) (args:= [.agg #[.bool sa,.slice Aa na ca,.bool sd,.slice Ad nd cd]]) (cw_keep [(0,.agg #[.bool sa,.slice Aa na ca,.bool sd,.slice Ad nd cd])] ⟨rfl,trivial⟩ (sr (bx [.bool sa,.slice Aa na ca,.bool sd,.slice Ad nd cd] (Ext.refl w) rfl rfl rfl fun g1 v2 hb4 ge5 e3 hw1=>(alq [F0,S0] hw1 hb4.lt (fun _=>by kernel_rfl) rfl fun g6 v7 hb9 ge10 q11 e8 hw2=>(mv 1 rfl (ne_ (sr (pf g1 0 rfl (by kernel_rfl) (lo aggInt (hb4.ext e8) [.bool sa,.slice Aa na ca] rfl rfl rfl (pf g1 2 rfl (by kernel_rfl) (lo aggInt (hb4.ext e8) [.bool sd,.slice Ad nd cd] rfl rfl rfl (cl (vs:= [.agg #[.bool sa,.slice Aa na ca],.agg #[.bool sd,.slice Ad nd cd]]) hw2 (g_FloorC hw2.size (hx.ext hw2) (lx_ la rfl) (hy.ext hw2) (lx_ ld rfl) h0) rfl (by kernel_rfl) fun xr14 v12 r14 e13 hw3=>?_))))))))))))
 obtain⟨_,_,_,rfl,⟨s16,A16,n16,c16,rfl,z16⟩,⟨s17,A17,n17,c17,rfl,z17⟩,rfl⟩:=r14
 refine mv 1 rfl (pu (v:= .agg #[.bool s16,.slice A16 n16 c16]) rfl (by kernel_rfl) (pu (v:= .agg #[.bool s17,.slice A17 n17 c17]) rfl (by kernel_rfl) (pu (v:= .int .i64 0) rfl (by kernel_rfl) (alq [F0,S0] hw3 (hb9.ext e13).lt (fun _=>by kernel_rfl) rfl fun g18 v19 hb21 ge22 q23 e20 hw4=>(alq [F0,S0] hw4 hb21.lt (fun _=>by kernel_rfl) rfl fun g24 v25 hb27 ge28 q29 e26 hw5=>?_)))))
 have hb31:=(hb21.ext e26)
 refine so aggInt hb31 [.bool s16,.slice A16 n16 c16] hw5 ge22 rfl rfl rfl rfl fun v30 hb32 u33 hw6=>?_
 have hb36:=(hb27.updN u33 (by omega))
 refine so aggInt hb36 [.bool s17,.slice A17 n17 c17] hw6 ge28 rfl rfl rfl rfl fun v35 hb37 u38 hw7=>(mv 1 rfl (ne_ (sr (lo aggInt (hb32.updN u38 (by omega)) [.bool s16,.slice A16 n16 c16] rfl rfl rfl (mv 1 rfl ?_)))))
 have hb41:=(((hb9.ext (e13.trans (e20.trans e26))).updN u33 (by omega)).updN u38 (by omega))
 refine so aggInt hb41 [.bool s16,.slice A16 n16 c16] hw7 ge10 rfl rfl rfl rfl fun v40 hb42 u43 hw8=>(mv 1 rfl (ne_ (cw_ret (eo_ret [.agg #[.bool s16,.slice A16 n16 c16],I0] rfl ⟨⟨_,rfl,load_agg aggInt hb42 [.bool s16,.slice A16 n16 c16] rfl (bq rfl) rfl⟩,rfl,trivial⟩ ?_))))
 exact⟨_,rfl,⟨_,_,rfl,⟨_,_,_,_,rfl,((((z16.ext (e20.trans e26)).updT hb31 u33).updT hb36 u38).updT hb41 u43)⟩,rfl⟩,hw8⟩
theorem g_fFloorZ {w:World}{b:Nat}(hb:b≤w.heap.size){sa:Bool}{Aa:Option Addr}{na ca:Nat}{x:Int}{sd:Bool}{Ad:Option Addr}{nd cd:Nat}{y:Int}(hx:Zi w sa Aa na ca x) (la:na≤1048576) (hy:Zi w sd Ad nd cd y) (ld:nd≤1048576) (h0:y≠0):Calls Tryd.prog 14 #[.agg #[.bool sa,.slice Aa na ca,.bool sd,.slice Ad nd cd]] w (Gv w (T2 (ZR b (chX x y/chY y)) (Is (.int .i64 0)))):=(g_fFloor hx la hy ld h0).mono (Gv.imp (T2.imp (ZR.imp hb) Is.imp))
theorem scmp_pos_f {z:Int}(h:0<z):cmpB .lss (scmp z 0) 1=some false:=by
 have e:=scmp_pos.2 h
 simp only [cmpB,Option.some.injEq,decide_eq_false_iff_not];omega
set_option maxHeartbeats 8000000 in
set_option maxRecDepth 20000 in
theorem law_FracBack_bad {w:World}{sa:Bool}{Aa:Option Addr}{na ca:Nat}{x:Int}{sd:Bool}{Ad:Option Addr}{nd cd:Nat}{y:Int}(hx:Zi w sa Aa na ca x) (la:na≤1048576) (hy:Zi w sd Ad nd cd y) (ld:nd≤1048576) (h0:y=0):
    Calls Tryd.prog 3 #[.agg #[.bool sa,.slice Aa na ca,.bool sd,.slice Ad nd cd]] w (Gv w (Is (.bool true))):=by
 have Lx:ln x≤1048576:=Nat.le_trans hx.ln la
 have Ly:ln y≤1048576:=Nat.le_trans hy.ln ld
 refine sx_enter Tryd.func3 rfl (n:=96) rfl (bq rfl) (args:= [.agg #[.bool sa,.slice Aa na ca,.bool sd,.slice Ad nd cd]]) (cw_keep [(0,.agg #[.bool sa,.slice Aa na ca,.bool sd,.slice Ad nd cd])] ⟨rfl,trivial⟩ (sr (bx [.bool sa,.slice Aa na ca,.bool sd,.slice Ad nd cd] (Ext.refl w) rfl rfl rfl fun g1 v2 hb4 ge5 e3 hw1=>(mv 1 rfl (ne_ (cw_seq (sr (cl (vs:= []) hw1 (g_law8_awake _) rfl (by kernel_rfl) fun xr8 v6 r8 e7 hw2=>?_))))))))
 obtain rfl:=r8
 refine pu (v:= .bool false) rfl (by kernel_rfl) (mv 1 rfl (lo aggFrac (hb4.ext e7) [.bool sa,.slice Aa na ca,.bool sd,.slice Ad nd cd] rfl rfl rfl (cl (vs:= [.agg #[.bool sa,.slice Aa na ca,.bool sd,.slice Ad nd cd]]) hw2 (g_texts8_bad (hx.ext hw2) (lx_ la rfl) (hy.ext hw2) (lx_ ld rfl) h0) rfl (by kernel_rfl) fun xr11 v9 r11 e10 hw3=>?_)))
 obtain rfl:=r11
 refine pu (v:= .bool false) rfl (by kernel_rfl) (pu (v:= .bool false) rfl (by kernel_rfl) (ne_ (cw_false rfl (cw_skip (eo_then (sr (lo aggFrac (hb4.ext (e7.trans e10)) [.bool sa,.slice Aa na ca,.bool sd,.slice Ad nd cd] rfl rfl rfl (cl (vs:= [.agg #[.bool sa,.slice Aa na ca,.bool sd,.slice Ad nd cd]]) hw3 (g_Chain_bad (hx.ext hw3) (lx_ la rfl) (hy.ext hw3) (lx_ ld rfl) h0) rfl (by kernel_rfl) fun xr14 v12 r14 e13 hw4=>?_))))))))
 obtain⟨_,_,rfl,rfl,rfl⟩:=r14
 refine mv 1 rfl (pu (v:= .slice none 0 0) rfl (by kernel_rfl) (pu (v:= .int .i64 4) rfl (by kernel_rfl) (mv 2 rfl (ne_ (cw_seq (sr (lo aggFrac (hb4.ext (e7.trans (e10.trans e13))) [.bool sa,.slice Aa na ca,.bool sd,.slice Ad nd cd] rfl rfl rfl (cl (vs:= [.agg #[.bool sa,.slice Aa na ca,.bool sd,.slice Ad nd cd]]) hw4 (g_law8_is (b:=false) (hy.ext hw4) (lx_ ld rfl) (by rw [decide_eq_false (fun h=>h h0)])) rfl (by kernel_rfl) fun xr18 v16 r18 e17 hw5=>?_))))))))
 obtain rfl:=r18
 refine pu (v:= .bool true) rfl (by kernel_rfl) (ne_ (cw_true rfl (sr (mv 1 rfl (wl_cmp rfl rfl rfl true (by decide) (by decide) (mv 2 rfl (pu (v:= .int .i64 0) rfl (by kernel_rfl) (wl_cmp rfl rfl rfl true (by decide) (by decide) (pu (v:= .bool true) rfl (by kernel_rfl) (mv 1 rfl (ne_ (cw_ret (eo_thenR ?_)))))))))))))
 refine eo_ret [.bool true] rfl ⟨rfl,trivial⟩ ?_
 exact⟨_,rfl,rfl,hw5⟩
set_option maxHeartbeats 8000000 in
set_option maxRecDepth 20000 in
theorem law_FracBack_good {w:World}{sa:Bool}{Aa:Option Addr}{na ca:Nat}{x:Int}{sd:Bool}{Ad:Option Addr}{nd cd:Nat}{y:Int}(hx:Zi w sa Aa na ca x) (la:na≤1048576) (hy:Zi w sd Ad nd cd y) (ld:nd≤1048576) (hS:Signs w) (h0:y≠0):
    Calls Tryd.prog 3 #[.agg #[.bool sa,.slice Aa na ca,.bool sd,.slice Ad nd cd]] w (Gv w (Is (.bool true))):=by
 have Lx:ln x≤1048576:=Nat.le_trans hx.ln la
 have Ly:ln y≤1048576:=Nat.le_trans hy.ln ld
 obtain⟨zs,hzs⟩:∃zs,zs=chn (chX x y) (chY y):=⟨_,rfl⟩
 obtain⟨hfit,hzn,hzp,hz0,hzl1,hnd,hlow⟩:=chn_facts h0 Lx Ly hzs
 refine sx_enter Tryd.func3 rfl (n:=96) rfl (bq rfl) (args:= [.agg #[.bool sa,.slice Aa na ca,.bool sd,.slice Ad nd cd]]) (cw_keep [(0,.agg #[.bool sa,.slice Aa na ca,.bool sd,.slice Ad nd cd])] ⟨rfl,trivial⟩ (sr (bx [.bool sa,.slice Aa na ca,.bool sd,.slice Ad nd cd] (Ext.refl w) rfl rfl rfl fun g1 v2 hb4 ge5 e3 hw1=>(mv 1 rfl (ne_ (cw_seq (sr (cl (vs:= []) hw1 (g_law8_awake _) rfl (by kernel_rfl) fun xr8 v6 r8 e7 hw2=>?_))))))))
 obtain rfl:=r8
 refine pu (v:= .bool false) rfl (by kernel_rfl) (mv 1 rfl (lo aggFrac (hb4.ext e7) [.bool sa,.slice Aa na ca,.bool sd,.slice Ad nd cd] rfl rfl rfl (cl (vs:= [.agg #[.bool sa,.slice Aa na ca,.bool sd,.slice Ad nd cd]]) hw2 (g_texts8 (hx.ext hw2) (lx_ la rfl) (hy.ext hw2) (lx_ ld rfl) (hS.ext hw2) hlow) rfl (by kernel_rfl) fun xr11 v9 r11 e10 hw3=>?_)))
 obtain rfl:=r11
 refine pu (v:= .bool false) rfl (by kernel_rfl) (pu (v:= .bool false) rfl (by kernel_rfl) (ne_ (cw_false rfl (cw_skip (eo_then (sr (lo aggFrac (hb4.ext (e7.trans e10)) [.bool sa,.slice Aa na ca,.bool sd,.slice Ad nd cd] rfl rfl rfl (cl (vs:= [.agg #[.bool sa,.slice Aa na ca,.bool sd,.slice Ad nd cd]]) hw3 (g_ChainZ hw3.size (hx.ext hw3) (lx_ la rfl) (hy.ext hw3) (lx_ ld rfl) hzs h0) rfl (by kernel_rfl) fun xr14 v12 r14 e13 hw4=>?_))))))))
 obtain⟨_,_,rfl,⟨A16,c16,rfl,lz16⟩,r15_1⟩:=r14
 have ne17:∀p,A16=some p→p.block≠g1:=fun p hp=>by have:=(lz16).block p hp;have:=((hb4.ext (e7.trans e10))).lt;omega
 have blk18:=lz16.block
 obtain rfl:=r15_1
 refine mv 1 rfl (pu (v:= .slice A16 zs.length c16) rfl (by kernel_rfl) (pu (v:= .int .i64 0) rfl (by kernel_rfl) (mv 2 rfl (ne_ (cw_seq (sr (lo aggFrac (hb4.ext (e7.trans (e10.trans e13))) [.bool sa,.slice Aa na ca,.bool sd,.slice Ad nd cd] rfl rfl rfl (cl (vs:= [.agg #[.bool sa,.slice Aa na ca,.bool sd,.slice Ad nd cd]]) hw4 (g_law8_is (b:=true) (hy.ext hw4) (lx_ ld rfl) (by rw [decide_eq_true h0])) rfl (by kernel_rfl) fun xr21 v19 r21 e20 hw5=>?_))))))))
 obtain rfl:=r21
 refine pu (v:= .bool false) rfl (by kernel_rfl) (ne_ (cw_false rfl (cw_skip (eo_then (cw_seq (sr (mv 1 rfl (wl_cmp rfl rfl rfl false (by decide) (by decide) (mv 2 rfl (pu (v:= .int .i64 ((zs.length:Nat):Int)) rfl (by kernel_rfl) (wl_cmp rfl rfl rfl false (cb_eq_f (a:=zs.length) (b:=0) rfl rfl (by omega)) (by decide) (pu (v:= .bool false) rfl (by kernel_rfl) (wl_nil ?_)))))))))))))
 refine eo_then (cw_false rfl (cw_skip (eo_then (cw_seq (sr (mv 1 rfl (ne_ (cw_block ?_))))))))
 refine cw_loop (T:=World×Nat)
  (fun⟨wr,j⟩=> [(1,.pointer (some ⟨g1,0,none⟩)),(2,.bool false),(3,.slice A16 zs.length c16),(4,.int .i64 0),(5,.int .i64 ((j:Nat):Int))])
  (fun⟨wr,j⟩=>wr)
  (fun⟨wr,j⟩=>(Ext w wr)∧(Lz none 1048579 w.heap.size wr v9.heap.size A16 zs.length c16 zs)∧(v9.heap.size≤wr.heap.size)∧(1≤j)∧(j≤zs.length)∧(Bk wr g1 26 [.bool sa,.slice Aa na ca,.bool sd,.slice Ad nd cd]))
  (fun⟨wr,j⟩=>zs.length-j)
  (⟨v19,1⟩:World×Nat) ⟨hw5,(lz16.ext e20),(Nat.le_trans e13.size e20.size),(by omega),(by omega),(hb4.ext (e7.trans (e10.trans (e13.trans e20))))⟩ rfl ⟨rfl,rfl,rfl,rfl,rfl,trivial⟩ ?_
 rintro⟨wr,j⟩ ⟨hw1,hlz,hlbw,hj1,hjn,b_1⟩
 refine cw_re [(1,.pointer (some ⟨g1,0,none⟩)),(2,.bool false),(3,.slice A16 zs.length c16),(4,.int .i64 0),(5,.int .i64 ((j:Nat):Int))] wr rfl ⟨rfl,rfl,rfl,rfl,rfl,trivial⟩ ?_
 have blk22:=hlz.block
 refine cw_seq (cw_seq ?_)
 by_cases hjl:j<zs.length
 · 
  refine cw_region (mv 2 rfl (pu (v:= .int .i64 ((zs.length:Nat):Int)) rfl (by kernel_rfl) (wl_cmp rfl rfl rfl true (cb_lt_t (a:=j) (b:=zs.length) rfl rfl (by omega)) (by decide) (ne_ (cw_true rfl (cw_skip (eo_then (cw_seq (cw_block (sr (mv 2 rfl ?_)))))))))))
  obtain⟨pz24,sz24,Bz24,nz24,cz24,hpz24,ldz24,hKz24,ez24⟩:=(hlz).at (i:=j) (by omega)
  have zz24:=ez24.zr
  have Lz24:ln (zs.getD j 0)≤1048579:=zz24.ln_le hKz24
  refine wl_idx rfl rfl rfl elemI aggInt.size j rfl (by omega) pz24 hpz24 (by decide) (wl_load rfl rfl (ldz24 _ (Ext.refl _) _ _ aggInt) (by decide) (cl (vs:= [.agg #[.bool sz24,.slice Bz24 nz24 cz24]]) hw1 (g_zint_Sign zz24.zi (zz24.le (lx_ Lz24 rfl))) rfl (by kernel_rfl) fun xr27 v25 r27 e26 hw2=>?_))
  obtain rfl:=r27
  refine wl_cmp rfl rfl rfl false (scmp_pos_f (hfit.2 j hj1 hjl)) (by decide) (ne_ (cw_false rfl (cw_skip (eo_block_normal (eo_then (cw_region (mv 1 rfl (wl_ar rfl rfl rfl ((j+1:Nat):Int) (ai_add (a:=j) (b:=1) rfl rfl (by omega)) (by decide) (mv 1 rfl (wl_nil (eo_round (⟨v25,j+1⟩:World×Nat) ⟨hw2,(hlz.ext e26),(Nat.le_trans hlbw e26.size),(by omega),(by omega),(b_1.ext e26)⟩ (show zs.length-(j+1)<zs.length-j by omega) rfl ⟨rfl,rfl,rfl,rfl,rfl,trivial⟩)))))))))))
 · 
  refine cw_region (mv 2 rfl (pu (v:= .int .i64 ((zs.length:Nat):Int)) rfl (by kernel_rfl) (wl_cmp rfl rfl rfl false (cb_lt_f (a:=j) (b:=zs.length) rfl rfl (by omega)) (by decide) (ne_ (cw_false rfl (cw_exit (eo_thenX (eo_loopX (eo_block_here (eo_then (cw_seq (cw_seq ?_))))))))))))
  by_cases h13:1<zs.length
  · 
   obtain⟨pz28,sz28,Bz28,nz28,cz28,hpz28,ldz28,hKz28,ez28⟩:=(hlz).at (i:=zs.length-1) (by omega)
   have zz28:=ez28.zr
   have Lz28:ln (zs.getD (zs.length-1) 0)≤1048579:=zz28.ln_le hKz28
   refine cw_draw mix 14 [] [Is (.slice A16 zs.length c16),Is (.int .i64 ((zs.length:Nat):Int)),Is (.bool true),Is (.bool true),Is (.slice A16 zs.length c16),Is (.slice A16 zs.length c16),Is (.int .i64 ((zs.length:Nat):Int)),Is (.int .i64 ((zs.length-1:Nat):Int)),Is (.pointer (some pz28)),Is (.agg #[.bool sz28,.slice Bz28 nz28 cz28]),ZR w.heap.size (1),Is (.int .i64 (scmp (zs.getD (zs.length-1) 0) 1)),Is (.bool false),Is (.bool false)] [[],[0],[1],[2],[3],[3],[3,5],[3,6],[3,4,7],[3,8],[3],[3,9,10],[3,11],[3,12]] [[],[0],[0,1],[0,1,2],[0,1,2,3],[0,1,2,3],[0,1,2,3,5],[0,1,2,3,5,6],[0,1,2,3,4,5,6,7],[0,1,2,3,4,5,6,7,8],[0,1,2,3],[0,1,2,3,4,5,6,7,8,9,10],[0,1,2,3,4,5,6,7,8,9,10,11],[0,1,2,3,4,5,6,7,8,9,10,11,12]] rfl
    (obs_cons rfl rfl (hob rfl rfl ?_) (obs_cons rfl rfl (hob rfl rfl ?_) (obs_cons rfl rfl (hob rfl rfl ?_) (obs_cons rfl rfl (hob rfl rfl ?_) (obs_cons rfl rfl (hob rfl rfl ?_) (obs_cons rfl rfl (hob rfl rfl ?_) (obs_cons rfl rfl (hob rfl rfl ?_) (obs_cons rfl rfl (hob rfl rfl ?_) (obs_cons rfl rfl (hob rfl rfl ?_) (obs_cons rfl rfl (hob rfl rfl ?_) (obs_cons rfl rfl (hob rfl rfl ?_) (obs_cons rfl rfl (hob rfl rfl ?_) (obs_cons rfl rfl (hob rfl rfl ?_) (obs_cons rfl rfl (hob rfl rfl ?_) obs_nil)))))))))))))) ?_
   · 
    exact fun _ _=>deps_nil (mv 1 rfl (pi_done rfl (Ext.refl _) rfl))
   · 
    exact fun _ _=>dk rfl rfl (deps_nil (pu (v:= .int .i64 ((zs.length:Nat):Int)) rfl (by kernel_rfl) (pi_done rfl (Ext.refl _) rfl)))
   · 
    exact fun _ _=>dk rfl rfl (deps_nil (wl_cmp rfl rfl rfl true (cb_gt_t (a:=zs.length) (b:=1) rfl rfl (by omega)) (by decide) (pi_done rfl (Ext.refl _) rfl)))
   · 
    exact fun _ _=>dk rfl rfl (deps_nil (mv 1 rfl (pi_done rfl (Ext.refl _) rfl)))
   · 
    exact fun _ _=>dk rfl rfl (deps_nil (mv 1 rfl (pi_done rfl (Ext.refl _) rfl)))
   · 
    exact fun _ _=>dk rfl rfl (deps_nil (mv 1 rfl (pi_done rfl (Ext.refl _) rfl)))
   · 
    exact fun _ _=>dk rfl rfl (dk rfl rfl (deps_nil (pu (v:= .int .i64 ((zs.length:Nat):Int)) rfl (by kernel_rfl) (pi_done rfl (Ext.refl _) rfl))))
   · 
    exact fun _ _=>dk rfl rfl (dk rfl rfl (deps_nil (wl_ar rfl rfl rfl ((zs.length-1:Nat):Int) (ai_sub (a:=zs.length) (b:=1) rfl rfl (by omega) (by omega)) (by decide) (pi_done rfl (Ext.refl _) rfl))))
   · 
    exact fun _ _=>dk rfl rfl (dk rfl rfl (dk rfl rfl (deps_nil (wl_idx rfl rfl rfl elemI aggInt.size (zs.length-1) rfl (by omega) pz28 hpz28 (by decide) (pi_done rfl (Ext.refl _) rfl)))))
   · 
    exact fun _ e109=>dk rfl rfl (dk rfl rfl (deps_nil (wl_load rfl rfl (ldz28 _ e109 _ _ aggInt) (by decide) (pi_done rfl (Ext.refl _) rfl))))
   · 
    intro v120 e121
    have hw2:=hw1.trans e121
    refine dk rfl rfl (deps_nil (cl (vs:= [.int .i64 1]) hw2 (g_zint_Of hw2.size (by decide) (by decide)) rfl (by kernel_rfl) fun xr129 v127 r129 e128 hw3=>?_))
    obtain⟨s130,A130,n130,c130,rfl,z130⟩:=r129
    exact pi_done rfl e128 ⟨_,_,_,_,rfl,z130⟩
   · 
    intro v131 e132
    have hw2:=hw1.trans e132
    refine dk rfl rfl (dk rfl rfl (deps_cons rfl rfl fun x143 y144 h145 e146 f147=>?_))
    obtain⟨s148,A148,n148,c148,rfl,z148⟩:=h145
    have z148:=z148.ext f147
    refine deps_nil (cl (vs:= [.agg #[.bool sz28,.slice Bz28 nz28 cz28],.agg #[.bool s148,.slice A148 n148 c148]]) hw2 (g_zint_Cmp (zz28.ext e132).zi (zz28.le (lx_ Lz28 rfl)) z148.zi (z148.le (Nat.le_trans (show ln (1)≤1 by decide+kernel) (by decide)))) rfl (by kernel_rfl) fun xr151 v149 r151 e150 hw3=>?_)
    obtain rfl:=r151
    exact pi_done rfl e150 rfl
   · 
    exact fun _ _=>dk rfl rfl (dk rfl rfl (deps_nil (wl_cmp rfl rfl rfl false (scmp_le_f (hzl1 h13)) (by decide) (pi_done rfl (Ext.refl _) rfl))))
   · 
    exact fun _ _=>dk rfl rfl (dk rfl rfl (deps_nil (pu (v:= .bool false) rfl (by kernel_rfl) (pi_done rfl (Ext.refl _) rfl))))
   · 
    intro v176 e177
    have hw2:=hw1.trans e177
    refine dk rfl rfl (dk rfl rfl (dk rfl rfl (dk rfl rfl (dk rfl rfl (dk rfl rfl (dk rfl rfl (dk rfl rfl (dk rfl rfl (dk rfl rfl (deps_cons rfl rfl fun x228 y229 h230 e231 f232=>?_))))))))))
    obtain⟨s233,A233,n233,c233,rfl,z233⟩:=h230
    have z233:=z233.ext f232
    refine dk rfl rfl (dk rfl rfl (dk rfl rfl (deps_nil (wl_nil (eo_np (eo_then (cw_false rfl (cw_skip (eo_then (sr (lo aggFrac (b_1.ext e177) [.bool sa,.slice Aa na ca,.bool sd,.slice Ad nd cd] rfl rfl rfl (cl (vs:= [.agg #[.bool sa,.slice Aa na ca,.bool sd,.slice Ad nd cd]]) hw2 (g_fFloorZ hw2.size (hx.ext hw2) (lx_ la rfl) (hy.ext hw2) (lx_ ld rfl) h0) rfl (by kernel_rfl) fun xr251 v249 r251 e250 hw3=>?_))))))))))))
    obtain⟨_,_,rfl,⟨s253,A253,n253,c253,rfl,z253⟩,rfl⟩:=r251
    refine mv 1 rfl (pu (v:= .agg #[.bool s253,.slice A253 n253 c253]) rfl (by kernel_rfl) (pu (v:= .int .i64 0) rfl (by kernel_rfl) (wl_alloc rfl (z:= .agg #[F0,S0]) (vs:= [F0,S0]) (fun _=>by kernel_rfl) rfl (by decide) fun g254 v255 nb=>?_)))
    have hb257:=nb.bk
    have ge258:w.heap.size≤g254:=by rw [←nb.at_];exact hw3.size
    have q259:g1<g254:=by rw [←nb.at_];exact (b_1.ext (e177.trans e250)).lt
    have ne260:∀p,A16=some p→p.block≠g254:=fun p hp=>by have:=((hlz.ext (e177.trans e250))).block p hp;have:=nb.at_;omega
    have e256:=nb.ext
    clear nb
    have hw4:=hw3.trans e256
    refine so aggInt hb257 [.bool s253,.slice A253 n253 c253] hw4 ge258 rfl rfl rfl rfl fun v261 hb263 u264 hw5=>(mv 1 rfl (ne_ (sr (mv 1 rfl ?_))))
    obtain⟨ms,hzl,hms⟩:=Lz.zlN ((hlz.ext (e177.trans (e250.trans e256))).updT hb257 u264 ne260)
    refine cl (vs:= [.slice A16 zs.length c16]) hw5 (g_UnchainF hw5.size hzl (by omega) hms hnd (by omega) hfit hlow.pos) rfl (by kernel_rfl) fun xr268 v266 r268 e267 hw6=>?_
    obtain⟨_,_,rfl,⟨s270,A270,n270,c270,t270,B270,m270,d270,rfl,z270,y270⟩,rfl⟩:=r268
    refine mv 1 rfl (pu (v:= .agg #[.bool s270,.slice A270 n270 c270,.bool t270,.slice B270 m270 d270]) rfl (by kernel_rfl) (pu (v:= .int .i64 0) rfl (by kernel_rfl) (wl_alloc rfl (z:= .agg #[F0,S0,F0,S0]) (vs:= [F0,S0,F0,S0]) (fun _=>by kernel_rfl) rfl (by decide) fun g271 v272 nb=>?_)))
    have hb274:=nb.bk
    have ge275:w.heap.size≤g271:=by rw [←nb.at_];exact hw6.size
    have q276:g254<g271:=by rw [←nb.at_];exact (hb263.ext e267).lt
    have ne277:∀p,A16=some p→p.block≠g271:=fun p hp=>by have:=((((hlz.ext (e177.trans (e250.trans e256))).updT hb257 u264 ne260).ext e267)).block p hp;have:=nb.at_;omega
    have e273:=nb.ext
    clear nb
    have hw7:=hw6.trans e273
    refine so aggFrac hb274 [.bool s270,.slice A270 n270 c270,.bool t270,.slice B270 m270 d270] hw7 ge275 rfl rfl rfl rfl fun v278 hb280 u281 hw8=>(mv 1 rfl (ne_ (cw_seq ?_)))
    obtain⟨pz283,sz283,Bz283,nz283,cz283,hpz283,ldz283,hKz283,ez283⟩:=(((((hlz.ext (e177.trans (e250.trans e256))).updT hb257 u264 ne260).ext (e267.trans e273)).updT hb274 u281 ne277)).at (i:=0) (by omega)
    have zz283:=ez283.zr
    have Lz283:ln (zs.getD 0 0)≤1048579:=zz283.ln_le hKz283
    refine cw_draw mix 21 [] [Is (.int .i64 0),Is (.bool true),Is (.bool true),Is (.agg #[.bool s253,.slice A253 n253 c253]),Is (.slice A16 zs.length c16),Is (.pointer (some pz283)),Is (.agg #[.bool sz283,.slice Bz283 nz283 cz283]),Is (.bool true),Is (.bool true),Is (.bool true),Is (.int .i64 0),Is (.bool true),Is (.bool true),Is (.bool true),Is (.agg #[.bool s270,.slice A270 n270 c270,.bool t270,.slice B270 m270 d270]),Is (.pointer (some ⟨g1,0,none⟩)),Is (.agg #[.bool sa,.slice Aa na ca]),Is (.pointer (some ⟨g1,2,none⟩)),Is (.agg #[.bool sd,.slice Ad nd cd]),Is (.bool true),Is (.bool true)] [[],[0],[1],[2],[2],[2,4],[2,5],[2,3,6],[2,7],[8],[9],[9,10],[9,11],[12],[13],[13],[13,15],[13],[13,17],[13,14,16,18],[13,19]] [[],[0],[0,1],[0,1,2],[0,1,2],[0,1,2,4],[0,1,2,4,5],[0,1,2,3,4,5,6],[0,1,2,3,4,5,6,7],[0,1,2,3,4,5,6,7,8],[0,1,2,3,4,5,6,7,8,9],[0,1,2,3,4,5,6,7,8,9,10],[0,1,2,3,4,5,6,7,8,9,10,11],[0,1,2,3,4,5,6,7,8,9,10,11,12],[0,1,2,3,4,5,6,7,8,9,10,11,12,13],[0,1,2,3,4,5,6,7,8,9,10,11,12,13],[0,1,2,3,4,5,6,7,8,9,10,11,12,13,15],[0,1,2,3,4,5,6,7,8,9,10,11,12,13],[0,1,2,3,4,5,6,7,8,9,10,11,12,13,17],[0,1,2,3,4,5,6,7,8,9,10,11,12,13,14,15,16,17,18],[0,1,2,3,4,5,6,7,8,9,10,11,12,13,14,15,16,17,18,19],[0,1,2,3,4,5,6,7,8,9,10,11,12,13,14,15,16,17,18,19,20]] rfl
     (obs_cons rfl rfl (hob rfl rfl ?_) (obs_cons rfl rfl (hob rfl rfl ?_) (obs_cons rfl rfl (hob rfl rfl ?_) (obs_cons rfl rfl (hob rfl rfl ?_) (obs_cons rfl rfl (hob rfl rfl ?_) (obs_cons rfl rfl (hob rfl rfl ?_) (obs_cons rfl rfl (hob rfl rfl ?_) (obs_cons rfl rfl (hob rfl rfl ?_) (obs_cons rfl rfl (hob rfl rfl ?_) (obs_cons rfl rfl (hob rfl rfl ?_) (obs_cons rfl rfl (hob rfl rfl ?_) (obs_cons rfl rfl (hob rfl rfl ?_) (obs_cons rfl rfl (hob rfl rfl ?_) (obs_cons rfl rfl (hob rfl rfl ?_) (obs_cons rfl rfl (hob rfl rfl ?_) (obs_cons rfl rfl (hob rfl rfl ?_) (obs_cons rfl rfl (hob rfl rfl ?_) (obs_cons rfl rfl (hob rfl rfl ?_) (obs_cons rfl rfl (hob rfl rfl ?_) (obs_cons rfl rfl (hob rfl rfl ?_) (obs_cons rfl rfl (hob rfl rfl ?_) obs_nil))))))))))))))))))))) ?_
    · 
     exact fun _ _=>deps_nil (mv 1 rfl (pi_done rfl (Ext.refl _) rfl))
    · 
     exact fun _ _=>dk rfl rfl (deps_nil (wl_cmp rfl rfl rfl true (by decide) (by decide) (pi_done rfl (Ext.refl _) rfl)))
    · 
     exact fun _ _=>dk rfl rfl (deps_nil (mv 1 rfl (pi_done rfl (Ext.refl _) rfl)))
    · 
     exact fun _ e301=>dk rfl rfl (deps_nil (lo aggInt (((hb263.ext (e267.trans e273)).updN u281 (by omega)).ext e301) [.bool s253,.slice A253 n253 c253] rfl rfl rfl (pi_done rfl (Ext.refl _) rfl)))
    · 
     exact fun _ _=>dk rfl rfl (deps_nil (mv 1 rfl (pi_done rfl (Ext.refl _) rfl)))
    · 
     exact fun _ _=>dk rfl rfl (dk rfl rfl (deps_nil (wl_idx rfl rfl rfl elemI aggInt.size 0 rfl (by omega) pz283 hpz283 (by decide) (pi_done rfl (Ext.refl _) rfl))))
    · 
     exact fun _ e327=>dk rfl rfl (dk rfl rfl (deps_nil (wl_load rfl rfl (ldz283 _ e327 _ _ aggInt) (by decide) (pi_done rfl (Ext.refl _) rfl))))
    · 
     intro v338 e339
     have hw9:=hw8.trans e339
     refine dk rfl rfl (dk rfl rfl (dk rfl rfl (deps_nil (cl (vs:= [.agg #[.bool s253,.slice A253 n253 c253],.agg #[.bool sz283,.slice Bz283 nz283 cz283]]) hw9 (g_alikeF hz0.symm (((((z253.ext e256).updT hb257 u264).ext (e267.trans e273)).updT hb274 u281).ext e339) (z253.le (Nat.le_trans (ln_chQ h0 Lx (by decide)) (by decide))) (zz283.ext e339) (zz283.le (lx_ Lz283 rfl))) rfl (by kernel_rfl) fun xr357 v355 r357 e356 hw10=>?_))))
     obtain rfl:=r357
     exact pi_done rfl e356 rfl
    · 
     exact fun _ _=>dk rfl rfl (dk rfl rfl (deps_nil (pu (v:= .bool true) rfl (by kernel_rfl) (pi_done rfl (Ext.refl _) rfl))))
    · 
     exact fun _ _=>dk rfl rfl (deps_nil (mv 1 rfl (pi_done rfl (Ext.refl _) rfl)))
    · 
     exact fun _ _=>dk rfl rfl (deps_nil (mv 1 rfl (pi_done rfl (Ext.refl _) rfl)))
    · 
     exact fun _ _=>dk rfl rfl (dk rfl rfl (deps_nil (wl_cmp rfl rfl rfl true (by decide) (by decide) (pi_done rfl (Ext.refl _) rfl))))
    · 
     exact fun _ _=>dk rfl rfl (dk rfl rfl (deps_nil (pu (v:= .bool true) rfl (by kernel_rfl) (pi_done rfl (Ext.refl _) rfl))))
    · 
     exact fun _ _=>dk rfl rfl (deps_nil (mv 1 rfl (pi_done rfl (Ext.refl _) rfl)))
    · 
     exact fun _ e416=>dk rfl rfl (deps_nil (lo aggFrac (hb280.ext e416) [.bool s270,.slice A270 n270 c270,.bool t270,.slice B270 m270 d270] rfl rfl rfl (pi_done rfl (Ext.refl _) rfl)))
    · 
     exact fun _ _=>dk rfl rfl (deps_nil (pf g1 0 rfl (by kernel_rfl) (pi_done rfl (Ext.refl _) rfl)))
    · 
     exact fun _ e430=>dk rfl rfl (dk rfl rfl (deps_nil (lo aggInt (((((b_1.ext (e177.trans (e250.trans e256))).updN u264 (by omega)).ext (e267.trans e273)).updN u281 (by omega)).ext e430) [.bool sa,.slice Aa na ca] rfl rfl rfl (pi_done rfl (Ext.refl _) rfl))))
    · 
     exact fun _ _=>dk rfl rfl (deps_nil (pf g1 2 rfl (by kernel_rfl) (pi_done rfl (Ext.refl _) rfl)))
    · 
     exact fun _ e449=>dk rfl rfl (dk rfl rfl (deps_nil (lo aggInt (((((b_1.ext (e177.trans (e250.trans e256))).updN u264 (by omega)).ext (e267.trans e273)).updN u281 (by omega)).ext e449) [.bool sd,.slice Ad nd cd] rfl rfl rfl (pi_done rfl (Ext.refl _) rfl))))
    · 
     intro v460 e461
     have hw9:=hw8.trans e461
     refine dk rfl rfl (dk rfl rfl (dk rfl rfl (dk rfl rfl (deps_nil (cl (vs:= [.agg #[.bool s270,.slice A270 n270 c270,.bool t270,.slice B270 m270 d270],.agg #[.bool sa,.slice Aa na ca],.agg #[.bool sd,.slice Ad nd cd]]) hw9 (g_law8_names (((z270.ext e273).updT hb274 u281).ext e461) (z270.le (Nat.le_trans (hnd 0).1 (by decide))) (((y270.ext e273).updT hb274 u281).ext e461) (y270.le (Nat.le_trans (hnd 0).2 (by decide))) (hx.ext hw9) (lx_ la rfl) (hy.ext hw9) (lx_ ld rfl) hlow) rfl (by kernel_rfl) fun xr484 v482 r484 e483 hw10=>?_)))))
     obtain rfl:=r484
     exact pi_done rfl e483 rfl
    · 
     exact fun _ _=>dk rfl rfl (dk rfl rfl (deps_nil (pu (v:= .bool true) rfl (by kernel_rfl) (pi_done rfl (Ext.refl _) rfl))))
    · 
     intro v497 e498
     have hw9:=hw8.trans e498
     refine dk rfl rfl (dk rfl rfl (dk rfl rfl (dk rfl rfl (dk rfl rfl (dk rfl rfl (dk rfl rfl (dk rfl rfl (dk rfl rfl (dk rfl rfl (dk rfl rfl (dk rfl rfl (dk rfl rfl (dk rfl rfl ?_)))))))))))))
     refine dk rfl rfl (dk rfl rfl (dk rfl rfl (dk rfl rfl (dk rfl rfl (dk rfl rfl (dk rfl rfl (deps_nil (mv 1 rfl (wl_nil (eo_np (eo_then (cw_ret (eo_ret [.bool true] rfl ⟨rfl,trivial⟩ ?_)))))))))))))
     exact⟨_,rfl,rfl,hw9⟩
  · 
   refine cw_draw mix 14 [] [Is (.slice A16 zs.length c16),Is (.int .i64 ((zs.length:Nat):Int)),Is (.bool false),Is (.bool false),Is (undef),Is (undef),Is (undef),Is (undef),Is (undef),Is (undef),Is (undef),Is (undef),Is (undef),Is (.bool false)] [[],[0],[1],[2],[3],[3],[3,5],[3,6],[3,4,7],[3,8],[3],[3,9,10],[3,11],[3,12]] [[],[0],[0,1],[0,1,2],[0,1,2,3],[0,1,2,3],[0,1,2,3,5],[0,1,2,3,5,6],[0,1,2,3,4,5,6,7],[0,1,2,3,4,5,6,7,8],[0,1,2,3],[0,1,2,3,4,5,6,7,8,9,10],[0,1,2,3,4,5,6,7,8,9,10,11],[0,1,2,3,4,5,6,7,8,9,10,11,12]] rfl
    (obs_cons rfl rfl (hob rfl rfl ?_) (obs_cons rfl rfl (hob rfl rfl ?_) (obs_cons rfl rfl (hob rfl rfl ?_) (obs_cons rfl rfl (hob rfl rfl ?_) (obs_cons rfl rfl (hob rfl rfl ?_) (obs_cons rfl rfl (hob rfl rfl ?_) (obs_cons rfl rfl (hob rfl rfl ?_) (obs_cons rfl rfl (hob rfl rfl ?_) (obs_cons rfl rfl (hob rfl rfl ?_) (obs_cons rfl rfl (hob rfl rfl ?_) (obs_cons rfl rfl (hob rfl rfl ?_) (obs_cons rfl rfl (hob rfl rfl ?_) (obs_cons rfl rfl (hob rfl rfl ?_) (obs_cons rfl rfl (hob rfl rfl ?_) obs_nil)))))))))))))) ?_
   · 
    exact fun _ _=>deps_nil (mv 1 rfl (pi_done rfl (Ext.refl _) rfl))
   · 
    exact fun _ _=>dk rfl rfl (deps_nil (pu (v:= .int .i64 ((zs.length:Nat):Int)) rfl (by kernel_rfl) (pi_done rfl (Ext.refl _) rfl)))
   · 
    exact fun _ _=>dk rfl rfl (deps_nil (wl_cmp rfl rfl rfl false (cb_gt_f (a:=zs.length) (b:=1) rfl rfl (by omega)) (by decide) (pi_done rfl (Ext.refl _) rfl)))
   · 
    exact fun _ _=>dk rfl rfl (deps_nil (mv 1 rfl (pi_done rfl (Ext.refl _) rfl)))
   · 
    exact fun _ _=>dk rfl rfl (deps_nil (mv 1 rfl (pi_done rfl (Ext.refl _) rfl)))
   · 
    exact fun _ _=>dk rfl rfl (deps_nil (mv 1 rfl (pi_done rfl (Ext.refl _) rfl)))
   · 
    exact fun _ _=>dk rfl rfl (dk rfl rfl (deps_nil (mv 1 rfl (pi_done rfl (Ext.refl _) rfl))))
   · 
    exact fun _ _=>dk rfl rfl (dk rfl rfl (deps_nil (mv 1 rfl (pi_done rfl (Ext.refl _) rfl))))
   · 
    exact fun _ _=>dk rfl rfl (dk rfl rfl (dk rfl rfl (deps_nil (mv 1 rfl (pi_done rfl (Ext.refl _) rfl)))))
   · 
    exact fun _ _=>dk rfl rfl (dk rfl rfl (deps_nil (mv 1 rfl (pi_done rfl (Ext.refl _) rfl))))
   · 
    exact fun _ _=>dk rfl rfl (deps_nil (mv 1 rfl (pi_done rfl (Ext.refl _) rfl)))
   · 
    exact fun _ _=>dk rfl rfl (dk rfl rfl (dk rfl rfl (deps_nil (mv 1 rfl (pi_done rfl (Ext.refl _) rfl)))))
   · 
    exact fun _ _=>dk rfl rfl (dk rfl rfl (deps_nil (mv 1 rfl (pi_done rfl (Ext.refl _) rfl))))
   · 
    exact fun _ _=>dk rfl rfl (dk rfl rfl (deps_nil (pu (v:= .bool false) rfl (by kernel_rfl) (pi_done rfl (Ext.refl _) rfl))))
   · 
    intro v742 e743
    have hw2:=hw1.trans e743
    refine dk rfl rfl (dk rfl rfl (dk rfl rfl (dk rfl rfl (dk rfl rfl (dk rfl rfl (dk rfl rfl (dk rfl rfl (dk rfl rfl (dk rfl rfl (dk rfl rfl (dk rfl rfl (dk rfl rfl (dk rfl rfl ?_)))))))))))))
    refine deps_nil (wl_nil (eo_np (eo_then (cw_false rfl (cw_skip (eo_then (sr (lo aggFrac (b_1.ext e743) [.bool sa,.slice Aa na ca,.bool sd,.slice Ad nd cd] rfl rfl rfl (cl (vs:= [.agg #[.bool sa,.slice Aa na ca,.bool sd,.slice Ad nd cd]]) hw2 (g_fFloorZ hw2.size (hx.ext hw2) (lx_ la rfl) (hy.ext hw2) (lx_ ld rfl) h0) rfl (by kernel_rfl) fun xr816 v814 r816 e815 hw3=>?_)))))))))
    obtain⟨_,_,rfl,⟨s818,A818,n818,c818,rfl,z818⟩,rfl⟩:=r816
    refine mv 1 rfl (pu (v:= .agg #[.bool s818,.slice A818 n818 c818]) rfl (by kernel_rfl) (pu (v:= .int .i64 0) rfl (by kernel_rfl) (wl_alloc rfl (z:= .agg #[F0,S0]) (vs:= [F0,S0]) (fun _=>by kernel_rfl) rfl (by decide) fun g819 v820 nb=>?_)))
    have hb822:=nb.bk
    have ge823:w.heap.size≤g819:=by rw [←nb.at_];exact hw3.size
    have q824:g1<g819:=by rw [←nb.at_];exact (b_1.ext (e743.trans e815)).lt
    have ne825:∀p,A16=some p→p.block≠g819:=fun p hp=>by have:=((hlz.ext (e743.trans e815))).block p hp;have:=nb.at_;omega
    have e821:=nb.ext
    clear nb
    have hw4:=hw3.trans e821
    refine so aggInt hb822 [.bool s818,.slice A818 n818 c818] hw4 ge823 rfl rfl rfl rfl fun v826 hb828 u829 hw5=>(mv 1 rfl (ne_ (sr (mv 1 rfl ?_))))
    obtain⟨ms,hzl,hms⟩:=Lz.zlN ((hlz.ext (e743.trans (e815.trans e821))).updT hb822 u829 ne825)
    refine cl (vs:= [.slice A16 zs.length c16]) hw5 (g_UnchainF hw5.size hzl (by omega) hms hnd (by omega) hfit hlow.pos) rfl (by kernel_rfl) fun xr833 v831 r833 e832 hw6=>?_
    obtain⟨_,_,rfl,⟨s835,A835,n835,c835,t835,B835,m835,d835,rfl,z835,y835⟩,rfl⟩:=r833
    refine mv 1 rfl (pu (v:= .agg #[.bool s835,.slice A835 n835 c835,.bool t835,.slice B835 m835 d835]) rfl (by kernel_rfl) (pu (v:= .int .i64 0) rfl (by kernel_rfl) (wl_alloc rfl (z:= .agg #[F0,S0,F0,S0]) (vs:= [F0,S0,F0,S0]) (fun _=>by kernel_rfl) rfl (by decide) fun g836 v837 nb=>?_)))
    have hb839:=nb.bk
    have ge840:w.heap.size≤g836:=by rw [←nb.at_];exact hw6.size
    have q841:g819<g836:=by rw [←nb.at_];exact (hb828.ext e832).lt
    have ne842:∀p,A16=some p→p.block≠g836:=fun p hp=>by have:=((((hlz.ext (e743.trans (e815.trans e821))).updT hb822 u829 ne825).ext e832)).block p hp;have:=nb.at_;omega
    have e838:=nb.ext
    clear nb
    have hw7:=hw6.trans e838
    refine so aggFrac hb839 [.bool s835,.slice A835 n835 c835,.bool t835,.slice B835 m835 d835] hw7 ge840 rfl rfl rfl rfl fun v843 hb845 u846 hw8=>(mv 1 rfl (ne_ (cw_seq ?_)))
    obtain⟨pz848,sz848,Bz848,nz848,cz848,hpz848,ldz848,hKz848,ez848⟩:=(((((hlz.ext (e743.trans (e815.trans e821))).updT hb822 u829 ne825).ext (e832.trans e838)).updT hb839 u846 ne842)).at (i:=0) (by omega)
    have zz848:=ez848.zr
    have Lz848:ln (zs.getD 0 0)≤1048579:=zz848.ln_le hKz848
    refine cw_draw mix 21 [] [Is (.int .i64 0),Is (.bool true),Is (.bool true),Is (.agg #[.bool s818,.slice A818 n818 c818]),Is (.slice A16 zs.length c16),Is (.pointer (some pz848)),Is (.agg #[.bool sz848,.slice Bz848 nz848 cz848]),Is (.bool true),Is (.bool true),Is (.bool true),Is (.int .i64 0),Is (.bool true),Is (.bool true),Is (.bool true),Is (.agg #[.bool s835,.slice A835 n835 c835,.bool t835,.slice B835 m835 d835]),Is (.pointer (some ⟨g1,0,none⟩)),Is (.agg #[.bool sa,.slice Aa na ca]),Is (.pointer (some ⟨g1,2,none⟩)),Is (.agg #[.bool sd,.slice Ad nd cd]),Is (.bool true),Is (.bool true)] [[],[0],[1],[2],[2],[2,4],[2,5],[2,3,6],[2,7],[8],[9],[9,10],[9,11],[12],[13],[13],[13,15],[13],[13,17],[13,14,16,18],[13,19]] [[],[0],[0,1],[0,1,2],[0,1,2],[0,1,2,4],[0,1,2,4,5],[0,1,2,3,4,5,6],[0,1,2,3,4,5,6,7],[0,1,2,3,4,5,6,7,8],[0,1,2,3,4,5,6,7,8,9],[0,1,2,3,4,5,6,7,8,9,10],[0,1,2,3,4,5,6,7,8,9,10,11],[0,1,2,3,4,5,6,7,8,9,10,11,12],[0,1,2,3,4,5,6,7,8,9,10,11,12,13],[0,1,2,3,4,5,6,7,8,9,10,11,12,13],[0,1,2,3,4,5,6,7,8,9,10,11,12,13,15],[0,1,2,3,4,5,6,7,8,9,10,11,12,13],[0,1,2,3,4,5,6,7,8,9,10,11,12,13,17],[0,1,2,3,4,5,6,7,8,9,10,11,12,13,14,15,16,17,18],[0,1,2,3,4,5,6,7,8,9,10,11,12,13,14,15,16,17,18,19],[0,1,2,3,4,5,6,7,8,9,10,11,12,13,14,15,16,17,18,19,20]] rfl
     (obs_cons rfl rfl (hob rfl rfl ?_) (obs_cons rfl rfl (hob rfl rfl ?_) (obs_cons rfl rfl (hob rfl rfl ?_) (obs_cons rfl rfl (hob rfl rfl ?_) (obs_cons rfl rfl (hob rfl rfl ?_) (obs_cons rfl rfl (hob rfl rfl ?_) (obs_cons rfl rfl (hob rfl rfl ?_) (obs_cons rfl rfl (hob rfl rfl ?_) (obs_cons rfl rfl (hob rfl rfl ?_) (obs_cons rfl rfl (hob rfl rfl ?_) (obs_cons rfl rfl (hob rfl rfl ?_) (obs_cons rfl rfl (hob rfl rfl ?_) (obs_cons rfl rfl (hob rfl rfl ?_) (obs_cons rfl rfl (hob rfl rfl ?_) (obs_cons rfl rfl (hob rfl rfl ?_) (obs_cons rfl rfl (hob rfl rfl ?_) (obs_cons rfl rfl (hob rfl rfl ?_) (obs_cons rfl rfl (hob rfl rfl ?_) (obs_cons rfl rfl (hob rfl rfl ?_) (obs_cons rfl rfl (hob rfl rfl ?_) (obs_cons rfl rfl (hob rfl rfl ?_) obs_nil))))))))))))))))))))) ?_
    · 
     exact fun _ _=>deps_nil (mv 1 rfl (pi_done rfl (Ext.refl _) rfl))
    · 
     exact fun _ _=>dk rfl rfl (deps_nil (wl_cmp rfl rfl rfl true (by decide) (by decide) (pi_done rfl (Ext.refl _) rfl)))
    · 
     exact fun _ _=>dk rfl rfl (deps_nil (mv 1 rfl (pi_done rfl (Ext.refl _) rfl)))
    · 
     exact fun _ e866=>dk rfl rfl (deps_nil (lo aggInt (((hb828.ext (e832.trans e838)).updN u846 (by omega)).ext e866) [.bool s818,.slice A818 n818 c818] rfl rfl rfl (pi_done rfl (Ext.refl _) rfl)))
    · 
     exact fun _ _=>dk rfl rfl (deps_nil (mv 1 rfl (pi_done rfl (Ext.refl _) rfl)))
    · 
     exact fun _ _=>dk rfl rfl (dk rfl rfl (deps_nil (wl_idx rfl rfl rfl elemI aggInt.size 0 rfl (by omega) pz848 hpz848 (by decide) (pi_done rfl (Ext.refl _) rfl))))
    · 
     exact fun _ e892=>dk rfl rfl (dk rfl rfl (deps_nil (wl_load rfl rfl (ldz848 _ e892 _ _ aggInt) (by decide) (pi_done rfl (Ext.refl _) rfl))))
    · 
     intro v903 e904
     have hw9:=hw8.trans e904
     refine dk rfl rfl (dk rfl rfl (dk rfl rfl (deps_nil (cl (vs:= [.agg #[.bool s818,.slice A818 n818 c818],.agg #[.bool sz848,.slice Bz848 nz848 cz848]]) hw9 (g_alikeF hz0.symm (((((z818.ext e821).updT hb822 u829).ext (e832.trans e838)).updT hb839 u846).ext e904) (z818.le (Nat.le_trans (ln_chQ h0 Lx (by decide)) (by decide))) (zz848.ext e904) (zz848.le (lx_ Lz848 rfl))) rfl (by kernel_rfl) fun xr922 v920 r922 e921 hw10=>?_))))
     obtain rfl:=r922
     exact pi_done rfl e921 rfl
    · 
     exact fun _ _=>dk rfl rfl (dk rfl rfl (deps_nil (pu (v:= .bool true) rfl (by kernel_rfl) (pi_done rfl (Ext.refl _) rfl))))
    · 
     exact fun _ _=>dk rfl rfl (deps_nil (mv 1 rfl (pi_done rfl (Ext.refl _) rfl)))
    · 
     exact fun _ _=>dk rfl rfl (deps_nil (mv 1 rfl (pi_done rfl (Ext.refl _) rfl)))
    · 
     exact fun _ _=>dk rfl rfl (dk rfl rfl (deps_nil (wl_cmp rfl rfl rfl true (by decide) (by decide) (pi_done rfl (Ext.refl _) rfl))))
    · 
     exact fun _ _=>dk rfl rfl (dk rfl rfl (deps_nil (pu (v:= .bool true) rfl (by kernel_rfl) (pi_done rfl (Ext.refl _) rfl))))
    · 
     exact fun _ _=>dk rfl rfl (deps_nil (mv 1 rfl (pi_done rfl (Ext.refl _) rfl)))
    · 
     exact fun _ e981=>dk rfl rfl (deps_nil (lo aggFrac (hb845.ext e981) [.bool s835,.slice A835 n835 c835,.bool t835,.slice B835 m835 d835] rfl rfl rfl (pi_done rfl (Ext.refl _) rfl)))
    · 
     exact fun _ _=>dk rfl rfl (deps_nil (pf g1 0 rfl (by kernel_rfl) (pi_done rfl (Ext.refl _) rfl)))
    · 
     exact fun _ e995=>dk rfl rfl (dk rfl rfl (deps_nil (lo aggInt (((((b_1.ext (e743.trans (e815.trans e821))).updN u829 (by omega)).ext (e832.trans e838)).updN u846 (by omega)).ext e995) [.bool sa,.slice Aa na ca] rfl rfl rfl (pi_done rfl (Ext.refl _) rfl))))
    · 
     exact fun _ _=>dk rfl rfl (deps_nil (pf g1 2 rfl (by kernel_rfl) (pi_done rfl (Ext.refl _) rfl)))
    · 
     exact fun _ e1014=>dk rfl rfl (dk rfl rfl (deps_nil (lo aggInt (((((b_1.ext (e743.trans (e815.trans e821))).updN u829 (by omega)).ext (e832.trans e838)).updN u846 (by omega)).ext e1014) [.bool sd,.slice Ad nd cd] rfl rfl rfl (pi_done rfl (Ext.refl _) rfl))))
    · 
     intro v1025 e1026
     have hw9:=hw8.trans e1026
     refine dk rfl rfl (dk rfl rfl (dk rfl rfl (dk rfl rfl (deps_nil (cl (vs:= [.agg #[.bool s835,.slice A835 n835 c835,.bool t835,.slice B835 m835 d835],.agg #[.bool sa,.slice Aa na ca],.agg #[.bool sd,.slice Ad nd cd]]) hw9 (g_law8_names (((z835.ext e838).updT hb839 u846).ext e1026) (z835.le (Nat.le_trans (hnd 0).1 (by decide))) (((y835.ext e838).updT hb839 u846).ext e1026) (y835.le (Nat.le_trans (hnd 0).2 (by decide))) (hx.ext hw9) (lx_ la rfl) (hy.ext hw9) (lx_ ld rfl) hlow) rfl (by kernel_rfl) fun xr1049 v1047 r1049 e1048 hw10=>?_)))))
     obtain rfl:=r1049
     exact pi_done rfl e1048 rfl
    · 
     exact fun _ _=>dk rfl rfl (dk rfl rfl (deps_nil (pu (v:= .bool true) rfl (by kernel_rfl) (pi_done rfl (Ext.refl _) rfl))))
    · 
     intro v1062 e1063
     have hw9:=hw8.trans e1063
     refine dk rfl rfl (dk rfl rfl (dk rfl rfl (dk rfl rfl (dk rfl rfl (dk rfl rfl (dk rfl rfl (dk rfl rfl (dk rfl rfl (dk rfl rfl (dk rfl rfl (dk rfl rfl (dk rfl rfl (dk rfl rfl ?_)))))))))))))
     refine dk rfl rfl (dk rfl rfl (dk rfl rfl (dk rfl rfl (dk rfl rfl (dk rfl rfl (dk rfl rfl (deps_nil (mv 1 rfl (wl_nil (eo_np (eo_then (cw_ret (eo_ret [.bool true] rfl ⟨rfl,trivial⟩ ?_)))))))))))))
     exact⟨_,rfl,rfl,hw9⟩
theorem law_FracBack {w:World}{sa:Bool}{Aa:Option Addr}{na ca:Nat}{x:Int}{sd:Bool}{Ad:Option Addr}{nd cd:Nat}{y:Int}(hx:Zi w sa Aa na ca x) (la:na≤1048576) (hy:Zi w sd Ad nd cd y) (ld:nd≤1048576) (hS:Signs w):Calls Tryd.prog 3 #[.agg #[.bool sa,.slice Aa na ca,.bool sd,.slice Ad nd cd]] w (BoolP true w):=by
 by_cases h0:y=0
 ·exact (law_FracBack_bad hx la hy ld h0).mono bool_of
 ·exact (law_FracBack_good hx la hy ld hS h0).mono bool_of
end Go.Proofs.YtipklngcpmkfhaaDoor
