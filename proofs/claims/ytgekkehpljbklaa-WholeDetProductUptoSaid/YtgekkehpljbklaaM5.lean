/- Parts Dpr, LawD, joined. -/
import Derived.Test.YtgekkehpljbklaaM4

namespace Go.Proofs.Ytgekkehpljbklaa
open Go.RowKit
theorem ln_dtB {n:Nat}{X:Mx}(hn:n≤64) (hX:∀i j,i<n→j<n→ln (X i j)≤1048576):ln (dt n X)≤134217728:=Nat.le_trans (ln_dt n X hX) (by have:=Nat.mul_le_mul (show n≤64 by omega) (show 1048576+n≤1048640 by omega);omega)
theorem hallm {w:World}{A:Option Addr}{m n:Nat}{ss:List Stp}{ms:List Nat}(hS:Sl w A m ss ms) (h:∀i,i<m→(ss.getD i Stp.z).fit n):∀s∈ss,s.fit n:=fun s hs=>by
 obtain⟨i,hi,rfl⟩:=List.getElem_of_mem hs
 have:=h i (by rw [←hS.len];exact hi)
 rwa [List.getD_eq_getElem?_getD,List.getElem?_eq_getElem hi] at this
set_option maxHeartbeats 4000000 in
set_option maxRecDepth 20000 in
theorem g_top_WholeDetProduct_bad {w:World}{R C:Int}{Aa:Option Addr}{na capa:Nat}{xs:List Int}(hxa:ZF w Aa na capa 1048576 xs){Ay:Option Addr}{ny capy:Nat}{ys:List Int}(hxy:ZF w Ay ny capy 1048576 ys){As:Option Addr}{m caps:Nat}{ss:List Stp}{ms:List Nat}(_hS:Sl w As m ss ms) (_hM:∀i,ms.getD i 0≤1048576) (_hm:m≤1048576) (hna1:na≤1048576) (_hny1:ny≤1048576) (hs:¬Snd R C na){Ry Cy:Int}:
    Calls Try.prog 4 #[.agg #[.int .i64 R,.int .i64 C,.slice Aa na capa],.agg #[.int .i64 Ry,.int .i64 Cy,.slice Ay ny capy],.slice As m caps] w (Gv w (Is (.bool true))):=by
 have hlb:w.heap.size≤w.heap.size:=Nat.le_refl _
 have hxa0:=hxa
 have hxy0:=hxy
 obtain⟨msa,hla,hma⟩:=hxa
 obtain⟨msy,hly,hmy⟩:=hxy
 refine sx_enter Try.func4 rfl (n:=161) rfl (bq rfl) (args:= [.agg #[.int .i64 R,.int .i64 C,.slice Aa na capa],.agg #[.int .i64 Ry,.int .i64 Cy,.slice Ay ny capy],.slice As m caps]) (cw_keep [(0,.agg #[.int .i64 R,.int .i64 C,.slice Aa na capa]),(1,.agg #[.int .i64 Ry,.int .i64 Cy,.slice Ay ny capy]),(2,.slice As m caps)] ⟨rfl,rfl,rfl,trivial⟩ (sr (bx [.int .i64 R,.int .i64 C,.slice Aa na capa] (Ext.refl w) rfl rfl rfl fun g1 v2 hb4 ge5 e3 hw1=>(bxq [.int .i64 Ry,.int .i64 Cy,.slice Ay ny capy] hw1 hb4.lt rfl rfl rfl fun g6 v7 hb9 ge10 q11 e8 hw2=>(mv 1 rfl (ne_ (cw_seq (sr (wl_call rfl rfl (vs:= []) (by kernel_rfl) (by decide) g_top_detWakes ?_)))))))))
 rintro _ v12 ⟨xr14,rfl,r14,e13⟩
 refine ret_intro ?_
 have hw3:=hw2.trans e13
 obtain rfl:=r14
 refine pu (v:= .bool false) rfl (by kernel_rfl) (ne_ (cw_false rfl (cw_skip (eo_then (sr (lo aggMat (hb4.ext (e8.trans e13)) [.int .i64 R,.int .i64 C,.slice Aa na capa] rfl rfl rfl ?_))))))
 obtain⟨lb15,hlb15,hlelb15,hgl15,hq15_0,hq15_1⟩:∃lb,lb≤v12.heap.size∧v12.heap.size≤lb∧w.heap.size≤lb∧g1<lb∧g6<lb:=⟨v12.heap.size,Nat.le_refl _,Nat.le_refl _,hw3.size,(hb4.ext (e8.trans e13)).lt,(hb9.ext e13).lt⟩
 refine cl (vs:= [.agg #[.int .i64 R,.int .i64 C,.slice Aa na capa]]) hw3 (g_top_copyMat (w0:=w) hw3.size hlb15 hw3 ((show ZF w _ _ _ _ _ from⟨msa,hla,hma⟩).ext hw3) (by omega)) rfl (by kernel_rfl) fun xr18 v16 r18 e17 hw4=>?_
 obtain⟨lv19,rfl,⟨LA20,lc20,rfl,lz20⟩⟩:=r18
 have blk21:=lz20.block
 refine cl (vs:= [.agg #[.int .i64 R,.int .i64 C,.slice LA20 na lc20]]) hw4 (g_brs_Det_bad hw4.size hs) rfl (by kernel_rfl) fun xr24 v22 r24 e23 hw5=>?_
 obtain⟨_,_,rfl,⟨s26,A26,n26,c26,rfl,z26⟩,rfl⟩:=r24
 refine mv 1 rfl (pu (v:= .agg #[.bool s26,.slice A26 n26 c26]) rfl (by kernel_rfl) (pu (v:= .int .i64 1) rfl (by kernel_rfl) (wl_alloc rfl (z:= .agg #[F0,S0]) (vs:= [F0,S0]) (fun _=>by kernel_rfl) rfl (by decide) fun g27 v28 nb=>?_)))
 have hb30:=nb.bk
 have ge31:w.heap.size≤g27:=by rw [←nb.at_];exact hw5.size
 have q32:g6<g27:=by rw [←nb.at_];exact (hb9.ext (e13.trans (e17.trans e23))).lt
 have ne33:∀p:Addr,LA20=some p→p.block≠g27:=fun p hp=>by have:=((lz20.ext e23)).block p hp;have:=nb.at_;omega
 have e29:=nb.ext
 clear nb
 have hw6:=hw5.trans e29
 refine so aggInt hb30 [.bool s26,.slice A26 n26 c26] hw6 ge31 rfl rfl rfl rfl fun v34 hb36 u37 hw7=>(mv 1 rfl (ne_ (cw_seq (sr (lo aggMat ((hb4.ext (e8.trans (e13.trans (e17.trans (e23.trans e29))))).updN u37 (by omega)) [.int .i64 R,.int .i64 C,.slice Aa na capa] rfl rfl rfl (cl (vs:= [.agg #[.int .i64 R,.int .i64 C,.slice Aa na capa]]) hw7 (g_top_sound_f hs) rfl (by kernel_rfl) fun xr41 v39 r41 e40 hw8=>?_))))))
 obtain rfl:=r41
 refine pu (v:= .bool true) rfl (by kernel_rfl) (mv 6 rfl (pu (v:= .bool true) rfl (by kernel_rfl) (ne_ (cw_true rfl (sr (mv 1 rfl (wl_cmp rfl rfl rfl true (by decide) (by decide) (mv 3 rfl (pu (v:= .bool true) rfl (by kernel_rfl) (mv 1 rfl (ne_ (cw_ret (eo_thenR ?_)))))))))))))
 refine eo_ret [.bool true] rfl ⟨rfl,trivial⟩ ?_
 exact⟨_,rfl,rfl,hw8⟩
set_option maxHeartbeats 4000000 in
set_option maxRecDepth 20000 in
theorem g_top_WholeDetProduct_unfit {w:World}{R C:Int}{Aa:Option Addr}{na capa:Nat}{xs:List Int}(hxa:ZF w Aa na capa 1048576 xs){Ay:Option Addr}{ny capy:Nat}{ys:List Int}(hxy:ZF w Ay ny capy 1048576 ys){As:Option Addr}{m caps:Nat}{ss:List Stp}{ms:List Nat}(_hS:Sl w As m ss ms) (_hM:∀i,ms.getD i 0≤1048576) (_hm:m≤1048576) (hna1:na≤1048576) (_hny1:ny≤1048576) (hs:Snd R C na) (hRC:R≠C){Ry Cy:Int}:
    Calls Try.prog 4 #[.agg #[.int .i64 R,.int .i64 C,.slice Aa na capa],.agg #[.int .i64 Ry,.int .i64 Cy,.slice Ay ny capy],.slice As m caps] w (Gv w (Is (.bool true))):=by
 have hlb:w.heap.size≤w.heap.size:=Nat.le_refl _
 have hxa0:=hxa
 have hxy0:=hxy
 obtain⟨msa,hla,hma⟩:=hxa
 obtain⟨msy,hly,hmy⟩:=hxy
 refine sx_enter Try.func4 rfl (n:=161) rfl (bq rfl) (args:= [.agg #[.int .i64 R,.int .i64 C,.slice Aa na capa],.agg #[.int .i64 Ry,.int .i64 Cy,.slice Ay ny capy],.slice As m caps]) (cw_keep [(0,.agg #[.int .i64 R,.int .i64 C,.slice Aa na capa]),(1,.agg #[.int .i64 Ry,.int .i64 Cy,.slice Ay ny capy]),(2,.slice As m caps)] ⟨rfl,rfl,rfl,trivial⟩ (sr (bx [.int .i64 R,.int .i64 C,.slice Aa na capa] (Ext.refl w) rfl rfl rfl fun g1 v2 hb4 ge5 e3 hw1=>(bxq [.int .i64 Ry,.int .i64 Cy,.slice Ay ny capy] hw1 hb4.lt rfl rfl rfl fun g6 v7 hb9 ge10 q11 e8 hw2=>(mv 1 rfl (ne_ (cw_seq (sr (wl_call rfl rfl (vs:= []) (by kernel_rfl) (by decide) g_top_detWakes ?_)))))))))
 rintro _ v12 ⟨xr14,rfl,r14,e13⟩
 refine ret_intro ?_
 have hw3:=hw2.trans e13
 obtain rfl:=r14
 refine pu (v:= .bool false) rfl (by kernel_rfl) (ne_ (cw_false rfl (cw_skip (eo_then (sr (lo aggMat (hb4.ext (e8.trans e13)) [.int .i64 R,.int .i64 C,.slice Aa na capa] rfl rfl rfl ?_))))))
 obtain⟨lb15,hlb15,hlelb15,hgl15,hq15_0,hq15_1⟩:∃lb,lb≤v12.heap.size∧v12.heap.size≤lb∧w.heap.size≤lb∧g1<lb∧g6<lb:=⟨v12.heap.size,Nat.le_refl _,Nat.le_refl _,hw3.size,(hb4.ext (e8.trans e13)).lt,(hb9.ext e13).lt⟩
 refine cl (vs:= [.agg #[.int .i64 R,.int .i64 C,.slice Aa na capa]]) hw3 (g_top_copyMat (w0:=w) hw3.size hlb15 hw3 ((show ZF w _ _ _ _ _ from⟨msa,hla,hma⟩).ext hw3) (by omega)) rfl (by kernel_rfl) fun xr18 v16 r18 e17 hw4=>?_
 obtain⟨lv19,rfl,⟨LA20,lc20,rfl,lz20⟩⟩:=r18
 have blk21:=lz20.block
 refine cl (vs:= [.agg #[.int .i64 R,.int .i64 C,.slice LA20 na lc20]]) hw4 (g_brs_Det_unfit hw4.size hs hRC) rfl (by kernel_rfl) fun xr24 v22 r24 e23 hw5=>?_
 obtain⟨_,_,rfl,⟨s26,A26,n26,c26,rfl,z26⟩,rfl⟩:=r24
 refine mv 1 rfl (pu (v:= .agg #[.bool s26,.slice A26 n26 c26]) rfl (by kernel_rfl) (pu (v:= .int .i64 2) rfl (by kernel_rfl) (wl_alloc rfl (z:= .agg #[F0,S0]) (vs:= [F0,S0]) (fun _=>by kernel_rfl) rfl (by decide) fun g27 v28 nb=>?_)))
 have hb30:=nb.bk
 have ge31:w.heap.size≤g27:=by rw [←nb.at_];exact hw5.size
 have q32:g6<g27:=by rw [←nb.at_];exact (hb9.ext (e13.trans (e17.trans e23))).lt
 have ne33:∀p:Addr,LA20=some p→p.block≠g27:=fun p hp=>by have:=((lz20.ext e23)).block p hp;have:=nb.at_;omega
 have e29:=nb.ext
 clear nb
 have hw6:=hw5.trans e29
 refine so aggInt hb30 [.bool s26,.slice A26 n26 c26] hw6 ge31 rfl rfl rfl rfl fun v34 hb36 u37 hw7=>(mv 1 rfl (ne_ (cw_seq (sr (lo aggMat ((hb4.ext (e8.trans (e13.trans (e17.trans (e23.trans e29))))).updN u37 (by omega)) [.int .i64 R,.int .i64 C,.slice Aa na capa] rfl rfl rfl (cl (vs:= [.agg #[.int .i64 R,.int .i64 C,.slice Aa na capa]]) hw7 (g_top_sound_t hs) rfl (by kernel_rfl) fun xr41 v39 r41 e40 hw8=>?_))))))
 obtain rfl:=r41
 refine pu (v:= .bool false) rfl (by kernel_rfl) (mv 1 rfl (pf g1 0 rfl (by kernel_rfl) (wl_load rfl rfl (load_cell cellInt (((hb4.ext (e8.trans (e13.trans (e17.trans (e23.trans e29))))).updN u37 (by omega)).ext e40) rfl) (by decide) (pf g1 1 rfl (by kernel_rfl) (wl_load rfl rfl (load_cell cellInt (((hb4.ext (e8.trans (e13.trans (e17.trans (e23.trans e29))))).updN u37 (by omega)).ext e40) rfl) (by decide) (wl_cmp rfl rfl rfl true (ci_ne_t hRC) (by decide) (pu (v:= .bool true) rfl (by kernel_rfl) (ne_ (cw_true rfl (sr (mv 1 rfl (wl_cmp rfl rfl rfl false (by decide) (by decide) (mv 1 rfl ?_)))))))))))))
 refine mv 1 rfl (wl_cmp rfl rfl rfl true (by decide) (by decide) (pu (v:= .bool true) rfl (by kernel_rfl) (mv 1 rfl (ne_ (cw_ret (eo_thenR (eo_ret [.bool true] rfl ⟨rfl,trivial⟩ ?_)))))))
 exact⟨_,rfl,rfl,hw8⟩
set_option maxHeartbeats 4000000 in
set_option maxRecDepth 20000 in
theorem g_top_WholeDetProduct_ok_bad {w:World}{n Ka:Nat}{X:Mx}{Aa:Option Addr}{na capa:Nat}{xs:List Int}(hxa:ZF w Aa na capa 1048576 xs){Ay:Option Addr}{ny capy:Nat}{ys:List Int}(hxy:ZF w Ay ny capy 1048576 ys){As:Option Addr}{m caps:Nat}{ss:List Stp}{ms:List Nat}(hS:Sl w As m ss ms) (hM:∀i,ms.getD i 0≤1048576) (hm:m≤1048576) (hna1:na≤1048576) (hny1:ny≤1048576) (hna:na=n*n) (hn:n≤64) (hX:En n n X xs) (hXa:∀a b,a<n→b<n→ln (X a b)≤Ka) (hKa:Ka+(m+ms.sum)≤1048576){Ry Cy:Int}(hsy:¬Snd Ry Cy ny):
    Calls Try.prog 4 #[.agg #[.int .i64 ((n:Nat):Int),.int .i64 ((n:Nat):Int),.slice Aa na capa],.agg #[.int .i64 Ry,.int .i64 Cy,.slice Ay ny capy],.slice As m caps] w (Gv w (Is (.bool true))):=by
 have hlb:w.heap.size≤w.heap.size:=Nat.le_refl _
 have hxa0:=hxa
 have hxy0:=hxy
 have hs:Snd ((n:Nat):Int) ((n:Nat):Int) na:=snd_mk hn hn hna
 obtain⟨msa,hla,hma⟩:=hxa
 obtain⟨msy,hly,hmy⟩:=hxy
 refine sx_enter Try.func4 rfl (n:=161) rfl (bq rfl) (args:= [.agg #[.int .i64 ((n:Nat):Int),.int .i64 ((n:Nat):Int),.slice Aa na capa],.agg #[.int .i64 Ry,.int .i64 Cy,.slice Ay ny capy],.slice As m caps]) (cw_keep [(0,.agg #[.int .i64 ((n:Nat):Int),.int .i64 ((n:Nat):Int),.slice Aa na capa]),(1,.agg #[.int .i64 Ry,.int .i64 Cy,.slice Ay ny capy]),(2,.slice As m caps)] ⟨rfl,rfl,rfl,trivial⟩ (sr (bx [.int .i64 ((n:Nat):Int),.int .i64 ((n:Nat):Int),.slice Aa na capa] (Ext.refl w) rfl rfl rfl fun g1 v2 hb4 ge5 e3 hw1=>(bxq [.int .i64 Ry,.int .i64 Cy,.slice Ay ny capy] hw1 hb4.lt rfl rfl rfl fun g6 v7 hb9 ge10 q11 e8 hw2=>(mv 1 rfl (ne_ (cw_seq (sr (wl_call rfl rfl (vs:= []) (by kernel_rfl) (by decide) g_top_detWakes ?_)))))))))
 rintro _ v12 ⟨xr14,rfl,r14,e13⟩
 refine ret_intro ?_
 have hw3:=hw2.trans e13
 obtain rfl:=r14
 refine pu (v:= .bool false) rfl (by kernel_rfl) (ne_ (cw_false rfl (cw_skip (eo_then (sr (lo aggMat (hb4.ext (e8.trans e13)) [.int .i64 ((n:Nat):Int),.int .i64 ((n:Nat):Int),.slice Aa na capa] rfl rfl rfl ?_))))))
 obtain⟨lb15,hlb15,hlelb15,hgl15,hq15_0,hq15_1⟩:∃lb,lb≤v12.heap.size∧v12.heap.size≤lb∧w.heap.size≤lb∧g1<lb∧g6<lb:=⟨v12.heap.size,Nat.le_refl _,Nat.le_refl _,hw3.size,(hb4.ext (e8.trans e13)).lt,(hb9.ext e13).lt⟩
 refine cl (vs:= [.agg #[.int .i64 ((n:Nat):Int),.int .i64 ((n:Nat):Int),.slice Aa na capa]]) hw3 (g_top_copyMat (w0:=w) hw3.size hlb15 hw3 ((show ZF w _ _ _ _ _ from⟨msa,hla,hma⟩).ext hw3) (by omega)) rfl (by kernel_rfl) fun xr18 v16 r18 e17 hw4=>?_
 obtain⟨lv19,rfl,⟨LA20,lc20,rfl,lz20⟩⟩:=r18
 have blk21:=lz20.block
 have Ld22:ln (dt n X)≤134217728:=ln_dtB hn (fun i j hi hj=>hX.ln ((lz20).zf hw4) hi hj)
 refine cl (vs:= [.agg #[.int .i64 ((n:Nat):Int),.int .i64 ((n:Nat):Int),.slice LA20 na lc20]]) hw4 (g_brs_Det (X:=X) hw4.size ((lz20).zf hw4) hna hn hX) rfl (by kernel_rfl) fun xr25 v23 r25 e24 hw5=>?_
 obtain⟨_,_,rfl,⟨s27,A27,n27,c27,rfl,z27⟩,rfl⟩:=r25
 refine mv 1 rfl (pu (v:= .agg #[.bool s27,.slice A27 n27 c27]) rfl (by kernel_rfl) (pu (v:= .int .i64 0) rfl (by kernel_rfl) (wl_alloc rfl (z:= .agg #[F0,S0]) (vs:= [F0,S0]) (fun _=>by kernel_rfl) rfl (by decide) fun g28 v29 nb=>?_)))
 have hb31:=nb.bk
 have ge32:w.heap.size≤g28:=by rw [←nb.at_];exact hw5.size
 have q33:g6<g28:=by rw [←nb.at_];exact (hb9.ext (e13.trans (e17.trans e24))).lt
 have ne34:∀p:Addr,LA20=some p→p.block≠g28:=fun p hp=>by have:=((lz20.ext e24)).block p hp;have:=nb.at_;omega
 have e30:=nb.ext
 clear nb
 have hw6:=hw5.trans e30
 refine so aggInt hb31 [.bool s27,.slice A27 n27 c27] hw6 ge32 rfl rfl rfl rfl fun v35 hb37 u38 hw7=>(mv 1 rfl (ne_ (cw_seq (sr (lo aggMat ((hb4.ext (e8.trans (e13.trans (e17.trans (e24.trans e30))))).updN u38 (by omega)) [.int .i64 ((n:Nat):Int),.int .i64 ((n:Nat):Int),.slice Aa na capa] rfl rfl rfl (cl (vs:= [.agg #[.int .i64 ((n:Nat):Int),.int .i64 ((n:Nat):Int),.slice Aa na capa]]) hw7 (g_top_sound_t hs) rfl (by kernel_rfl) fun xr42 v40 r42 e41 hw8=>?_))))))
 obtain rfl:=r42
 refine pu (v:= .bool false) rfl (by kernel_rfl) (mv 1 rfl (pf g1 0 rfl (by kernel_rfl) (wl_load rfl rfl (load_cell cellInt (((hb4.ext (e8.trans (e13.trans (e17.trans (e24.trans e30))))).updN u38 (by omega)).ext e41) rfl) (by decide) (pf g1 1 rfl (by kernel_rfl) (wl_load rfl rfl (load_cell cellInt (((hb4.ext (e8.trans (e13.trans (e17.trans (e24.trans e30))))).updN u38 (by omega)).ext e41) rfl) (by decide) (wl_cmp rfl rfl rfl false (cb_ne_f (a:=n) (b:=n) rfl rfl (by omega)) (by decide) (pu (v:= .bool false) rfl (by kernel_rfl) (ne_ (cw_false rfl (cw_skip (eo_then (sr (lo aggMat (((hb4.ext (e8.trans (e13.trans (e17.trans (e24.trans e30))))).updN u38 (by omega)).ext e41) [.int .i64 ((n:Nat):Int),.int .i64 ((n:Nat):Int),.slice Aa na capa] rfl rfl rfl ?_)))))))))))))
 obtain⟨lb43,hlb43,hlelb43,hgl43,hq43_0,hq43_1,hq43_2⟩:∃lb,lb≤v40.heap.size∧v40.heap.size≤lb∧w.heap.size≤lb∧g1<lb∧g6<lb∧g28<lb:=⟨v40.heap.size,Nat.le_refl _,Nat.le_refl _,hw8.size,(((hb4.ext (e8.trans (e13.trans (e17.trans (e24.trans e30))))).updN u38 (by omega)).ext e41).lt,(((hb9.ext (e13.trans (e17.trans (e24.trans e30)))).updN u38 (by omega)).ext e41).lt,(hb37.ext e41).lt⟩
 have hql44:∀p:Addr,LA20=some p→p.block<lb43:=fun p hp=>Nat.lt_of_lt_of_le (((((lz20.ext (e24.trans e30)).updT hb31 u38 ne34).ext e41)).block p hp).2 hlelb43
 refine cl (vs:= [.agg #[.int .i64 ((n:Nat):Int),.int .i64 ((n:Nat):Int),.slice Aa na capa]]) hw8 (g_top_copyMat (w0:=w) hw8.size hlb43 hw8 ((show ZF w _ _ _ _ _ from⟨msa,hla,hma⟩).ext hw8) (by omega)) rfl (by kernel_rfl) fun xr47 v45 r47 e46 hw9=>?_
 obtain⟨lv48,rfl,⟨LA49,lc49,rfl,lz49⟩⟩:=r47
 have blk50:=lz49.block
 refine cl (vs:= [.agg #[.int .i64 ((n:Nat):Int),.int .i64 ((n:Nat):Int),.slice LA49 na lc49]]) hw9 (g_mat_Turn (r:=n) (c:=n) (K:=1048576) (X:=X) hw9.size (Nat.le_trans hlb43 e46.size) ((lz49).zf hw9) hna hn hn hX (by decide)) rfl (by kernel_rfl) fun xr53 v51 r53 e52 hw10=>?_
 obtain⟨_,_,rfl,⟨lv55,rfl,⟨LA56,lc56,zs56,rfl,lz56,hz56⟩⟩,r54_1⟩:=r53
 have blk57:=lz56.block
 obtain rfl:=r54_1
 refine mv 1 rfl (pu (v:= .agg #[.int .i64 ((n:Nat):Int),.int .i64 ((n:Nat):Int),.slice LA56 (n*n) lc56]) rfl (by kernel_rfl) (pu (v:= .int .i64 0) rfl (by kernel_rfl) (alq [I0,I0,S0] hw10 (hb37.ext (e41.trans (e46.trans e52))).lt (fun _=>by kernel_rfl) rfl fun g58 v59 hb61 ge62 q63 e60 hw11=>(so aggMat hb61 [.int .i64 ((n:Nat):Int),.int .i64 ((n:Nat):Int),.slice LA56 (n*n) lc56] hw11 ge62 rfl rfl rfl rfl fun v64 hb66 u67 hw12=>(mv 1 rfl (ne_ (sr (lo aggMat hb66 [.int .i64 ((n:Nat):Int),.int .i64 ((n:Nat):Int),.slice LA56 (n*n) lc56] rfl rfl rfl ?_))))))))
 have Ld69:ln (dt n (tq X))≤134217728:=ln_dtB hn (fun i j hi hj=>hz56.ln (((lz56.ext e60).updY hb61 u67).zf0) hi hj)
 refine cl (vs:= [.agg #[.int .i64 ((n:Nat):Int),.int .i64 ((n:Nat):Int),.slice LA56 (n*n) lc56]]) hw12 (g_brs_Det (X:=tq X) hw12.size (((lz56.ext e60).updY hb61 u67).zf0) rfl hn hz56) rfl (by kernel_rfl) fun xr72 v70 r72 e71 hw13=>?_
 obtain⟨_,_,rfl,⟨s74,A74,n74,c74,rfl,z74⟩,rfl⟩:=r72
 refine mv 1 rfl (pu (v:= .agg #[.bool s74,.slice A74 n74 c74]) rfl (by kernel_rfl) (pu (v:= .int .i64 0) rfl (by kernel_rfl) (wl_alloc rfl (z:= .agg #[F0,S0]) (vs:= [F0,S0]) (fun _=>by kernel_rfl) rfl (by decide) fun g75 v76 nb=>?_)))
 have hb78:=nb.bk
 have ge79:w.heap.size≤g75:=by rw [←nb.at_];exact hw13.size
 have q80:g58<g75:=by rw [←nb.at_];exact (hb66.ext e71).lt
 have ne81:∀p:Addr,LA20=some p→p.block≠g75:=fun p hp=>by have:=((((((lz20.ext (e24.trans e30)).updT hb31 u38 ne34).ext (e41.trans (e46.trans (e52.trans e60)))).updY hb61 u67).ext e71)).block p hp;have:=nb.at_;omega
 have ne82:∀p:Addr,LA49=some p→p.block≠g75:=fun p hp=>by have:=((((lz49.ext (e52.trans e60)).updY hb61 u67).ext e71)).block p hp;have:=nb.at_;omega
 have ne83:∀p:Addr,LA56=some p→p.block≠g75:=fun p hp=>by have:=((((lz56.ext e60).updY hb61 u67).ext e71)).block p hp;have:=nb.at_;omega
 have e77:=nb.ext
 clear nb
 have hw14:=hw13.trans e77
 refine so aggInt hb78 [.bool s74,.slice A74 n74 c74] hw14 ge79 rfl rfl rfl rfl fun v84 hb86 u87 hw15=>(mv 1 rfl (ne_ (cw_seq (sr (mv 1 rfl (wl_cmp rfl rfl rfl false (by decide) (by decide) (mv 2 rfl (wl_cmp rfl rfl rfl false (by decide) (by decide) (pu (v:= .bool false) rfl (by kernel_rfl) (mv 2 rfl (wl_cmp rfl rfl rfl false (by decide) (by decide) (pu (v:= .bool false) rfl (by kernel_rfl) (mv 1 rfl ?_)))))))))))))
 refine lo aggInt ((((hb37.ext (e41.trans (e46.trans (e52.trans e60)))).updN u67 (by omega)).ext (e71.trans e77)).updN u87 (by omega)) [.bool s27,.slice A27 n27 c27] rfl rfl rfl (lo aggInt hb86 [.bool s74,.slice A74 n74 c74] rfl rfl rfl (cl (vs:= [.agg #[.bool s27,.slice A27 n27 c27],.agg #[.bool s74,.slice A74 n74 c74]]) hw15 (g_top_sameInt (((((((z27.ext e30).updT hb31 u38).ext (e41.trans (e46.trans (e52.trans e60)))).updT hb61 u67).ext (e71.trans e77)).updT hb78 u87)) ((((z74.ext e77).updT hb78 u87)).cast (dt_tq n X))) rfl (by kernel_rfl) fun xr91 v89 r91 e90 hw16=>?_))
 obtain rfl:=r91
 refine pu (v:= .bool false) rfl (by kernel_rfl) (pu (v:= .bool false) rfl (by kernel_rfl) (ne_ (cw_false rfl (cw_skip (eo_then (cw_seq ?_))))))
 by_cases hall:∀i,i<m→(ss.getD i Stp.z).fit n
 · 
  refine cw_region (pf g1 0 rfl (by kernel_rfl) (wl_load rfl rfl (load_cell cellInt (((((((hb4.ext (e8.trans (e13.trans (e17.trans (e24.trans e30))))).updN u38 (by omega)).ext (e41.trans (e46.trans (e52.trans e60)))).updN u67 (by omega)).ext (e71.trans e77)).updN u87 (by omega)).ext e90) rfl) (by decide) (mv 1 rfl (cl (vs:= [.int .i64 ((n:Nat):Int),.slice As m caps]) hw16 (g_stp_Sign_ok hn (hS.ext hw16) hM hm hall) rfl (by kernel_rfl) fun xr94 v92 r94 e93 hw17=>?_))))
  obtain⟨_,_,rfl,rfl,rfl⟩:=r94
  refine mv 1 rfl (pu (v:= .int .i64 (sgl ss)) rfl (by kernel_rfl) (pu (v:= .int .i64 0) rfl (by kernel_rfl) (mv 2 rfl (ne_ (cw_seq (sr (mv 1 rfl (wl_cmp rfl rfl rfl true (by decide) (by decide) (ne_ (cw_true rfl (sr (lo aggMat (((((((hb4.ext (e8.trans (e13.trans (e17.trans (e24.trans e30))))).updN u38 (by omega)).ext (e41.trans (e46.trans (e52.trans e60)))).updN u67 (by omega)).ext (e71.trans e77)).updN u87 (by omega)).ext (e90.trans e93)) [.int .i64 ((n:Nat):Int),.int .i64 ((n:Nat):Int),.slice Aa na capa] rfl rfl rfl ?_))))))))))))
  obtain⟨lb96,hlb96,hlelb96,hgl96,hq96_0,hq96_1,hq96_2,hq96_3,hq96_4⟩:∃lb,lb≤v92.heap.size∧v92.heap.size≤lb∧w.heap.size≤lb∧g1<lb∧g6<lb∧g28<lb∧g58<lb∧g75<lb:=⟨v92.heap.size,Nat.le_refl _,Nat.le_refl _,hw17.size,(((((((hb4.ext (e8.trans (e13.trans (e17.trans (e24.trans e30))))).updN u38 (by omega)).ext (e41.trans (e46.trans (e52.trans e60)))).updN u67 (by omega)).ext (e71.trans e77)).updN u87 (by omega)).ext (e90.trans e93)).lt,(((((((hb9.ext (e13.trans (e17.trans (e24.trans e30)))).updN u38 (by omega)).ext (e41.trans (e46.trans (e52.trans e60)))).updN u67 (by omega)).ext (e71.trans e77)).updN u87 (by omega)).ext (e90.trans e93)).lt,(((((hb37.ext (e41.trans (e46.trans (e52.trans e60)))).updN u67 (by omega)).ext (e71.trans e77)).updN u87 (by omega)).ext (e90.trans e93)).lt,(((hb66.ext (e71.trans e77)).updN u87 (by omega)).ext (e90.trans e93)).lt,(hb86.ext (e90.trans e93)).lt⟩
  have hql97:∀p:Addr,LA20=some p→p.block<lb96:=fun p hp=>Nat.lt_of_lt_of_le (((((((((lz20.ext (e24.trans e30)).updT hb31 u38 ne34).ext (e41.trans (e46.trans (e52.trans e60)))).updY hb61 u67).ext (e71.trans e77)).updT hb78 u87 ne81).ext (e90.trans e93))).block p hp).2 hlelb96
  have hql98:∀p:Addr,LA49=some p→p.block<lb96:=fun p hp=>Nat.lt_of_lt_of_le (((((((lz49.ext (e52.trans e60)).updY hb61 u67).ext (e71.trans e77)).updT hb78 u87 ne82).ext (e90.trans e93))).block p hp).2 hlelb96
  have hql99:∀p:Addr,LA56=some p→p.block<lb96:=fun p hp=>Nat.lt_of_lt_of_le (((((((lz56.ext e60).updY hb61 u67).ext (e71.trans e77)).updT hb78 u87 ne83).ext (e90.trans e93))).block p hp).2 hlelb96
  refine cl (vs:= [.agg #[.int .i64 ((n:Nat):Int),.int .i64 ((n:Nat):Int),.slice Aa na capa]]) hw17 (g_top_copyMat (w0:=w) hw17.size hlb96 hw17 ((show ZF w _ _ _ _ _ from⟨msa,hla,hma⟩).ext hw17) (by omega)) rfl (by kernel_rfl) fun xr102 v100 r102 e101 hw18=>?_
  obtain⟨lv103,rfl,⟨LA104,lc104,rfl,lz104⟩⟩:=r102
  have blk105:=lz104.block
  refine mv 1 rfl (cl (vs:= [.agg #[.int .i64 ((n:Nat):Int),.int .i64 ((n:Nat):Int),.slice LA104 na lc104],.slice As m caps]) hw18 (g_stp_Rows (X:=X) (Ka:=Ka) hw18.size (Nat.le_trans hlb96 e101.size) ((lz104).zf hw18) hna hn hX (hS.ext hw18) hM hm hall hXa hKa) rfl (by kernel_rfl) fun xr108 v106 r108 e107 hw19=>?_)
  obtain⟨_,_,rfl,⟨lv110,rfl,⟨LA111,lc111,zs111,rfl,lz111,hz111⟩⟩,r109_1⟩:=r108
  have blk112:=lz111.block
  obtain rfl:=r109_1
  refine mv 1 rfl (pu (v:= .agg #[.int .i64 ((n:Nat):Int),.int .i64 ((n:Nat):Int),.slice LA111 (n*n) lc111]) rfl (by kernel_rfl) (pu (v:= .int .i64 0) rfl (by kernel_rfl) (alq [I0,I0,S0] hw19 (hb86.ext (e90.trans (e93.trans (e101.trans e107)))).lt (fun _=>by kernel_rfl) rfl fun g113 v114 hb116 ge117 q118 e115 hw20=>(so aggMat hb116 [.int .i64 ((n:Nat):Int),.int .i64 ((n:Nat):Int),.slice LA111 (n*n) lc111] hw20 ge117 rfl rfl rfl rfl fun v119 hb121 u122 hw21=>(mv 1 rfl (ne_ (sr (lo aggMat hb121 [.int .i64 ((n:Nat):Int),.int .i64 ((n:Nat):Int),.slice LA111 (n*n) lc111] rfl rfl rfl ?_))))))))
  have Ld124:ln (dt n (stps ss X))≤134217728:=ln_dtB hn (fun i j hi hj=>hz111.ln (((lz111.ext e115).updY hb116 u122).zf0) hi hj)
  refine cl (vs:= [.agg #[.int .i64 ((n:Nat):Int),.int .i64 ((n:Nat):Int),.slice LA111 (n*n) lc111]]) hw21 (g_brs_Det (X:=stps ss X) hw21.size (((lz111.ext e115).updY hb116 u122).zf0) rfl hn hz111) rfl (by kernel_rfl) fun xr127 v125 r127 e126 hw22=>?_
  obtain⟨_,_,rfl,⟨s129,A129,n129,c129,rfl,z129⟩,rfl⟩:=r127
  refine mv 1 rfl (pu (v:= .agg #[.bool s129,.slice A129 n129 c129]) rfl (by kernel_rfl) (pu (v:= .int .i64 0) rfl (by kernel_rfl) (wl_alloc rfl (z:= .agg #[F0,S0]) (vs:= [F0,S0]) (fun _=>by kernel_rfl) rfl (by decide) fun g130 v131 nb=>?_)))
  have hb133:=nb.bk
  have ge134:w.heap.size≤g130:=by rw [←nb.at_];exact hw22.size
  have q135:g113<g130:=by rw [←nb.at_];exact (hb121.ext e126).lt
  have ne136:∀p:Addr,LA20=some p→p.block≠g130:=fun p hp=>by have:=((((((((((lz20.ext (e24.trans e30)).updT hb31 u38 ne34).ext (e41.trans (e46.trans (e52.trans e60)))).updY hb61 u67).ext (e71.trans e77)).updT hb78 u87 ne81).ext (e90.trans (e93.trans (e101.trans (e107.trans e115))))).updY hb116 u122).ext e126)).block p hp;have:=nb.at_;omega
  have ne137:∀p:Addr,LA49=some p→p.block≠g130:=fun p hp=>by have:=((((((((lz49.ext (e52.trans e60)).updY hb61 u67).ext (e71.trans e77)).updT hb78 u87 ne82).ext (e90.trans (e93.trans (e101.trans (e107.trans e115))))).updY hb116 u122).ext e126)).block p hp;have:=nb.at_;omega
  have ne138:∀p:Addr,LA56=some p→p.block≠g130:=fun p hp=>by have:=((((((((lz56.ext e60).updY hb61 u67).ext (e71.trans e77)).updT hb78 u87 ne83).ext (e90.trans (e93.trans (e101.trans (e107.trans e115))))).updY hb116 u122).ext e126)).block p hp;have:=nb.at_;omega
  have ne139:∀p:Addr,LA104=some p→p.block≠g130:=fun p hp=>by have:=((((lz104.ext (e107.trans e115)).updY hb116 u122).ext e126)).block p hp;have:=nb.at_;omega
  have ne140:∀p:Addr,LA111=some p→p.block≠g130:=fun p hp=>by have:=((((lz111.ext e115).updY hb116 u122).ext e126)).block p hp;have:=nb.at_;omega
  have e132:=nb.ext
  clear nb
  have hw23:=hw22.trans e132
  refine so aggInt hb133 [.bool s129,.slice A129 n129 c129] hw23 ge134 rfl rfl rfl rfl fun v141 hb143 u144 hw24=>(mv 1 rfl (ne_ (cw_seq ?_)))
  have L147:ln ((dt n X)*(sgl ss))≤134217729:=Nat.le_trans (ln_mul Ld22 (ln_w1 (by have:=sgl_or ss;omega) (by have:=sgl_or ss;omega))) (by decide)
  refine cw_draw mix 15 [] [Is (.int .i64 0),Is (.bool false),Is (.bool false),Is (.int .i64 0),Is (.bool false),Is (.bool false),Is (.bool false),Is (.agg #[.bool s129,.slice A129 n129 c129]),Is (.agg #[.bool s27,.slice A27 n27 c27]),Is (.int .i64 (sgl ss)),ZR w.heap.size (sgl ss),ZR w.heap.size ((dt n X)*(sgl ss)),Is (.bool true),Is (.bool false),Is (.bool false)] [[],[0],[1],[2],[2,3],[2,4],[5],[6],[6],[6],[6,9],[6,8,10],[6,7,11],[6,12],[6,13]] [[],[0],[0,1],[0,1,2],[0,1,2,3],[0,1,2,3,4],[0,1,2,3,4,5],[0,1,2,3,4,5,6],[0,1,2,3,4,5,6],[0,1,2,3,4,5,6],[0,1,2,3,4,5,6,9],[0,1,2,3,4,5,6,8,9,10],[0,1,2,3,4,5,6,7,8,9,10,11],[0,1,2,3,4,5,6,7,8,9,10,11,12],[0,1,2,3,4,5,6,7,8,9,10,11,12,13]] rfl
   (obs_cons rfl rfl (hob rfl rfl ?_) (obs_cons rfl rfl (hob rfl rfl ?_) (obs_cons rfl rfl (hob rfl rfl ?_) (obs_cons rfl rfl (hob rfl rfl ?_) (obs_cons rfl rfl (hob rfl rfl ?_) (obs_cons rfl rfl (hob rfl rfl ?_) (obs_cons rfl rfl (hob rfl rfl ?_) (obs_cons rfl rfl (hob rfl rfl ?_) (obs_cons rfl rfl (hob rfl rfl ?_) (obs_cons rfl rfl (hob rfl rfl ?_) (obs_cons rfl rfl (hob rfl rfl ?_) (obs_cons rfl rfl (hob rfl rfl ?_) (obs_cons rfl rfl (hob rfl rfl ?_) (obs_cons rfl rfl (hob rfl rfl ?_) (obs_cons rfl rfl (hob rfl rfl ?_) obs_nil))))))))))))))) ?_
  · 
   exact fun _ _=>deps_nil (mv 1 rfl (pi_done rfl (Ext.refl _) rfl))
  · 
   exact fun _ _=>dk rfl rfl (deps_nil (wl_cmp rfl rfl rfl false (by decide) (by decide) (pi_done rfl (Ext.refl _) rfl)))
  · 
   exact fun _ _=>dk rfl rfl (deps_nil (mv 1 rfl (pi_done rfl (Ext.refl _) rfl)))
  · 
   exact fun _ _=>dk rfl rfl (deps_nil (mv 1 rfl (pi_done rfl (Ext.refl _) rfl)))
  · 
   exact fun _ _=>dk rfl rfl (dk rfl rfl (deps_nil (wl_cmp rfl rfl rfl false (by decide) (by decide) (pi_done rfl (Ext.refl _) rfl))))
  · 
   exact fun _ _=>dk rfl rfl (dk rfl rfl (deps_nil (pu (v:= .bool false) rfl (by kernel_rfl) (pi_done rfl (Ext.refl _) rfl))))
  · 
   exact fun _ _=>dk rfl rfl (deps_nil (mv 1 rfl (pi_done rfl (Ext.refl _) rfl)))
  · 
   exact fun _ e204=>dk rfl rfl (deps_nil (lo aggInt (hb143.ext e204) [.bool s129,.slice A129 n129 c129] rfl rfl rfl (pi_done rfl (Ext.refl _) rfl)))
  · 
   exact fun _ e211=>dk rfl rfl (deps_nil (lo aggInt (((((((((hb37.ext (e41.trans (e46.trans (e52.trans e60)))).updN u67 (by omega)).ext (e71.trans e77)).updN u87 (by omega)).ext (e90.trans (e93.trans (e101.trans (e107.trans e115))))).updN u122 (by omega)).ext (e126.trans e132)).updN u144 (by omega)).ext e211) [.bool s27,.slice A27 n27 c27] rfl rfl rfl (pi_done rfl (Ext.refl _) rfl)))
  · 
   exact fun _ _=>dk rfl rfl (deps_nil (mv 1 rfl (pi_done rfl (Ext.refl _) rfl)))
  · 
   intro v224 e225
   have hw25:=hw24.trans e225
   refine dk rfl rfl (dk rfl rfl (deps_nil (cl (vs:= [.int .i64 (sgl ss)]) hw25 (g_zint_Of hw25.size (by have:=sgl_or ss;omega) (by have:=sgl_or ss;omega)) rfl (by kernel_rfl) fun xr238 v236 r238 e237 hw26=>?_)))
   obtain⟨s239,A239,n239,c239,rfl,z239⟩:=r238
   exact pi_done rfl e237 ⟨_,_,_,_,rfl,z239⟩
  · 
   intro v240 e241
   have hw25:=hw24.trans e241
   refine dk rfl rfl (dk rfl rfl (deps_cons rfl rfl fun x252 y253 h254 e255 f256=>?_))
   obtain⟨s257,A257,n257,c257,rfl,z257⟩:=h254
   have z257:=z257.ext f256
   refine deps_nil ?_
   have L258:ln ((dt n X)*(sgl ss))≤134217729:=Nat.le_trans (ln_mul Ld22 (ln_w1 (by have:=sgl_or ss;omega) (by have:=sgl_or ss;omega))) (by decide)
   refine cl (vs:= [.agg #[.bool s27,.slice A27 n27 c27],.agg #[.bool s257,.slice A257 n257 c257]]) hw25 (g_zint_Mul hw25.size (((((((((((z27.ext e30).updT hb31 u38).ext (e41.trans (e46.trans (e52.trans e60)))).updT hb61 u67).ext (e71.trans e77)).updT hb78 u87).ext (e90.trans (e93.trans (e101.trans (e107.trans e115))))).updT hb116 u122).ext (e126.trans e132)).updT hb133 u144).ext e241).zi (z27.le (lx_ Ld22 rfl)) z257.zi (z257.le (Nat.le_trans (ln_w1 (by have:=sgl_or ss;omega) (by have:=sgl_or ss;omega)) (by decide)))) rfl (by kernel_rfl) fun xr261 v259 r261 e260 hw26=>?_
   obtain⟨s262,A262,n262,c262,rfl,z262⟩:=r261
   exact pi_done rfl e260 ⟨_,_,_,_,rfl,z262⟩
  · 
   intro v263 e264
   have hw25:=hw24.trans e264
   refine dk rfl rfl (dk rfl rfl (deps_cons rfl rfl fun x275 y276 h277 e278 f279=>?_))
   obtain⟨s280,A280,n280,c280,rfl,z280⟩:=h277
   have z280:=z280.ext f279
   refine deps_nil (cl (vs:= [.agg #[.bool s129,.slice A129 n129 c129],.agg #[.bool s280,.slice A280 n280 c280]]) hw25 (g_top_sameInt (((((z129.ext e132).updT hb133 u144).ext e264)).cast ((dt_stps ss X (hallm hS hall)).trans (Int.mul_comm _ _))) (z280)) rfl (by kernel_rfl) fun xr283 v281 r283 e282 hw26=>?_)
   obtain rfl:=r283
   exact pi_done rfl e282 rfl
  · 
   exact fun _ _=>dk rfl rfl (dk rfl rfl (deps_nil (pu (v:= .bool false) rfl (by kernel_rfl) (pi_done rfl (Ext.refl _) rfl))))
  · 
   exact fun _ _=>dk rfl rfl (dk rfl rfl (deps_nil (pu (v:= .bool false) rfl (by kernel_rfl) (pi_done rfl (Ext.refl _) rfl))))
  · 
   intro v308 e309
   have hw25:=hw24.trans e309
   refine dk rfl rfl (dk rfl rfl (dk rfl rfl (dk rfl rfl (dk rfl rfl (dk rfl rfl (dk rfl rfl (dk rfl rfl (dk rfl rfl (dk rfl rfl (deps_cons rfl rfl fun x360 y361 h362 e363 f364=>?_))))))))))
   obtain⟨s365,A365,n365,c365,rfl,z365⟩:=h362
   have z365:=z365.ext f364
   refine deps_cons rfl rfl fun x366 y367 h368 e369 f370=>?_
   obtain⟨s371,A371,n371,c371,rfl,z371⟩:=h368
   have z371:=z371.ext f370
   refine dk rfl rfl (dk rfl rfl (dk rfl rfl (deps_nil (wl_nil (eo_np (eo_then (cw_false rfl (cw_skip (eo_then (cw_seq ?_))))))))))
   obtain⟨lb387,hlb387,hlelb387,hgl387,hq387_0,hq387_1,hq387_2,hq387_3,hq387_4,hq387_5,hq387_6⟩:∃lb,lb≤v308.heap.size∧v308.heap.size≤lb∧w.heap.size≤lb∧g1<lb∧g6<lb∧g28<lb∧g58<lb∧g75<lb∧g113<lb∧g130<lb:=⟨v308.heap.size,Nat.le_refl _,Nat.le_refl _,hw25.size,(((((((((((hb4.ext (e8.trans (e13.trans (e17.trans (e24.trans e30))))).updN u38 (by omega)).ext (e41.trans (e46.trans (e52.trans e60)))).updN u67 (by omega)).ext (e71.trans e77)).updN u87 (by omega)).ext (e90.trans (e93.trans (e101.trans (e107.trans e115))))).updN u122 (by omega)).ext (e126.trans e132)).updN u144 (by omega)).ext e309).lt,(((((((((((hb9.ext (e13.trans (e17.trans (e24.trans e30)))).updN u38 (by omega)).ext (e41.trans (e46.trans (e52.trans e60)))).updN u67 (by omega)).ext (e71.trans e77)).updN u87 (by omega)).ext (e90.trans (e93.trans (e101.trans (e107.trans e115))))).updN u122 (by omega)).ext (e126.trans e132)).updN u144 (by omega)).ext e309).lt,(((((((((hb37.ext (e41.trans (e46.trans (e52.trans e60)))).updN u67 (by omega)).ext (e71.trans e77)).updN u87 (by omega)).ext (e90.trans (e93.trans (e101.trans (e107.trans e115))))).updN u122 (by omega)).ext (e126.trans e132)).updN u144 (by omega)).ext e309).lt,(((((((hb66.ext (e71.trans e77)).updN u87 (by omega)).ext (e90.trans (e93.trans (e101.trans (e107.trans e115))))).updN u122 (by omega)).ext (e126.trans e132)).updN u144 (by omega)).ext e309).lt,(((((hb86.ext (e90.trans (e93.trans (e101.trans (e107.trans e115))))).updN u122 (by omega)).ext (e126.trans e132)).updN u144 (by omega)).ext e309).lt,(((hb121.ext (e126.trans e132)).updN u144 (by omega)).ext e309).lt,(hb143.ext e309).lt⟩
   have hql388:∀p:Addr,LA20=some p→p.block<lb387:=fun p hp=>Nat.lt_of_lt_of_le (((((((((((((lz20.ext (e24.trans e30)).updT hb31 u38 ne34).ext (e41.trans (e46.trans (e52.trans e60)))).updY hb61 u67).ext (e71.trans e77)).updT hb78 u87 ne81).ext (e90.trans (e93.trans (e101.trans (e107.trans e115))))).updY hb116 u122).ext (e126.trans e132)).updT hb133 u144 ne136).ext e309)).block p hp).2 hlelb387
   have hql389:∀p:Addr,LA49=some p→p.block<lb387:=fun p hp=>Nat.lt_of_lt_of_le (((((((((((lz49.ext (e52.trans e60)).updY hb61 u67).ext (e71.trans e77)).updT hb78 u87 ne82).ext (e90.trans (e93.trans (e101.trans (e107.trans e115))))).updY hb116 u122).ext (e126.trans e132)).updT hb133 u144 ne137).ext e309)).block p hp).2 hlelb387
   have hql390:∀p:Addr,LA56=some p→p.block<lb387:=fun p hp=>Nat.lt_of_lt_of_le (((((((((((lz56.ext e60).updY hb61 u67).ext (e71.trans e77)).updT hb78 u87 ne83).ext (e90.trans (e93.trans (e101.trans (e107.trans e115))))).updY hb116 u122).ext (e126.trans e132)).updT hb133 u144 ne138).ext e309)).block p hp).2 hlelb387
   have hql391:∀p:Addr,LA104=some p→p.block<lb387:=fun p hp=>Nat.lt_of_lt_of_le (((((((lz104.ext (e107.trans e115)).updY hb116 u122).ext (e126.trans e132)).updT hb133 u144 ne139).ext e309)).block p hp).2 hlelb387
   have hql392:∀p:Addr,LA111=some p→p.block<lb387:=fun p hp=>Nat.lt_of_lt_of_le (((((((lz111.ext e115).updY hb116 u122).ext (e126.trans e132)).updT hb133 u144 ne140).ext e309)).block p hp).2 hlelb387
   refine cw_draw mix 9 [6,7] [Is (.agg #[.int .i64 ((n:Nat):Int),.int .i64 ((n:Nat):Int),.slice Aa na capa]),MQ ((n:Nat):Int) ((n:Nat):Int) (LE (some w) 1048576 w.heap.size lb387 na xs),Is (.agg #[.int .i64 Ry,.int .i64 Cy,.slice Ay ny capy]),MQ Ry Cy (LE (some w) 1048576 w.heap.size lb387 ny ys),T2 (Is (.agg #[I0,I0,S0])) (Is (.int .i64 1)),Is (.tuple #[.agg #[I0,I0,S0],.int .i64 1]),Is (.agg #[I0,I0,S0]),Is (.int .i64 1),PR v308.heap.size 24 [I0,I0,S0]] [[],[0],[],[2],[1,3],[4],[5],[5],[]] [[],[0],[],[0,1,2],[0,1,2,3],[0,1,2,3,4],[0,1,2,3,4,5],[0,1,2,3,4,5],[],[0,1,2,3,4,5,6,8],[0,1,2,3,4,5,6,7,8,9]] rfl
    (obs_cons rfl rfl (hob rfl rfl ?_) (obs_cons rfl rfl (hob rfl rfl ?_) (obs_cons rfl rfl (hob rfl rfl ?_) (obs_cons rfl rfl (hob rfl rfl ?_) (obs_cons rfl rfl (hob rfl rfl ?_) (obs_cons rfl rfl (hob rfl rfl ?_) (obs_float rfl rfl (fob rfl ?_) (obs_float rfl rfl (fob rfl ?_) (obs_cons rfl rfl (hob rfl rfl ?_) obs_nil))))))))) ?_
   · 
    exact fun _ e401=>deps_nil (lo aggMat (((((((((((hb4.ext (e8.trans (e13.trans (e17.trans (e24.trans e30))))).updN u38 (by omega)).ext (e41.trans (e46.trans (e52.trans e60)))).updN u67 (by omega)).ext (e71.trans e77)).updN u87 (by omega)).ext (e90.trans (e93.trans (e101.trans (e107.trans e115))))).updN u122 (by omega)).ext (e126.trans e132)).updN u144 (by omega)).ext (e309.trans e401)) [.int .i64 ((n:Nat):Int),.int .i64 ((n:Nat):Int),.slice Aa na capa] rfl rfl rfl (pi_done rfl (Ext.refl _) rfl))
   · 
    intro v402 e403
    have hw26:=hw25.trans e403
    refine dk rfl rfl (deps_nil (cl (vs:= [.agg #[.int .i64 ((n:Nat):Int),.int .i64 ((n:Nat):Int),.slice Aa na capa]]) hw26 (g_top_copyMat (w0:=w) hw26.size (Nat.le_trans hlb387 e403.size) hw26 ((show ZF w _ _ _ _ _ from⟨msa,hla,hma⟩).ext hw26) (by omega)) rfl (by kernel_rfl) fun xr411 v409 r411 e410 hw27=>?_))
    obtain⟨lv412,rfl,⟨LA413,lc413,rfl,lz413⟩⟩:=r411
    have blk414:=lz413.block
    exact pi_done rfl e410 ⟨_,rfl,⟨_,_,rfl,lz413⟩⟩
   · 
    exact fun _ e416=>deps_nil (lo aggMat (((((((((((hb9.ext (e13.trans (e17.trans (e24.trans e30)))).updN u38 (by omega)).ext (e41.trans (e46.trans (e52.trans e60)))).updN u67 (by omega)).ext (e71.trans e77)).updN u87 (by omega)).ext (e90.trans (e93.trans (e101.trans (e107.trans e115))))).updN u122 (by omega)).ext (e126.trans e132)).updN u144 (by omega)).ext (e309.trans e416)) [.int .i64 Ry,.int .i64 Cy,.slice Ay ny capy] rfl rfl rfl (pi_done rfl (Ext.refl _) rfl))
   · 
    intro v417 e418
    have hw26:=hw25.trans e418
    refine dk rfl rfl (deps_nil (cl (vs:= [.agg #[.int .i64 Ry,.int .i64 Cy,.slice Ay ny capy]]) hw26 (g_top_copyMat (w0:=w) hw26.size (Nat.le_trans hlb387 e418.size) hw26 ((show ZF w _ _ _ _ _ from⟨msy,hly,hmy⟩).ext hw26) (by omega)) rfl (by kernel_rfl) fun xr426 v424 r426 e425 hw27=>?_))
    obtain⟨lv427,rfl,⟨LA428,lc428,rfl,lz428⟩⟩:=r426
    have blk429:=lz428.block
    exact pi_done rfl e425 ⟨_,rfl,⟨_,_,rfl,lz428⟩⟩
   · 
    intro v430 e431
    have hw26:=hw25.trans e431
    refine deps_cons rfl rfl fun x432 y433 h434 e435 f436=>?_
    obtain⟨lv437,rfl,⟨LA438,lc438,rfl,lz438⟩⟩:=h434
    have blk439:=lz438.block
    have lz438:=lz438.ext f436
    refine deps_cons rfl rfl fun x440 y441 h442 e443 f444=>?_
    obtain⟨lv445,rfl,⟨LA446,lc446,rfl,lz446⟩⟩:=h442
    have blk447:=lz446.block
    have lz446:=lz446.ext f444
    refine deps_nil (cl (vs:= [.agg #[.int .i64 ((n:Nat):Int),.int .i64 ((n:Nat):Int),.slice LA438 na lc438],.agg #[.int .i64 Ry,.int .i64 Cy,.slice LA446 ny lc446]]) hw26 (g_mat_Mul_bad2 hs hsy) rfl (by kernel_rfl) fun xr450 v448 r450 e449 hw27=>?_)
    obtain⟨_,_,rfl,rfl,rfl⟩:=r450
    exact pi_done rfl e449 ⟨_,_,rfl,rfl,rfl⟩
   · 
    intro v452 e453
    refine deps_cons rfl rfl fun x454 y455 h456 e457 f458=>?_
    obtain⟨_,_,rfl,rfl,rfl⟩:=h456
    refine deps_nil (mv 1 rfl ?_)
    exact pi_done rfl (Ext.refl _) rfl
   · 
    exact fun _ _=>dk rfl rfl (deps_nil (⟨.agg #[I0,I0,S0],rfl,rfl,fun _=>by kernel_rfl,rfl⟩))
   · 
    exact fun _ _=>dk rfl rfl (deps_nil (⟨.int .i64 1,rfl,rfl,fun _=>by kernel_rfl,rfl⟩))
   · 
    intro v474 e475
    refine deps_nil (wl_alloc rfl (z:= .agg #[I0,I0,S0]) (vs:= [I0,I0,S0]) (fun _=>by kernel_rfl) rfl (by decide) fun g476 v477 nb=>?_)
    exact pi_done rfl nb.ext ⟨_,rfl,by rw [←nb.at_];exact e475.size,nb.bk⟩
   · 
    intro v478 e479
    have hw26:=hw25.trans e479
    refine dk rfl rfl (deps_cons rfl rfl fun x485 y486 h487 e488 f489=>?_)
    obtain⟨lv490,rfl,⟨LA491,lc491,rfl,lz491⟩⟩:=h487
    have blk492:=lz491.block
    have lz491:=lz491.ext f489
    refine dk rfl rfl (deps_cons rfl rfl fun x498 y499 h500 e501 f502=>?_)
    obtain⟨lv503,rfl,⟨LA504,lc504,rfl,lz504⟩⟩:=h500
    have blk505:=lz504.block
    have lz504:=lz504.ext f502
    refine deps_cons rfl rfl fun x506 y507 h508 e509 f510=>?_
    obtain⟨_,_,rfl,rfl,rfl⟩:=h508
    refine dk rfl rfl (dk rfl rfl (dk rfl rfl (deps_cons rfl rfl fun x527 y528 h529 e530 f531=>?_)))
    obtain⟨g532,rfl,ge534,hb533⟩:=h529
    have hb533:=hb533.ext f531
    have q535:g130<g532:=Nat.lt_of_lt_of_le (hb143.ext e309).lt ge534
    have ge534:w.heap.size≤g532:=Nat.le_trans hw25.size ge534
    refine deps_nil (so aggMat hb533 [I0,I0,S0] hw26 ge534 rfl rfl rfl rfl fun v536 hb538 u539 hw27=>(mv 1 rfl (wl_nil (eo_np (eo_then (cw_seq (sr (lo aggMat ((((((((((((hb9.ext (e13.trans (e17.trans (e24.trans e30)))).updN u38 (by omega)).ext (e41.trans (e46.trans (e52.trans e60)))).updN u67 (by omega)).ext (e71.trans e77)).updN u87 (by omega)).ext (e90.trans (e93.trans (e101.trans (e107.trans e115))))).updN u122 (by omega)).ext (e126.trans e132)).updN u144 (by omega)).ext (e309.trans e479)).updN u539 (by omega)) [.int .i64 Ry,.int .i64 Cy,.slice Ay ny capy] rfl rfl rfl (cl (vs:= [.agg #[.int .i64 Ry,.int .i64 Cy,.slice Ay ny capy]]) hw27 (g_top_sound_f hsy) rfl (by kernel_rfl) fun xr543 v541 r543 e542 hw28=>?_)))))))))
    obtain rfl:=r543
    refine pu (v:= .bool true) rfl (by kernel_rfl) (mv 6 rfl (pu (v:= .bool true) rfl (by kernel_rfl) (mv 6 rfl (pu (v:= .bool true) rfl (by kernel_rfl) (ne_ (cw_true rfl (sr (mv 1 rfl (ne_ (cw_ret (eo_thenR (eo_ret [.bool true] rfl ⟨rfl,trivial⟩ ?_))))))))))))
    exact⟨_,rfl,rfl,hw28⟩
 · 
  refine cw_region (pf g1 0 rfl (by kernel_rfl) (wl_load rfl rfl (load_cell cellInt (((((((hb4.ext (e8.trans (e13.trans (e17.trans (e24.trans e30))))).updN u38 (by omega)).ext (e41.trans (e46.trans (e52.trans e60)))).updN u67 (by omega)).ext (e71.trans e77)).updN u87 (by omega)).ext e90) rfl) (by decide) (mv 1 rfl (cl (vs:= [.int .i64 ((n:Nat):Int),.slice As m caps]) hw16 (g_stp_Sign_no hn (hS.ext hw16) hM hm hall) rfl (by kernel_rfl) fun xr546 v544 r546 e545 hw17=>?_))))
  obtain⟨_,_,rfl,⟨q548,rfl⟩,rfl⟩:=r546
  refine mv 1 rfl (pu (v:= .int .i64 q548) rfl (by kernel_rfl) (pu (v:= .int .i64 3) rfl (by kernel_rfl) (mv 2 rfl (ne_ (cw_seq (sr (mv 1 rfl (wl_cmp rfl rfl rfl false (by decide) (by decide) (ne_ (cw_false rfl (cw_skip (eo_then (cw_seq ?_)))))))))))))
  obtain⟨lb549,hlb549,hlelb549,hgl549,hq549_0,hq549_1,hq549_2,hq549_3,hq549_4⟩:∃lb,lb≤v544.heap.size∧v544.heap.size≤lb∧w.heap.size≤lb∧g1<lb∧g6<lb∧g28<lb∧g58<lb∧g75<lb:=⟨v544.heap.size,Nat.le_refl _,Nat.le_refl _,hw17.size,(((((((hb4.ext (e8.trans (e13.trans (e17.trans (e24.trans e30))))).updN u38 (by omega)).ext (e41.trans (e46.trans (e52.trans e60)))).updN u67 (by omega)).ext (e71.trans e77)).updN u87 (by omega)).ext (e90.trans e545)).lt,(((((((hb9.ext (e13.trans (e17.trans (e24.trans e30)))).updN u38 (by omega)).ext (e41.trans (e46.trans (e52.trans e60)))).updN u67 (by omega)).ext (e71.trans e77)).updN u87 (by omega)).ext (e90.trans e545)).lt,(((((hb37.ext (e41.trans (e46.trans (e52.trans e60)))).updN u67 (by omega)).ext (e71.trans e77)).updN u87 (by omega)).ext (e90.trans e545)).lt,(((hb66.ext (e71.trans e77)).updN u87 (by omega)).ext (e90.trans e545)).lt,(hb86.ext (e90.trans e545)).lt⟩
  have hql550:∀p:Addr,LA20=some p→p.block<lb549:=fun p hp=>Nat.lt_of_lt_of_le (((((((((lz20.ext (e24.trans e30)).updT hb31 u38 ne34).ext (e41.trans (e46.trans (e52.trans e60)))).updY hb61 u67).ext (e71.trans e77)).updT hb78 u87 ne81).ext (e90.trans e545))).block p hp).2 hlelb549
  have hql551:∀p:Addr,LA49=some p→p.block<lb549:=fun p hp=>Nat.lt_of_lt_of_le (((((((lz49.ext (e52.trans e60)).updY hb61 u67).ext (e71.trans e77)).updT hb78 u87 ne82).ext (e90.trans e545))).block p hp).2 hlelb549
  have hql552:∀p:Addr,LA56=some p→p.block<lb549:=fun p hp=>Nat.lt_of_lt_of_le (((((((lz56.ext e60).updY hb61 u67).ext (e71.trans e77)).updT hb78 u87 ne83).ext (e90.trans e545))).block p hp).2 hlelb549
  refine cw_draw mix 9 [6,7] [Is (.agg #[.int .i64 ((n:Nat):Int),.int .i64 ((n:Nat):Int),.slice Aa na capa]),MQ ((n:Nat):Int) ((n:Nat):Int) (LE (some w) 1048576 w.heap.size lb549 na xs),Is (.agg #[.int .i64 Ry,.int .i64 Cy,.slice Ay ny capy]),MQ Ry Cy (LE (some w) 1048576 w.heap.size lb549 ny ys),T2 (Is (.agg #[I0,I0,S0])) (Is (.int .i64 1)),Is (.tuple #[.agg #[I0,I0,S0],.int .i64 1]),Is (.agg #[I0,I0,S0]),Is (.int .i64 1),PR v544.heap.size 24 [I0,I0,S0]] [[],[0],[],[2],[1,3],[4],[5],[5],[]] [[],[0],[],[0,1,2],[0,1,2,3],[0,1,2,3,4],[0,1,2,3,4,5],[0,1,2,3,4,5],[],[0,1,2,3,4,5,6,8],[0,1,2,3,4,5,6,7,8,9]] rfl
   (obs_cons rfl rfl (hob rfl rfl ?_) (obs_cons rfl rfl (hob rfl rfl ?_) (obs_cons rfl rfl (hob rfl rfl ?_) (obs_cons rfl rfl (hob rfl rfl ?_) (obs_cons rfl rfl (hob rfl rfl ?_) (obs_cons rfl rfl (hob rfl rfl ?_) (obs_float rfl rfl (fob rfl ?_) (obs_float rfl rfl (fob rfl ?_) (obs_cons rfl rfl (hob rfl rfl ?_) obs_nil))))))))) ?_
  · 
   exact fun _ e561=>deps_nil (lo aggMat (((((((hb4.ext (e8.trans (e13.trans (e17.trans (e24.trans e30))))).updN u38 (by omega)).ext (e41.trans (e46.trans (e52.trans e60)))).updN u67 (by omega)).ext (e71.trans e77)).updN u87 (by omega)).ext (e90.trans (e545.trans e561))) [.int .i64 ((n:Nat):Int),.int .i64 ((n:Nat):Int),.slice Aa na capa] rfl rfl rfl (pi_done rfl (Ext.refl _) rfl))
  · 
   intro v562 e563
   have hw18:=hw17.trans e563
   refine dk rfl rfl (deps_nil (cl (vs:= [.agg #[.int .i64 ((n:Nat):Int),.int .i64 ((n:Nat):Int),.slice Aa na capa]]) hw18 (g_top_copyMat (w0:=w) hw18.size (Nat.le_trans hlb549 e563.size) hw18 ((show ZF w _ _ _ _ _ from⟨msa,hla,hma⟩).ext hw18) (by omega)) rfl (by kernel_rfl) fun xr571 v569 r571 e570 hw19=>?_))
   obtain⟨lv572,rfl,⟨LA573,lc573,rfl,lz573⟩⟩:=r571
   have blk574:=lz573.block
   exact pi_done rfl e570 ⟨_,rfl,⟨_,_,rfl,lz573⟩⟩
  · 
   exact fun _ e576=>deps_nil (lo aggMat (((((((hb9.ext (e13.trans (e17.trans (e24.trans e30)))).updN u38 (by omega)).ext (e41.trans (e46.trans (e52.trans e60)))).updN u67 (by omega)).ext (e71.trans e77)).updN u87 (by omega)).ext (e90.trans (e545.trans e576))) [.int .i64 Ry,.int .i64 Cy,.slice Ay ny capy] rfl rfl rfl (pi_done rfl (Ext.refl _) rfl))
  · 
   intro v577 e578
   have hw18:=hw17.trans e578
   refine dk rfl rfl (deps_nil (cl (vs:= [.agg #[.int .i64 Ry,.int .i64 Cy,.slice Ay ny capy]]) hw18 (g_top_copyMat (w0:=w) hw18.size (Nat.le_trans hlb549 e578.size) hw18 ((show ZF w _ _ _ _ _ from⟨msy,hly,hmy⟩).ext hw18) (by omega)) rfl (by kernel_rfl) fun xr586 v584 r586 e585 hw19=>?_))
   obtain⟨lv587,rfl,⟨LA588,lc588,rfl,lz588⟩⟩:=r586
   have blk589:=lz588.block
   exact pi_done rfl e585 ⟨_,rfl,⟨_,_,rfl,lz588⟩⟩
  · 
   intro v590 e591
   have hw18:=hw17.trans e591
   refine deps_cons rfl rfl fun x592 y593 h594 e595 f596=>?_
   obtain⟨lv597,rfl,⟨LA598,lc598,rfl,lz598⟩⟩:=h594
   have blk599:=lz598.block
   have lz598:=lz598.ext f596
   refine deps_cons rfl rfl fun x600 y601 h602 e603 f604=>?_
   obtain⟨lv605,rfl,⟨LA606,lc606,rfl,lz606⟩⟩:=h602
   have blk607:=lz606.block
   have lz606:=lz606.ext f604
   refine deps_nil (cl (vs:= [.agg #[.int .i64 ((n:Nat):Int),.int .i64 ((n:Nat):Int),.slice LA598 na lc598],.agg #[.int .i64 Ry,.int .i64 Cy,.slice LA606 ny lc606]]) hw18 (g_mat_Mul_bad2 hs hsy) rfl (by kernel_rfl) fun xr610 v608 r610 e609 hw19=>?_)
   obtain⟨_,_,rfl,rfl,rfl⟩:=r610
   exact pi_done rfl e609 ⟨_,_,rfl,rfl,rfl⟩
  · 
   intro v612 e613
   refine deps_cons rfl rfl fun x614 y615 h616 e617 f618=>?_
   obtain⟨_,_,rfl,rfl,rfl⟩:=h616
   refine deps_nil (mv 1 rfl ?_)
   exact pi_done rfl (Ext.refl _) rfl
  · 
   exact fun _ _=>dk rfl rfl (deps_nil (⟨.agg #[I0,I0,S0],rfl,rfl,fun _=>by kernel_rfl,rfl⟩))
  · 
   exact fun _ _=>dk rfl rfl (deps_nil (⟨.int .i64 1,rfl,rfl,fun _=>by kernel_rfl,rfl⟩))
  · 
   intro v634 e635
   refine deps_nil (wl_alloc rfl (z:= .agg #[I0,I0,S0]) (vs:= [I0,I0,S0]) (fun _=>by kernel_rfl) rfl (by decide) fun g636 v637 nb=>?_)
   exact pi_done rfl nb.ext ⟨_,rfl,by rw [←nb.at_];exact e635.size,nb.bk⟩
  · 
   intro v638 e639
   have hw18:=hw17.trans e639
   refine dk rfl rfl (deps_cons rfl rfl fun x645 y646 h647 e648 f649=>?_)
   obtain⟨lv650,rfl,⟨LA651,lc651,rfl,lz651⟩⟩:=h647
   have blk652:=lz651.block
   have lz651:=lz651.ext f649
   refine dk rfl rfl (deps_cons rfl rfl fun x658 y659 h660 e661 f662=>?_)
   obtain⟨lv663,rfl,⟨LA664,lc664,rfl,lz664⟩⟩:=h660
   have blk665:=lz664.block
   have lz664:=lz664.ext f662
   refine deps_cons rfl rfl fun x666 y667 h668 e669 f670=>?_
   obtain⟨_,_,rfl,rfl,rfl⟩:=h668
   refine dk rfl rfl (dk rfl rfl (dk rfl rfl (deps_cons rfl rfl fun x687 y688 h689 e690 f691=>?_)))
   obtain⟨g692,rfl,ge694,hb693⟩:=h689
   have hb693:=hb693.ext f691
   have q695:g75<g692:=Nat.lt_of_lt_of_le (hb86.ext (e90.trans e545)).lt ge694
   have ge694:w.heap.size≤g692:=Nat.le_trans hw17.size ge694
   refine deps_nil (so aggMat hb693 [I0,I0,S0] hw18 ge694 rfl rfl rfl rfl fun v696 hb698 u699 hw19=>(mv 1 rfl (wl_nil (eo_np (eo_then (cw_seq (sr (lo aggMat ((((((((hb9.ext (e13.trans (e17.trans (e24.trans e30)))).updN u38 (by omega)).ext (e41.trans (e46.trans (e52.trans e60)))).updN u67 (by omega)).ext (e71.trans e77)).updN u87 (by omega)).ext (e90.trans (e545.trans e639))).updN u699 (by omega)) [.int .i64 Ry,.int .i64 Cy,.slice Ay ny capy] rfl rfl rfl (cl (vs:= [.agg #[.int .i64 Ry,.int .i64 Cy,.slice Ay ny capy]]) hw19 (g_top_sound_f hsy) rfl (by kernel_rfl) fun xr703 v701 r703 e702 hw20=>?_)))))))))
   obtain rfl:=r703
   refine pu (v:= .bool true) rfl (by kernel_rfl) (mv 6 rfl (pu (v:= .bool true) rfl (by kernel_rfl) (mv 6 rfl (pu (v:= .bool true) rfl (by kernel_rfl) (ne_ (cw_true rfl (sr (mv 1 rfl (ne_ (cw_ret (eo_thenR (eo_ret [.bool true] rfl ⟨rfl,trivial⟩ ?_))))))))))))
   exact⟨_,rfl,rfl,hw20⟩
set_option maxHeartbeats 4000000 in
set_option maxRecDepth 20000 in
theorem g_top_WholeDetProduct_ok_unfit {w:World}{n Ka:Nat}{X:Mx}{Aa:Option Addr}{na capa:Nat}{xs:List Int}(hxa:ZF w Aa na capa 1048576 xs){Ay:Option Addr}{ny capy:Nat}{ys:List Int}(hxy:ZF w Ay ny capy 1048576 ys){As:Option Addr}{m caps:Nat}{ss:List Stp}{ms:List Nat}(hS:Sl w As m ss ms) (hM:∀i,ms.getD i 0≤1048576) (hm:m≤1048576) (hna1:na≤1048576) (hny1:ny≤1048576) (hna:na=n*n) (hn:n≤64) (hX:En n n X xs) (hXa:∀a b,a<n→b<n→ln (X a b)≤Ka) (hKa:Ka+(m+ms.sum)≤1048576){Ry Cy:Int}(hsy:Snd Ry Cy ny) (hRy:Ry≠((n:Nat):Int)):
    Calls Try.prog 4 #[.agg #[.int .i64 ((n:Nat):Int),.int .i64 ((n:Nat):Int),.slice Aa na capa],.agg #[.int .i64 Ry,.int .i64 Cy,.slice Ay ny capy],.slice As m caps] w (Gv w (Is (.bool true))):=by
 have hlb:w.heap.size≤w.heap.size:=Nat.le_refl _
 have hxa0:=hxa
 have hxy0:=hxy
 have hs:Snd ((n:Nat):Int) ((n:Nat):Int) na:=snd_mk hn hn hna
 obtain⟨msa,hla,hma⟩:=hxa
 obtain⟨msy,hly,hmy⟩:=hxy
 refine sx_enter Try.func4 rfl (n:=161) rfl (bq rfl) (args:= [.agg #[.int .i64 ((n:Nat):Int),.int .i64 ((n:Nat):Int),.slice Aa na capa],.agg #[.int .i64 Ry,.int .i64 Cy,.slice Ay ny capy],.slice As m caps]) (cw_keep [(0,.agg #[.int .i64 ((n:Nat):Int),.int .i64 ((n:Nat):Int),.slice Aa na capa]),(1,.agg #[.int .i64 Ry,.int .i64 Cy,.slice Ay ny capy]),(2,.slice As m caps)] ⟨rfl,rfl,rfl,trivial⟩ (sr (bx [.int .i64 ((n:Nat):Int),.int .i64 ((n:Nat):Int),.slice Aa na capa] (Ext.refl w) rfl rfl rfl fun g1 v2 hb4 ge5 e3 hw1=>(bxq [.int .i64 Ry,.int .i64 Cy,.slice Ay ny capy] hw1 hb4.lt rfl rfl rfl fun g6 v7 hb9 ge10 q11 e8 hw2=>(mv 1 rfl (ne_ (cw_seq (sr (wl_call rfl rfl (vs:= []) (by kernel_rfl) (by decide) g_top_detWakes ?_)))))))))
 rintro _ v12 ⟨xr14,rfl,r14,e13⟩
 refine ret_intro ?_
 have hw3:=hw2.trans e13
 obtain rfl:=r14
 refine pu (v:= .bool false) rfl (by kernel_rfl) (ne_ (cw_false rfl (cw_skip (eo_then (sr (lo aggMat (hb4.ext (e8.trans e13)) [.int .i64 ((n:Nat):Int),.int .i64 ((n:Nat):Int),.slice Aa na capa] rfl rfl rfl ?_))))))
 obtain⟨lb15,hlb15,hlelb15,hgl15,hq15_0,hq15_1⟩:∃lb,lb≤v12.heap.size∧v12.heap.size≤lb∧w.heap.size≤lb∧g1<lb∧g6<lb:=⟨v12.heap.size,Nat.le_refl _,Nat.le_refl _,hw3.size,(hb4.ext (e8.trans e13)).lt,(hb9.ext e13).lt⟩
 refine cl (vs:= [.agg #[.int .i64 ((n:Nat):Int),.int .i64 ((n:Nat):Int),.slice Aa na capa]]) hw3 (g_top_copyMat (w0:=w) hw3.size hlb15 hw3 ((show ZF w _ _ _ _ _ from⟨msa,hla,hma⟩).ext hw3) (by omega)) rfl (by kernel_rfl) fun xr18 v16 r18 e17 hw4=>?_
 obtain⟨lv19,rfl,⟨LA20,lc20,rfl,lz20⟩⟩:=r18
 have blk21:=lz20.block
 have Ld22:ln (dt n X)≤134217728:=ln_dtB hn (fun i j hi hj=>hX.ln ((lz20).zf hw4) hi hj)
 refine cl (vs:= [.agg #[.int .i64 ((n:Nat):Int),.int .i64 ((n:Nat):Int),.slice LA20 na lc20]]) hw4 (g_brs_Det (X:=X) hw4.size ((lz20).zf hw4) hna hn hX) rfl (by kernel_rfl) fun xr25 v23 r25 e24 hw5=>?_
 obtain⟨_,_,rfl,⟨s27,A27,n27,c27,rfl,z27⟩,rfl⟩:=r25
 refine mv 1 rfl (pu (v:= .agg #[.bool s27,.slice A27 n27 c27]) rfl (by kernel_rfl) (pu (v:= .int .i64 0) rfl (by kernel_rfl) (wl_alloc rfl (z:= .agg #[F0,S0]) (vs:= [F0,S0]) (fun _=>by kernel_rfl) rfl (by decide) fun g28 v29 nb=>?_)))
 have hb31:=nb.bk
 have ge32:w.heap.size≤g28:=by rw [←nb.at_];exact hw5.size
 have q33:g6<g28:=by rw [←nb.at_];exact (hb9.ext (e13.trans (e17.trans e24))).lt
 have ne34:∀p:Addr,LA20=some p→p.block≠g28:=fun p hp=>by have:=((lz20.ext e24)).block p hp;have:=nb.at_;omega
 have e30:=nb.ext
 clear nb
 have hw6:=hw5.trans e30
 refine so aggInt hb31 [.bool s27,.slice A27 n27 c27] hw6 ge32 rfl rfl rfl rfl fun v35 hb37 u38 hw7=>(mv 1 rfl (ne_ (cw_seq (sr (lo aggMat ((hb4.ext (e8.trans (e13.trans (e17.trans (e24.trans e30))))).updN u38 (by omega)) [.int .i64 ((n:Nat):Int),.int .i64 ((n:Nat):Int),.slice Aa na capa] rfl rfl rfl (cl (vs:= [.agg #[.int .i64 ((n:Nat):Int),.int .i64 ((n:Nat):Int),.slice Aa na capa]]) hw7 (g_top_sound_t hs) rfl (by kernel_rfl) fun xr42 v40 r42 e41 hw8=>?_))))))
 obtain rfl:=r42
 refine pu (v:= .bool false) rfl (by kernel_rfl) (mv 1 rfl (pf g1 0 rfl (by kernel_rfl) (wl_load rfl rfl (load_cell cellInt (((hb4.ext (e8.trans (e13.trans (e17.trans (e24.trans e30))))).updN u38 (by omega)).ext e41) rfl) (by decide) (pf g1 1 rfl (by kernel_rfl) (wl_load rfl rfl (load_cell cellInt (((hb4.ext (e8.trans (e13.trans (e17.trans (e24.trans e30))))).updN u38 (by omega)).ext e41) rfl) (by decide) (wl_cmp rfl rfl rfl false (cb_ne_f (a:=n) (b:=n) rfl rfl (by omega)) (by decide) (pu (v:= .bool false) rfl (by kernel_rfl) (ne_ (cw_false rfl (cw_skip (eo_then (sr (lo aggMat (((hb4.ext (e8.trans (e13.trans (e17.trans (e24.trans e30))))).updN u38 (by omega)).ext e41) [.int .i64 ((n:Nat):Int),.int .i64 ((n:Nat):Int),.slice Aa na capa] rfl rfl rfl ?_)))))))))))))
 obtain⟨lb43,hlb43,hlelb43,hgl43,hq43_0,hq43_1,hq43_2⟩:∃lb,lb≤v40.heap.size∧v40.heap.size≤lb∧w.heap.size≤lb∧g1<lb∧g6<lb∧g28<lb:=⟨v40.heap.size,Nat.le_refl _,Nat.le_refl _,hw8.size,(((hb4.ext (e8.trans (e13.trans (e17.trans (e24.trans e30))))).updN u38 (by omega)).ext e41).lt,(((hb9.ext (e13.trans (e17.trans (e24.trans e30)))).updN u38 (by omega)).ext e41).lt,(hb37.ext e41).lt⟩
 have hql44:∀p:Addr,LA20=some p→p.block<lb43:=fun p hp=>Nat.lt_of_lt_of_le (((((lz20.ext (e24.trans e30)).updT hb31 u38 ne34).ext e41)).block p hp).2 hlelb43
 refine cl (vs:= [.agg #[.int .i64 ((n:Nat):Int),.int .i64 ((n:Nat):Int),.slice Aa na capa]]) hw8 (g_top_copyMat (w0:=w) hw8.size hlb43 hw8 ((show ZF w _ _ _ _ _ from⟨msa,hla,hma⟩).ext hw8) (by omega)) rfl (by kernel_rfl) fun xr47 v45 r47 e46 hw9=>?_
 obtain⟨lv48,rfl,⟨LA49,lc49,rfl,lz49⟩⟩:=r47
 have blk50:=lz49.block
 refine cl (vs:= [.agg #[.int .i64 ((n:Nat):Int),.int .i64 ((n:Nat):Int),.slice LA49 na lc49]]) hw9 (g_mat_Turn (r:=n) (c:=n) (K:=1048576) (X:=X) hw9.size (Nat.le_trans hlb43 e46.size) ((lz49).zf hw9) hna hn hn hX (by decide)) rfl (by kernel_rfl) fun xr53 v51 r53 e52 hw10=>?_
 obtain⟨_,_,rfl,⟨lv55,rfl,⟨LA56,lc56,zs56,rfl,lz56,hz56⟩⟩,r54_1⟩:=r53
 have blk57:=lz56.block
 obtain rfl:=r54_1
 refine mv 1 rfl (pu (v:= .agg #[.int .i64 ((n:Nat):Int),.int .i64 ((n:Nat):Int),.slice LA56 (n*n) lc56]) rfl (by kernel_rfl) (pu (v:= .int .i64 0) rfl (by kernel_rfl) (alq [I0,I0,S0] hw10 (hb37.ext (e41.trans (e46.trans e52))).lt (fun _=>by kernel_rfl) rfl fun g58 v59 hb61 ge62 q63 e60 hw11=>(so aggMat hb61 [.int .i64 ((n:Nat):Int),.int .i64 ((n:Nat):Int),.slice LA56 (n*n) lc56] hw11 ge62 rfl rfl rfl rfl fun v64 hb66 u67 hw12=>(mv 1 rfl (ne_ (sr (lo aggMat hb66 [.int .i64 ((n:Nat):Int),.int .i64 ((n:Nat):Int),.slice LA56 (n*n) lc56] rfl rfl rfl ?_))))))))
 have Ld69:ln (dt n (tq X))≤134217728:=ln_dtB hn (fun i j hi hj=>hz56.ln (((lz56.ext e60).updY hb61 u67).zf0) hi hj)
 refine cl (vs:= [.agg #[.int .i64 ((n:Nat):Int),.int .i64 ((n:Nat):Int),.slice LA56 (n*n) lc56]]) hw12 (g_brs_Det (X:=tq X) hw12.size (((lz56.ext e60).updY hb61 u67).zf0) rfl hn hz56) rfl (by kernel_rfl) fun xr72 v70 r72 e71 hw13=>?_
 obtain⟨_,_,rfl,⟨s74,A74,n74,c74,rfl,z74⟩,rfl⟩:=r72
 refine mv 1 rfl (pu (v:= .agg #[.bool s74,.slice A74 n74 c74]) rfl (by kernel_rfl) (pu (v:= .int .i64 0) rfl (by kernel_rfl) (wl_alloc rfl (z:= .agg #[F0,S0]) (vs:= [F0,S0]) (fun _=>by kernel_rfl) rfl (by decide) fun g75 v76 nb=>?_)))
 have hb78:=nb.bk
 have ge79:w.heap.size≤g75:=by rw [←nb.at_];exact hw13.size
 have q80:g58<g75:=by rw [←nb.at_];exact (hb66.ext e71).lt
 have ne81:∀p:Addr,LA20=some p→p.block≠g75:=fun p hp=>by have:=((((((lz20.ext (e24.trans e30)).updT hb31 u38 ne34).ext (e41.trans (e46.trans (e52.trans e60)))).updY hb61 u67).ext e71)).block p hp;have:=nb.at_;omega
 have ne82:∀p:Addr,LA49=some p→p.block≠g75:=fun p hp=>by have:=((((lz49.ext (e52.trans e60)).updY hb61 u67).ext e71)).block p hp;have:=nb.at_;omega
 have ne83:∀p:Addr,LA56=some p→p.block≠g75:=fun p hp=>by have:=((((lz56.ext e60).updY hb61 u67).ext e71)).block p hp;have:=nb.at_;omega
 have e77:=nb.ext
 clear nb
 have hw14:=hw13.trans e77
 refine so aggInt hb78 [.bool s74,.slice A74 n74 c74] hw14 ge79 rfl rfl rfl rfl fun v84 hb86 u87 hw15=>(mv 1 rfl (ne_ (cw_seq (sr (mv 1 rfl (wl_cmp rfl rfl rfl false (by decide) (by decide) (mv 2 rfl (wl_cmp rfl rfl rfl false (by decide) (by decide) (pu (v:= .bool false) rfl (by kernel_rfl) (mv 2 rfl (wl_cmp rfl rfl rfl false (by decide) (by decide) (pu (v:= .bool false) rfl (by kernel_rfl) (mv 1 rfl ?_)))))))))))))
 refine lo aggInt ((((hb37.ext (e41.trans (e46.trans (e52.trans e60)))).updN u67 (by omega)).ext (e71.trans e77)).updN u87 (by omega)) [.bool s27,.slice A27 n27 c27] rfl rfl rfl (lo aggInt hb86 [.bool s74,.slice A74 n74 c74] rfl rfl rfl (cl (vs:= [.agg #[.bool s27,.slice A27 n27 c27],.agg #[.bool s74,.slice A74 n74 c74]]) hw15 (g_top_sameInt (((((((z27.ext e30).updT hb31 u38).ext (e41.trans (e46.trans (e52.trans e60)))).updT hb61 u67).ext (e71.trans e77)).updT hb78 u87)) ((((z74.ext e77).updT hb78 u87)).cast (dt_tq n X))) rfl (by kernel_rfl) fun xr91 v89 r91 e90 hw16=>?_))
 obtain rfl:=r91
 refine pu (v:= .bool false) rfl (by kernel_rfl) (pu (v:= .bool false) rfl (by kernel_rfl) (ne_ (cw_false rfl (cw_skip (eo_then (cw_seq ?_))))))
 by_cases hall:∀i,i<m→(ss.getD i Stp.z).fit n
 · 
  refine cw_region (pf g1 0 rfl (by kernel_rfl) (wl_load rfl rfl (load_cell cellInt (((((((hb4.ext (e8.trans (e13.trans (e17.trans (e24.trans e30))))).updN u38 (by omega)).ext (e41.trans (e46.trans (e52.trans e60)))).updN u67 (by omega)).ext (e71.trans e77)).updN u87 (by omega)).ext e90) rfl) (by decide) (mv 1 rfl (cl (vs:= [.int .i64 ((n:Nat):Int),.slice As m caps]) hw16 (g_stp_Sign_ok hn (hS.ext hw16) hM hm hall) rfl (by kernel_rfl) fun xr94 v92 r94 e93 hw17=>?_))))
  obtain⟨_,_,rfl,rfl,rfl⟩:=r94
  refine mv 1 rfl (pu (v:= .int .i64 (sgl ss)) rfl (by kernel_rfl) (pu (v:= .int .i64 0) rfl (by kernel_rfl) (mv 2 rfl (ne_ (cw_seq (sr (mv 1 rfl (wl_cmp rfl rfl rfl true (by decide) (by decide) (ne_ (cw_true rfl (sr (lo aggMat (((((((hb4.ext (e8.trans (e13.trans (e17.trans (e24.trans e30))))).updN u38 (by omega)).ext (e41.trans (e46.trans (e52.trans e60)))).updN u67 (by omega)).ext (e71.trans e77)).updN u87 (by omega)).ext (e90.trans e93)) [.int .i64 ((n:Nat):Int),.int .i64 ((n:Nat):Int),.slice Aa na capa] rfl rfl rfl ?_))))))))))))
  obtain⟨lb96,hlb96,hlelb96,hgl96,hq96_0,hq96_1,hq96_2,hq96_3,hq96_4⟩:∃lb,lb≤v92.heap.size∧v92.heap.size≤lb∧w.heap.size≤lb∧g1<lb∧g6<lb∧g28<lb∧g58<lb∧g75<lb:=⟨v92.heap.size,Nat.le_refl _,Nat.le_refl _,hw17.size,(((((((hb4.ext (e8.trans (e13.trans (e17.trans (e24.trans e30))))).updN u38 (by omega)).ext (e41.trans (e46.trans (e52.trans e60)))).updN u67 (by omega)).ext (e71.trans e77)).updN u87 (by omega)).ext (e90.trans e93)).lt,(((((((hb9.ext (e13.trans (e17.trans (e24.trans e30)))).updN u38 (by omega)).ext (e41.trans (e46.trans (e52.trans e60)))).updN u67 (by omega)).ext (e71.trans e77)).updN u87 (by omega)).ext (e90.trans e93)).lt,(((((hb37.ext (e41.trans (e46.trans (e52.trans e60)))).updN u67 (by omega)).ext (e71.trans e77)).updN u87 (by omega)).ext (e90.trans e93)).lt,(((hb66.ext (e71.trans e77)).updN u87 (by omega)).ext (e90.trans e93)).lt,(hb86.ext (e90.trans e93)).lt⟩
  have hql97:∀p:Addr,LA20=some p→p.block<lb96:=fun p hp=>Nat.lt_of_lt_of_le (((((((((lz20.ext (e24.trans e30)).updT hb31 u38 ne34).ext (e41.trans (e46.trans (e52.trans e60)))).updY hb61 u67).ext (e71.trans e77)).updT hb78 u87 ne81).ext (e90.trans e93))).block p hp).2 hlelb96
  have hql98:∀p:Addr,LA49=some p→p.block<lb96:=fun p hp=>Nat.lt_of_lt_of_le (((((((lz49.ext (e52.trans e60)).updY hb61 u67).ext (e71.trans e77)).updT hb78 u87 ne82).ext (e90.trans e93))).block p hp).2 hlelb96
  have hql99:∀p:Addr,LA56=some p→p.block<lb96:=fun p hp=>Nat.lt_of_lt_of_le (((((((lz56.ext e60).updY hb61 u67).ext (e71.trans e77)).updT hb78 u87 ne83).ext (e90.trans e93))).block p hp).2 hlelb96
  refine cl (vs:= [.agg #[.int .i64 ((n:Nat):Int),.int .i64 ((n:Nat):Int),.slice Aa na capa]]) hw17 (g_top_copyMat (w0:=w) hw17.size hlb96 hw17 ((show ZF w _ _ _ _ _ from⟨msa,hla,hma⟩).ext hw17) (by omega)) rfl (by kernel_rfl) fun xr102 v100 r102 e101 hw18=>?_
  obtain⟨lv103,rfl,⟨LA104,lc104,rfl,lz104⟩⟩:=r102
  have blk105:=lz104.block
  refine mv 1 rfl (cl (vs:= [.agg #[.int .i64 ((n:Nat):Int),.int .i64 ((n:Nat):Int),.slice LA104 na lc104],.slice As m caps]) hw18 (g_stp_Rows (X:=X) (Ka:=Ka) hw18.size (Nat.le_trans hlb96 e101.size) ((lz104).zf hw18) hna hn hX (hS.ext hw18) hM hm hall hXa hKa) rfl (by kernel_rfl) fun xr108 v106 r108 e107 hw19=>?_)
  obtain⟨_,_,rfl,⟨lv110,rfl,⟨LA111,lc111,zs111,rfl,lz111,hz111⟩⟩,r109_1⟩:=r108
  have blk112:=lz111.block
  obtain rfl:=r109_1
  refine mv 1 rfl (pu (v:= .agg #[.int .i64 ((n:Nat):Int),.int .i64 ((n:Nat):Int),.slice LA111 (n*n) lc111]) rfl (by kernel_rfl) (pu (v:= .int .i64 0) rfl (by kernel_rfl) (alq [I0,I0,S0] hw19 (hb86.ext (e90.trans (e93.trans (e101.trans e107)))).lt (fun _=>by kernel_rfl) rfl fun g113 v114 hb116 ge117 q118 e115 hw20=>(so aggMat hb116 [.int .i64 ((n:Nat):Int),.int .i64 ((n:Nat):Int),.slice LA111 (n*n) lc111] hw20 ge117 rfl rfl rfl rfl fun v119 hb121 u122 hw21=>(mv 1 rfl (ne_ (sr (lo aggMat hb121 [.int .i64 ((n:Nat):Int),.int .i64 ((n:Nat):Int),.slice LA111 (n*n) lc111] rfl rfl rfl ?_))))))))
  have Ld124:ln (dt n (stps ss X))≤134217728:=ln_dtB hn (fun i j hi hj=>hz111.ln (((lz111.ext e115).updY hb116 u122).zf0) hi hj)
  refine cl (vs:= [.agg #[.int .i64 ((n:Nat):Int),.int .i64 ((n:Nat):Int),.slice LA111 (n*n) lc111]]) hw21 (g_brs_Det (X:=stps ss X) hw21.size (((lz111.ext e115).updY hb116 u122).zf0) rfl hn hz111) rfl (by kernel_rfl) fun xr127 v125 r127 e126 hw22=>?_
  obtain⟨_,_,rfl,⟨s129,A129,n129,c129,rfl,z129⟩,rfl⟩:=r127
  refine mv 1 rfl (pu (v:= .agg #[.bool s129,.slice A129 n129 c129]) rfl (by kernel_rfl) (pu (v:= .int .i64 0) rfl (by kernel_rfl) (wl_alloc rfl (z:= .agg #[F0,S0]) (vs:= [F0,S0]) (fun _=>by kernel_rfl) rfl (by decide) fun g130 v131 nb=>?_)))
  have hb133:=nb.bk
  have ge134:w.heap.size≤g130:=by rw [←nb.at_];exact hw22.size
  have q135:g113<g130:=by rw [←nb.at_];exact (hb121.ext e126).lt
  have ne136:∀p:Addr,LA20=some p→p.block≠g130:=fun p hp=>by have:=((((((((((lz20.ext (e24.trans e30)).updT hb31 u38 ne34).ext (e41.trans (e46.trans (e52.trans e60)))).updY hb61 u67).ext (e71.trans e77)).updT hb78 u87 ne81).ext (e90.trans (e93.trans (e101.trans (e107.trans e115))))).updY hb116 u122).ext e126)).block p hp;have:=nb.at_;omega
  have ne137:∀p:Addr,LA49=some p→p.block≠g130:=fun p hp=>by have:=((((((((lz49.ext (e52.trans e60)).updY hb61 u67).ext (e71.trans e77)).updT hb78 u87 ne82).ext (e90.trans (e93.trans (e101.trans (e107.trans e115))))).updY hb116 u122).ext e126)).block p hp;have:=nb.at_;omega
  have ne138:∀p:Addr,LA56=some p→p.block≠g130:=fun p hp=>by have:=((((((((lz56.ext e60).updY hb61 u67).ext (e71.trans e77)).updT hb78 u87 ne83).ext (e90.trans (e93.trans (e101.trans (e107.trans e115))))).updY hb116 u122).ext e126)).block p hp;have:=nb.at_;omega
  have ne139:∀p:Addr,LA104=some p→p.block≠g130:=fun p hp=>by have:=((((lz104.ext (e107.trans e115)).updY hb116 u122).ext e126)).block p hp;have:=nb.at_;omega
  have ne140:∀p:Addr,LA111=some p→p.block≠g130:=fun p hp=>by have:=((((lz111.ext e115).updY hb116 u122).ext e126)).block p hp;have:=nb.at_;omega
  have e132:=nb.ext
  clear nb
  have hw23:=hw22.trans e132
  refine so aggInt hb133 [.bool s129,.slice A129 n129 c129] hw23 ge134 rfl rfl rfl rfl fun v141 hb143 u144 hw24=>(mv 1 rfl (ne_ (cw_seq ?_)))
  have L147:ln ((dt n X)*(sgl ss))≤134217729:=Nat.le_trans (ln_mul Ld22 (ln_w1 (by have:=sgl_or ss;omega) (by have:=sgl_or ss;omega))) (by decide)
  refine cw_draw mix 15 [] [Is (.int .i64 0),Is (.bool false),Is (.bool false),Is (.int .i64 0),Is (.bool false),Is (.bool false),Is (.bool false),Is (.agg #[.bool s129,.slice A129 n129 c129]),Is (.agg #[.bool s27,.slice A27 n27 c27]),Is (.int .i64 (sgl ss)),ZR w.heap.size (sgl ss),ZR w.heap.size ((dt n X)*(sgl ss)),Is (.bool true),Is (.bool false),Is (.bool false)] [[],[0],[1],[2],[2,3],[2,4],[5],[6],[6],[6],[6,9],[6,8,10],[6,7,11],[6,12],[6,13]] [[],[0],[0,1],[0,1,2],[0,1,2,3],[0,1,2,3,4],[0,1,2,3,4,5],[0,1,2,3,4,5,6],[0,1,2,3,4,5,6],[0,1,2,3,4,5,6],[0,1,2,3,4,5,6,9],[0,1,2,3,4,5,6,8,9,10],[0,1,2,3,4,5,6,7,8,9,10,11],[0,1,2,3,4,5,6,7,8,9,10,11,12],[0,1,2,3,4,5,6,7,8,9,10,11,12,13]] rfl
   (obs_cons rfl rfl (hob rfl rfl ?_) (obs_cons rfl rfl (hob rfl rfl ?_) (obs_cons rfl rfl (hob rfl rfl ?_) (obs_cons rfl rfl (hob rfl rfl ?_) (obs_cons rfl rfl (hob rfl rfl ?_) (obs_cons rfl rfl (hob rfl rfl ?_) (obs_cons rfl rfl (hob rfl rfl ?_) (obs_cons rfl rfl (hob rfl rfl ?_) (obs_cons rfl rfl (hob rfl rfl ?_) (obs_cons rfl rfl (hob rfl rfl ?_) (obs_cons rfl rfl (hob rfl rfl ?_) (obs_cons rfl rfl (hob rfl rfl ?_) (obs_cons rfl rfl (hob rfl rfl ?_) (obs_cons rfl rfl (hob rfl rfl ?_) (obs_cons rfl rfl (hob rfl rfl ?_) obs_nil))))))))))))))) ?_
  · 
   exact fun _ _=>deps_nil (mv 1 rfl (pi_done rfl (Ext.refl _) rfl))
  · 
   exact fun _ _=>dk rfl rfl (deps_nil (wl_cmp rfl rfl rfl false (by decide) (by decide) (pi_done rfl (Ext.refl _) rfl)))
  · 
   exact fun _ _=>dk rfl rfl (deps_nil (mv 1 rfl (pi_done rfl (Ext.refl _) rfl)))
  · 
   exact fun _ _=>dk rfl rfl (deps_nil (mv 1 rfl (pi_done rfl (Ext.refl _) rfl)))
  · 
   exact fun _ _=>dk rfl rfl (dk rfl rfl (deps_nil (wl_cmp rfl rfl rfl false (by decide) (by decide) (pi_done rfl (Ext.refl _) rfl))))
  · 
   exact fun _ _=>dk rfl rfl (dk rfl rfl (deps_nil (pu (v:= .bool false) rfl (by kernel_rfl) (pi_done rfl (Ext.refl _) rfl))))
  · 
   exact fun _ _=>dk rfl rfl (deps_nil (mv 1 rfl (pi_done rfl (Ext.refl _) rfl)))
  · 
   exact fun _ e204=>dk rfl rfl (deps_nil (lo aggInt (hb143.ext e204) [.bool s129,.slice A129 n129 c129] rfl rfl rfl (pi_done rfl (Ext.refl _) rfl)))
  · 
   exact fun _ e211=>dk rfl rfl (deps_nil (lo aggInt (((((((((hb37.ext (e41.trans (e46.trans (e52.trans e60)))).updN u67 (by omega)).ext (e71.trans e77)).updN u87 (by omega)).ext (e90.trans (e93.trans (e101.trans (e107.trans e115))))).updN u122 (by omega)).ext (e126.trans e132)).updN u144 (by omega)).ext e211) [.bool s27,.slice A27 n27 c27] rfl rfl rfl (pi_done rfl (Ext.refl _) rfl)))
  · 
   exact fun _ _=>dk rfl rfl (deps_nil (mv 1 rfl (pi_done rfl (Ext.refl _) rfl)))
  · 
   intro v224 e225
   have hw25:=hw24.trans e225
   refine dk rfl rfl (dk rfl rfl (deps_nil (cl (vs:= [.int .i64 (sgl ss)]) hw25 (g_zint_Of hw25.size (by have:=sgl_or ss;omega) (by have:=sgl_or ss;omega)) rfl (by kernel_rfl) fun xr238 v236 r238 e237 hw26=>?_)))
   obtain⟨s239,A239,n239,c239,rfl,z239⟩:=r238
   exact pi_done rfl e237 ⟨_,_,_,_,rfl,z239⟩
  · 
   intro v240 e241
   have hw25:=hw24.trans e241
   refine dk rfl rfl (dk rfl rfl (deps_cons rfl rfl fun x252 y253 h254 e255 f256=>?_))
   obtain⟨s257,A257,n257,c257,rfl,z257⟩:=h254
   have z257:=z257.ext f256
   refine deps_nil ?_
   have L258:ln ((dt n X)*(sgl ss))≤134217729:=Nat.le_trans (ln_mul Ld22 (ln_w1 (by have:=sgl_or ss;omega) (by have:=sgl_or ss;omega))) (by decide)
   refine cl (vs:= [.agg #[.bool s27,.slice A27 n27 c27],.agg #[.bool s257,.slice A257 n257 c257]]) hw25 (g_zint_Mul hw25.size (((((((((((z27.ext e30).updT hb31 u38).ext (e41.trans (e46.trans (e52.trans e60)))).updT hb61 u67).ext (e71.trans e77)).updT hb78 u87).ext (e90.trans (e93.trans (e101.trans (e107.trans e115))))).updT hb116 u122).ext (e126.trans e132)).updT hb133 u144).ext e241).zi (z27.le (lx_ Ld22 rfl)) z257.zi (z257.le (Nat.le_trans (ln_w1 (by have:=sgl_or ss;omega) (by have:=sgl_or ss;omega)) (by decide)))) rfl (by kernel_rfl) fun xr261 v259 r261 e260 hw26=>?_
   obtain⟨s262,A262,n262,c262,rfl,z262⟩:=r261
   exact pi_done rfl e260 ⟨_,_,_,_,rfl,z262⟩
  · 
   intro v263 e264
   have hw25:=hw24.trans e264
   refine dk rfl rfl (dk rfl rfl (deps_cons rfl rfl fun x275 y276 h277 e278 f279=>?_))
   obtain⟨s280,A280,n280,c280,rfl,z280⟩:=h277
   have z280:=z280.ext f279
   refine deps_nil (cl (vs:= [.agg #[.bool s129,.slice A129 n129 c129],.agg #[.bool s280,.slice A280 n280 c280]]) hw25 (g_top_sameInt (((((z129.ext e132).updT hb133 u144).ext e264)).cast ((dt_stps ss X (hallm hS hall)).trans (Int.mul_comm _ _))) (z280)) rfl (by kernel_rfl) fun xr283 v281 r283 e282 hw26=>?_)
   obtain rfl:=r283
   exact pi_done rfl e282 rfl
  · 
   exact fun _ _=>dk rfl rfl (dk rfl rfl (deps_nil (pu (v:= .bool false) rfl (by kernel_rfl) (pi_done rfl (Ext.refl _) rfl))))
  · 
   exact fun _ _=>dk rfl rfl (dk rfl rfl (deps_nil (pu (v:= .bool false) rfl (by kernel_rfl) (pi_done rfl (Ext.refl _) rfl))))
  · 
   intro v308 e309
   have hw25:=hw24.trans e309
   refine dk rfl rfl (dk rfl rfl (dk rfl rfl (dk rfl rfl (dk rfl rfl (dk rfl rfl (dk rfl rfl (dk rfl rfl (dk rfl rfl (dk rfl rfl (deps_cons rfl rfl fun x360 y361 h362 e363 f364=>?_))))))))))
   obtain⟨s365,A365,n365,c365,rfl,z365⟩:=h362
   have z365:=z365.ext f364
   refine deps_cons rfl rfl fun x366 y367 h368 e369 f370=>?_
   obtain⟨s371,A371,n371,c371,rfl,z371⟩:=h368
   have z371:=z371.ext f370
   refine dk rfl rfl (dk rfl rfl (dk rfl rfl (deps_nil (wl_nil (eo_np (eo_then (cw_false rfl (cw_skip (eo_then (cw_seq ?_))))))))))
   obtain⟨lb387,hlb387,hlelb387,hgl387,hq387_0,hq387_1,hq387_2,hq387_3,hq387_4,hq387_5,hq387_6⟩:∃lb,lb≤v308.heap.size∧v308.heap.size≤lb∧w.heap.size≤lb∧g1<lb∧g6<lb∧g28<lb∧g58<lb∧g75<lb∧g113<lb∧g130<lb:=⟨v308.heap.size,Nat.le_refl _,Nat.le_refl _,hw25.size,(((((((((((hb4.ext (e8.trans (e13.trans (e17.trans (e24.trans e30))))).updN u38 (by omega)).ext (e41.trans (e46.trans (e52.trans e60)))).updN u67 (by omega)).ext (e71.trans e77)).updN u87 (by omega)).ext (e90.trans (e93.trans (e101.trans (e107.trans e115))))).updN u122 (by omega)).ext (e126.trans e132)).updN u144 (by omega)).ext e309).lt,(((((((((((hb9.ext (e13.trans (e17.trans (e24.trans e30)))).updN u38 (by omega)).ext (e41.trans (e46.trans (e52.trans e60)))).updN u67 (by omega)).ext (e71.trans e77)).updN u87 (by omega)).ext (e90.trans (e93.trans (e101.trans (e107.trans e115))))).updN u122 (by omega)).ext (e126.trans e132)).updN u144 (by omega)).ext e309).lt,(((((((((hb37.ext (e41.trans (e46.trans (e52.trans e60)))).updN u67 (by omega)).ext (e71.trans e77)).updN u87 (by omega)).ext (e90.trans (e93.trans (e101.trans (e107.trans e115))))).updN u122 (by omega)).ext (e126.trans e132)).updN u144 (by omega)).ext e309).lt,(((((((hb66.ext (e71.trans e77)).updN u87 (by omega)).ext (e90.trans (e93.trans (e101.trans (e107.trans e115))))).updN u122 (by omega)).ext (e126.trans e132)).updN u144 (by omega)).ext e309).lt,(((((hb86.ext (e90.trans (e93.trans (e101.trans (e107.trans e115))))).updN u122 (by omega)).ext (e126.trans e132)).updN u144 (by omega)).ext e309).lt,(((hb121.ext (e126.trans e132)).updN u144 (by omega)).ext e309).lt,(hb143.ext e309).lt⟩
   have hql388:∀p:Addr,LA20=some p→p.block<lb387:=fun p hp=>Nat.lt_of_lt_of_le (((((((((((((lz20.ext (e24.trans e30)).updT hb31 u38 ne34).ext (e41.trans (e46.trans (e52.trans e60)))).updY hb61 u67).ext (e71.trans e77)).updT hb78 u87 ne81).ext (e90.trans (e93.trans (e101.trans (e107.trans e115))))).updY hb116 u122).ext (e126.trans e132)).updT hb133 u144 ne136).ext e309)).block p hp).2 hlelb387
   have hql389:∀p:Addr,LA49=some p→p.block<lb387:=fun p hp=>Nat.lt_of_lt_of_le (((((((((((lz49.ext (e52.trans e60)).updY hb61 u67).ext (e71.trans e77)).updT hb78 u87 ne82).ext (e90.trans (e93.trans (e101.trans (e107.trans e115))))).updY hb116 u122).ext (e126.trans e132)).updT hb133 u144 ne137).ext e309)).block p hp).2 hlelb387
   have hql390:∀p:Addr,LA56=some p→p.block<lb387:=fun p hp=>Nat.lt_of_lt_of_le (((((((((((lz56.ext e60).updY hb61 u67).ext (e71.trans e77)).updT hb78 u87 ne83).ext (e90.trans (e93.trans (e101.trans (e107.trans e115))))).updY hb116 u122).ext (e126.trans e132)).updT hb133 u144 ne138).ext e309)).block p hp).2 hlelb387
   have hql391:∀p:Addr,LA104=some p→p.block<lb387:=fun p hp=>Nat.lt_of_lt_of_le (((((((lz104.ext (e107.trans e115)).updY hb116 u122).ext (e126.trans e132)).updT hb133 u144 ne139).ext e309)).block p hp).2 hlelb387
   have hql392:∀p:Addr,LA111=some p→p.block<lb387:=fun p hp=>Nat.lt_of_lt_of_le (((((((lz111.ext e115).updY hb116 u122).ext (e126.trans e132)).updT hb133 u144 ne140).ext e309)).block p hp).2 hlelb387
   refine cw_draw mix 9 [6,7] [Is (.agg #[.int .i64 ((n:Nat):Int),.int .i64 ((n:Nat):Int),.slice Aa na capa]),MQ ((n:Nat):Int) ((n:Nat):Int) (LE (some w) 1048576 w.heap.size lb387 na xs),Is (.agg #[.int .i64 Ry,.int .i64 Cy,.slice Ay ny capy]),MQ Ry Cy (LE (some w) 1048576 w.heap.size lb387 ny ys),T2 (Is (.agg #[I0,I0,S0])) (Is (.int .i64 2)),Is (.tuple #[.agg #[I0,I0,S0],.int .i64 2]),Is (.agg #[I0,I0,S0]),Is (.int .i64 2),PR v308.heap.size 24 [I0,I0,S0]] [[],[0],[],[2],[1,3],[4],[5],[5],[]] [[],[0],[],[0,1,2],[0,1,2,3],[0,1,2,3,4],[0,1,2,3,4,5],[0,1,2,3,4,5],[],[0,1,2,3,4,5,6,8],[0,1,2,3,4,5,6,7,8,9]] rfl
    (obs_cons rfl rfl (hob rfl rfl ?_) (obs_cons rfl rfl (hob rfl rfl ?_) (obs_cons rfl rfl (hob rfl rfl ?_) (obs_cons rfl rfl (hob rfl rfl ?_) (obs_cons rfl rfl (hob rfl rfl ?_) (obs_cons rfl rfl (hob rfl rfl ?_) (obs_float rfl rfl (fob rfl ?_) (obs_float rfl rfl (fob rfl ?_) (obs_cons rfl rfl (hob rfl rfl ?_) obs_nil))))))))) ?_
   · 
    exact fun _ e401=>deps_nil (lo aggMat (((((((((((hb4.ext (e8.trans (e13.trans (e17.trans (e24.trans e30))))).updN u38 (by omega)).ext (e41.trans (e46.trans (e52.trans e60)))).updN u67 (by omega)).ext (e71.trans e77)).updN u87 (by omega)).ext (e90.trans (e93.trans (e101.trans (e107.trans e115))))).updN u122 (by omega)).ext (e126.trans e132)).updN u144 (by omega)).ext (e309.trans e401)) [.int .i64 ((n:Nat):Int),.int .i64 ((n:Nat):Int),.slice Aa na capa] rfl rfl rfl (pi_done rfl (Ext.refl _) rfl))
   · 
    intro v402 e403
    have hw26:=hw25.trans e403
    refine dk rfl rfl (deps_nil (cl (vs:= [.agg #[.int .i64 ((n:Nat):Int),.int .i64 ((n:Nat):Int),.slice Aa na capa]]) hw26 (g_top_copyMat (w0:=w) hw26.size (Nat.le_trans hlb387 e403.size) hw26 ((show ZF w _ _ _ _ _ from⟨msa,hla,hma⟩).ext hw26) (by omega)) rfl (by kernel_rfl) fun xr411 v409 r411 e410 hw27=>?_))
    obtain⟨lv412,rfl,⟨LA413,lc413,rfl,lz413⟩⟩:=r411
    have blk414:=lz413.block
    exact pi_done rfl e410 ⟨_,rfl,⟨_,_,rfl,lz413⟩⟩
   · 
    exact fun _ e416=>deps_nil (lo aggMat (((((((((((hb9.ext (e13.trans (e17.trans (e24.trans e30)))).updN u38 (by omega)).ext (e41.trans (e46.trans (e52.trans e60)))).updN u67 (by omega)).ext (e71.trans e77)).updN u87 (by omega)).ext (e90.trans (e93.trans (e101.trans (e107.trans e115))))).updN u122 (by omega)).ext (e126.trans e132)).updN u144 (by omega)).ext (e309.trans e416)) [.int .i64 Ry,.int .i64 Cy,.slice Ay ny capy] rfl rfl rfl (pi_done rfl (Ext.refl _) rfl))
   · 
    intro v417 e418
    have hw26:=hw25.trans e418
    refine dk rfl rfl (deps_nil (cl (vs:= [.agg #[.int .i64 Ry,.int .i64 Cy,.slice Ay ny capy]]) hw26 (g_top_copyMat (w0:=w) hw26.size (Nat.le_trans hlb387 e418.size) hw26 ((show ZF w _ _ _ _ _ from⟨msy,hly,hmy⟩).ext hw26) (by omega)) rfl (by kernel_rfl) fun xr426 v424 r426 e425 hw27=>?_))
    obtain⟨lv427,rfl,⟨LA428,lc428,rfl,lz428⟩⟩:=r426
    have blk429:=lz428.block
    exact pi_done rfl e425 ⟨_,rfl,⟨_,_,rfl,lz428⟩⟩
   · 
    intro v430 e431
    have hw26:=hw25.trans e431
    refine deps_cons rfl rfl fun x432 y433 h434 e435 f436=>?_
    obtain⟨lv437,rfl,⟨LA438,lc438,rfl,lz438⟩⟩:=h434
    have blk439:=lz438.block
    have lz438:=lz438.ext f436
    refine deps_cons rfl rfl fun x440 y441 h442 e443 f444=>?_
    obtain⟨lv445,rfl,⟨LA446,lc446,rfl,lz446⟩⟩:=h442
    have blk447:=lz446.block
    have lz446:=lz446.ext f444
    refine deps_nil (cl (vs:= [.agg #[.int .i64 ((n:Nat):Int),.int .i64 ((n:Nat):Int),.slice LA438 na lc438],.agg #[.int .i64 Ry,.int .i64 Cy,.slice LA446 ny lc446]]) hw26 (g_mat_Mul_unfit hs hsy (fun h=>hRy h.symm)) rfl (by kernel_rfl) fun xr450 v448 r450 e449 hw27=>?_)
    obtain⟨_,_,rfl,rfl,rfl⟩:=r450
    exact pi_done rfl e449 ⟨_,_,rfl,rfl,rfl⟩
   · 
    intro v452 e453
    refine deps_cons rfl rfl fun x454 y455 h456 e457 f458=>?_
    obtain⟨_,_,rfl,rfl,rfl⟩:=h456
    refine deps_nil (mv 1 rfl ?_)
    exact pi_done rfl (Ext.refl _) rfl
   · 
    exact fun _ _=>dk rfl rfl (deps_nil (⟨.agg #[I0,I0,S0],rfl,rfl,fun _=>by kernel_rfl,rfl⟩))
   · 
    exact fun _ _=>dk rfl rfl (deps_nil (⟨.int .i64 2,rfl,rfl,fun _=>by kernel_rfl,rfl⟩))
   · 
    intro v474 e475
    refine deps_nil (wl_alloc rfl (z:= .agg #[I0,I0,S0]) (vs:= [I0,I0,S0]) (fun _=>by kernel_rfl) rfl (by decide) fun g476 v477 nb=>?_)
    exact pi_done rfl nb.ext ⟨_,rfl,by rw [←nb.at_];exact e475.size,nb.bk⟩
   · 
    intro v478 e479
    have hw26:=hw25.trans e479
    refine dk rfl rfl (deps_cons rfl rfl fun x485 y486 h487 e488 f489=>?_)
    obtain⟨lv490,rfl,⟨LA491,lc491,rfl,lz491⟩⟩:=h487
    have blk492:=lz491.block
    have lz491:=lz491.ext f489
    refine dk rfl rfl (deps_cons rfl rfl fun x498 y499 h500 e501 f502=>?_)
    obtain⟨lv503,rfl,⟨LA504,lc504,rfl,lz504⟩⟩:=h500
    have blk505:=lz504.block
    have lz504:=lz504.ext f502
    refine deps_cons rfl rfl fun x506 y507 h508 e509 f510=>?_
    obtain⟨_,_,rfl,rfl,rfl⟩:=h508
    refine dk rfl rfl (dk rfl rfl (dk rfl rfl (deps_cons rfl rfl fun x527 y528 h529 e530 f531=>?_)))
    obtain⟨g532,rfl,ge534,hb533⟩:=h529
    have hb533:=hb533.ext f531
    have q535:g130<g532:=Nat.lt_of_lt_of_le (hb143.ext e309).lt ge534
    have ge534:w.heap.size≤g532:=Nat.le_trans hw25.size ge534
    refine deps_nil (so aggMat hb533 [I0,I0,S0] hw26 ge534 rfl rfl rfl rfl fun v536 hb538 u539 hw27=>(mv 1 rfl (wl_nil (eo_np (eo_then (cw_seq (sr (lo aggMat ((((((((((((hb9.ext (e13.trans (e17.trans (e24.trans e30)))).updN u38 (by omega)).ext (e41.trans (e46.trans (e52.trans e60)))).updN u67 (by omega)).ext (e71.trans e77)).updN u87 (by omega)).ext (e90.trans (e93.trans (e101.trans (e107.trans e115))))).updN u122 (by omega)).ext (e126.trans e132)).updN u144 (by omega)).ext (e309.trans e479)).updN u539 (by omega)) [.int .i64 Ry,.int .i64 Cy,.slice Ay ny capy] rfl rfl rfl (cl (vs:= [.agg #[.int .i64 Ry,.int .i64 Cy,.slice Ay ny capy]]) hw27 (g_top_sound_t hsy) rfl (by kernel_rfl) fun xr543 v541 r543 e542 hw28=>?_)))))))))
    obtain rfl:=r543
    refine pu (v:= .bool false) rfl (by kernel_rfl) (mv 1 rfl (pf g6 0 rfl (by kernel_rfl) (wl_load rfl rfl (load_cell cellInt (((((((((((((hb9.ext (e13.trans (e17.trans (e24.trans e30)))).updN u38 (by omega)).ext (e41.trans (e46.trans (e52.trans e60)))).updN u67 (by omega)).ext (e71.trans e77)).updN u87 (by omega)).ext (e90.trans (e93.trans (e101.trans (e107.trans e115))))).updN u122 (by omega)).ext (e126.trans e132)).updN u144 (by omega)).ext (e309.trans e479)).updN u539 (by omega)).ext e542) rfl) (by decide) (pf g1 0 rfl (by kernel_rfl) (wl_load rfl rfl (load_cell cellInt (((((((((((((hb4.ext (e8.trans (e13.trans (e17.trans (e24.trans e30))))).updN u38 (by omega)).ext (e41.trans (e46.trans (e52.trans e60)))).updN u67 (by omega)).ext (e71.trans e77)).updN u87 (by omega)).ext (e90.trans (e93.trans (e101.trans (e107.trans e115))))).updN u122 (by omega)).ext (e126.trans e132)).updN u144 (by omega)).ext (e309.trans e479)).updN u539 (by omega)).ext e542) rfl) (by decide) (wl_cmp rfl rfl rfl true (ci_ne_t hRy) (by decide) (pu (v:= .bool true) rfl (by kernel_rfl) (mv 6 rfl (pu (v:= .bool true) rfl (by kernel_rfl) (ne_ (cw_true rfl (sr (mv 1 rfl ?_)))))))))))))
    refine ne_ (cw_ret (eo_thenR (eo_ret [.bool true] rfl ⟨rfl,trivial⟩ ?_)))
    exact⟨_,rfl,rfl,hw28⟩
 · 
  refine cw_region (pf g1 0 rfl (by kernel_rfl) (wl_load rfl rfl (load_cell cellInt (((((((hb4.ext (e8.trans (e13.trans (e17.trans (e24.trans e30))))).updN u38 (by omega)).ext (e41.trans (e46.trans (e52.trans e60)))).updN u67 (by omega)).ext (e71.trans e77)).updN u87 (by omega)).ext e90) rfl) (by decide) (mv 1 rfl (cl (vs:= [.int .i64 ((n:Nat):Int),.slice As m caps]) hw16 (g_stp_Sign_no hn (hS.ext hw16) hM hm hall) rfl (by kernel_rfl) fun xr546 v544 r546 e545 hw17=>?_))))
  obtain⟨_,_,rfl,⟨q548,rfl⟩,rfl⟩:=r546
  refine mv 1 rfl (pu (v:= .int .i64 q548) rfl (by kernel_rfl) (pu (v:= .int .i64 3) rfl (by kernel_rfl) (mv 2 rfl (ne_ (cw_seq (sr (mv 1 rfl (wl_cmp rfl rfl rfl false (by decide) (by decide) (ne_ (cw_false rfl (cw_skip (eo_then (cw_seq ?_)))))))))))))
  obtain⟨lb549,hlb549,hlelb549,hgl549,hq549_0,hq549_1,hq549_2,hq549_3,hq549_4⟩:∃lb,lb≤v544.heap.size∧v544.heap.size≤lb∧w.heap.size≤lb∧g1<lb∧g6<lb∧g28<lb∧g58<lb∧g75<lb:=⟨v544.heap.size,Nat.le_refl _,Nat.le_refl _,hw17.size,(((((((hb4.ext (e8.trans (e13.trans (e17.trans (e24.trans e30))))).updN u38 (by omega)).ext (e41.trans (e46.trans (e52.trans e60)))).updN u67 (by omega)).ext (e71.trans e77)).updN u87 (by omega)).ext (e90.trans e545)).lt,(((((((hb9.ext (e13.trans (e17.trans (e24.trans e30)))).updN u38 (by omega)).ext (e41.trans (e46.trans (e52.trans e60)))).updN u67 (by omega)).ext (e71.trans e77)).updN u87 (by omega)).ext (e90.trans e545)).lt,(((((hb37.ext (e41.trans (e46.trans (e52.trans e60)))).updN u67 (by omega)).ext (e71.trans e77)).updN u87 (by omega)).ext (e90.trans e545)).lt,(((hb66.ext (e71.trans e77)).updN u87 (by omega)).ext (e90.trans e545)).lt,(hb86.ext (e90.trans e545)).lt⟩
  have hql550:∀p:Addr,LA20=some p→p.block<lb549:=fun p hp=>Nat.lt_of_lt_of_le (((((((((lz20.ext (e24.trans e30)).updT hb31 u38 ne34).ext (e41.trans (e46.trans (e52.trans e60)))).updY hb61 u67).ext (e71.trans e77)).updT hb78 u87 ne81).ext (e90.trans e545))).block p hp).2 hlelb549
  have hql551:∀p:Addr,LA49=some p→p.block<lb549:=fun p hp=>Nat.lt_of_lt_of_le (((((((lz49.ext (e52.trans e60)).updY hb61 u67).ext (e71.trans e77)).updT hb78 u87 ne82).ext (e90.trans e545))).block p hp).2 hlelb549
  have hql552:∀p:Addr,LA56=some p→p.block<lb549:=fun p hp=>Nat.lt_of_lt_of_le (((((((lz56.ext e60).updY hb61 u67).ext (e71.trans e77)).updT hb78 u87 ne83).ext (e90.trans e545))).block p hp).2 hlelb549
  refine cw_draw mix 9 [6,7] [Is (.agg #[.int .i64 ((n:Nat):Int),.int .i64 ((n:Nat):Int),.slice Aa na capa]),MQ ((n:Nat):Int) ((n:Nat):Int) (LE (some w) 1048576 w.heap.size lb549 na xs),Is (.agg #[.int .i64 Ry,.int .i64 Cy,.slice Ay ny capy]),MQ Ry Cy (LE (some w) 1048576 w.heap.size lb549 ny ys),T2 (Is (.agg #[I0,I0,S0])) (Is (.int .i64 2)),Is (.tuple #[.agg #[I0,I0,S0],.int .i64 2]),Is (.agg #[I0,I0,S0]),Is (.int .i64 2),PR v544.heap.size 24 [I0,I0,S0]] [[],[0],[],[2],[1,3],[4],[5],[5],[]] [[],[0],[],[0,1,2],[0,1,2,3],[0,1,2,3,4],[0,1,2,3,4,5],[0,1,2,3,4,5],[],[0,1,2,3,4,5,6,8],[0,1,2,3,4,5,6,7,8,9]] rfl
   (obs_cons rfl rfl (hob rfl rfl ?_) (obs_cons rfl rfl (hob rfl rfl ?_) (obs_cons rfl rfl (hob rfl rfl ?_) (obs_cons rfl rfl (hob rfl rfl ?_) (obs_cons rfl rfl (hob rfl rfl ?_) (obs_cons rfl rfl (hob rfl rfl ?_) (obs_float rfl rfl (fob rfl ?_) (obs_float rfl rfl (fob rfl ?_) (obs_cons rfl rfl (hob rfl rfl ?_) obs_nil))))))))) ?_
  · 
   exact fun _ e561=>deps_nil (lo aggMat (((((((hb4.ext (e8.trans (e13.trans (e17.trans (e24.trans e30))))).updN u38 (by omega)).ext (e41.trans (e46.trans (e52.trans e60)))).updN u67 (by omega)).ext (e71.trans e77)).updN u87 (by omega)).ext (e90.trans (e545.trans e561))) [.int .i64 ((n:Nat):Int),.int .i64 ((n:Nat):Int),.slice Aa na capa] rfl rfl rfl (pi_done rfl (Ext.refl _) rfl))
  · 
   intro v562 e563
   have hw18:=hw17.trans e563
   refine dk rfl rfl (deps_nil (cl (vs:= [.agg #[.int .i64 ((n:Nat):Int),.int .i64 ((n:Nat):Int),.slice Aa na capa]]) hw18 (g_top_copyMat (w0:=w) hw18.size (Nat.le_trans hlb549 e563.size) hw18 ((show ZF w _ _ _ _ _ from⟨msa,hla,hma⟩).ext hw18) (by omega)) rfl (by kernel_rfl) fun xr571 v569 r571 e570 hw19=>?_))
   obtain⟨lv572,rfl,⟨LA573,lc573,rfl,lz573⟩⟩:=r571
   have blk574:=lz573.block
   exact pi_done rfl e570 ⟨_,rfl,⟨_,_,rfl,lz573⟩⟩
  · 
   exact fun _ e576=>deps_nil (lo aggMat (((((((hb9.ext (e13.trans (e17.trans (e24.trans e30)))).updN u38 (by omega)).ext (e41.trans (e46.trans (e52.trans e60)))).updN u67 (by omega)).ext (e71.trans e77)).updN u87 (by omega)).ext (e90.trans (e545.trans e576))) [.int .i64 Ry,.int .i64 Cy,.slice Ay ny capy] rfl rfl rfl (pi_done rfl (Ext.refl _) rfl))
  · 
   intro v577 e578
   have hw18:=hw17.trans e578
   refine dk rfl rfl (deps_nil (cl (vs:= [.agg #[.int .i64 Ry,.int .i64 Cy,.slice Ay ny capy]]) hw18 (g_top_copyMat (w0:=w) hw18.size (Nat.le_trans hlb549 e578.size) hw18 ((show ZF w _ _ _ _ _ from⟨msy,hly,hmy⟩).ext hw18) (by omega)) rfl (by kernel_rfl) fun xr586 v584 r586 e585 hw19=>?_))
   obtain⟨lv587,rfl,⟨LA588,lc588,rfl,lz588⟩⟩:=r586
   have blk589:=lz588.block
   exact pi_done rfl e585 ⟨_,rfl,⟨_,_,rfl,lz588⟩⟩
  · 
   intro v590 e591
   have hw18:=hw17.trans e591
   refine deps_cons rfl rfl fun x592 y593 h594 e595 f596=>?_
   obtain⟨lv597,rfl,⟨LA598,lc598,rfl,lz598⟩⟩:=h594
   have blk599:=lz598.block
   have lz598:=lz598.ext f596
   refine deps_cons rfl rfl fun x600 y601 h602 e603 f604=>?_
   obtain⟨lv605,rfl,⟨LA606,lc606,rfl,lz606⟩⟩:=h602
   have blk607:=lz606.block
   have lz606:=lz606.ext f604
   refine deps_nil (cl (vs:= [.agg #[.int .i64 ((n:Nat):Int),.int .i64 ((n:Nat):Int),.slice LA598 na lc598],.agg #[.int .i64 Ry,.int .i64 Cy,.slice LA606 ny lc606]]) hw18 (g_mat_Mul_unfit hs hsy (fun h=>hRy h.symm)) rfl (by kernel_rfl) fun xr610 v608 r610 e609 hw19=>?_)
   obtain⟨_,_,rfl,rfl,rfl⟩:=r610
   exact pi_done rfl e609 ⟨_,_,rfl,rfl,rfl⟩
  · 
   intro v612 e613
   refine deps_cons rfl rfl fun x614 y615 h616 e617 f618=>?_
   obtain⟨_,_,rfl,rfl,rfl⟩:=h616
   refine deps_nil (mv 1 rfl ?_)
   exact pi_done rfl (Ext.refl _) rfl
  · 
   exact fun _ _=>dk rfl rfl (deps_nil (⟨.agg #[I0,I0,S0],rfl,rfl,fun _=>by kernel_rfl,rfl⟩))
  · 
   exact fun _ _=>dk rfl rfl (deps_nil (⟨.int .i64 2,rfl,rfl,fun _=>by kernel_rfl,rfl⟩))
  · 
   intro v634 e635
   refine deps_nil (wl_alloc rfl (z:= .agg #[I0,I0,S0]) (vs:= [I0,I0,S0]) (fun _=>by kernel_rfl) rfl (by decide) fun g636 v637 nb=>?_)
   exact pi_done rfl nb.ext ⟨_,rfl,by rw [←nb.at_];exact e635.size,nb.bk⟩
  · 
   intro v638 e639
   have hw18:=hw17.trans e639
   refine dk rfl rfl (deps_cons rfl rfl fun x645 y646 h647 e648 f649=>?_)
   obtain⟨lv650,rfl,⟨LA651,lc651,rfl,lz651⟩⟩:=h647
   have blk652:=lz651.block
   have lz651:=lz651.ext f649
   refine dk rfl rfl (deps_cons rfl rfl fun x658 y659 h660 e661 f662=>?_)
   obtain⟨lv663,rfl,⟨LA664,lc664,rfl,lz664⟩⟩:=h660
   have blk665:=lz664.block
   have lz664:=lz664.ext f662
   refine deps_cons rfl rfl fun x666 y667 h668 e669 f670=>?_
   obtain⟨_,_,rfl,rfl,rfl⟩:=h668
   refine dk rfl rfl (dk rfl rfl (dk rfl rfl (deps_cons rfl rfl fun x687 y688 h689 e690 f691=>?_)))
   obtain⟨g692,rfl,ge694,hb693⟩:=h689
   have hb693:=hb693.ext f691
   have q695:g75<g692:=Nat.lt_of_lt_of_le (hb86.ext (e90.trans e545)).lt ge694
   have ge694:w.heap.size≤g692:=Nat.le_trans hw17.size ge694
   refine deps_nil (so aggMat hb693 [I0,I0,S0] hw18 ge694 rfl rfl rfl rfl fun v696 hb698 u699 hw19=>(mv 1 rfl (wl_nil (eo_np (eo_then (cw_seq (sr (lo aggMat ((((((((hb9.ext (e13.trans (e17.trans (e24.trans e30)))).updN u38 (by omega)).ext (e41.trans (e46.trans (e52.trans e60)))).updN u67 (by omega)).ext (e71.trans e77)).updN u87 (by omega)).ext (e90.trans (e545.trans e639))).updN u699 (by omega)) [.int .i64 Ry,.int .i64 Cy,.slice Ay ny capy] rfl rfl rfl (cl (vs:= [.agg #[.int .i64 Ry,.int .i64 Cy,.slice Ay ny capy]]) hw19 (g_top_sound_t hsy) rfl (by kernel_rfl) fun xr703 v701 r703 e702 hw20=>?_)))))))))
   obtain rfl:=r703
   refine pu (v:= .bool false) rfl (by kernel_rfl) (mv 1 rfl (pf g6 0 rfl (by kernel_rfl) (wl_load rfl rfl (load_cell cellInt (((((((((hb9.ext (e13.trans (e17.trans (e24.trans e30)))).updN u38 (by omega)).ext (e41.trans (e46.trans (e52.trans e60)))).updN u67 (by omega)).ext (e71.trans e77)).updN u87 (by omega)).ext (e90.trans (e545.trans e639))).updN u699 (by omega)).ext e702) rfl) (by decide) (pf g1 0 rfl (by kernel_rfl) (wl_load rfl rfl (load_cell cellInt (((((((((hb4.ext (e8.trans (e13.trans (e17.trans (e24.trans e30))))).updN u38 (by omega)).ext (e41.trans (e46.trans (e52.trans e60)))).updN u67 (by omega)).ext (e71.trans e77)).updN u87 (by omega)).ext (e90.trans (e545.trans e639))).updN u699 (by omega)).ext e702) rfl) (by decide) (wl_cmp rfl rfl rfl true (ci_ne_t hRy) (by decide) (pu (v:= .bool true) rfl (by kernel_rfl) (mv 6 rfl (pu (v:= .bool true) rfl (by kernel_rfl) (ne_ (cw_true rfl (sr (mv 1 rfl ?_)))))))))))))
   refine ne_ (cw_ret (eo_thenR (eo_ret [.bool true] rfl ⟨rfl,trivial⟩ ?_)))
   exact⟨_,rfl,rfl,hw20⟩
set_option maxHeartbeats 4000000 in
set_option maxRecDepth 20000 in
theorem g_top_WholeDetProduct_ok_c {w:World}{n Ka:Nat}{X:Mx}{Aa:Option Addr}{na capa:Nat}{xs:List Int}(hxa:ZF w Aa na capa 1048576 xs){Ay:Option Addr}{ny capy:Nat}{ys:List Int}(hxy:ZF w Ay ny capy 1048576 ys){As:Option Addr}{m caps:Nat}{ss:List Stp}{ms:List Nat}(hS:Sl w As m ss ms) (hM:∀i,ms.getD i 0≤1048576) (hm:m≤1048576) (hna1:na≤1048576) (hny1:ny≤1048576) (hna:na=n*n) (hn:n≤64) (hX:En n n X xs) (hXa:∀a b,a<n→b<n→ln (X a b)≤Ka) (hKa:Ka+(m+ms.sum)≤1048576){c:Nat}{Y:Mx}(hny:ny=n*c) (hc:c≤64) (hcn:c≠n) (hY:En n c Y ys):
    Calls Try.prog 4 #[.agg #[.int .i64 ((n:Nat):Int),.int .i64 ((n:Nat):Int),.slice Aa na capa],.agg #[.int .i64 ((n:Nat):Int),.int .i64 ((c:Nat):Int),.slice Ay ny capy],.slice As m caps] w (Gv w (Is (.bool true))):=by
 have hlb:w.heap.size≤w.heap.size:=Nat.le_refl _
 have hxa0:=hxa
 have hxy0:=hxy
 have hs:Snd ((n:Nat):Int) ((n:Nat):Int) na:=snd_mk hn hn hna
 have hsy:Snd ((n:Nat):Int) ((c:Nat):Int) ny:=snd_mk hn hc hny
 have hKm:∀i j,i<n→j<c→ln (mm n X Y i j)≤17179869184:=fun i j hi hj=>Nat.le_trans (ln_mm (fun k hk=>hX.ln hxa0 hi hk) (fun k hk=>hY.ln hxy0 hk hj)) (by omega)
 obtain⟨msa,hla,hma⟩:=hxa
 obtain⟨msy,hly,hmy⟩:=hxy
 refine sx_enter Try.func4 rfl (n:=161) rfl (bq rfl) (args:= [.agg #[.int .i64 ((n:Nat):Int),.int .i64 ((n:Nat):Int),.slice Aa na capa],.agg #[.int .i64 ((n:Nat):Int),.int .i64 ((c:Nat):Int),.slice Ay ny capy],.slice As m caps]) (cw_keep [(0,.agg #[.int .i64 ((n:Nat):Int),.int .i64 ((n:Nat):Int),.slice Aa na capa]),(1,.agg #[.int .i64 ((n:Nat):Int),.int .i64 ((c:Nat):Int),.slice Ay ny capy]),(2,.slice As m caps)] ⟨rfl,rfl,rfl,trivial⟩ (sr (bx [.int .i64 ((n:Nat):Int),.int .i64 ((n:Nat):Int),.slice Aa na capa] (Ext.refl w) rfl rfl rfl fun g1 v2 hb4 ge5 e3 hw1=>(bxq [.int .i64 ((n:Nat):Int),.int .i64 ((c:Nat):Int),.slice Ay ny capy] hw1 hb4.lt rfl rfl rfl fun g6 v7 hb9 ge10 q11 e8 hw2=>(mv 1 rfl (ne_ (cw_seq (sr (wl_call rfl rfl (vs:= []) (by kernel_rfl) (by decide) g_top_detWakes ?_)))))))))
 rintro _ v12 ⟨xr14,rfl,r14,e13⟩
 refine ret_intro ?_
 have hw3:=hw2.trans e13
 obtain rfl:=r14
 refine pu (v:= .bool false) rfl (by kernel_rfl) (ne_ (cw_false rfl (cw_skip (eo_then (sr (lo aggMat (hb4.ext (e8.trans e13)) [.int .i64 ((n:Nat):Int),.int .i64 ((n:Nat):Int),.slice Aa na capa] rfl rfl rfl ?_))))))
 obtain⟨lb15,hlb15,hlelb15,hgl15,hq15_0,hq15_1⟩:∃lb,lb≤v12.heap.size∧v12.heap.size≤lb∧w.heap.size≤lb∧g1<lb∧g6<lb:=⟨v12.heap.size,Nat.le_refl _,Nat.le_refl _,hw3.size,(hb4.ext (e8.trans e13)).lt,(hb9.ext e13).lt⟩
 refine cl (vs:= [.agg #[.int .i64 ((n:Nat):Int),.int .i64 ((n:Nat):Int),.slice Aa na capa]]) hw3 (g_top_copyMat (w0:=w) hw3.size hlb15 hw3 ((show ZF w _ _ _ _ _ from⟨msa,hla,hma⟩).ext hw3) (by omega)) rfl (by kernel_rfl) fun xr18 v16 r18 e17 hw4=>?_
 obtain⟨lv19,rfl,⟨LA20,lc20,rfl,lz20⟩⟩:=r18
 have blk21:=lz20.block
 have Ld22:ln (dt n X)≤134217728:=ln_dtB hn (fun i j hi hj=>hX.ln ((lz20).zf hw4) hi hj)
 refine cl (vs:= [.agg #[.int .i64 ((n:Nat):Int),.int .i64 ((n:Nat):Int),.slice LA20 na lc20]]) hw4 (g_brs_Det (X:=X) hw4.size ((lz20).zf hw4) hna hn hX) rfl (by kernel_rfl) fun xr25 v23 r25 e24 hw5=>?_
 obtain⟨_,_,rfl,⟨s27,A27,n27,c27,rfl,z27⟩,rfl⟩:=r25
 refine mv 1 rfl (pu (v:= .agg #[.bool s27,.slice A27 n27 c27]) rfl (by kernel_rfl) (pu (v:= .int .i64 0) rfl (by kernel_rfl) (wl_alloc rfl (z:= .agg #[F0,S0]) (vs:= [F0,S0]) (fun _=>by kernel_rfl) rfl (by decide) fun g28 v29 nb=>?_)))
 have hb31:=nb.bk
 have ge32:w.heap.size≤g28:=by rw [←nb.at_];exact hw5.size
 have q33:g6<g28:=by rw [←nb.at_];exact (hb9.ext (e13.trans (e17.trans e24))).lt
 have ne34:∀p:Addr,LA20=some p→p.block≠g28:=fun p hp=>by have:=((lz20.ext e24)).block p hp;have:=nb.at_;omega
 have e30:=nb.ext
 clear nb
 have hw6:=hw5.trans e30
 refine so aggInt hb31 [.bool s27,.slice A27 n27 c27] hw6 ge32 rfl rfl rfl rfl fun v35 hb37 u38 hw7=>(mv 1 rfl (ne_ (cw_seq (sr (lo aggMat ((hb4.ext (e8.trans (e13.trans (e17.trans (e24.trans e30))))).updN u38 (by omega)) [.int .i64 ((n:Nat):Int),.int .i64 ((n:Nat):Int),.slice Aa na capa] rfl rfl rfl (cl (vs:= [.agg #[.int .i64 ((n:Nat):Int),.int .i64 ((n:Nat):Int),.slice Aa na capa]]) hw7 (g_top_sound_t hs) rfl (by kernel_rfl) fun xr42 v40 r42 e41 hw8=>?_))))))
 obtain rfl:=r42
 refine pu (v:= .bool false) rfl (by kernel_rfl) (mv 1 rfl (pf g1 0 rfl (by kernel_rfl) (wl_load rfl rfl (load_cell cellInt (((hb4.ext (e8.trans (e13.trans (e17.trans (e24.trans e30))))).updN u38 (by omega)).ext e41) rfl) (by decide) (pf g1 1 rfl (by kernel_rfl) (wl_load rfl rfl (load_cell cellInt (((hb4.ext (e8.trans (e13.trans (e17.trans (e24.trans e30))))).updN u38 (by omega)).ext e41) rfl) (by decide) (wl_cmp rfl rfl rfl false (cb_ne_f (a:=n) (b:=n) rfl rfl (by omega)) (by decide) (pu (v:= .bool false) rfl (by kernel_rfl) (ne_ (cw_false rfl (cw_skip (eo_then (sr (lo aggMat (((hb4.ext (e8.trans (e13.trans (e17.trans (e24.trans e30))))).updN u38 (by omega)).ext e41) [.int .i64 ((n:Nat):Int),.int .i64 ((n:Nat):Int),.slice Aa na capa] rfl rfl rfl ?_)))))))))))))
 obtain⟨lb43,hlb43,hlelb43,hgl43,hq43_0,hq43_1,hq43_2⟩:∃lb,lb≤v40.heap.size∧v40.heap.size≤lb∧w.heap.size≤lb∧g1<lb∧g6<lb∧g28<lb:=⟨v40.heap.size,Nat.le_refl _,Nat.le_refl _,hw8.size,(((hb4.ext (e8.trans (e13.trans (e17.trans (e24.trans e30))))).updN u38 (by omega)).ext e41).lt,(((hb9.ext (e13.trans (e17.trans (e24.trans e30)))).updN u38 (by omega)).ext e41).lt,(hb37.ext e41).lt⟩
 have hql44:∀p:Addr,LA20=some p→p.block<lb43:=fun p hp=>Nat.lt_of_lt_of_le (((((lz20.ext (e24.trans e30)).updT hb31 u38 ne34).ext e41)).block p hp).2 hlelb43
 refine cl (vs:= [.agg #[.int .i64 ((n:Nat):Int),.int .i64 ((n:Nat):Int),.slice Aa na capa]]) hw8 (g_top_copyMat (w0:=w) hw8.size hlb43 hw8 ((show ZF w _ _ _ _ _ from⟨msa,hla,hma⟩).ext hw8) (by omega)) rfl (by kernel_rfl) fun xr47 v45 r47 e46 hw9=>?_
 obtain⟨lv48,rfl,⟨LA49,lc49,rfl,lz49⟩⟩:=r47
 have blk50:=lz49.block
 refine cl (vs:= [.agg #[.int .i64 ((n:Nat):Int),.int .i64 ((n:Nat):Int),.slice LA49 na lc49]]) hw9 (g_mat_Turn (r:=n) (c:=n) (K:=1048576) (X:=X) hw9.size (Nat.le_trans hlb43 e46.size) ((lz49).zf hw9) hna hn hn hX (by decide)) rfl (by kernel_rfl) fun xr53 v51 r53 e52 hw10=>?_
 obtain⟨_,_,rfl,⟨lv55,rfl,⟨LA56,lc56,zs56,rfl,lz56,hz56⟩⟩,r54_1⟩:=r53
 have blk57:=lz56.block
 obtain rfl:=r54_1
 refine mv 1 rfl (pu (v:= .agg #[.int .i64 ((n:Nat):Int),.int .i64 ((n:Nat):Int),.slice LA56 (n*n) lc56]) rfl (by kernel_rfl) (pu (v:= .int .i64 0) rfl (by kernel_rfl) (alq [I0,I0,S0] hw10 (hb37.ext (e41.trans (e46.trans e52))).lt (fun _=>by kernel_rfl) rfl fun g58 v59 hb61 ge62 q63 e60 hw11=>(so aggMat hb61 [.int .i64 ((n:Nat):Int),.int .i64 ((n:Nat):Int),.slice LA56 (n*n) lc56] hw11 ge62 rfl rfl rfl rfl fun v64 hb66 u67 hw12=>(mv 1 rfl (ne_ (sr (lo aggMat hb66 [.int .i64 ((n:Nat):Int),.int .i64 ((n:Nat):Int),.slice LA56 (n*n) lc56] rfl rfl rfl ?_))))))))
 have Ld69:ln (dt n (tq X))≤134217728:=ln_dtB hn (fun i j hi hj=>hz56.ln (((lz56.ext e60).updY hb61 u67).zf0) hi hj)
 refine cl (vs:= [.agg #[.int .i64 ((n:Nat):Int),.int .i64 ((n:Nat):Int),.slice LA56 (n*n) lc56]]) hw12 (g_brs_Det (X:=tq X) hw12.size (((lz56.ext e60).updY hb61 u67).zf0) rfl hn hz56) rfl (by kernel_rfl) fun xr72 v70 r72 e71 hw13=>?_
 obtain⟨_,_,rfl,⟨s74,A74,n74,c74,rfl,z74⟩,rfl⟩:=r72
 refine mv 1 rfl (pu (v:= .agg #[.bool s74,.slice A74 n74 c74]) rfl (by kernel_rfl) (pu (v:= .int .i64 0) rfl (by kernel_rfl) (wl_alloc rfl (z:= .agg #[F0,S0]) (vs:= [F0,S0]) (fun _=>by kernel_rfl) rfl (by decide) fun g75 v76 nb=>?_)))
 have hb78:=nb.bk
 have ge79:w.heap.size≤g75:=by rw [←nb.at_];exact hw13.size
 have q80:g58<g75:=by rw [←nb.at_];exact (hb66.ext e71).lt
 have ne81:∀p:Addr,LA20=some p→p.block≠g75:=fun p hp=>by have:=((((((lz20.ext (e24.trans e30)).updT hb31 u38 ne34).ext (e41.trans (e46.trans (e52.trans e60)))).updY hb61 u67).ext e71)).block p hp;have:=nb.at_;omega
 have ne82:∀p:Addr,LA49=some p→p.block≠g75:=fun p hp=>by have:=((((lz49.ext (e52.trans e60)).updY hb61 u67).ext e71)).block p hp;have:=nb.at_;omega
 have ne83:∀p:Addr,LA56=some p→p.block≠g75:=fun p hp=>by have:=((((lz56.ext e60).updY hb61 u67).ext e71)).block p hp;have:=nb.at_;omega
 have e77:=nb.ext
 clear nb
 have hw14:=hw13.trans e77
 refine so aggInt hb78 [.bool s74,.slice A74 n74 c74] hw14 ge79 rfl rfl rfl rfl fun v84 hb86 u87 hw15=>(mv 1 rfl (ne_ (cw_seq (sr (mv 1 rfl (wl_cmp rfl rfl rfl false (by decide) (by decide) (mv 2 rfl (wl_cmp rfl rfl rfl false (by decide) (by decide) (pu (v:= .bool false) rfl (by kernel_rfl) (mv 2 rfl (wl_cmp rfl rfl rfl false (by decide) (by decide) (pu (v:= .bool false) rfl (by kernel_rfl) (mv 1 rfl ?_)))))))))))))
 refine lo aggInt ((((hb37.ext (e41.trans (e46.trans (e52.trans e60)))).updN u67 (by omega)).ext (e71.trans e77)).updN u87 (by omega)) [.bool s27,.slice A27 n27 c27] rfl rfl rfl (lo aggInt hb86 [.bool s74,.slice A74 n74 c74] rfl rfl rfl (cl (vs:= [.agg #[.bool s27,.slice A27 n27 c27],.agg #[.bool s74,.slice A74 n74 c74]]) hw15 (g_top_sameInt (((((((z27.ext e30).updT hb31 u38).ext (e41.trans (e46.trans (e52.trans e60)))).updT hb61 u67).ext (e71.trans e77)).updT hb78 u87)) ((((z74.ext e77).updT hb78 u87)).cast (dt_tq n X))) rfl (by kernel_rfl) fun xr91 v89 r91 e90 hw16=>?_))
 obtain rfl:=r91
 refine pu (v:= .bool false) rfl (by kernel_rfl) (pu (v:= .bool false) rfl (by kernel_rfl) (ne_ (cw_false rfl (cw_skip (eo_then (cw_seq ?_))))))
 by_cases hall:∀i,i<m→(ss.getD i Stp.z).fit n
 · 
  refine cw_region (pf g1 0 rfl (by kernel_rfl) (wl_load rfl rfl (load_cell cellInt (((((((hb4.ext (e8.trans (e13.trans (e17.trans (e24.trans e30))))).updN u38 (by omega)).ext (e41.trans (e46.trans (e52.trans e60)))).updN u67 (by omega)).ext (e71.trans e77)).updN u87 (by omega)).ext e90) rfl) (by decide) (mv 1 rfl (cl (vs:= [.int .i64 ((n:Nat):Int),.slice As m caps]) hw16 (g_stp_Sign_ok hn (hS.ext hw16) hM hm hall) rfl (by kernel_rfl) fun xr94 v92 r94 e93 hw17=>?_))))
  obtain⟨_,_,rfl,rfl,rfl⟩:=r94
  refine mv 1 rfl (pu (v:= .int .i64 (sgl ss)) rfl (by kernel_rfl) (pu (v:= .int .i64 0) rfl (by kernel_rfl) (mv 2 rfl (ne_ (cw_seq (sr (mv 1 rfl (wl_cmp rfl rfl rfl true (by decide) (by decide) (ne_ (cw_true rfl (sr (lo aggMat (((((((hb4.ext (e8.trans (e13.trans (e17.trans (e24.trans e30))))).updN u38 (by omega)).ext (e41.trans (e46.trans (e52.trans e60)))).updN u67 (by omega)).ext (e71.trans e77)).updN u87 (by omega)).ext (e90.trans e93)) [.int .i64 ((n:Nat):Int),.int .i64 ((n:Nat):Int),.slice Aa na capa] rfl rfl rfl ?_))))))))))))
  obtain⟨lb96,hlb96,hlelb96,hgl96,hq96_0,hq96_1,hq96_2,hq96_3,hq96_4⟩:∃lb,lb≤v92.heap.size∧v92.heap.size≤lb∧w.heap.size≤lb∧g1<lb∧g6<lb∧g28<lb∧g58<lb∧g75<lb:=⟨v92.heap.size,Nat.le_refl _,Nat.le_refl _,hw17.size,(((((((hb4.ext (e8.trans (e13.trans (e17.trans (e24.trans e30))))).updN u38 (by omega)).ext (e41.trans (e46.trans (e52.trans e60)))).updN u67 (by omega)).ext (e71.trans e77)).updN u87 (by omega)).ext (e90.trans e93)).lt,(((((((hb9.ext (e13.trans (e17.trans (e24.trans e30)))).updN u38 (by omega)).ext (e41.trans (e46.trans (e52.trans e60)))).updN u67 (by omega)).ext (e71.trans e77)).updN u87 (by omega)).ext (e90.trans e93)).lt,(((((hb37.ext (e41.trans (e46.trans (e52.trans e60)))).updN u67 (by omega)).ext (e71.trans e77)).updN u87 (by omega)).ext (e90.trans e93)).lt,(((hb66.ext (e71.trans e77)).updN u87 (by omega)).ext (e90.trans e93)).lt,(hb86.ext (e90.trans e93)).lt⟩
  have hql97:∀p:Addr,LA20=some p→p.block<lb96:=fun p hp=>Nat.lt_of_lt_of_le (((((((((lz20.ext (e24.trans e30)).updT hb31 u38 ne34).ext (e41.trans (e46.trans (e52.trans e60)))).updY hb61 u67).ext (e71.trans e77)).updT hb78 u87 ne81).ext (e90.trans e93))).block p hp).2 hlelb96
  have hql98:∀p:Addr,LA49=some p→p.block<lb96:=fun p hp=>Nat.lt_of_lt_of_le (((((((lz49.ext (e52.trans e60)).updY hb61 u67).ext (e71.trans e77)).updT hb78 u87 ne82).ext (e90.trans e93))).block p hp).2 hlelb96
  have hql99:∀p:Addr,LA56=some p→p.block<lb96:=fun p hp=>Nat.lt_of_lt_of_le (((((((lz56.ext e60).updY hb61 u67).ext (e71.trans e77)).updT hb78 u87 ne83).ext (e90.trans e93))).block p hp).2 hlelb96
  refine cl (vs:= [.agg #[.int .i64 ((n:Nat):Int),.int .i64 ((n:Nat):Int),.slice Aa na capa]]) hw17 (g_top_copyMat (w0:=w) hw17.size hlb96 hw17 ((show ZF w _ _ _ _ _ from⟨msa,hla,hma⟩).ext hw17) (by omega)) rfl (by kernel_rfl) fun xr102 v100 r102 e101 hw18=>?_
  obtain⟨lv103,rfl,⟨LA104,lc104,rfl,lz104⟩⟩:=r102
  have blk105:=lz104.block
  refine mv 1 rfl (cl (vs:= [.agg #[.int .i64 ((n:Nat):Int),.int .i64 ((n:Nat):Int),.slice LA104 na lc104],.slice As m caps]) hw18 (g_stp_Rows (X:=X) (Ka:=Ka) hw18.size (Nat.le_trans hlb96 e101.size) ((lz104).zf hw18) hna hn hX (hS.ext hw18) hM hm hall hXa hKa) rfl (by kernel_rfl) fun xr108 v106 r108 e107 hw19=>?_)
  obtain⟨_,_,rfl,⟨lv110,rfl,⟨LA111,lc111,zs111,rfl,lz111,hz111⟩⟩,r109_1⟩:=r108
  have blk112:=lz111.block
  obtain rfl:=r109_1
  refine mv 1 rfl (pu (v:= .agg #[.int .i64 ((n:Nat):Int),.int .i64 ((n:Nat):Int),.slice LA111 (n*n) lc111]) rfl (by kernel_rfl) (pu (v:= .int .i64 0) rfl (by kernel_rfl) (alq [I0,I0,S0] hw19 (hb86.ext (e90.trans (e93.trans (e101.trans e107)))).lt (fun _=>by kernel_rfl) rfl fun g113 v114 hb116 ge117 q118 e115 hw20=>(so aggMat hb116 [.int .i64 ((n:Nat):Int),.int .i64 ((n:Nat):Int),.slice LA111 (n*n) lc111] hw20 ge117 rfl rfl rfl rfl fun v119 hb121 u122 hw21=>(mv 1 rfl (ne_ (sr (lo aggMat hb121 [.int .i64 ((n:Nat):Int),.int .i64 ((n:Nat):Int),.slice LA111 (n*n) lc111] rfl rfl rfl ?_))))))))
  have Ld124:ln (dt n (stps ss X))≤134217728:=ln_dtB hn (fun i j hi hj=>hz111.ln (((lz111.ext e115).updY hb116 u122).zf0) hi hj)
  refine cl (vs:= [.agg #[.int .i64 ((n:Nat):Int),.int .i64 ((n:Nat):Int),.slice LA111 (n*n) lc111]]) hw21 (g_brs_Det (X:=stps ss X) hw21.size (((lz111.ext e115).updY hb116 u122).zf0) rfl hn hz111) rfl (by kernel_rfl) fun xr127 v125 r127 e126 hw22=>?_
  obtain⟨_,_,rfl,⟨s129,A129,n129,c129,rfl,z129⟩,rfl⟩:=r127
  refine mv 1 rfl (pu (v:= .agg #[.bool s129,.slice A129 n129 c129]) rfl (by kernel_rfl) (pu (v:= .int .i64 0) rfl (by kernel_rfl) (wl_alloc rfl (z:= .agg #[F0,S0]) (vs:= [F0,S0]) (fun _=>by kernel_rfl) rfl (by decide) fun g130 v131 nb=>?_)))
  have hb133:=nb.bk
  have ge134:w.heap.size≤g130:=by rw [←nb.at_];exact hw22.size
  have q135:g113<g130:=by rw [←nb.at_];exact (hb121.ext e126).lt
  have ne136:∀p:Addr,LA20=some p→p.block≠g130:=fun p hp=>by have:=((((((((((lz20.ext (e24.trans e30)).updT hb31 u38 ne34).ext (e41.trans (e46.trans (e52.trans e60)))).updY hb61 u67).ext (e71.trans e77)).updT hb78 u87 ne81).ext (e90.trans (e93.trans (e101.trans (e107.trans e115))))).updY hb116 u122).ext e126)).block p hp;have:=nb.at_;omega
  have ne137:∀p:Addr,LA49=some p→p.block≠g130:=fun p hp=>by have:=((((((((lz49.ext (e52.trans e60)).updY hb61 u67).ext (e71.trans e77)).updT hb78 u87 ne82).ext (e90.trans (e93.trans (e101.trans (e107.trans e115))))).updY hb116 u122).ext e126)).block p hp;have:=nb.at_;omega
  have ne138:∀p:Addr,LA56=some p→p.block≠g130:=fun p hp=>by have:=((((((((lz56.ext e60).updY hb61 u67).ext (e71.trans e77)).updT hb78 u87 ne83).ext (e90.trans (e93.trans (e101.trans (e107.trans e115))))).updY hb116 u122).ext e126)).block p hp;have:=nb.at_;omega
  have ne139:∀p:Addr,LA104=some p→p.block≠g130:=fun p hp=>by have:=((((lz104.ext (e107.trans e115)).updY hb116 u122).ext e126)).block p hp;have:=nb.at_;omega
  have ne140:∀p:Addr,LA111=some p→p.block≠g130:=fun p hp=>by have:=((((lz111.ext e115).updY hb116 u122).ext e126)).block p hp;have:=nb.at_;omega
  have e132:=nb.ext
  clear nb
  have hw23:=hw22.trans e132
  refine so aggInt hb133 [.bool s129,.slice A129 n129 c129] hw23 ge134 rfl rfl rfl rfl fun v141 hb143 u144 hw24=>(mv 1 rfl (ne_ (cw_seq ?_)))
  have L147:ln ((dt n X)*(sgl ss))≤134217729:=Nat.le_trans (ln_mul Ld22 (ln_w1 (by have:=sgl_or ss;omega) (by have:=sgl_or ss;omega))) (by decide)
  refine cw_draw mix 15 [] [Is (.int .i64 0),Is (.bool false),Is (.bool false),Is (.int .i64 0),Is (.bool false),Is (.bool false),Is (.bool false),Is (.agg #[.bool s129,.slice A129 n129 c129]),Is (.agg #[.bool s27,.slice A27 n27 c27]),Is (.int .i64 (sgl ss)),ZR w.heap.size (sgl ss),ZR w.heap.size ((dt n X)*(sgl ss)),Is (.bool true),Is (.bool false),Is (.bool false)] [[],[0],[1],[2],[2,3],[2,4],[5],[6],[6],[6],[6,9],[6,8,10],[6,7,11],[6,12],[6,13]] [[],[0],[0,1],[0,1,2],[0,1,2,3],[0,1,2,3,4],[0,1,2,3,4,5],[0,1,2,3,4,5,6],[0,1,2,3,4,5,6],[0,1,2,3,4,5,6],[0,1,2,3,4,5,6,9],[0,1,2,3,4,5,6,8,9,10],[0,1,2,3,4,5,6,7,8,9,10,11],[0,1,2,3,4,5,6,7,8,9,10,11,12],[0,1,2,3,4,5,6,7,8,9,10,11,12,13]] rfl
   (obs_cons rfl rfl (hob rfl rfl ?_) (obs_cons rfl rfl (hob rfl rfl ?_) (obs_cons rfl rfl (hob rfl rfl ?_) (obs_cons rfl rfl (hob rfl rfl ?_) (obs_cons rfl rfl (hob rfl rfl ?_) (obs_cons rfl rfl (hob rfl rfl ?_) (obs_cons rfl rfl (hob rfl rfl ?_) (obs_cons rfl rfl (hob rfl rfl ?_) (obs_cons rfl rfl (hob rfl rfl ?_) (obs_cons rfl rfl (hob rfl rfl ?_) (obs_cons rfl rfl (hob rfl rfl ?_) (obs_cons rfl rfl (hob rfl rfl ?_) (obs_cons rfl rfl (hob rfl rfl ?_) (obs_cons rfl rfl (hob rfl rfl ?_) (obs_cons rfl rfl (hob rfl rfl ?_) obs_nil))))))))))))))) ?_
  · 
   exact fun _ _=>deps_nil (mv 1 rfl (pi_done rfl (Ext.refl _) rfl))
  · 
   exact fun _ _=>dk rfl rfl (deps_nil (wl_cmp rfl rfl rfl false (by decide) (by decide) (pi_done rfl (Ext.refl _) rfl)))
  · 
   exact fun _ _=>dk rfl rfl (deps_nil (mv 1 rfl (pi_done rfl (Ext.refl _) rfl)))
  · 
   exact fun _ _=>dk rfl rfl (deps_nil (mv 1 rfl (pi_done rfl (Ext.refl _) rfl)))
  · 
   exact fun _ _=>dk rfl rfl (dk rfl rfl (deps_nil (wl_cmp rfl rfl rfl false (by decide) (by decide) (pi_done rfl (Ext.refl _) rfl))))
  · 
   exact fun _ _=>dk rfl rfl (dk rfl rfl (deps_nil (pu (v:= .bool false) rfl (by kernel_rfl) (pi_done rfl (Ext.refl _) rfl))))
  · 
   exact fun _ _=>dk rfl rfl (deps_nil (mv 1 rfl (pi_done rfl (Ext.refl _) rfl)))
  · 
   exact fun _ e204=>dk rfl rfl (deps_nil (lo aggInt (hb143.ext e204) [.bool s129,.slice A129 n129 c129] rfl rfl rfl (pi_done rfl (Ext.refl _) rfl)))
  · 
   exact fun _ e211=>dk rfl rfl (deps_nil (lo aggInt (((((((((hb37.ext (e41.trans (e46.trans (e52.trans e60)))).updN u67 (by omega)).ext (e71.trans e77)).updN u87 (by omega)).ext (e90.trans (e93.trans (e101.trans (e107.trans e115))))).updN u122 (by omega)).ext (e126.trans e132)).updN u144 (by omega)).ext e211) [.bool s27,.slice A27 n27 c27] rfl rfl rfl (pi_done rfl (Ext.refl _) rfl)))
  · 
   exact fun _ _=>dk rfl rfl (deps_nil (mv 1 rfl (pi_done rfl (Ext.refl _) rfl)))
  · 
   intro v224 e225
   have hw25:=hw24.trans e225
   refine dk rfl rfl (dk rfl rfl (deps_nil (cl (vs:= [.int .i64 (sgl ss)]) hw25 (g_zint_Of hw25.size (by have:=sgl_or ss;omega) (by have:=sgl_or ss;omega)) rfl (by kernel_rfl) fun xr238 v236 r238 e237 hw26=>?_)))
   obtain⟨s239,A239,n239,c239,rfl,z239⟩:=r238
   exact pi_done rfl e237 ⟨_,_,_,_,rfl,z239⟩
  · 
   intro v240 e241
   have hw25:=hw24.trans e241
   refine dk rfl rfl (dk rfl rfl (deps_cons rfl rfl fun x252 y253 h254 e255 f256=>?_))
   obtain⟨s257,A257,n257,c257,rfl,z257⟩:=h254
   have z257:=z257.ext f256
   refine deps_nil ?_
   have L258:ln ((dt n X)*(sgl ss))≤134217729:=Nat.le_trans (ln_mul Ld22 (ln_w1 (by have:=sgl_or ss;omega) (by have:=sgl_or ss;omega))) (by decide)
   refine cl (vs:= [.agg #[.bool s27,.slice A27 n27 c27],.agg #[.bool s257,.slice A257 n257 c257]]) hw25 (g_zint_Mul hw25.size (((((((((((z27.ext e30).updT hb31 u38).ext (e41.trans (e46.trans (e52.trans e60)))).updT hb61 u67).ext (e71.trans e77)).updT hb78 u87).ext (e90.trans (e93.trans (e101.trans (e107.trans e115))))).updT hb116 u122).ext (e126.trans e132)).updT hb133 u144).ext e241).zi (z27.le (lx_ Ld22 rfl)) z257.zi (z257.le (Nat.le_trans (ln_w1 (by have:=sgl_or ss;omega) (by have:=sgl_or ss;omega)) (by decide)))) rfl (by kernel_rfl) fun xr261 v259 r261 e260 hw26=>?_
   obtain⟨s262,A262,n262,c262,rfl,z262⟩:=r261
   exact pi_done rfl e260 ⟨_,_,_,_,rfl,z262⟩
  · 
   intro v263 e264
   have hw25:=hw24.trans e264
   refine dk rfl rfl (dk rfl rfl (deps_cons rfl rfl fun x275 y276 h277 e278 f279=>?_))
   obtain⟨s280,A280,n280,c280,rfl,z280⟩:=h277
   have z280:=z280.ext f279
   refine deps_nil (cl (vs:= [.agg #[.bool s129,.slice A129 n129 c129],.agg #[.bool s280,.slice A280 n280 c280]]) hw25 (g_top_sameInt (((((z129.ext e132).updT hb133 u144).ext e264)).cast ((dt_stps ss X (hallm hS hall)).trans (Int.mul_comm _ _))) (z280)) rfl (by kernel_rfl) fun xr283 v281 r283 e282 hw26=>?_)
   obtain rfl:=r283
   exact pi_done rfl e282 rfl
  · 
   exact fun _ _=>dk rfl rfl (dk rfl rfl (deps_nil (pu (v:= .bool false) rfl (by kernel_rfl) (pi_done rfl (Ext.refl _) rfl))))
  · 
   exact fun _ _=>dk rfl rfl (dk rfl rfl (deps_nil (pu (v:= .bool false) rfl (by kernel_rfl) (pi_done rfl (Ext.refl _) rfl))))
  · 
   intro v308 e309
   have hw25:=hw24.trans e309
   refine dk rfl rfl (dk rfl rfl (dk rfl rfl (dk rfl rfl (dk rfl rfl (dk rfl rfl (dk rfl rfl (dk rfl rfl (dk rfl rfl (dk rfl rfl (deps_cons rfl rfl fun x360 y361 h362 e363 f364=>?_))))))))))
   obtain⟨s365,A365,n365,c365,rfl,z365⟩:=h362
   have z365:=z365.ext f364
   refine deps_cons rfl rfl fun x366 y367 h368 e369 f370=>?_
   obtain⟨s371,A371,n371,c371,rfl,z371⟩:=h368
   have z371:=z371.ext f370
   refine dk rfl rfl (dk rfl rfl (dk rfl rfl (deps_nil (wl_nil (eo_np (eo_then (cw_false rfl (cw_skip (eo_then (cw_seq ?_))))))))))
   obtain⟨lb387,hlb387,hlelb387,hgl387,hq387_0,hq387_1,hq387_2,hq387_3,hq387_4,hq387_5,hq387_6⟩:∃lb,lb≤v308.heap.size∧v308.heap.size≤lb∧w.heap.size≤lb∧g1<lb∧g6<lb∧g28<lb∧g58<lb∧g75<lb∧g113<lb∧g130<lb:=⟨v308.heap.size,Nat.le_refl _,Nat.le_refl _,hw25.size,(((((((((((hb4.ext (e8.trans (e13.trans (e17.trans (e24.trans e30))))).updN u38 (by omega)).ext (e41.trans (e46.trans (e52.trans e60)))).updN u67 (by omega)).ext (e71.trans e77)).updN u87 (by omega)).ext (e90.trans (e93.trans (e101.trans (e107.trans e115))))).updN u122 (by omega)).ext (e126.trans e132)).updN u144 (by omega)).ext e309).lt,(((((((((((hb9.ext (e13.trans (e17.trans (e24.trans e30)))).updN u38 (by omega)).ext (e41.trans (e46.trans (e52.trans e60)))).updN u67 (by omega)).ext (e71.trans e77)).updN u87 (by omega)).ext (e90.trans (e93.trans (e101.trans (e107.trans e115))))).updN u122 (by omega)).ext (e126.trans e132)).updN u144 (by omega)).ext e309).lt,(((((((((hb37.ext (e41.trans (e46.trans (e52.trans e60)))).updN u67 (by omega)).ext (e71.trans e77)).updN u87 (by omega)).ext (e90.trans (e93.trans (e101.trans (e107.trans e115))))).updN u122 (by omega)).ext (e126.trans e132)).updN u144 (by omega)).ext e309).lt,(((((((hb66.ext (e71.trans e77)).updN u87 (by omega)).ext (e90.trans (e93.trans (e101.trans (e107.trans e115))))).updN u122 (by omega)).ext (e126.trans e132)).updN u144 (by omega)).ext e309).lt,(((((hb86.ext (e90.trans (e93.trans (e101.trans (e107.trans e115))))).updN u122 (by omega)).ext (e126.trans e132)).updN u144 (by omega)).ext e309).lt,(((hb121.ext (e126.trans e132)).updN u144 (by omega)).ext e309).lt,(hb143.ext e309).lt⟩
   have hql388:∀p:Addr,LA20=some p→p.block<lb387:=fun p hp=>Nat.lt_of_lt_of_le (((((((((((((lz20.ext (e24.trans e30)).updT hb31 u38 ne34).ext (e41.trans (e46.trans (e52.trans e60)))).updY hb61 u67).ext (e71.trans e77)).updT hb78 u87 ne81).ext (e90.trans (e93.trans (e101.trans (e107.trans e115))))).updY hb116 u122).ext (e126.trans e132)).updT hb133 u144 ne136).ext e309)).block p hp).2 hlelb387
   have hql389:∀p:Addr,LA49=some p→p.block<lb387:=fun p hp=>Nat.lt_of_lt_of_le (((((((((((lz49.ext (e52.trans e60)).updY hb61 u67).ext (e71.trans e77)).updT hb78 u87 ne82).ext (e90.trans (e93.trans (e101.trans (e107.trans e115))))).updY hb116 u122).ext (e126.trans e132)).updT hb133 u144 ne137).ext e309)).block p hp).2 hlelb387
   have hql390:∀p:Addr,LA56=some p→p.block<lb387:=fun p hp=>Nat.lt_of_lt_of_le (((((((((((lz56.ext e60).updY hb61 u67).ext (e71.trans e77)).updT hb78 u87 ne83).ext (e90.trans (e93.trans (e101.trans (e107.trans e115))))).updY hb116 u122).ext (e126.trans e132)).updT hb133 u144 ne138).ext e309)).block p hp).2 hlelb387
   have hql391:∀p:Addr,LA104=some p→p.block<lb387:=fun p hp=>Nat.lt_of_lt_of_le (((((((lz104.ext (e107.trans e115)).updY hb116 u122).ext (e126.trans e132)).updT hb133 u144 ne139).ext e309)).block p hp).2 hlelb387
   have hql392:∀p:Addr,LA111=some p→p.block<lb387:=fun p hp=>Nat.lt_of_lt_of_le (((((((lz111.ext e115).updY hb116 u122).ext (e126.trans e132)).updT hb133 u144 ne140).ext e309)).block p hp).2 hlelb387
   refine cw_draw mix 9 [6,7] [Is (.agg #[.int .i64 ((n:Nat):Int),.int .i64 ((n:Nat):Int),.slice Aa na capa]),MQ ((n:Nat):Int) ((n:Nat):Int) (LE (some w) 1048576 w.heap.size lb387 na xs),Is (.agg #[.int .i64 ((n:Nat):Int),.int .i64 ((c:Nat):Int),.slice Ay ny capy]),MQ ((n:Nat):Int) ((c:Nat):Int) (LE (some w) 1048576 w.heap.size lb387 ny ys),T2 (MQ ((n:Nat):Int) ((c:Nat):Int) (LQ none 17179869184 w.heap.size lb387 (n*c) (En n c (mm n X Y)))) (Is (.int .i64 0)),T2 (MQ ((n:Nat):Int) ((c:Nat):Int) (LQ none 17179869184 w.heap.size lb387 (n*c) (En n c (mm n X Y)))) (Is (.int .i64 0)),MQ ((n:Nat):Int) ((c:Nat):Int) (LQ none 17179869184 w.heap.size lb387 (n*c) (En n c (mm n X Y))),Is (.int .i64 0),PR v308.heap.size 24 [I0,I0,S0]] [[],[0],[],[2],[1,3],[4],[5],[5],[]] [[],[0],[],[0,1,2],[0,1,2,3],[0,1,2,3,4],[0,1,2,3,4,5],[0,1,2,3,4,5],[],[0,1,2,3,4,5,6,8],[0,1,2,3,4,5,6,7,8,9]] rfl
    (obs_cons rfl rfl (hob rfl rfl ?_) (obs_cons rfl rfl (hob rfl rfl ?_) (obs_cons rfl rfl (hob rfl rfl ?_) (obs_cons rfl rfl (hob rfl rfl ?_) (obs_cons rfl rfl (hob rfl rfl ?_) (obs_cons rfl rfl (hob rfl rfl ?_) (obs_float rfl rfl (fob rfl ?_) (obs_float rfl rfl (fob rfl ?_) (obs_cons rfl rfl (hob rfl rfl ?_) obs_nil))))))))) ?_
   · 
    exact fun _ e411=>deps_nil (lo aggMat (((((((((((hb4.ext (e8.trans (e13.trans (e17.trans (e24.trans e30))))).updN u38 (by omega)).ext (e41.trans (e46.trans (e52.trans e60)))).updN u67 (by omega)).ext (e71.trans e77)).updN u87 (by omega)).ext (e90.trans (e93.trans (e101.trans (e107.trans e115))))).updN u122 (by omega)).ext (e126.trans e132)).updN u144 (by omega)).ext (e309.trans e411)) [.int .i64 ((n:Nat):Int),.int .i64 ((n:Nat):Int),.slice Aa na capa] rfl rfl rfl (pi_done rfl (Ext.refl _) rfl))
   · 
    intro v412 e413
    have hw26:=hw25.trans e413
    refine dk rfl rfl (deps_nil (cl (vs:= [.agg #[.int .i64 ((n:Nat):Int),.int .i64 ((n:Nat):Int),.slice Aa na capa]]) hw26 (g_top_copyMat (w0:=w) hw26.size (Nat.le_trans hlb387 e413.size) hw26 ((show ZF w _ _ _ _ _ from⟨msa,hla,hma⟩).ext hw26) (by omega)) rfl (by kernel_rfl) fun xr421 v419 r421 e420 hw27=>?_))
    obtain⟨lv422,rfl,⟨LA423,lc423,rfl,lz423⟩⟩:=r421
    have blk424:=lz423.block
    exact pi_done rfl e420 ⟨_,rfl,⟨_,_,rfl,lz423⟩⟩
   · 
    exact fun _ e426=>deps_nil (lo aggMat (((((((((((hb9.ext (e13.trans (e17.trans (e24.trans e30)))).updN u38 (by omega)).ext (e41.trans (e46.trans (e52.trans e60)))).updN u67 (by omega)).ext (e71.trans e77)).updN u87 (by omega)).ext (e90.trans (e93.trans (e101.trans (e107.trans e115))))).updN u122 (by omega)).ext (e126.trans e132)).updN u144 (by omega)).ext (e309.trans e426)) [.int .i64 ((n:Nat):Int),.int .i64 ((c:Nat):Int),.slice Ay ny capy] rfl rfl rfl (pi_done rfl (Ext.refl _) rfl))
   · 
    intro v427 e428
    have hw26:=hw25.trans e428
    refine dk rfl rfl (deps_nil (cl (vs:= [.agg #[.int .i64 ((n:Nat):Int),.int .i64 ((c:Nat):Int),.slice Ay ny capy]]) hw26 (g_top_copyMat (w0:=w) hw26.size (Nat.le_trans hlb387 e428.size) hw26 ((show ZF w _ _ _ _ _ from⟨msy,hly,hmy⟩).ext hw26) (by omega)) rfl (by kernel_rfl) fun xr436 v434 r436 e435 hw27=>?_))
    obtain⟨lv437,rfl,⟨LA438,lc438,rfl,lz438⟩⟩:=r436
    have blk439:=lz438.block
    exact pi_done rfl e435 ⟨_,rfl,⟨_,_,rfl,lz438⟩⟩
   · 
    intro v440 e441
    have hw26:=hw25.trans e441
    refine deps_cons rfl rfl fun x442 y443 h444 e445 f446=>?_
    obtain⟨lv447,rfl,⟨LA448,lc448,rfl,lz448⟩⟩:=h444
    have blk449:=lz448.block
    have lz448:=lz448.ext f446
    refine deps_cons rfl rfl fun x450 y451 h452 e453 f454=>?_
    obtain⟨lv455,rfl,⟨LA456,lc456,rfl,lz456⟩⟩:=h452
    have blk457:=lz456.block
    have lz456:=lz456.ext f454
    refine deps_nil (cl (vs:= [.agg #[.int .i64 ((n:Nat):Int),.int .i64 ((n:Nat):Int),.slice LA448 na lc448],.agg #[.int .i64 ((n:Nat):Int),.int .i64 ((c:Nat):Int),.slice LA456 ny lc456]]) hw26 (g_mat_Mul (r:=n) (m:=n) (c:=c) (X:=X) (Y:=Y) (K:=17179869184) hw26.size (Nat.le_trans hlb387 e441.size) (((lz448).zf hw26).mono (by decide)) (((lz456).zf hw26).mono (by decide)) hna hny hn hn hc hX hY hKm) rfl (by kernel_rfl) fun xr460 v458 r460 e459 hw27=>?_)
    obtain⟨_,_,rfl,⟨lv462,rfl,⟨LA463,lc463,zs463,rfl,lz463,hz463⟩⟩,r461_1⟩:=r460
    have blk464:=lz463.block
    obtain rfl:=r461_1
    exact pi_done rfl e459 ⟨_,_,rfl,⟨_,rfl,⟨_,_,_,rfl,lz463,hz463⟩⟩,rfl⟩
   · 
    intro v465 e466
    refine deps_cons rfl rfl fun x467 y468 h469 e470 f471=>?_
    obtain⟨_,_,rfl,⟨lv473,rfl,⟨LA474,lc474,zs474,rfl,lz474,hz474⟩⟩,r472_1⟩:=h469
    have blk475:=lz474.block
    obtain rfl:=r472_1
    have lz474:=lz474.ext f471
    refine deps_nil (mv 1 rfl ?_)
    exact pi_done rfl (Ext.refl _) ⟨_,_,rfl,⟨_,rfl,⟨_,_,_,rfl,lz474,hz474⟩⟩,rfl⟩
   · 
    intro v476 e477
    refine deps_cons rfl rfl fun x478 y479 h480 e481 f482=>?_
    obtain⟨_,_,rfl,⟨lv484,rfl,⟨LA485,lc485,zs485,rfl,lz485,hz485⟩⟩,r483_1⟩:=h480
    have blk486:=lz485.block
    obtain rfl:=r483_1
    have lz485:=lz485.ext f482
    refine deps_nil ?_
    exact⟨.agg #[.int .i64 ((n:Nat):Int),.int .i64 ((c:Nat):Int),.slice LA485 (n*c) lc485],rfl,rfl,fun _=>by kernel_rfl,⟨_,rfl,⟨_,_,_,rfl,lz485,hz485⟩⟩⟩
   · 
    intro v487 e488
    refine deps_cons rfl rfl fun x489 y490 h491 e492 f493=>?_
    obtain⟨_,_,rfl,⟨lv495,rfl,⟨LA496,lc496,zs496,rfl,lz496,hz496⟩⟩,r494_1⟩:=h491
    have blk497:=lz496.block
    obtain rfl:=r494_1
    have lz496:=lz496.ext f493
    refine deps_nil ?_
    exact⟨.int .i64 0,rfl,rfl,fun _=>by kernel_rfl,rfl⟩
   · 
    intro v498 e499
    refine deps_nil (wl_alloc rfl (z:= .agg #[I0,I0,S0]) (vs:= [I0,I0,S0]) (fun _=>by kernel_rfl) rfl (by decide) fun g500 v501 nb=>?_)
    exact pi_done rfl nb.ext ⟨_,rfl,by rw [←nb.at_];exact e499.size,nb.bk⟩
   · 
    intro v502 e503
    have hw26:=hw25.trans e503
    refine dk rfl rfl (deps_cons rfl rfl fun x509 y510 h511 e512 f513=>?_)
    obtain⟨lv514,rfl,⟨LA515,lc515,rfl,lz515⟩⟩:=h511
    have blk516:=lz515.block
    have lz515:=lz515.ext f513
    refine dk rfl rfl (deps_cons rfl rfl fun x522 y523 h524 e525 f526=>?_)
    obtain⟨lv527,rfl,⟨LA528,lc528,rfl,lz528⟩⟩:=h524
    have blk529:=lz528.block
    have lz528:=lz528.ext f526
    refine deps_cons rfl rfl fun x530 y531 h532 e533 f534=>?_
    obtain⟨_,_,rfl,⟨lv536,rfl,⟨LA537,lc537,zs537,rfl,lz537,hz537⟩⟩,r535_1⟩:=h532
    have blk538:=lz537.block
    obtain rfl:=r535_1
    have lz537:=lz537.ext f534
    refine deps_cons rfl rfl fun x539 y540 h541 e542 f543=>?_
    obtain⟨_,_,rfl,⟨lv545,rfl,⟨LA546,lc546,zs546,rfl,lz546,hz546⟩⟩,r544_1⟩:=h541
    have blk547:=lz546.block
    obtain rfl:=r544_1
    have lz546:=lz546.ext f543
    refine deps_cons rfl rfl fun x548 y549 h550 e551 f552=>?_
    obtain⟨lv553,rfl,⟨LA554,lc554,zs554,rfl,lz554,hz554⟩⟩:=h550
    have blk555:=lz554.block
    have lz554:=lz554.ext f552
    refine dk rfl rfl (deps_cons rfl rfl fun x561 y562 h563 e564 f565=>?_)
    obtain⟨g566,rfl,ge568,hb567⟩:=h563
    have hb567:=hb567.ext f565
    have q569:g130<g566:=Nat.lt_of_lt_of_le (hb143.ext e309).lt ge568
    have ge568:w.heap.size≤g566:=Nat.le_trans hw25.size ge568
    refine deps_nil (so aggMat hb567 [.int .i64 ((n:Nat):Int),.int .i64 ((c:Nat):Int),.slice LA554 (n*c) lc554] hw26 ge568 rfl rfl rfl rfl fun v570 hb572 u573 hw27=>(mv 1 rfl (wl_nil (eo_np (eo_then (cw_seq (sr (lo aggMat ((((((((((((hb9.ext (e13.trans (e17.trans (e24.trans e30)))).updN u38 (by omega)).ext (e41.trans (e46.trans (e52.trans e60)))).updN u67 (by omega)).ext (e71.trans e77)).updN u87 (by omega)).ext (e90.trans (e93.trans (e101.trans (e107.trans e115))))).updN u122 (by omega)).ext (e126.trans e132)).updN u144 (by omega)).ext (e309.trans e503)).updN u573 (by omega)) [.int .i64 ((n:Nat):Int),.int .i64 ((c:Nat):Int),.slice Ay ny capy] rfl rfl rfl (cl (vs:= [.agg #[.int .i64 ((n:Nat):Int),.int .i64 ((c:Nat):Int),.slice Ay ny capy]]) hw27 (g_top_sound_t hsy) rfl (by kernel_rfl) fun xr577 v575 r577 e576 hw28=>?_)))))))))
    obtain rfl:=r577
    refine pu (v:= .bool false) rfl (by kernel_rfl) (mv 1 rfl (pf g6 0 rfl (by kernel_rfl) (wl_load rfl rfl (load_cell cellInt (((((((((((((hb9.ext (e13.trans (e17.trans (e24.trans e30)))).updN u38 (by omega)).ext (e41.trans (e46.trans (e52.trans e60)))).updN u67 (by omega)).ext (e71.trans e77)).updN u87 (by omega)).ext (e90.trans (e93.trans (e101.trans (e107.trans e115))))).updN u122 (by omega)).ext (e126.trans e132)).updN u144 (by omega)).ext (e309.trans e503)).updN u573 (by omega)).ext e576) rfl) (by decide) (pf g1 0 rfl (by kernel_rfl) (wl_load rfl rfl (load_cell cellInt (((((((((((((hb4.ext (e8.trans (e13.trans (e17.trans (e24.trans e30))))).updN u38 (by omega)).ext (e41.trans (e46.trans (e52.trans e60)))).updN u67 (by omega)).ext (e71.trans e77)).updN u87 (by omega)).ext (e90.trans (e93.trans (e101.trans (e107.trans e115))))).updN u122 (by omega)).ext (e126.trans e132)).updN u144 (by omega)).ext (e309.trans e503)).updN u573 (by omega)).ext e576) rfl) (by decide) (wl_cmp rfl rfl rfl false (cb_ne_f (a:=n) (b:=n) rfl rfl (by omega)) (by decide) (pu (v:= .bool false) rfl (by kernel_rfl) (mv 1 rfl (pf g6 1 rfl (by kernel_rfl) (wl_load rfl rfl (load_cell cellInt (((((((((((((hb9.ext (e13.trans (e17.trans (e24.trans e30)))).updN u38 (by omega)).ext (e41.trans (e46.trans (e52.trans e60)))).updN u67 (by omega)).ext (e71.trans e77)).updN u87 (by omega)).ext (e90.trans (e93.trans (e101.trans (e107.trans e115))))).updN u122 (by omega)).ext (e126.trans e132)).updN u144 (by omega)).ext (e309.trans e503)).updN u573 (by omega)).ext e576) rfl) (by decide) (pf g1 0 rfl (by kernel_rfl) (wl_load rfl rfl (load_cell cellInt (((((((((((((hb4.ext (e8.trans (e13.trans (e17.trans (e24.trans e30))))).updN u38 (by omega)).ext (e41.trans (e46.trans (e52.trans e60)))).updN u67 (by omega)).ext (e71.trans e77)).updN u87 (by omega)).ext (e90.trans (e93.trans (e101.trans (e107.trans e115))))).updN u122 (by omega)).ext (e126.trans e132)).updN u144 (by omega)).ext (e309.trans e503)).updN u573 (by omega)).ext e576) rfl) (by decide) (wl_cmp rfl rfl rfl true (cb_ne_t (a:=c) (b:=n) rfl rfl (by omega)) (by decide) ?_)))))))))))))
    refine pu (v:= .bool true) rfl (by kernel_rfl) (ne_ (cw_true rfl (sr (mv 1 rfl (ne_ (cw_ret (eo_thenR (eo_ret [.bool true] rfl ⟨rfl,trivial⟩ ?_))))))))
    exact⟨_,rfl,rfl,hw28⟩
 · 
  refine cw_region (pf g1 0 rfl (by kernel_rfl) (wl_load rfl rfl (load_cell cellInt (((((((hb4.ext (e8.trans (e13.trans (e17.trans (e24.trans e30))))).updN u38 (by omega)).ext (e41.trans (e46.trans (e52.trans e60)))).updN u67 (by omega)).ext (e71.trans e77)).updN u87 (by omega)).ext e90) rfl) (by decide) (mv 1 rfl (cl (vs:= [.int .i64 ((n:Nat):Int),.slice As m caps]) hw16 (g_stp_Sign_no hn (hS.ext hw16) hM hm hall) rfl (by kernel_rfl) fun xr580 v578 r580 e579 hw17=>?_))))
  obtain⟨_,_,rfl,⟨q582,rfl⟩,rfl⟩:=r580
  refine mv 1 rfl (pu (v:= .int .i64 q582) rfl (by kernel_rfl) (pu (v:= .int .i64 3) rfl (by kernel_rfl) (mv 2 rfl (ne_ (cw_seq (sr (mv 1 rfl (wl_cmp rfl rfl rfl false (by decide) (by decide) (ne_ (cw_false rfl (cw_skip (eo_then (cw_seq ?_)))))))))))))
  obtain⟨lb583,hlb583,hlelb583,hgl583,hq583_0,hq583_1,hq583_2,hq583_3,hq583_4⟩:∃lb,lb≤v578.heap.size∧v578.heap.size≤lb∧w.heap.size≤lb∧g1<lb∧g6<lb∧g28<lb∧g58<lb∧g75<lb:=⟨v578.heap.size,Nat.le_refl _,Nat.le_refl _,hw17.size,(((((((hb4.ext (e8.trans (e13.trans (e17.trans (e24.trans e30))))).updN u38 (by omega)).ext (e41.trans (e46.trans (e52.trans e60)))).updN u67 (by omega)).ext (e71.trans e77)).updN u87 (by omega)).ext (e90.trans e579)).lt,(((((((hb9.ext (e13.trans (e17.trans (e24.trans e30)))).updN u38 (by omega)).ext (e41.trans (e46.trans (e52.trans e60)))).updN u67 (by omega)).ext (e71.trans e77)).updN u87 (by omega)).ext (e90.trans e579)).lt,(((((hb37.ext (e41.trans (e46.trans (e52.trans e60)))).updN u67 (by omega)).ext (e71.trans e77)).updN u87 (by omega)).ext (e90.trans e579)).lt,(((hb66.ext (e71.trans e77)).updN u87 (by omega)).ext (e90.trans e579)).lt,(hb86.ext (e90.trans e579)).lt⟩
  have hql584:∀p:Addr,LA20=some p→p.block<lb583:=fun p hp=>Nat.lt_of_lt_of_le (((((((((lz20.ext (e24.trans e30)).updT hb31 u38 ne34).ext (e41.trans (e46.trans (e52.trans e60)))).updY hb61 u67).ext (e71.trans e77)).updT hb78 u87 ne81).ext (e90.trans e579))).block p hp).2 hlelb583
  have hql585:∀p:Addr,LA49=some p→p.block<lb583:=fun p hp=>Nat.lt_of_lt_of_le (((((((lz49.ext (e52.trans e60)).updY hb61 u67).ext (e71.trans e77)).updT hb78 u87 ne82).ext (e90.trans e579))).block p hp).2 hlelb583
  have hql586:∀p:Addr,LA56=some p→p.block<lb583:=fun p hp=>Nat.lt_of_lt_of_le (((((((lz56.ext e60).updY hb61 u67).ext (e71.trans e77)).updT hb78 u87 ne83).ext (e90.trans e579))).block p hp).2 hlelb583
  refine cw_draw mix 9 [6,7] [Is (.agg #[.int .i64 ((n:Nat):Int),.int .i64 ((n:Nat):Int),.slice Aa na capa]),MQ ((n:Nat):Int) ((n:Nat):Int) (LE (some w) 1048576 w.heap.size lb583 na xs),Is (.agg #[.int .i64 ((n:Nat):Int),.int .i64 ((c:Nat):Int),.slice Ay ny capy]),MQ ((n:Nat):Int) ((c:Nat):Int) (LE (some w) 1048576 w.heap.size lb583 ny ys),T2 (MQ ((n:Nat):Int) ((c:Nat):Int) (LQ none 17179869184 w.heap.size lb583 (n*c) (En n c (mm n X Y)))) (Is (.int .i64 0)),T2 (MQ ((n:Nat):Int) ((c:Nat):Int) (LQ none 17179869184 w.heap.size lb583 (n*c) (En n c (mm n X Y)))) (Is (.int .i64 0)),MQ ((n:Nat):Int) ((c:Nat):Int) (LQ none 17179869184 w.heap.size lb583 (n*c) (En n c (mm n X Y))),Is (.int .i64 0),PR v578.heap.size 24 [I0,I0,S0]] [[],[0],[],[2],[1,3],[4],[5],[5],[]] [[],[0],[],[0,1,2],[0,1,2,3],[0,1,2,3,4],[0,1,2,3,4,5],[0,1,2,3,4,5],[],[0,1,2,3,4,5,6,8],[0,1,2,3,4,5,6,7,8,9]] rfl
   (obs_cons rfl rfl (hob rfl rfl ?_) (obs_cons rfl rfl (hob rfl rfl ?_) (obs_cons rfl rfl (hob rfl rfl ?_) (obs_cons rfl rfl (hob rfl rfl ?_) (obs_cons rfl rfl (hob rfl rfl ?_) (obs_cons rfl rfl (hob rfl rfl ?_) (obs_float rfl rfl (fob rfl ?_) (obs_float rfl rfl (fob rfl ?_) (obs_cons rfl rfl (hob rfl rfl ?_) obs_nil))))))))) ?_
  · 
   exact fun _ e605=>deps_nil (lo aggMat (((((((hb4.ext (e8.trans (e13.trans (e17.trans (e24.trans e30))))).updN u38 (by omega)).ext (e41.trans (e46.trans (e52.trans e60)))).updN u67 (by omega)).ext (e71.trans e77)).updN u87 (by omega)).ext (e90.trans (e579.trans e605))) [.int .i64 ((n:Nat):Int),.int .i64 ((n:Nat):Int),.slice Aa na capa] rfl rfl rfl (pi_done rfl (Ext.refl _) rfl))
  · 
   intro v606 e607
   have hw18:=hw17.trans e607
   refine dk rfl rfl (deps_nil (cl (vs:= [.agg #[.int .i64 ((n:Nat):Int),.int .i64 ((n:Nat):Int),.slice Aa na capa]]) hw18 (g_top_copyMat (w0:=w) hw18.size (Nat.le_trans hlb583 e607.size) hw18 ((show ZF w _ _ _ _ _ from⟨msa,hla,hma⟩).ext hw18) (by omega)) rfl (by kernel_rfl) fun xr615 v613 r615 e614 hw19=>?_))
   obtain⟨lv616,rfl,⟨LA617,lc617,rfl,lz617⟩⟩:=r615
   have blk618:=lz617.block
   exact pi_done rfl e614 ⟨_,rfl,⟨_,_,rfl,lz617⟩⟩
  · 
   exact fun _ e620=>deps_nil (lo aggMat (((((((hb9.ext (e13.trans (e17.trans (e24.trans e30)))).updN u38 (by omega)).ext (e41.trans (e46.trans (e52.trans e60)))).updN u67 (by omega)).ext (e71.trans e77)).updN u87 (by omega)).ext (e90.trans (e579.trans e620))) [.int .i64 ((n:Nat):Int),.int .i64 ((c:Nat):Int),.slice Ay ny capy] rfl rfl rfl (pi_done rfl (Ext.refl _) rfl))
  · 
   intro v621 e622
   have hw18:=hw17.trans e622
   refine dk rfl rfl (deps_nil (cl (vs:= [.agg #[.int .i64 ((n:Nat):Int),.int .i64 ((c:Nat):Int),.slice Ay ny capy]]) hw18 (g_top_copyMat (w0:=w) hw18.size (Nat.le_trans hlb583 e622.size) hw18 ((show ZF w _ _ _ _ _ from⟨msy,hly,hmy⟩).ext hw18) (by omega)) rfl (by kernel_rfl) fun xr630 v628 r630 e629 hw19=>?_))
   obtain⟨lv631,rfl,⟨LA632,lc632,rfl,lz632⟩⟩:=r630
   have blk633:=lz632.block
   exact pi_done rfl e629 ⟨_,rfl,⟨_,_,rfl,lz632⟩⟩
  · 
   intro v634 e635
   have hw18:=hw17.trans e635
   refine deps_cons rfl rfl fun x636 y637 h638 e639 f640=>?_
   obtain⟨lv641,rfl,⟨LA642,lc642,rfl,lz642⟩⟩:=h638
   have blk643:=lz642.block
   have lz642:=lz642.ext f640
   refine deps_cons rfl rfl fun x644 y645 h646 e647 f648=>?_
   obtain⟨lv649,rfl,⟨LA650,lc650,rfl,lz650⟩⟩:=h646
   have blk651:=lz650.block
   have lz650:=lz650.ext f648
   refine deps_nil (cl (vs:= [.agg #[.int .i64 ((n:Nat):Int),.int .i64 ((n:Nat):Int),.slice LA642 na lc642],.agg #[.int .i64 ((n:Nat):Int),.int .i64 ((c:Nat):Int),.slice LA650 ny lc650]]) hw18 (g_mat_Mul (r:=n) (m:=n) (c:=c) (X:=X) (Y:=Y) (K:=17179869184) hw18.size (Nat.le_trans hlb583 e635.size) (((lz642).zf hw18).mono (by decide)) (((lz650).zf hw18).mono (by decide)) hna hny hn hn hc hX hY hKm) rfl (by kernel_rfl) fun xr654 v652 r654 e653 hw19=>?_)
   obtain⟨_,_,rfl,⟨lv656,rfl,⟨LA657,lc657,zs657,rfl,lz657,hz657⟩⟩,r655_1⟩:=r654
   have blk658:=lz657.block
   obtain rfl:=r655_1
   exact pi_done rfl e653 ⟨_,_,rfl,⟨_,rfl,⟨_,_,_,rfl,lz657,hz657⟩⟩,rfl⟩
  · 
   intro v659 e660
   refine deps_cons rfl rfl fun x661 y662 h663 e664 f665=>?_
   obtain⟨_,_,rfl,⟨lv667,rfl,⟨LA668,lc668,zs668,rfl,lz668,hz668⟩⟩,r666_1⟩:=h663
   have blk669:=lz668.block
   obtain rfl:=r666_1
   have lz668:=lz668.ext f665
   refine deps_nil (mv 1 rfl ?_)
   exact pi_done rfl (Ext.refl _) ⟨_,_,rfl,⟨_,rfl,⟨_,_,_,rfl,lz668,hz668⟩⟩,rfl⟩
  · 
   intro v670 e671
   refine deps_cons rfl rfl fun x672 y673 h674 e675 f676=>?_
   obtain⟨_,_,rfl,⟨lv678,rfl,⟨LA679,lc679,zs679,rfl,lz679,hz679⟩⟩,r677_1⟩:=h674
   have blk680:=lz679.block
   obtain rfl:=r677_1
   have lz679:=lz679.ext f676
   refine deps_nil ?_
   exact⟨.agg #[.int .i64 ((n:Nat):Int),.int .i64 ((c:Nat):Int),.slice LA679 (n*c) lc679],rfl,rfl,fun _=>by kernel_rfl,⟨_,rfl,⟨_,_,_,rfl,lz679,hz679⟩⟩⟩
  · 
   intro v681 e682
   refine deps_cons rfl rfl fun x683 y684 h685 e686 f687=>?_
   obtain⟨_,_,rfl,⟨lv689,rfl,⟨LA690,lc690,zs690,rfl,lz690,hz690⟩⟩,r688_1⟩:=h685
   have blk691:=lz690.block
   obtain rfl:=r688_1
   have lz690:=lz690.ext f687
   refine deps_nil ?_
   exact⟨.int .i64 0,rfl,rfl,fun _=>by kernel_rfl,rfl⟩
  · 
   intro v692 e693
   refine deps_nil (wl_alloc rfl (z:= .agg #[I0,I0,S0]) (vs:= [I0,I0,S0]) (fun _=>by kernel_rfl) rfl (by decide) fun g694 v695 nb=>?_)
   exact pi_done rfl nb.ext ⟨_,rfl,by rw [←nb.at_];exact e693.size,nb.bk⟩
  · 
   intro v696 e697
   have hw18:=hw17.trans e697
   refine dk rfl rfl (deps_cons rfl rfl fun x703 y704 h705 e706 f707=>?_)
   obtain⟨lv708,rfl,⟨LA709,lc709,rfl,lz709⟩⟩:=h705
   have blk710:=lz709.block
   have lz709:=lz709.ext f707
   refine dk rfl rfl (deps_cons rfl rfl fun x716 y717 h718 e719 f720=>?_)
   obtain⟨lv721,rfl,⟨LA722,lc722,rfl,lz722⟩⟩:=h718
   have blk723:=lz722.block
   have lz722:=lz722.ext f720
   refine deps_cons rfl rfl fun x724 y725 h726 e727 f728=>?_
   obtain⟨_,_,rfl,⟨lv730,rfl,⟨LA731,lc731,zs731,rfl,lz731,hz731⟩⟩,r729_1⟩:=h726
   have blk732:=lz731.block
   obtain rfl:=r729_1
   have lz731:=lz731.ext f728
   refine deps_cons rfl rfl fun x733 y734 h735 e736 f737=>?_
   obtain⟨_,_,rfl,⟨lv739,rfl,⟨LA740,lc740,zs740,rfl,lz740,hz740⟩⟩,r738_1⟩:=h735
   have blk741:=lz740.block
   obtain rfl:=r738_1
   have lz740:=lz740.ext f737
   refine deps_cons rfl rfl fun x742 y743 h744 e745 f746=>?_
   obtain⟨lv747,rfl,⟨LA748,lc748,zs748,rfl,lz748,hz748⟩⟩:=h744
   have blk749:=lz748.block
   have lz748:=lz748.ext f746
   refine dk rfl rfl (deps_cons rfl rfl fun x755 y756 h757 e758 f759=>?_)
   obtain⟨g760,rfl,ge762,hb761⟩:=h757
   have hb761:=hb761.ext f759
   have q763:g75<g760:=Nat.lt_of_lt_of_le (hb86.ext (e90.trans e579)).lt ge762
   have ge762:w.heap.size≤g760:=Nat.le_trans hw17.size ge762
   refine deps_nil (so aggMat hb761 [.int .i64 ((n:Nat):Int),.int .i64 ((c:Nat):Int),.slice LA748 (n*c) lc748] hw18 ge762 rfl rfl rfl rfl fun v764 hb766 u767 hw19=>(mv 1 rfl (wl_nil (eo_np (eo_then (cw_seq (sr (lo aggMat ((((((((hb9.ext (e13.trans (e17.trans (e24.trans e30)))).updN u38 (by omega)).ext (e41.trans (e46.trans (e52.trans e60)))).updN u67 (by omega)).ext (e71.trans e77)).updN u87 (by omega)).ext (e90.trans (e579.trans e697))).updN u767 (by omega)) [.int .i64 ((n:Nat):Int),.int .i64 ((c:Nat):Int),.slice Ay ny capy] rfl rfl rfl (cl (vs:= [.agg #[.int .i64 ((n:Nat):Int),.int .i64 ((c:Nat):Int),.slice Ay ny capy]]) hw19 (g_top_sound_t hsy) rfl (by kernel_rfl) fun xr771 v769 r771 e770 hw20=>?_)))))))))
   obtain rfl:=r771
   refine pu (v:= .bool false) rfl (by kernel_rfl) (mv 1 rfl (pf g6 0 rfl (by kernel_rfl) (wl_load rfl rfl (load_cell cellInt (((((((((hb9.ext (e13.trans (e17.trans (e24.trans e30)))).updN u38 (by omega)).ext (e41.trans (e46.trans (e52.trans e60)))).updN u67 (by omega)).ext (e71.trans e77)).updN u87 (by omega)).ext (e90.trans (e579.trans e697))).updN u767 (by omega)).ext e770) rfl) (by decide) (pf g1 0 rfl (by kernel_rfl) (wl_load rfl rfl (load_cell cellInt (((((((((hb4.ext (e8.trans (e13.trans (e17.trans (e24.trans e30))))).updN u38 (by omega)).ext (e41.trans (e46.trans (e52.trans e60)))).updN u67 (by omega)).ext (e71.trans e77)).updN u87 (by omega)).ext (e90.trans (e579.trans e697))).updN u767 (by omega)).ext e770) rfl) (by decide) (wl_cmp rfl rfl rfl false (cb_ne_f (a:=n) (b:=n) rfl rfl (by omega)) (by decide) (pu (v:= .bool false) rfl (by kernel_rfl) (mv 1 rfl (pf g6 1 rfl (by kernel_rfl) (wl_load rfl rfl (load_cell cellInt (((((((((hb9.ext (e13.trans (e17.trans (e24.trans e30)))).updN u38 (by omega)).ext (e41.trans (e46.trans (e52.trans e60)))).updN u67 (by omega)).ext (e71.trans e77)).updN u87 (by omega)).ext (e90.trans (e579.trans e697))).updN u767 (by omega)).ext e770) rfl) (by decide) (pf g1 0 rfl (by kernel_rfl) (wl_load rfl rfl (load_cell cellInt (((((((((hb4.ext (e8.trans (e13.trans (e17.trans (e24.trans e30))))).updN u38 (by omega)).ext (e41.trans (e46.trans (e52.trans e60)))).updN u67 (by omega)).ext (e71.trans e77)).updN u87 (by omega)).ext (e90.trans (e579.trans e697))).updN u767 (by omega)).ext e770) rfl) (by decide) (wl_cmp rfl rfl rfl true (cb_ne_t (a:=c) (b:=n) rfl rfl (by omega)) (by decide) ?_)))))))))))))
   refine pu (v:= .bool true) rfl (by kernel_rfl) (ne_ (cw_true rfl (sr (mv 1 rfl (ne_ (cw_ret (eo_thenR (eo_ret [.bool true] rfl ⟨rfl,trivial⟩ ?_))))))))
   exact⟨_,rfl,rfl,hw20⟩
set_option maxHeartbeats 4000000 in
set_option maxRecDepth 20000 in
theorem g_top_WholeDetProduct_ok_ok {w:World}{n Ka:Nat}{X:Mx}{Aa:Option Addr}{na capa:Nat}{xs:List Int}(hxa:ZF w Aa na capa 1048576 xs){Ay:Option Addr}{ny capy:Nat}{ys:List Int}(hxy:ZF w Ay ny capy 1048576 ys){As:Option Addr}{m caps:Nat}{ss:List Stp}{ms:List Nat}(hS:Sl w As m ss ms) (hM:∀i,ms.getD i 0≤1048576) (hm:m≤1048576) (hna1:na≤1048576) (hny1:ny≤1048576) (hna:na=n*n) (hn:n≤64) (hX:En n n X xs) (hXa:∀a b,a<n→b<n→ln (X a b)≤Ka) (hKa:Ka+(m+ms.sum)≤1048576){Y:Mx}{Ky:Nat}(hny:ny=n*n) (hY:En n n Y ys) (hYa:∀a b,a<n→b<n→ln (Y a b)≤Ky) (hKy:Ka+Ky+n≤1048576):
    Calls Try.prog 4 #[.agg #[.int .i64 ((n:Nat):Int),.int .i64 ((n:Nat):Int),.slice Aa na capa],.agg #[.int .i64 ((n:Nat):Int),.int .i64 ((n:Nat):Int),.slice Ay ny capy],.slice As m caps] w (Gv w (Is (.bool true))):=by
 have hlb:w.heap.size≤w.heap.size:=Nat.le_refl _
 have hxa0:=hxa
 have hxy0:=hxy
 have hs:Snd ((n:Nat):Int) ((n:Nat):Int) na:=snd_mk hn hn hna
 have hsy:Snd ((n:Nat):Int) ((n:Nat):Int) ny:=snd_mk hn hn hny
 have hKm:∀i j,i<n→j<n→ln (mm n X Y i j)≤1048576:=fun i j hi hj=>Nat.le_trans (ln_mm (fun k hk=>hXa i k hi hk) (fun k hk=>hYa k j hk hj)) hKy
 obtain⟨msa,hla,hma⟩:=hxa
 obtain⟨msy,hly,hmy⟩:=hxy
 refine sx_enter Try.func4 rfl (n:=161) rfl (bq rfl) (args:= [.agg #[.int .i64 ((n:Nat):Int),.int .i64 ((n:Nat):Int),.slice Aa na capa],.agg #[.int .i64 ((n:Nat):Int),.int .i64 ((n:Nat):Int),.slice Ay ny capy],.slice As m caps]) (cw_keep [(0,.agg #[.int .i64 ((n:Nat):Int),.int .i64 ((n:Nat):Int),.slice Aa na capa]),(1,.agg #[.int .i64 ((n:Nat):Int),.int .i64 ((n:Nat):Int),.slice Ay ny capy]),(2,.slice As m caps)] ⟨rfl,rfl,rfl,trivial⟩ (sr (bx [.int .i64 ((n:Nat):Int),.int .i64 ((n:Nat):Int),.slice Aa na capa] (Ext.refl w) rfl rfl rfl fun g1 v2 hb4 ge5 e3 hw1=>(bxq [.int .i64 ((n:Nat):Int),.int .i64 ((n:Nat):Int),.slice Ay ny capy] hw1 hb4.lt rfl rfl rfl fun g6 v7 hb9 ge10 q11 e8 hw2=>(mv 1 rfl (ne_ (cw_seq (sr (wl_call rfl rfl (vs:= []) (by kernel_rfl) (by decide) g_top_detWakes ?_)))))))))
 rintro _ v12 ⟨xr14,rfl,r14,e13⟩
 refine ret_intro ?_
 have hw3:=hw2.trans e13
 obtain rfl:=r14
 refine pu (v:= .bool false) rfl (by kernel_rfl) (ne_ (cw_false rfl (cw_skip (eo_then (sr (lo aggMat (hb4.ext (e8.trans e13)) [.int .i64 ((n:Nat):Int),.int .i64 ((n:Nat):Int),.slice Aa na capa] rfl rfl rfl ?_))))))
 obtain⟨lb15,hlb15,hlelb15,hgl15,hq15_0,hq15_1⟩:∃lb,lb≤v12.heap.size∧v12.heap.size≤lb∧w.heap.size≤lb∧g1<lb∧g6<lb:=⟨v12.heap.size,Nat.le_refl _,Nat.le_refl _,hw3.size,(hb4.ext (e8.trans e13)).lt,(hb9.ext e13).lt⟩
 refine cl (vs:= [.agg #[.int .i64 ((n:Nat):Int),.int .i64 ((n:Nat):Int),.slice Aa na capa]]) hw3 (g_top_copyMat (w0:=w) hw3.size hlb15 hw3 ((show ZF w _ _ _ _ _ from⟨msa,hla,hma⟩).ext hw3) (by omega)) rfl (by kernel_rfl) fun xr18 v16 r18 e17 hw4=>?_
 obtain⟨lv19,rfl,⟨LA20,lc20,rfl,lz20⟩⟩:=r18
 have blk21:=lz20.block
 have Ld22:ln (dt n X)≤134217728:=ln_dtB hn (fun i j hi hj=>hX.ln ((lz20).zf hw4) hi hj)
 refine cl (vs:= [.agg #[.int .i64 ((n:Nat):Int),.int .i64 ((n:Nat):Int),.slice LA20 na lc20]]) hw4 (g_brs_Det (X:=X) hw4.size ((lz20).zf hw4) hna hn hX) rfl (by kernel_rfl) fun xr25 v23 r25 e24 hw5=>?_
 obtain⟨_,_,rfl,⟨s27,A27,n27,c27,rfl,z27⟩,rfl⟩:=r25
 refine mv 1 rfl (pu (v:= .agg #[.bool s27,.slice A27 n27 c27]) rfl (by kernel_rfl) (pu (v:= .int .i64 0) rfl (by kernel_rfl) (wl_alloc rfl (z:= .agg #[F0,S0]) (vs:= [F0,S0]) (fun _=>by kernel_rfl) rfl (by decide) fun g28 v29 nb=>?_)))
 have hb31:=nb.bk
 have ge32:w.heap.size≤g28:=by rw [←nb.at_];exact hw5.size
 have q33:g6<g28:=by rw [←nb.at_];exact (hb9.ext (e13.trans (e17.trans e24))).lt
 have ne34:∀p:Addr,LA20=some p→p.block≠g28:=fun p hp=>by have:=((lz20.ext e24)).block p hp;have:=nb.at_;omega
 have e30:=nb.ext
 clear nb
 have hw6:=hw5.trans e30
 refine so aggInt hb31 [.bool s27,.slice A27 n27 c27] hw6 ge32 rfl rfl rfl rfl fun v35 hb37 u38 hw7=>(mv 1 rfl (ne_ (cw_seq (sr (lo aggMat ((hb4.ext (e8.trans (e13.trans (e17.trans (e24.trans e30))))).updN u38 (by omega)) [.int .i64 ((n:Nat):Int),.int .i64 ((n:Nat):Int),.slice Aa na capa] rfl rfl rfl (cl (vs:= [.agg #[.int .i64 ((n:Nat):Int),.int .i64 ((n:Nat):Int),.slice Aa na capa]]) hw7 (g_top_sound_t hs) rfl (by kernel_rfl) fun xr42 v40 r42 e41 hw8=>?_))))))
 obtain rfl:=r42
 refine pu (v:= .bool false) rfl (by kernel_rfl) (mv 1 rfl (pf g1 0 rfl (by kernel_rfl) (wl_load rfl rfl (load_cell cellInt (((hb4.ext (e8.trans (e13.trans (e17.trans (e24.trans e30))))).updN u38 (by omega)).ext e41) rfl) (by decide) (pf g1 1 rfl (by kernel_rfl) (wl_load rfl rfl (load_cell cellInt (((hb4.ext (e8.trans (e13.trans (e17.trans (e24.trans e30))))).updN u38 (by omega)).ext e41) rfl) (by decide) (wl_cmp rfl rfl rfl false (cb_ne_f (a:=n) (b:=n) rfl rfl (by omega)) (by decide) (pu (v:= .bool false) rfl (by kernel_rfl) (ne_ (cw_false rfl (cw_skip (eo_then (sr (lo aggMat (((hb4.ext (e8.trans (e13.trans (e17.trans (e24.trans e30))))).updN u38 (by omega)).ext e41) [.int .i64 ((n:Nat):Int),.int .i64 ((n:Nat):Int),.slice Aa na capa] rfl rfl rfl ?_)))))))))))))
 obtain⟨lb43,hlb43,hlelb43,hgl43,hq43_0,hq43_1,hq43_2⟩:∃lb,lb≤v40.heap.size∧v40.heap.size≤lb∧w.heap.size≤lb∧g1<lb∧g6<lb∧g28<lb:=⟨v40.heap.size,Nat.le_refl _,Nat.le_refl _,hw8.size,(((hb4.ext (e8.trans (e13.trans (e17.trans (e24.trans e30))))).updN u38 (by omega)).ext e41).lt,(((hb9.ext (e13.trans (e17.trans (e24.trans e30)))).updN u38 (by omega)).ext e41).lt,(hb37.ext e41).lt⟩
 have hql44:∀p:Addr,LA20=some p→p.block<lb43:=fun p hp=>Nat.lt_of_lt_of_le (((((lz20.ext (e24.trans e30)).updT hb31 u38 ne34).ext e41)).block p hp).2 hlelb43
 refine cl (vs:= [.agg #[.int .i64 ((n:Nat):Int),.int .i64 ((n:Nat):Int),.slice Aa na capa]]) hw8 (g_top_copyMat (w0:=w) hw8.size hlb43 hw8 ((show ZF w _ _ _ _ _ from⟨msa,hla,hma⟩).ext hw8) (by omega)) rfl (by kernel_rfl) fun xr47 v45 r47 e46 hw9=>?_
 obtain⟨lv48,rfl,⟨LA49,lc49,rfl,lz49⟩⟩:=r47
 have blk50:=lz49.block
 refine cl (vs:= [.agg #[.int .i64 ((n:Nat):Int),.int .i64 ((n:Nat):Int),.slice LA49 na lc49]]) hw9 (g_mat_Turn (r:=n) (c:=n) (K:=1048576) (X:=X) hw9.size (Nat.le_trans hlb43 e46.size) ((lz49).zf hw9) hna hn hn hX (by decide)) rfl (by kernel_rfl) fun xr53 v51 r53 e52 hw10=>?_
 obtain⟨_,_,rfl,⟨lv55,rfl,⟨LA56,lc56,zs56,rfl,lz56,hz56⟩⟩,r54_1⟩:=r53
 have blk57:=lz56.block
 obtain rfl:=r54_1
 refine mv 1 rfl (pu (v:= .agg #[.int .i64 ((n:Nat):Int),.int .i64 ((n:Nat):Int),.slice LA56 (n*n) lc56]) rfl (by kernel_rfl) (pu (v:= .int .i64 0) rfl (by kernel_rfl) (alq [I0,I0,S0] hw10 (hb37.ext (e41.trans (e46.trans e52))).lt (fun _=>by kernel_rfl) rfl fun g58 v59 hb61 ge62 q63 e60 hw11=>(so aggMat hb61 [.int .i64 ((n:Nat):Int),.int .i64 ((n:Nat):Int),.slice LA56 (n*n) lc56] hw11 ge62 rfl rfl rfl rfl fun v64 hb66 u67 hw12=>(mv 1 rfl (ne_ (sr (lo aggMat hb66 [.int .i64 ((n:Nat):Int),.int .i64 ((n:Nat):Int),.slice LA56 (n*n) lc56] rfl rfl rfl ?_))))))))
 have Ld69:ln (dt n (tq X))≤134217728:=ln_dtB hn (fun i j hi hj=>hz56.ln (((lz56.ext e60).updY hb61 u67).zf0) hi hj)
 refine cl (vs:= [.agg #[.int .i64 ((n:Nat):Int),.int .i64 ((n:Nat):Int),.slice LA56 (n*n) lc56]]) hw12 (g_brs_Det (X:=tq X) hw12.size (((lz56.ext e60).updY hb61 u67).zf0) rfl hn hz56) rfl (by kernel_rfl) fun xr72 v70 r72 e71 hw13=>?_
 obtain⟨_,_,rfl,⟨s74,A74,n74,c74,rfl,z74⟩,rfl⟩:=r72
 refine mv 1 rfl (pu (v:= .agg #[.bool s74,.slice A74 n74 c74]) rfl (by kernel_rfl) (pu (v:= .int .i64 0) rfl (by kernel_rfl) (wl_alloc rfl (z:= .agg #[F0,S0]) (vs:= [F0,S0]) (fun _=>by kernel_rfl) rfl (by decide) fun g75 v76 nb=>?_)))
 have hb78:=nb.bk
 have ge79:w.heap.size≤g75:=by rw [←nb.at_];exact hw13.size
 have q80:g58<g75:=by rw [←nb.at_];exact (hb66.ext e71).lt
 have ne81:∀p:Addr,LA20=some p→p.block≠g75:=fun p hp=>by have:=((((((lz20.ext (e24.trans e30)).updT hb31 u38 ne34).ext (e41.trans (e46.trans (e52.trans e60)))).updY hb61 u67).ext e71)).block p hp;have:=nb.at_;omega
 have ne82:∀p:Addr,LA49=some p→p.block≠g75:=fun p hp=>by have:=((((lz49.ext (e52.trans e60)).updY hb61 u67).ext e71)).block p hp;have:=nb.at_;omega
 have ne83:∀p:Addr,LA56=some p→p.block≠g75:=fun p hp=>by have:=((((lz56.ext e60).updY hb61 u67).ext e71)).block p hp;have:=nb.at_;omega
 have e77:=nb.ext
 clear nb
 have hw14:=hw13.trans e77
 refine so aggInt hb78 [.bool s74,.slice A74 n74 c74] hw14 ge79 rfl rfl rfl rfl fun v84 hb86 u87 hw15=>(mv 1 rfl (ne_ (cw_seq (sr (mv 1 rfl (wl_cmp rfl rfl rfl false (by decide) (by decide) (mv 2 rfl (wl_cmp rfl rfl rfl false (by decide) (by decide) (pu (v:= .bool false) rfl (by kernel_rfl) (mv 2 rfl (wl_cmp rfl rfl rfl false (by decide) (by decide) (pu (v:= .bool false) rfl (by kernel_rfl) (mv 1 rfl ?_)))))))))))))
 refine lo aggInt ((((hb37.ext (e41.trans (e46.trans (e52.trans e60)))).updN u67 (by omega)).ext (e71.trans e77)).updN u87 (by omega)) [.bool s27,.slice A27 n27 c27] rfl rfl rfl (lo aggInt hb86 [.bool s74,.slice A74 n74 c74] rfl rfl rfl (cl (vs:= [.agg #[.bool s27,.slice A27 n27 c27],.agg #[.bool s74,.slice A74 n74 c74]]) hw15 (g_top_sameInt (((((((z27.ext e30).updT hb31 u38).ext (e41.trans (e46.trans (e52.trans e60)))).updT hb61 u67).ext (e71.trans e77)).updT hb78 u87)) ((((z74.ext e77).updT hb78 u87)).cast (dt_tq n X))) rfl (by kernel_rfl) fun xr91 v89 r91 e90 hw16=>?_))
 obtain rfl:=r91
 refine pu (v:= .bool false) rfl (by kernel_rfl) (pu (v:= .bool false) rfl (by kernel_rfl) (ne_ (cw_false rfl (cw_skip (eo_then (cw_seq ?_))))))
 by_cases hall:∀i,i<m→(ss.getD i Stp.z).fit n
 · 
  refine cw_region (pf g1 0 rfl (by kernel_rfl) (wl_load rfl rfl (load_cell cellInt (((((((hb4.ext (e8.trans (e13.trans (e17.trans (e24.trans e30))))).updN u38 (by omega)).ext (e41.trans (e46.trans (e52.trans e60)))).updN u67 (by omega)).ext (e71.trans e77)).updN u87 (by omega)).ext e90) rfl) (by decide) (mv 1 rfl (cl (vs:= [.int .i64 ((n:Nat):Int),.slice As m caps]) hw16 (g_stp_Sign_ok hn (hS.ext hw16) hM hm hall) rfl (by kernel_rfl) fun xr94 v92 r94 e93 hw17=>?_))))
  obtain⟨_,_,rfl,rfl,rfl⟩:=r94
  refine mv 1 rfl (pu (v:= .int .i64 (sgl ss)) rfl (by kernel_rfl) (pu (v:= .int .i64 0) rfl (by kernel_rfl) (mv 2 rfl (ne_ (cw_seq (sr (mv 1 rfl (wl_cmp rfl rfl rfl true (by decide) (by decide) (ne_ (cw_true rfl (sr (lo aggMat (((((((hb4.ext (e8.trans (e13.trans (e17.trans (e24.trans e30))))).updN u38 (by omega)).ext (e41.trans (e46.trans (e52.trans e60)))).updN u67 (by omega)).ext (e71.trans e77)).updN u87 (by omega)).ext (e90.trans e93)) [.int .i64 ((n:Nat):Int),.int .i64 ((n:Nat):Int),.slice Aa na capa] rfl rfl rfl ?_))))))))))))
  obtain⟨lb96,hlb96,hlelb96,hgl96,hq96_0,hq96_1,hq96_2,hq96_3,hq96_4⟩:∃lb,lb≤v92.heap.size∧v92.heap.size≤lb∧w.heap.size≤lb∧g1<lb∧g6<lb∧g28<lb∧g58<lb∧g75<lb:=⟨v92.heap.size,Nat.le_refl _,Nat.le_refl _,hw17.size,(((((((hb4.ext (e8.trans (e13.trans (e17.trans (e24.trans e30))))).updN u38 (by omega)).ext (e41.trans (e46.trans (e52.trans e60)))).updN u67 (by omega)).ext (e71.trans e77)).updN u87 (by omega)).ext (e90.trans e93)).lt,(((((((hb9.ext (e13.trans (e17.trans (e24.trans e30)))).updN u38 (by omega)).ext (e41.trans (e46.trans (e52.trans e60)))).updN u67 (by omega)).ext (e71.trans e77)).updN u87 (by omega)).ext (e90.trans e93)).lt,(((((hb37.ext (e41.trans (e46.trans (e52.trans e60)))).updN u67 (by omega)).ext (e71.trans e77)).updN u87 (by omega)).ext (e90.trans e93)).lt,(((hb66.ext (e71.trans e77)).updN u87 (by omega)).ext (e90.trans e93)).lt,(hb86.ext (e90.trans e93)).lt⟩
  have hql97:∀p:Addr,LA20=some p→p.block<lb96:=fun p hp=>Nat.lt_of_lt_of_le (((((((((lz20.ext (e24.trans e30)).updT hb31 u38 ne34).ext (e41.trans (e46.trans (e52.trans e60)))).updY hb61 u67).ext (e71.trans e77)).updT hb78 u87 ne81).ext (e90.trans e93))).block p hp).2 hlelb96
  have hql98:∀p:Addr,LA49=some p→p.block<lb96:=fun p hp=>Nat.lt_of_lt_of_le (((((((lz49.ext (e52.trans e60)).updY hb61 u67).ext (e71.trans e77)).updT hb78 u87 ne82).ext (e90.trans e93))).block p hp).2 hlelb96
  have hql99:∀p:Addr,LA56=some p→p.block<lb96:=fun p hp=>Nat.lt_of_lt_of_le (((((((lz56.ext e60).updY hb61 u67).ext (e71.trans e77)).updT hb78 u87 ne83).ext (e90.trans e93))).block p hp).2 hlelb96
  refine cl (vs:= [.agg #[.int .i64 ((n:Nat):Int),.int .i64 ((n:Nat):Int),.slice Aa na capa]]) hw17 (g_top_copyMat (w0:=w) hw17.size hlb96 hw17 ((show ZF w _ _ _ _ _ from⟨msa,hla,hma⟩).ext hw17) (by omega)) rfl (by kernel_rfl) fun xr102 v100 r102 e101 hw18=>?_
  obtain⟨lv103,rfl,⟨LA104,lc104,rfl,lz104⟩⟩:=r102
  have blk105:=lz104.block
  refine mv 1 rfl (cl (vs:= [.agg #[.int .i64 ((n:Nat):Int),.int .i64 ((n:Nat):Int),.slice LA104 na lc104],.slice As m caps]) hw18 (g_stp_Rows (X:=X) (Ka:=Ka) hw18.size (Nat.le_trans hlb96 e101.size) ((lz104).zf hw18) hna hn hX (hS.ext hw18) hM hm hall hXa hKa) rfl (by kernel_rfl) fun xr108 v106 r108 e107 hw19=>?_)
  obtain⟨_,_,rfl,⟨lv110,rfl,⟨LA111,lc111,zs111,rfl,lz111,hz111⟩⟩,r109_1⟩:=r108
  have blk112:=lz111.block
  obtain rfl:=r109_1
  refine mv 1 rfl (pu (v:= .agg #[.int .i64 ((n:Nat):Int),.int .i64 ((n:Nat):Int),.slice LA111 (n*n) lc111]) rfl (by kernel_rfl) (pu (v:= .int .i64 0) rfl (by kernel_rfl) (alq [I0,I0,S0] hw19 (hb86.ext (e90.trans (e93.trans (e101.trans e107)))).lt (fun _=>by kernel_rfl) rfl fun g113 v114 hb116 ge117 q118 e115 hw20=>(so aggMat hb116 [.int .i64 ((n:Nat):Int),.int .i64 ((n:Nat):Int),.slice LA111 (n*n) lc111] hw20 ge117 rfl rfl rfl rfl fun v119 hb121 u122 hw21=>(mv 1 rfl (ne_ (sr (lo aggMat hb121 [.int .i64 ((n:Nat):Int),.int .i64 ((n:Nat):Int),.slice LA111 (n*n) lc111] rfl rfl rfl ?_))))))))
  have Ld124:ln (dt n (stps ss X))≤134217728:=ln_dtB hn (fun i j hi hj=>hz111.ln (((lz111.ext e115).updY hb116 u122).zf0) hi hj)
  refine cl (vs:= [.agg #[.int .i64 ((n:Nat):Int),.int .i64 ((n:Nat):Int),.slice LA111 (n*n) lc111]]) hw21 (g_brs_Det (X:=stps ss X) hw21.size (((lz111.ext e115).updY hb116 u122).zf0) rfl hn hz111) rfl (by kernel_rfl) fun xr127 v125 r127 e126 hw22=>?_
  obtain⟨_,_,rfl,⟨s129,A129,n129,c129,rfl,z129⟩,rfl⟩:=r127
  refine mv 1 rfl (pu (v:= .agg #[.bool s129,.slice A129 n129 c129]) rfl (by kernel_rfl) (pu (v:= .int .i64 0) rfl (by kernel_rfl) (wl_alloc rfl (z:= .agg #[F0,S0]) (vs:= [F0,S0]) (fun _=>by kernel_rfl) rfl (by decide) fun g130 v131 nb=>?_)))
  have hb133:=nb.bk
  have ge134:w.heap.size≤g130:=by rw [←nb.at_];exact hw22.size
  have q135:g113<g130:=by rw [←nb.at_];exact (hb121.ext e126).lt
  have ne136:∀p:Addr,LA20=some p→p.block≠g130:=fun p hp=>by have:=((((((((((lz20.ext (e24.trans e30)).updT hb31 u38 ne34).ext (e41.trans (e46.trans (e52.trans e60)))).updY hb61 u67).ext (e71.trans e77)).updT hb78 u87 ne81).ext (e90.trans (e93.trans (e101.trans (e107.trans e115))))).updY hb116 u122).ext e126)).block p hp;have:=nb.at_;omega
  have ne137:∀p:Addr,LA49=some p→p.block≠g130:=fun p hp=>by have:=((((((((lz49.ext (e52.trans e60)).updY hb61 u67).ext (e71.trans e77)).updT hb78 u87 ne82).ext (e90.trans (e93.trans (e101.trans (e107.trans e115))))).updY hb116 u122).ext e126)).block p hp;have:=nb.at_;omega
  have ne138:∀p:Addr,LA56=some p→p.block≠g130:=fun p hp=>by have:=((((((((lz56.ext e60).updY hb61 u67).ext (e71.trans e77)).updT hb78 u87 ne83).ext (e90.trans (e93.trans (e101.trans (e107.trans e115))))).updY hb116 u122).ext e126)).block p hp;have:=nb.at_;omega
  have ne139:∀p:Addr,LA104=some p→p.block≠g130:=fun p hp=>by have:=((((lz104.ext (e107.trans e115)).updY hb116 u122).ext e126)).block p hp;have:=nb.at_;omega
  have ne140:∀p:Addr,LA111=some p→p.block≠g130:=fun p hp=>by have:=((((lz111.ext e115).updY hb116 u122).ext e126)).block p hp;have:=nb.at_;omega
  have e132:=nb.ext
  clear nb
  have hw23:=hw22.trans e132
  refine so aggInt hb133 [.bool s129,.slice A129 n129 c129] hw23 ge134 rfl rfl rfl rfl fun v141 hb143 u144 hw24=>(mv 1 rfl (ne_ (cw_seq ?_)))
  have L147:ln ((dt n X)*(sgl ss))≤134217729:=Nat.le_trans (ln_mul Ld22 (ln_w1 (by have:=sgl_or ss;omega) (by have:=sgl_or ss;omega))) (by decide)
  refine cw_draw mix 15 [] [Is (.int .i64 0),Is (.bool false),Is (.bool false),Is (.int .i64 0),Is (.bool false),Is (.bool false),Is (.bool false),Is (.agg #[.bool s129,.slice A129 n129 c129]),Is (.agg #[.bool s27,.slice A27 n27 c27]),Is (.int .i64 (sgl ss)),ZR w.heap.size (sgl ss),ZR w.heap.size ((dt n X)*(sgl ss)),Is (.bool true),Is (.bool false),Is (.bool false)] [[],[0],[1],[2],[2,3],[2,4],[5],[6],[6],[6],[6,9],[6,8,10],[6,7,11],[6,12],[6,13]] [[],[0],[0,1],[0,1,2],[0,1,2,3],[0,1,2,3,4],[0,1,2,3,4,5],[0,1,2,3,4,5,6],[0,1,2,3,4,5,6],[0,1,2,3,4,5,6],[0,1,2,3,4,5,6,9],[0,1,2,3,4,5,6,8,9,10],[0,1,2,3,4,5,6,7,8,9,10,11],[0,1,2,3,4,5,6,7,8,9,10,11,12],[0,1,2,3,4,5,6,7,8,9,10,11,12,13]] rfl
   (obs_cons rfl rfl (hob rfl rfl ?_) (obs_cons rfl rfl (hob rfl rfl ?_) (obs_cons rfl rfl (hob rfl rfl ?_) (obs_cons rfl rfl (hob rfl rfl ?_) (obs_cons rfl rfl (hob rfl rfl ?_) (obs_cons rfl rfl (hob rfl rfl ?_) (obs_cons rfl rfl (hob rfl rfl ?_) (obs_cons rfl rfl (hob rfl rfl ?_) (obs_cons rfl rfl (hob rfl rfl ?_) (obs_cons rfl rfl (hob rfl rfl ?_) (obs_cons rfl rfl (hob rfl rfl ?_) (obs_cons rfl rfl (hob rfl rfl ?_) (obs_cons rfl rfl (hob rfl rfl ?_) (obs_cons rfl rfl (hob rfl rfl ?_) (obs_cons rfl rfl (hob rfl rfl ?_) obs_nil))))))))))))))) ?_
  · 
   exact fun _ _=>deps_nil (mv 1 rfl (pi_done rfl (Ext.refl _) rfl))
  · 
   exact fun _ _=>dk rfl rfl (deps_nil (wl_cmp rfl rfl rfl false (by decide) (by decide) (pi_done rfl (Ext.refl _) rfl)))
  · 
   exact fun _ _=>dk rfl rfl (deps_nil (mv 1 rfl (pi_done rfl (Ext.refl _) rfl)))
  · 
   exact fun _ _=>dk rfl rfl (deps_nil (mv 1 rfl (pi_done rfl (Ext.refl _) rfl)))
  · 
   exact fun _ _=>dk rfl rfl (dk rfl rfl (deps_nil (wl_cmp rfl rfl rfl false (by decide) (by decide) (pi_done rfl (Ext.refl _) rfl))))
  · 
   exact fun _ _=>dk rfl rfl (dk rfl rfl (deps_nil (pu (v:= .bool false) rfl (by kernel_rfl) (pi_done rfl (Ext.refl _) rfl))))
  · 
   exact fun _ _=>dk rfl rfl (deps_nil (mv 1 rfl (pi_done rfl (Ext.refl _) rfl)))
  · 
   exact fun _ e204=>dk rfl rfl (deps_nil (lo aggInt (hb143.ext e204) [.bool s129,.slice A129 n129 c129] rfl rfl rfl (pi_done rfl (Ext.refl _) rfl)))
  · 
   exact fun _ e211=>dk rfl rfl (deps_nil (lo aggInt (((((((((hb37.ext (e41.trans (e46.trans (e52.trans e60)))).updN u67 (by omega)).ext (e71.trans e77)).updN u87 (by omega)).ext (e90.trans (e93.trans (e101.trans (e107.trans e115))))).updN u122 (by omega)).ext (e126.trans e132)).updN u144 (by omega)).ext e211) [.bool s27,.slice A27 n27 c27] rfl rfl rfl (pi_done rfl (Ext.refl _) rfl)))
  · 
   exact fun _ _=>dk rfl rfl (deps_nil (mv 1 rfl (pi_done rfl (Ext.refl _) rfl)))
  · 
   intro v224 e225
   have hw25:=hw24.trans e225
   refine dk rfl rfl (dk rfl rfl (deps_nil (cl (vs:= [.int .i64 (sgl ss)]) hw25 (g_zint_Of hw25.size (by have:=sgl_or ss;omega) (by have:=sgl_or ss;omega)) rfl (by kernel_rfl) fun xr238 v236 r238 e237 hw26=>?_)))
   obtain⟨s239,A239,n239,c239,rfl,z239⟩:=r238
   exact pi_done rfl e237 ⟨_,_,_,_,rfl,z239⟩
  · 
   intro v240 e241
   have hw25:=hw24.trans e241
   refine dk rfl rfl (dk rfl rfl (deps_cons rfl rfl fun x252 y253 h254 e255 f256=>?_))
   obtain⟨s257,A257,n257,c257,rfl,z257⟩:=h254
   have z257:=z257.ext f256
   refine deps_nil ?_
   have L258:ln ((dt n X)*(sgl ss))≤134217729:=Nat.le_trans (ln_mul Ld22 (ln_w1 (by have:=sgl_or ss;omega) (by have:=sgl_or ss;omega))) (by decide)
   refine cl (vs:= [.agg #[.bool s27,.slice A27 n27 c27],.agg #[.bool s257,.slice A257 n257 c257]]) hw25 (g_zint_Mul hw25.size (((((((((((z27.ext e30).updT hb31 u38).ext (e41.trans (e46.trans (e52.trans e60)))).updT hb61 u67).ext (e71.trans e77)).updT hb78 u87).ext (e90.trans (e93.trans (e101.trans (e107.trans e115))))).updT hb116 u122).ext (e126.trans e132)).updT hb133 u144).ext e241).zi (z27.le (lx_ Ld22 rfl)) z257.zi (z257.le (Nat.le_trans (ln_w1 (by have:=sgl_or ss;omega) (by have:=sgl_or ss;omega)) (by decide)))) rfl (by kernel_rfl) fun xr261 v259 r261 e260 hw26=>?_
   obtain⟨s262,A262,n262,c262,rfl,z262⟩:=r261
   exact pi_done rfl e260 ⟨_,_,_,_,rfl,z262⟩
  · 
   intro v263 e264
   have hw25:=hw24.trans e264
   refine dk rfl rfl (dk rfl rfl (deps_cons rfl rfl fun x275 y276 h277 e278 f279=>?_))
   obtain⟨s280,A280,n280,c280,rfl,z280⟩:=h277
   have z280:=z280.ext f279
   refine deps_nil (cl (vs:= [.agg #[.bool s129,.slice A129 n129 c129],.agg #[.bool s280,.slice A280 n280 c280]]) hw25 (g_top_sameInt (((((z129.ext e132).updT hb133 u144).ext e264)).cast ((dt_stps ss X (hallm hS hall)).trans (Int.mul_comm _ _))) (z280)) rfl (by kernel_rfl) fun xr283 v281 r283 e282 hw26=>?_)
   obtain rfl:=r283
   exact pi_done rfl e282 rfl
  · 
   exact fun _ _=>dk rfl rfl (dk rfl rfl (deps_nil (pu (v:= .bool false) rfl (by kernel_rfl) (pi_done rfl (Ext.refl _) rfl))))
  · 
   exact fun _ _=>dk rfl rfl (dk rfl rfl (deps_nil (pu (v:= .bool false) rfl (by kernel_rfl) (pi_done rfl (Ext.refl _) rfl))))
  · 
   intro v308 e309
   have hw25:=hw24.trans e309
   refine dk rfl rfl (dk rfl rfl (dk rfl rfl (dk rfl rfl (dk rfl rfl (dk rfl rfl (dk rfl rfl (dk rfl rfl (dk rfl rfl (dk rfl rfl (deps_cons rfl rfl fun x360 y361 h362 e363 f364=>?_))))))))))
   obtain⟨s365,A365,n365,c365,rfl,z365⟩:=h362
   have z365:=z365.ext f364
   refine deps_cons rfl rfl fun x366 y367 h368 e369 f370=>?_
   obtain⟨s371,A371,n371,c371,rfl,z371⟩:=h368
   have z371:=z371.ext f370
   refine dk rfl rfl (dk rfl rfl (dk rfl rfl (deps_nil (wl_nil (eo_np (eo_then (cw_false rfl (cw_skip (eo_then (cw_seq ?_))))))))))
   obtain⟨lb387,hlb387,hlelb387,hgl387,hq387_0,hq387_1,hq387_2,hq387_3,hq387_4,hq387_5,hq387_6⟩:∃lb,lb≤v308.heap.size∧v308.heap.size≤lb∧w.heap.size≤lb∧g1<lb∧g6<lb∧g28<lb∧g58<lb∧g75<lb∧g113<lb∧g130<lb:=⟨v308.heap.size,Nat.le_refl _,Nat.le_refl _,hw25.size,(((((((((((hb4.ext (e8.trans (e13.trans (e17.trans (e24.trans e30))))).updN u38 (by omega)).ext (e41.trans (e46.trans (e52.trans e60)))).updN u67 (by omega)).ext (e71.trans e77)).updN u87 (by omega)).ext (e90.trans (e93.trans (e101.trans (e107.trans e115))))).updN u122 (by omega)).ext (e126.trans e132)).updN u144 (by omega)).ext e309).lt,(((((((((((hb9.ext (e13.trans (e17.trans (e24.trans e30)))).updN u38 (by omega)).ext (e41.trans (e46.trans (e52.trans e60)))).updN u67 (by omega)).ext (e71.trans e77)).updN u87 (by omega)).ext (e90.trans (e93.trans (e101.trans (e107.trans e115))))).updN u122 (by omega)).ext (e126.trans e132)).updN u144 (by omega)).ext e309).lt,(((((((((hb37.ext (e41.trans (e46.trans (e52.trans e60)))).updN u67 (by omega)).ext (e71.trans e77)).updN u87 (by omega)).ext (e90.trans (e93.trans (e101.trans (e107.trans e115))))).updN u122 (by omega)).ext (e126.trans e132)).updN u144 (by omega)).ext e309).lt,(((((((hb66.ext (e71.trans e77)).updN u87 (by omega)).ext (e90.trans (e93.trans (e101.trans (e107.trans e115))))).updN u122 (by omega)).ext (e126.trans e132)).updN u144 (by omega)).ext e309).lt,(((((hb86.ext (e90.trans (e93.trans (e101.trans (e107.trans e115))))).updN u122 (by omega)).ext (e126.trans e132)).updN u144 (by omega)).ext e309).lt,(((hb121.ext (e126.trans e132)).updN u144 (by omega)).ext e309).lt,(hb143.ext e309).lt⟩
   have hql388:∀p:Addr,LA20=some p→p.block<lb387:=fun p hp=>Nat.lt_of_lt_of_le (((((((((((((lz20.ext (e24.trans e30)).updT hb31 u38 ne34).ext (e41.trans (e46.trans (e52.trans e60)))).updY hb61 u67).ext (e71.trans e77)).updT hb78 u87 ne81).ext (e90.trans (e93.trans (e101.trans (e107.trans e115))))).updY hb116 u122).ext (e126.trans e132)).updT hb133 u144 ne136).ext e309)).block p hp).2 hlelb387
   have hql389:∀p:Addr,LA49=some p→p.block<lb387:=fun p hp=>Nat.lt_of_lt_of_le (((((((((((lz49.ext (e52.trans e60)).updY hb61 u67).ext (e71.trans e77)).updT hb78 u87 ne82).ext (e90.trans (e93.trans (e101.trans (e107.trans e115))))).updY hb116 u122).ext (e126.trans e132)).updT hb133 u144 ne137).ext e309)).block p hp).2 hlelb387
   have hql390:∀p:Addr,LA56=some p→p.block<lb387:=fun p hp=>Nat.lt_of_lt_of_le (((((((((((lz56.ext e60).updY hb61 u67).ext (e71.trans e77)).updT hb78 u87 ne83).ext (e90.trans (e93.trans (e101.trans (e107.trans e115))))).updY hb116 u122).ext (e126.trans e132)).updT hb133 u144 ne138).ext e309)).block p hp).2 hlelb387
   have hql391:∀p:Addr,LA104=some p→p.block<lb387:=fun p hp=>Nat.lt_of_lt_of_le (((((((lz104.ext (e107.trans e115)).updY hb116 u122).ext (e126.trans e132)).updT hb133 u144 ne139).ext e309)).block p hp).2 hlelb387
   have hql392:∀p:Addr,LA111=some p→p.block<lb387:=fun p hp=>Nat.lt_of_lt_of_le (((((((lz111.ext e115).updY hb116 u122).ext (e126.trans e132)).updT hb133 u144 ne140).ext e309)).block p hp).2 hlelb387
   refine cw_draw mix 9 [6,7] [Is (.agg #[.int .i64 ((n:Nat):Int),.int .i64 ((n:Nat):Int),.slice Aa na capa]),MQ ((n:Nat):Int) ((n:Nat):Int) (LE (some w) 1048576 w.heap.size lb387 na xs),Is (.agg #[.int .i64 ((n:Nat):Int),.int .i64 ((n:Nat):Int),.slice Ay ny capy]),MQ ((n:Nat):Int) ((n:Nat):Int) (LE (some w) 1048576 w.heap.size lb387 ny ys),T2 (MQ ((n:Nat):Int) ((n:Nat):Int) (LQ none 1048576 w.heap.size lb387 (n*n) (En n n (mm n X Y)))) (Is (.int .i64 0)),T2 (MQ ((n:Nat):Int) ((n:Nat):Int) (LQ none 1048576 w.heap.size lb387 (n*n) (En n n (mm n X Y)))) (Is (.int .i64 0)),MQ ((n:Nat):Int) ((n:Nat):Int) (LQ none 1048576 w.heap.size lb387 (n*n) (En n n (mm n X Y))),Is (.int .i64 0),PR v308.heap.size 24 [I0,I0,S0]] [[],[0],[],[2],[1,3],[4],[5],[5],[]] [[],[0],[],[0,1,2],[0,1,2,3],[0,1,2,3,4],[0,1,2,3,4,5],[0,1,2,3,4,5],[],[0,1,2,3,4,5,6,8],[0,1,2,3,4,5,6,7,8,9]] rfl
    (obs_cons rfl rfl (hob rfl rfl ?_) (obs_cons rfl rfl (hob rfl rfl ?_) (obs_cons rfl rfl (hob rfl rfl ?_) (obs_cons rfl rfl (hob rfl rfl ?_) (obs_cons rfl rfl (hob rfl rfl ?_) (obs_cons rfl rfl (hob rfl rfl ?_) (obs_float rfl rfl (fob rfl ?_) (obs_float rfl rfl (fob rfl ?_) (obs_cons rfl rfl (hob rfl rfl ?_) obs_nil))))))))) ?_
   · 
    exact fun _ e411=>deps_nil (lo aggMat (((((((((((hb4.ext (e8.trans (e13.trans (e17.trans (e24.trans e30))))).updN u38 (by omega)).ext (e41.trans (e46.trans (e52.trans e60)))).updN u67 (by omega)).ext (e71.trans e77)).updN u87 (by omega)).ext (e90.trans (e93.trans (e101.trans (e107.trans e115))))).updN u122 (by omega)).ext (e126.trans e132)).updN u144 (by omega)).ext (e309.trans e411)) [.int .i64 ((n:Nat):Int),.int .i64 ((n:Nat):Int),.slice Aa na capa] rfl rfl rfl (pi_done rfl (Ext.refl _) rfl))
   · 
    intro v412 e413
    have hw26:=hw25.trans e413
    refine dk rfl rfl (deps_nil (cl (vs:= [.agg #[.int .i64 ((n:Nat):Int),.int .i64 ((n:Nat):Int),.slice Aa na capa]]) hw26 (g_top_copyMat (w0:=w) hw26.size (Nat.le_trans hlb387 e413.size) hw26 ((show ZF w _ _ _ _ _ from⟨msa,hla,hma⟩).ext hw26) (by omega)) rfl (by kernel_rfl) fun xr421 v419 r421 e420 hw27=>?_))
    obtain⟨lv422,rfl,⟨LA423,lc423,rfl,lz423⟩⟩:=r421
    have blk424:=lz423.block
    exact pi_done rfl e420 ⟨_,rfl,⟨_,_,rfl,lz423⟩⟩
   · 
    exact fun _ e426=>deps_nil (lo aggMat (((((((((((hb9.ext (e13.trans (e17.trans (e24.trans e30)))).updN u38 (by omega)).ext (e41.trans (e46.trans (e52.trans e60)))).updN u67 (by omega)).ext (e71.trans e77)).updN u87 (by omega)).ext (e90.trans (e93.trans (e101.trans (e107.trans e115))))).updN u122 (by omega)).ext (e126.trans e132)).updN u144 (by omega)).ext (e309.trans e426)) [.int .i64 ((n:Nat):Int),.int .i64 ((n:Nat):Int),.slice Ay ny capy] rfl rfl rfl (pi_done rfl (Ext.refl _) rfl))
   · 
    intro v427 e428
    have hw26:=hw25.trans e428
    refine dk rfl rfl (deps_nil (cl (vs:= [.agg #[.int .i64 ((n:Nat):Int),.int .i64 ((n:Nat):Int),.slice Ay ny capy]]) hw26 (g_top_copyMat (w0:=w) hw26.size (Nat.le_trans hlb387 e428.size) hw26 ((show ZF w _ _ _ _ _ from⟨msy,hly,hmy⟩).ext hw26) (by omega)) rfl (by kernel_rfl) fun xr436 v434 r436 e435 hw27=>?_))
    obtain⟨lv437,rfl,⟨LA438,lc438,rfl,lz438⟩⟩:=r436
    have blk439:=lz438.block
    exact pi_done rfl e435 ⟨_,rfl,⟨_,_,rfl,lz438⟩⟩
   · 
    intro v440 e441
    have hw26:=hw25.trans e441
    refine deps_cons rfl rfl fun x442 y443 h444 e445 f446=>?_
    obtain⟨lv447,rfl,⟨LA448,lc448,rfl,lz448⟩⟩:=h444
    have blk449:=lz448.block
    have lz448:=lz448.ext f446
    refine deps_cons rfl rfl fun x450 y451 h452 e453 f454=>?_
    obtain⟨lv455,rfl,⟨LA456,lc456,rfl,lz456⟩⟩:=h452
    have blk457:=lz456.block
    have lz456:=lz456.ext f454
    refine deps_nil (cl (vs:= [.agg #[.int .i64 ((n:Nat):Int),.int .i64 ((n:Nat):Int),.slice LA448 na lc448],.agg #[.int .i64 ((n:Nat):Int),.int .i64 ((n:Nat):Int),.slice LA456 ny lc456]]) hw26 (g_mat_Mul (r:=n) (m:=n) (c:=n) (X:=X) (Y:=Y) (K:=1048576) hw26.size (Nat.le_trans hlb387 e441.size) (((lz448).zf hw26).mono (by decide)) (((lz456).zf hw26).mono (by decide)) hna hny hn hn hn hX hY hKm) rfl (by kernel_rfl) fun xr460 v458 r460 e459 hw27=>?_)
    obtain⟨_,_,rfl,⟨lv462,rfl,⟨LA463,lc463,zs463,rfl,lz463,hz463⟩⟩,r461_1⟩:=r460
    have blk464:=lz463.block
    obtain rfl:=r461_1
    exact pi_done rfl e459 ⟨_,_,rfl,⟨_,rfl,⟨_,_,_,rfl,lz463,hz463⟩⟩,rfl⟩
   · 
    intro v465 e466
    refine deps_cons rfl rfl fun x467 y468 h469 e470 f471=>?_
    obtain⟨_,_,rfl,⟨lv473,rfl,⟨LA474,lc474,zs474,rfl,lz474,hz474⟩⟩,r472_1⟩:=h469
    have blk475:=lz474.block
    obtain rfl:=r472_1
    have lz474:=lz474.ext f471
    refine deps_nil (mv 1 rfl ?_)
    exact pi_done rfl (Ext.refl _) ⟨_,_,rfl,⟨_,rfl,⟨_,_,_,rfl,lz474,hz474⟩⟩,rfl⟩
   · 
    intro v476 e477
    refine deps_cons rfl rfl fun x478 y479 h480 e481 f482=>?_
    obtain⟨_,_,rfl,⟨lv484,rfl,⟨LA485,lc485,zs485,rfl,lz485,hz485⟩⟩,r483_1⟩:=h480
    have blk486:=lz485.block
    obtain rfl:=r483_1
    have lz485:=lz485.ext f482
    refine deps_nil ?_
    exact⟨.agg #[.int .i64 ((n:Nat):Int),.int .i64 ((n:Nat):Int),.slice LA485 (n*n) lc485],rfl,rfl,fun _=>by kernel_rfl,⟨_,rfl,⟨_,_,_,rfl,lz485,hz485⟩⟩⟩
   · 
    intro v487 e488
    refine deps_cons rfl rfl fun x489 y490 h491 e492 f493=>?_
    obtain⟨_,_,rfl,⟨lv495,rfl,⟨LA496,lc496,zs496,rfl,lz496,hz496⟩⟩,r494_1⟩:=h491
    have blk497:=lz496.block
    obtain rfl:=r494_1
    have lz496:=lz496.ext f493
    refine deps_nil ?_
    exact⟨.int .i64 0,rfl,rfl,fun _=>by kernel_rfl,rfl⟩
   · 
    intro v498 e499
    refine deps_nil (wl_alloc rfl (z:= .agg #[I0,I0,S0]) (vs:= [I0,I0,S0]) (fun _=>by kernel_rfl) rfl (by decide) fun g500 v501 nb=>?_)
    exact pi_done rfl nb.ext ⟨_,rfl,by rw [←nb.at_];exact e499.size,nb.bk⟩
   · 
    intro v502 e503
    have hw26:=hw25.trans e503
    refine dk rfl rfl (deps_cons rfl rfl fun x509 y510 h511 e512 f513=>?_)
    obtain⟨lv514,rfl,⟨LA515,lc515,rfl,lz515⟩⟩:=h511
    have blk516:=lz515.block
    have lz515:=lz515.ext f513
    refine dk rfl rfl (deps_cons rfl rfl fun x522 y523 h524 e525 f526=>?_)
    obtain⟨lv527,rfl,⟨LA528,lc528,rfl,lz528⟩⟩:=h524
    have blk529:=lz528.block
    have lz528:=lz528.ext f526
    refine deps_cons rfl rfl fun x530 y531 h532 e533 f534=>?_
    obtain⟨_,_,rfl,⟨lv536,rfl,⟨LA537,lc537,zs537,rfl,lz537,hz537⟩⟩,r535_1⟩:=h532
    have blk538:=lz537.block
    obtain rfl:=r535_1
    have lz537:=lz537.ext f534
    refine deps_cons rfl rfl fun x539 y540 h541 e542 f543=>?_
    obtain⟨_,_,rfl,⟨lv545,rfl,⟨LA546,lc546,zs546,rfl,lz546,hz546⟩⟩,r544_1⟩:=h541
    have blk547:=lz546.block
    obtain rfl:=r544_1
    have lz546:=lz546.ext f543
    refine deps_cons rfl rfl fun x548 y549 h550 e551 f552=>?_
    obtain⟨lv553,rfl,⟨LA554,lc554,zs554,rfl,lz554,hz554⟩⟩:=h550
    have blk555:=lz554.block
    have lz554:=lz554.ext f552
    refine dk rfl rfl (deps_cons rfl rfl fun x561 y562 h563 e564 f565=>?_)
    obtain⟨g566,rfl,ge568,hb567⟩:=h563
    have hb567:=hb567.ext f565
    have q569:g130<g566:=Nat.lt_of_lt_of_le (hb143.ext e309).lt ge568
    have ge568:w.heap.size≤g566:=Nat.le_trans hw25.size ge568
    refine deps_nil (so aggMat hb567 [.int .i64 ((n:Nat):Int),.int .i64 ((n:Nat):Int),.slice LA554 (n*n) lc554] hw26 ge568 rfl rfl rfl rfl fun v570 hb572 u573 hw27=>(mv 1 rfl (wl_nil (eo_np (eo_then (cw_seq (sr (lo aggMat ((((((((((((hb9.ext (e13.trans (e17.trans (e24.trans e30)))).updN u38 (by omega)).ext (e41.trans (e46.trans (e52.trans e60)))).updN u67 (by omega)).ext (e71.trans e77)).updN u87 (by omega)).ext (e90.trans (e93.trans (e101.trans (e107.trans e115))))).updN u122 (by omega)).ext (e126.trans e132)).updN u144 (by omega)).ext (e309.trans e503)).updN u573 (by omega)) [.int .i64 ((n:Nat):Int),.int .i64 ((n:Nat):Int),.slice Ay ny capy] rfl rfl rfl (cl (vs:= [.agg #[.int .i64 ((n:Nat):Int),.int .i64 ((n:Nat):Int),.slice Ay ny capy]]) hw27 (g_top_sound_t hsy) rfl (by kernel_rfl) fun xr577 v575 r577 e576 hw28=>?_)))))))))
    obtain rfl:=r577
    refine pu (v:= .bool false) rfl (by kernel_rfl) (mv 1 rfl (pf g6 0 rfl (by kernel_rfl) (wl_load rfl rfl (load_cell cellInt (((((((((((((hb9.ext (e13.trans (e17.trans (e24.trans e30)))).updN u38 (by omega)).ext (e41.trans (e46.trans (e52.trans e60)))).updN u67 (by omega)).ext (e71.trans e77)).updN u87 (by omega)).ext (e90.trans (e93.trans (e101.trans (e107.trans e115))))).updN u122 (by omega)).ext (e126.trans e132)).updN u144 (by omega)).ext (e309.trans e503)).updN u573 (by omega)).ext e576) rfl) (by decide) (pf g1 0 rfl (by kernel_rfl) (wl_load rfl rfl (load_cell cellInt (((((((((((((hb4.ext (e8.trans (e13.trans (e17.trans (e24.trans e30))))).updN u38 (by omega)).ext (e41.trans (e46.trans (e52.trans e60)))).updN u67 (by omega)).ext (e71.trans e77)).updN u87 (by omega)).ext (e90.trans (e93.trans (e101.trans (e107.trans e115))))).updN u122 (by omega)).ext (e126.trans e132)).updN u144 (by omega)).ext (e309.trans e503)).updN u573 (by omega)).ext e576) rfl) (by decide) (wl_cmp rfl rfl rfl false (cb_ne_f (a:=n) (b:=n) rfl rfl (by omega)) (by decide) (pu (v:= .bool false) rfl (by kernel_rfl) (mv 1 rfl (pf g6 1 rfl (by kernel_rfl) (wl_load rfl rfl (load_cell cellInt (((((((((((((hb9.ext (e13.trans (e17.trans (e24.trans e30)))).updN u38 (by omega)).ext (e41.trans (e46.trans (e52.trans e60)))).updN u67 (by omega)).ext (e71.trans e77)).updN u87 (by omega)).ext (e90.trans (e93.trans (e101.trans (e107.trans e115))))).updN u122 (by omega)).ext (e126.trans e132)).updN u144 (by omega)).ext (e309.trans e503)).updN u573 (by omega)).ext e576) rfl) (by decide) (pf g1 0 rfl (by kernel_rfl) (wl_load rfl rfl (load_cell cellInt (((((((((((((hb4.ext (e8.trans (e13.trans (e17.trans (e24.trans e30))))).updN u38 (by omega)).ext (e41.trans (e46.trans (e52.trans e60)))).updN u67 (by omega)).ext (e71.trans e77)).updN u87 (by omega)).ext (e90.trans (e93.trans (e101.trans (e107.trans e115))))).updN u122 (by omega)).ext (e126.trans e132)).updN u144 (by omega)).ext (e309.trans e503)).updN u573 (by omega)).ext e576) rfl) (by decide) (wl_cmp rfl rfl rfl false (cb_ne_f (a:=n) (b:=n) rfl rfl (by omega)) (by decide) ?_)))))))))))))
    refine pu (v:= .bool false) rfl (by kernel_rfl) (ne_ (cw_false rfl (cw_skip (eo_then (sr (lo aggMat (((((((((((((hb9.ext (e13.trans (e17.trans (e24.trans e30)))).updN u38 (by omega)).ext (e41.trans (e46.trans (e52.trans e60)))).updN u67 (by omega)).ext (e71.trans e77)).updN u87 (by omega)).ext (e90.trans (e93.trans (e101.trans (e107.trans e115))))).updN u122 (by omega)).ext (e126.trans e132)).updN u144 (by omega)).ext (e309.trans e503)).updN u573 (by omega)).ext e576) [.int .i64 ((n:Nat):Int),.int .i64 ((n:Nat):Int),.slice Ay ny capy] rfl rfl rfl ?_))))))
    obtain⟨lb578,hlb578,hlelb578,hgl578,hq578_0,hq578_1,hq578_2,hq578_3,hq578_4,hq578_5,hq578_6,hq578_7⟩:∃lb,lb≤v575.heap.size∧v575.heap.size≤lb∧w.heap.size≤lb∧g1<lb∧g6<lb∧g28<lb∧g58<lb∧g75<lb∧g113<lb∧g130<lb∧g566<lb:=⟨v575.heap.size,Nat.le_refl _,Nat.le_refl _,hw28.size,(((((((((((((hb4.ext (e8.trans (e13.trans (e17.trans (e24.trans e30))))).updN u38 (by omega)).ext (e41.trans (e46.trans (e52.trans e60)))).updN u67 (by omega)).ext (e71.trans e77)).updN u87 (by omega)).ext (e90.trans (e93.trans (e101.trans (e107.trans e115))))).updN u122 (by omega)).ext (e126.trans e132)).updN u144 (by omega)).ext (e309.trans e503)).updN u573 (by omega)).ext e576).lt,(((((((((((((hb9.ext (e13.trans (e17.trans (e24.trans e30)))).updN u38 (by omega)).ext (e41.trans (e46.trans (e52.trans e60)))).updN u67 (by omega)).ext (e71.trans e77)).updN u87 (by omega)).ext (e90.trans (e93.trans (e101.trans (e107.trans e115))))).updN u122 (by omega)).ext (e126.trans e132)).updN u144 (by omega)).ext (e309.trans e503)).updN u573 (by omega)).ext e576).lt,(((((((((((hb37.ext (e41.trans (e46.trans (e52.trans e60)))).updN u67 (by omega)).ext (e71.trans e77)).updN u87 (by omega)).ext (e90.trans (e93.trans (e101.trans (e107.trans e115))))).updN u122 (by omega)).ext (e126.trans e132)).updN u144 (by omega)).ext (e309.trans e503)).updN u573 (by omega)).ext e576).lt,(((((((((hb66.ext (e71.trans e77)).updN u87 (by omega)).ext (e90.trans (e93.trans (e101.trans (e107.trans e115))))).updN u122 (by omega)).ext (e126.trans e132)).updN u144 (by omega)).ext (e309.trans e503)).updN u573 (by omega)).ext e576).lt,(((((((hb86.ext (e90.trans (e93.trans (e101.trans (e107.trans e115))))).updN u122 (by omega)).ext (e126.trans e132)).updN u144 (by omega)).ext (e309.trans e503)).updN u573 (by omega)).ext e576).lt,(((((hb121.ext (e126.trans e132)).updN u144 (by omega)).ext (e309.trans e503)).updN u573 (by omega)).ext e576).lt,(((hb143.ext (e309.trans e503)).updN u573 (by omega)).ext e576).lt,(hb572.ext e576).lt⟩
    have hql579:∀p:Addr,LA20=some p→p.block<lb578:=fun p hp=>Nat.lt_of_lt_of_le (((((((((((((((lz20.ext (e24.trans e30)).updT hb31 u38 ne34).ext (e41.trans (e46.trans (e52.trans e60)))).updY hb61 u67).ext (e71.trans e77)).updT hb78 u87 ne81).ext (e90.trans (e93.trans (e101.trans (e107.trans e115))))).updY hb116 u122).ext (e126.trans e132)).updT hb133 u144 ne136).ext (e309.trans e503)).updY hb567 u573).ext e576)).block p hp).2 hlelb578
    have hql580:∀p:Addr,LA49=some p→p.block<lb578:=fun p hp=>Nat.lt_of_lt_of_le (((((((((((((lz49.ext (e52.trans e60)).updY hb61 u67).ext (e71.trans e77)).updT hb78 u87 ne82).ext (e90.trans (e93.trans (e101.trans (e107.trans e115))))).updY hb116 u122).ext (e126.trans e132)).updT hb133 u144 ne137).ext (e309.trans e503)).updY hb567 u573).ext e576)).block p hp).2 hlelb578
    have hql581:∀p:Addr,LA56=some p→p.block<lb578:=fun p hp=>Nat.lt_of_lt_of_le (((((((((((((lz56.ext e60).updY hb61 u67).ext (e71.trans e77)).updT hb78 u87 ne83).ext (e90.trans (e93.trans (e101.trans (e107.trans e115))))).updY hb116 u122).ext (e126.trans e132)).updT hb133 u144 ne138).ext (e309.trans e503)).updY hb567 u573).ext e576)).block p hp).2 hlelb578
    have hql582:∀p:Addr,LA104=some p→p.block<lb578:=fun p hp=>Nat.lt_of_lt_of_le (((((((((lz104.ext (e107.trans e115)).updY hb116 u122).ext (e126.trans e132)).updT hb133 u144 ne139).ext (e309.trans e503)).updY hb567 u573).ext e576)).block p hp).2 hlelb578
    have hql583:∀p:Addr,LA111=some p→p.block<lb578:=fun p hp=>Nat.lt_of_lt_of_le (((((((((lz111.ext e115).updY hb116 u122).ext (e126.trans e132)).updT hb133 u144 ne140).ext (e309.trans e503)).updY hb567 u573).ext e576)).block p hp).2 hlelb578
    have hql584:∀p:Addr,LA515=some p→p.block<lb578:=fun p hp=>Nat.lt_of_lt_of_le ((((lz515.updY hb567 u573).ext e576)).block p hp).2 hlelb578
    have hql585:∀p:Addr,LA528=some p→p.block<lb578:=fun p hp=>Nat.lt_of_lt_of_le ((((lz528.updY hb567 u573).ext e576)).block p hp).2 hlelb578
    have hql586:∀p:Addr,LA537=some p→p.block<lb578:=fun p hp=>Nat.lt_of_lt_of_le ((((lz537.updY hb567 u573).ext e576)).block p hp).2 hlelb578
    have hql587:∀p:Addr,LA546=some p→p.block<lb578:=fun p hp=>Nat.lt_of_lt_of_le ((((lz546.updY hb567 u573).ext e576)).block p hp).2 hlelb578
    have hql588:∀p:Addr,LA554=some p→p.block<lb578:=fun p hp=>Nat.lt_of_lt_of_le ((((lz554.updY hb567 u573).ext e576)).block p hp).2 hlelb578
    refine cl (vs:= [.agg #[.int .i64 ((n:Nat):Int),.int .i64 ((n:Nat):Int),.slice Ay ny capy]]) hw28 (g_top_copyMat (w0:=w) hw28.size hlb578 hw28 ((show ZF w _ _ _ _ _ from⟨msy,hly,hmy⟩).ext hw28) (by omega)) rfl (by kernel_rfl) fun xr591 v589 r591 e590 hw29=>?_
    obtain⟨lv592,rfl,⟨LA593,lc593,rfl,lz593⟩⟩:=r591
    have blk594:=lz593.block
    have Ld595:ln (dt n Y)≤134217728:=ln_dtB hn (fun i j hi hj=>hY.ln ((lz593).zf hw29) hi hj)
    refine cl (vs:= [.agg #[.int .i64 ((n:Nat):Int),.int .i64 ((n:Nat):Int),.slice LA593 ny lc593]]) hw29 (g_brs_Det (X:=Y) hw29.size ((lz593).zf hw29) hny hn hY) rfl (by kernel_rfl) fun xr598 v596 r598 e597 hw30=>?_
    obtain⟨_,_,rfl,⟨s600,A600,n600,c600,rfl,z600⟩,rfl⟩:=r598
    refine mv 1 rfl (pu (v:= .agg #[.bool s600,.slice A600 n600 c600]) rfl (by kernel_rfl) (pu (v:= .int .i64 0) rfl (by kernel_rfl) (wl_alloc rfl (z:= .agg #[F0,S0]) (vs:= [F0,S0]) (fun _=>by kernel_rfl) rfl (by decide) fun g601 v602 nb=>?_)))
    have hb604:=nb.bk
    have ge605:w.heap.size≤g601:=by rw [←nb.at_];exact hw30.size
    have q606:g566<g601:=by rw [←nb.at_];exact (hb572.ext (e576.trans (e590.trans e597))).lt
    have ne607:∀p:Addr,LA20=some p→p.block≠g601:=fun p hp=>by have:=((((((((((((((lz20.ext (e24.trans e30)).updT hb31 u38 ne34).ext (e41.trans (e46.trans (e52.trans e60)))).updY hb61 u67).ext (e71.trans e77)).updT hb78 u87 ne81).ext (e90.trans (e93.trans (e101.trans (e107.trans e115))))).updY hb116 u122).ext (e126.trans e132)).updT hb133 u144 ne136).ext (e309.trans e503)).updY hb567 u573).ext (e576.trans (e590.trans e597)))).block p hp;have:=nb.at_;omega
    have ne608:∀p:Addr,LA49=some p→p.block≠g601:=fun p hp=>by have:=((((((((((((lz49.ext (e52.trans e60)).updY hb61 u67).ext (e71.trans e77)).updT hb78 u87 ne82).ext (e90.trans (e93.trans (e101.trans (e107.trans e115))))).updY hb116 u122).ext (e126.trans e132)).updT hb133 u144 ne137).ext (e309.trans e503)).updY hb567 u573).ext (e576.trans (e590.trans e597)))).block p hp;have:=nb.at_;omega
    have ne609:∀p:Addr,LA56=some p→p.block≠g601:=fun p hp=>by have:=((((((((((((lz56.ext e60).updY hb61 u67).ext (e71.trans e77)).updT hb78 u87 ne83).ext (e90.trans (e93.trans (e101.trans (e107.trans e115))))).updY hb116 u122).ext (e126.trans e132)).updT hb133 u144 ne138).ext (e309.trans e503)).updY hb567 u573).ext (e576.trans (e590.trans e597)))).block p hp;have:=nb.at_;omega
    have ne610:∀p:Addr,LA104=some p→p.block≠g601:=fun p hp=>by have:=((((((((lz104.ext (e107.trans e115)).updY hb116 u122).ext (e126.trans e132)).updT hb133 u144 ne139).ext (e309.trans e503)).updY hb567 u573).ext (e576.trans (e590.trans e597)))).block p hp;have:=nb.at_;omega
    have ne611:∀p:Addr,LA111=some p→p.block≠g601:=fun p hp=>by have:=((((((((lz111.ext e115).updY hb116 u122).ext (e126.trans e132)).updT hb133 u144 ne140).ext (e309.trans e503)).updY hb567 u573).ext (e576.trans (e590.trans e597)))).block p hp;have:=nb.at_;omega
    have ne612:∀p:Addr,LA515=some p→p.block≠g601:=fun p hp=>by have:=(((lz515.updY hb567 u573).ext (e576.trans (e590.trans e597)))).block p hp;have:=nb.at_;omega
    have ne613:∀p:Addr,LA528=some p→p.block≠g601:=fun p hp=>by have:=(((lz528.updY hb567 u573).ext (e576.trans (e590.trans e597)))).block p hp;have:=nb.at_;omega
    have ne614:∀p:Addr,LA537=some p→p.block≠g601:=fun p hp=>by have:=(((lz537.updY hb567 u573).ext (e576.trans (e590.trans e597)))).block p hp;have:=nb.at_;omega
    have ne615:∀p:Addr,LA546=some p→p.block≠g601:=fun p hp=>by have:=(((lz546.updY hb567 u573).ext (e576.trans (e590.trans e597)))).block p hp;have:=nb.at_;omega
    have ne616:∀p:Addr,LA554=some p→p.block≠g601:=fun p hp=>by have:=(((lz554.updY hb567 u573).ext (e576.trans (e590.trans e597)))).block p hp;have:=nb.at_;omega
    have ne617:∀p:Addr,LA593=some p→p.block≠g601:=fun p hp=>by have:=((lz593.ext e597)).block p hp;have:=nb.at_;omega
    have e603:=nb.ext
    clear nb
    have hw31:=hw30.trans e603
    refine so aggInt hb604 [.bool s600,.slice A600 n600 c600] hw31 ge605 rfl rfl rfl rfl fun v618 hb620 u621 hw32=>(mv 1 rfl (ne_ (sr (lo aggMat ((hb572.ext (e576.trans (e590.trans (e597.trans e603)))).updN u621 (by omega)) [.int .i64 ((n:Nat):Int),.int .i64 ((n:Nat):Int),.slice LA554 (n*n) lc554] rfl rfl rfl ?_))))
    have Ld623:ln (dt n (mm n X Y))≤134217728:=ln_dtB hn (fun i j hi hj=>hz554.ln ((((lz554.updY hb567 u573).ext (e576.trans (e590.trans (e597.trans e603)))).updT hb604 u621 ne616).zf0) hi hj)
    refine cl (vs:= [.agg #[.int .i64 ((n:Nat):Int),.int .i64 ((n:Nat):Int),.slice LA554 (n*n) lc554]]) hw32 (g_brs_Det (X:=mm n X Y) hw32.size ((((lz554.updY hb567 u573).ext (e576.trans (e590.trans (e597.trans e603)))).updT hb604 u621 ne616).zf0) rfl hn hz554) rfl (by kernel_rfl) fun xr626 v624 r626 e625 hw33=>?_
    obtain⟨_,_,rfl,⟨s628,A628,n628,c628,rfl,z628⟩,rfl⟩:=r626
    refine mv 1 rfl (pu (v:= .agg #[.bool s628,.slice A628 n628 c628]) rfl (by kernel_rfl) (pu (v:= .int .i64 0) rfl (by kernel_rfl) (wl_alloc rfl (z:= .agg #[F0,S0]) (vs:= [F0,S0]) (fun _=>by kernel_rfl) rfl (by decide) fun g629 v630 nb=>?_)))
    have hb632:=nb.bk
    have ge633:w.heap.size≤g629:=by rw [←nb.at_];exact hw33.size
    have q634:g601<g629:=by rw [←nb.at_];exact (hb620.ext e625).lt
    have ne635:∀p:Addr,LA20=some p→p.block≠g629:=fun p hp=>by have:=((((((((((((((((lz20.ext (e24.trans e30)).updT hb31 u38 ne34).ext (e41.trans (e46.trans (e52.trans e60)))).updY hb61 u67).ext (e71.trans e77)).updT hb78 u87 ne81).ext (e90.trans (e93.trans (e101.trans (e107.trans e115))))).updY hb116 u122).ext (e126.trans e132)).updT hb133 u144 ne136).ext (e309.trans e503)).updY hb567 u573).ext (e576.trans (e590.trans (e597.trans e603)))).updT hb604 u621 ne607).ext e625)).block p hp;have:=nb.at_;omega
    have ne636:∀p:Addr,LA49=some p→p.block≠g629:=fun p hp=>by have:=((((((((((((((lz49.ext (e52.trans e60)).updY hb61 u67).ext (e71.trans e77)).updT hb78 u87 ne82).ext (e90.trans (e93.trans (e101.trans (e107.trans e115))))).updY hb116 u122).ext (e126.trans e132)).updT hb133 u144 ne137).ext (e309.trans e503)).updY hb567 u573).ext (e576.trans (e590.trans (e597.trans e603)))).updT hb604 u621 ne608).ext e625)).block p hp;have:=nb.at_;omega
    have ne637:∀p:Addr,LA56=some p→p.block≠g629:=fun p hp=>by have:=((((((((((((((lz56.ext e60).updY hb61 u67).ext (e71.trans e77)).updT hb78 u87 ne83).ext (e90.trans (e93.trans (e101.trans (e107.trans e115))))).updY hb116 u122).ext (e126.trans e132)).updT hb133 u144 ne138).ext (e309.trans e503)).updY hb567 u573).ext (e576.trans (e590.trans (e597.trans e603)))).updT hb604 u621 ne609).ext e625)).block p hp;have:=nb.at_;omega
    have ne638:∀p:Addr,LA104=some p→p.block≠g629:=fun p hp=>by have:=((((((((((lz104.ext (e107.trans e115)).updY hb116 u122).ext (e126.trans e132)).updT hb133 u144 ne139).ext (e309.trans e503)).updY hb567 u573).ext (e576.trans (e590.trans (e597.trans e603)))).updT hb604 u621 ne610).ext e625)).block p hp;have:=nb.at_;omega
    have ne639:∀p:Addr,LA111=some p→p.block≠g629:=fun p hp=>by have:=((((((((((lz111.ext e115).updY hb116 u122).ext (e126.trans e132)).updT hb133 u144 ne140).ext (e309.trans e503)).updY hb567 u573).ext (e576.trans (e590.trans (e597.trans e603)))).updT hb604 u621 ne611).ext e625)).block p hp;have:=nb.at_;omega
    have ne640:∀p:Addr,LA515=some p→p.block≠g629:=fun p hp=>by have:=(((((lz515.updY hb567 u573).ext (e576.trans (e590.trans (e597.trans e603)))).updT hb604 u621 ne612).ext e625)).block p hp;have:=nb.at_;omega
    have ne641:∀p:Addr,LA528=some p→p.block≠g629:=fun p hp=>by have:=(((((lz528.updY hb567 u573).ext (e576.trans (e590.trans (e597.trans e603)))).updT hb604 u621 ne613).ext e625)).block p hp;have:=nb.at_;omega
    have ne642:∀p:Addr,LA537=some p→p.block≠g629:=fun p hp=>by have:=(((((lz537.updY hb567 u573).ext (e576.trans (e590.trans (e597.trans e603)))).updT hb604 u621 ne614).ext e625)).block p hp;have:=nb.at_;omega
    have ne643:∀p:Addr,LA546=some p→p.block≠g629:=fun p hp=>by have:=(((((lz546.updY hb567 u573).ext (e576.trans (e590.trans (e597.trans e603)))).updT hb604 u621 ne615).ext e625)).block p hp;have:=nb.at_;omega
    have ne644:∀p:Addr,LA554=some p→p.block≠g629:=fun p hp=>by have:=(((((lz554.updY hb567 u573).ext (e576.trans (e590.trans (e597.trans e603)))).updT hb604 u621 ne616).ext e625)).block p hp;have:=nb.at_;omega
    have ne645:∀p:Addr,LA593=some p→p.block≠g629:=fun p hp=>by have:=((((lz593.ext (e597.trans e603)).updT hb604 u621 ne617).ext e625)).block p hp;have:=nb.at_;omega
    have e631:=nb.ext
    clear nb
    have hw34:=hw33.trans e631
    refine so aggInt hb632 [.bool s628,.slice A628 n628 c628] hw34 ge633 rfl rfl rfl rfl fun v646 hb648 u649 hw35=>(mv 1 rfl (ne_ (cw_seq ?_)))
    have L651:ln ((dt n X)*(dt n Y))≤268435456:=Nat.le_trans (ln_mul Ld22 Ld595) (by decide)
    refine cw_draw mix 17 [] [Is (.int .i64 0),Is (.bool true),Is (.bool true),Is (.int .i64 0),Is (.bool true),Is (.bool true),Is (.bool true),Is (.int .i64 0),Is (.bool true),Is (.bool true),Is (.bool true),Is (.agg #[.bool s628,.slice A628 n628 c628]),Is (.agg #[.bool s27,.slice A27 n27 c27]),Is (.agg #[.bool s600,.slice A600 n600 c600]),ZR w.heap.size ((dt n X)*(dt n Y)),Is (.bool true),Is (.bool true)] [[],[0],[1],[2],[2,3],[2,4],[5],[6],[6,7],[6,8],[9],[10],[10],[10],[10,12,13],[10,11,14],[10,15]] [[],[0],[0,1],[0,1,2],[0,1,2,3],[0,1,2,3,4],[0,1,2,3,4,5],[0,1,2,3,4,5,6],[0,1,2,3,4,5,6,7],[0,1,2,3,4,5,6,7,8],[0,1,2,3,4,5,6,7,8,9],[0,1,2,3,4,5,6,7,8,9,10],[0,1,2,3,4,5,6,7,8,9,10],[0,1,2,3,4,5,6,7,8,9,10],[0,1,2,3,4,5,6,7,8,9,10,12,13],[0,1,2,3,4,5,6,7,8,9,10,11,12,13,14],[0,1,2,3,4,5,6,7,8,9,10,11,12,13,14,15],[0,1,2,3,4,5,6,7,8,9,10,11,12,13,14,15,16]] rfl
     (obs_cons rfl rfl (hob rfl rfl ?_) (obs_cons rfl rfl (hob rfl rfl ?_) (obs_cons rfl rfl (hob rfl rfl ?_) (obs_cons rfl rfl (hob rfl rfl ?_) (obs_cons rfl rfl (hob rfl rfl ?_) (obs_cons rfl rfl (hob rfl rfl ?_) (obs_cons rfl rfl (hob rfl rfl ?_) (obs_cons rfl rfl (hob rfl rfl ?_) (obs_cons rfl rfl (hob rfl rfl ?_) (obs_cons rfl rfl (hob rfl rfl ?_) (obs_cons rfl rfl (hob rfl rfl ?_) (obs_cons rfl rfl (hob rfl rfl ?_) (obs_cons rfl rfl (hob rfl rfl ?_) (obs_cons rfl rfl (hob rfl rfl ?_) (obs_cons rfl rfl (hob rfl rfl ?_) (obs_cons rfl rfl (hob rfl rfl ?_) (obs_cons rfl rfl (hob rfl rfl ?_) obs_nil))))))))))))))))) ?_
    · 
     exact fun _ _=>deps_nil (mv 1 rfl (pi_done rfl (Ext.refl _) rfl))
    · 
     exact fun _ _=>dk rfl rfl (deps_nil (wl_cmp rfl rfl rfl true (by decide) (by decide) (pi_done rfl (Ext.refl _) rfl)))
    · 
     exact fun _ _=>dk rfl rfl (deps_nil (mv 1 rfl (pi_done rfl (Ext.refl _) rfl)))
    · 
     exact fun _ _=>dk rfl rfl (deps_nil (mv 1 rfl (pi_done rfl (Ext.refl _) rfl)))
    · 
     exact fun _ _=>dk rfl rfl (dk rfl rfl (deps_nil (wl_cmp rfl rfl rfl true (by decide) (by decide) (pi_done rfl (Ext.refl _) rfl))))
    · 
     exact fun _ _=>dk rfl rfl (dk rfl rfl (deps_nil (pu (v:= .bool true) rfl (by kernel_rfl) (pi_done rfl (Ext.refl _) rfl))))
    · 
     exact fun _ _=>dk rfl rfl (deps_nil (mv 1 rfl (pi_done rfl (Ext.refl _) rfl)))
    · 
     exact fun _ _=>dk rfl rfl (deps_nil (mv 1 rfl (pi_done rfl (Ext.refl _) rfl)))
    · 
     exact fun _ _=>dk rfl rfl (dk rfl rfl (deps_nil (wl_cmp rfl rfl rfl true (by decide) (by decide) (pi_done rfl (Ext.refl _) rfl))))
    · 
     exact fun _ _=>dk rfl rfl (dk rfl rfl (deps_nil (pu (v:= .bool true) rfl (by kernel_rfl) (pi_done rfl (Ext.refl _) rfl))))
    · 
     exact fun _ _=>dk rfl rfl (deps_nil (mv 1 rfl (pi_done rfl (Ext.refl _) rfl)))
    · 
     exact fun _ e746=>dk rfl rfl (deps_nil (lo aggInt (hb648.ext e746) [.bool s628,.slice A628 n628 c628] rfl rfl rfl (pi_done rfl (Ext.refl _) rfl)))
    · 
     exact fun _ e753=>dk rfl rfl (deps_nil (lo aggInt (((((((((((((((hb37.ext (e41.trans (e46.trans (e52.trans e60)))).updN u67 (by omega)).ext (e71.trans e77)).updN u87 (by omega)).ext (e90.trans (e93.trans (e101.trans (e107.trans e115))))).updN u122 (by omega)).ext (e126.trans e132)).updN u144 (by omega)).ext (e309.trans e503)).updN u573 (by omega)).ext (e576.trans (e590.trans (e597.trans e603)))).updN u621 (by omega)).ext (e625.trans e631)).updN u649 (by omega)).ext e753) [.bool s27,.slice A27 n27 c27] rfl rfl rfl (pi_done rfl (Ext.refl _) rfl)))
    · 
     exact fun _ e760=>dk rfl rfl (deps_nil (lo aggInt (((hb620.ext (e625.trans e631)).updN u649 (by omega)).ext e760) [.bool s600,.slice A600 n600 c600] rfl rfl rfl (pi_done rfl (Ext.refl _) rfl)))
    · 
     intro v766 e767
     have hw36:=hw35.trans e767
     refine dk rfl rfl (dk rfl rfl (dk rfl rfl (deps_nil ?_)))
     have L783:ln ((dt n X)*(dt n Y))≤268435456:=Nat.le_trans (ln_mul Ld22 Ld595) (by decide)
     refine cl (vs:= [.agg #[.bool s27,.slice A27 n27 c27],.agg #[.bool s600,.slice A600 n600 c600]]) hw36 (g_zint_Mul hw36.size (((((((((((((((((z27.ext e30).updT hb31 u38).ext (e41.trans (e46.trans (e52.trans e60)))).updT hb61 u67).ext (e71.trans e77)).updT hb78 u87).ext (e90.trans (e93.trans (e101.trans (e107.trans e115))))).updT hb116 u122).ext (e126.trans e132)).updT hb133 u144).ext (e309.trans e503)).updT hb567 u573).ext (e576.trans (e590.trans (e597.trans e603)))).updT hb604 u621).ext (e625.trans e631)).updT hb632 u649).ext e767).zi (z27.le (lx_ Ld22 rfl)) (((((z600.ext e603).updT hb604 u621).ext (e625.trans e631)).updT hb632 u649).ext e767).zi (z600.le (lx_ Ld595 rfl))) rfl (by kernel_rfl) fun xr786 v784 r786 e785 hw37=>?_
     obtain⟨s787,A787,n787,c787,rfl,z787⟩:=r786
     exact pi_done rfl e785 ⟨_,_,_,_,rfl,z787⟩
    · 
     intro v788 e789
     have hw36:=hw35.trans e789
     refine dk rfl rfl (dk rfl rfl (deps_cons rfl rfl fun x800 y801 h802 e803 f804=>?_))
     obtain⟨s805,A805,n805,c805,rfl,z805⟩:=h802
     have z805:=z805.ext f804
     refine deps_nil (cl (vs:= [.agg #[.bool s628,.slice A628 n628 c628],.agg #[.bool s805,.slice A805 n805 c805]]) hw36 (g_top_sameInt (((((z628.ext e631).updT hb632 u649).ext e789)).cast (dt_mul n X Y)) (z805)) rfl (by kernel_rfl) fun xr808 v806 r808 e807 hw37=>?_)
     obtain rfl:=r808
     exact pi_done rfl e807 rfl
    · 
     exact fun _ _=>dk rfl rfl (dk rfl rfl (deps_nil (pu (v:= .bool true) rfl (by kernel_rfl) (pi_done rfl (Ext.refl _) rfl))))
    · 
     intro v821 e822
     have hw36:=hw35.trans e822
     refine dk rfl rfl (dk rfl rfl (dk rfl rfl (dk rfl rfl (dk rfl rfl (dk rfl rfl (dk rfl rfl (dk rfl rfl (dk rfl rfl (dk rfl rfl (dk rfl rfl (dk rfl rfl (dk rfl rfl (dk rfl rfl ?_)))))))))))))
     refine deps_cons rfl rfl fun x893 y894 h895 e896 f897=>?_
     obtain⟨s898,A898,n898,c898,rfl,z898⟩:=h895
     have z898:=z898.ext f897
     refine dk rfl rfl (dk rfl rfl (deps_nil (mv 1 rfl (wl_nil (eo_np (eo_then (cw_ret (eo_ret [.bool true] rfl ⟨rfl,trivial⟩ ?_))))))))
     exact⟨_,rfl,rfl,hw36⟩
 · 
  refine cw_region (pf g1 0 rfl (by kernel_rfl) (wl_load rfl rfl (load_cell cellInt (((((((hb4.ext (e8.trans (e13.trans (e17.trans (e24.trans e30))))).updN u38 (by omega)).ext (e41.trans (e46.trans (e52.trans e60)))).updN u67 (by omega)).ext (e71.trans e77)).updN u87 (by omega)).ext e90) rfl) (by decide) (mv 1 rfl (cl (vs:= [.int .i64 ((n:Nat):Int),.slice As m caps]) hw16 (g_stp_Sign_no hn (hS.ext hw16) hM hm hall) rfl (by kernel_rfl) fun xr911 v909 r911 e910 hw17=>?_))))
  obtain⟨_,_,rfl,⟨q913,rfl⟩,rfl⟩:=r911
  refine mv 1 rfl (pu (v:= .int .i64 q913) rfl (by kernel_rfl) (pu (v:= .int .i64 3) rfl (by kernel_rfl) (mv 2 rfl (ne_ (cw_seq (sr (mv 1 rfl (wl_cmp rfl rfl rfl false (by decide) (by decide) (ne_ (cw_false rfl (cw_skip (eo_then (cw_seq ?_)))))))))))))
  obtain⟨lb914,hlb914,hlelb914,hgl914,hq914_0,hq914_1,hq914_2,hq914_3,hq914_4⟩:∃lb,lb≤v909.heap.size∧v909.heap.size≤lb∧w.heap.size≤lb∧g1<lb∧g6<lb∧g28<lb∧g58<lb∧g75<lb:=⟨v909.heap.size,Nat.le_refl _,Nat.le_refl _,hw17.size,(((((((hb4.ext (e8.trans (e13.trans (e17.trans (e24.trans e30))))).updN u38 (by omega)).ext (e41.trans (e46.trans (e52.trans e60)))).updN u67 (by omega)).ext (e71.trans e77)).updN u87 (by omega)).ext (e90.trans e910)).lt,(((((((hb9.ext (e13.trans (e17.trans (e24.trans e30)))).updN u38 (by omega)).ext (e41.trans (e46.trans (e52.trans e60)))).updN u67 (by omega)).ext (e71.trans e77)).updN u87 (by omega)).ext (e90.trans e910)).lt,(((((hb37.ext (e41.trans (e46.trans (e52.trans e60)))).updN u67 (by omega)).ext (e71.trans e77)).updN u87 (by omega)).ext (e90.trans e910)).lt,(((hb66.ext (e71.trans e77)).updN u87 (by omega)).ext (e90.trans e910)).lt,(hb86.ext (e90.trans e910)).lt⟩
  have hql915:∀p:Addr,LA20=some p→p.block<lb914:=fun p hp=>Nat.lt_of_lt_of_le (((((((((lz20.ext (e24.trans e30)).updT hb31 u38 ne34).ext (e41.trans (e46.trans (e52.trans e60)))).updY hb61 u67).ext (e71.trans e77)).updT hb78 u87 ne81).ext (e90.trans e910))).block p hp).2 hlelb914
  have hql916:∀p:Addr,LA49=some p→p.block<lb914:=fun p hp=>Nat.lt_of_lt_of_le (((((((lz49.ext (e52.trans e60)).updY hb61 u67).ext (e71.trans e77)).updT hb78 u87 ne82).ext (e90.trans e910))).block p hp).2 hlelb914
  have hql917:∀p:Addr,LA56=some p→p.block<lb914:=fun p hp=>Nat.lt_of_lt_of_le (((((((lz56.ext e60).updY hb61 u67).ext (e71.trans e77)).updT hb78 u87 ne83).ext (e90.trans e910))).block p hp).2 hlelb914
  refine cw_draw mix 9 [6,7] [Is (.agg #[.int .i64 ((n:Nat):Int),.int .i64 ((n:Nat):Int),.slice Aa na capa]),MQ ((n:Nat):Int) ((n:Nat):Int) (LE (some w) 1048576 w.heap.size lb914 na xs),Is (.agg #[.int .i64 ((n:Nat):Int),.int .i64 ((n:Nat):Int),.slice Ay ny capy]),MQ ((n:Nat):Int) ((n:Nat):Int) (LE (some w) 1048576 w.heap.size lb914 ny ys),T2 (MQ ((n:Nat):Int) ((n:Nat):Int) (LQ none 1048576 w.heap.size lb914 (n*n) (En n n (mm n X Y)))) (Is (.int .i64 0)),T2 (MQ ((n:Nat):Int) ((n:Nat):Int) (LQ none 1048576 w.heap.size lb914 (n*n) (En n n (mm n X Y)))) (Is (.int .i64 0)),MQ ((n:Nat):Int) ((n:Nat):Int) (LQ none 1048576 w.heap.size lb914 (n*n) (En n n (mm n X Y))),Is (.int .i64 0),PR v909.heap.size 24 [I0,I0,S0]] [[],[0],[],[2],[1,3],[4],[5],[5],[]] [[],[0],[],[0,1,2],[0,1,2,3],[0,1,2,3,4],[0,1,2,3,4,5],[0,1,2,3,4,5],[],[0,1,2,3,4,5,6,8],[0,1,2,3,4,5,6,7,8,9]] rfl
   (obs_cons rfl rfl (hob rfl rfl ?_) (obs_cons rfl rfl (hob rfl rfl ?_) (obs_cons rfl rfl (hob rfl rfl ?_) (obs_cons rfl rfl (hob rfl rfl ?_) (obs_cons rfl rfl (hob rfl rfl ?_) (obs_cons rfl rfl (hob rfl rfl ?_) (obs_float rfl rfl (fob rfl ?_) (obs_float rfl rfl (fob rfl ?_) (obs_cons rfl rfl (hob rfl rfl ?_) obs_nil))))))))) ?_
  · 
   exact fun _ e936=>deps_nil (lo aggMat (((((((hb4.ext (e8.trans (e13.trans (e17.trans (e24.trans e30))))).updN u38 (by omega)).ext (e41.trans (e46.trans (e52.trans e60)))).updN u67 (by omega)).ext (e71.trans e77)).updN u87 (by omega)).ext (e90.trans (e910.trans e936))) [.int .i64 ((n:Nat):Int),.int .i64 ((n:Nat):Int),.slice Aa na capa] rfl rfl rfl (pi_done rfl (Ext.refl _) rfl))
  · 
   intro v937 e938
   have hw18:=hw17.trans e938
   refine dk rfl rfl (deps_nil (cl (vs:= [.agg #[.int .i64 ((n:Nat):Int),.int .i64 ((n:Nat):Int),.slice Aa na capa]]) hw18 (g_top_copyMat (w0:=w) hw18.size (Nat.le_trans hlb914 e938.size) hw18 ((show ZF w _ _ _ _ _ from⟨msa,hla,hma⟩).ext hw18) (by omega)) rfl (by kernel_rfl) fun xr946 v944 r946 e945 hw19=>?_))
   obtain⟨lv947,rfl,⟨LA948,lc948,rfl,lz948⟩⟩:=r946
   have blk949:=lz948.block
   exact pi_done rfl e945 ⟨_,rfl,⟨_,_,rfl,lz948⟩⟩
  · 
   exact fun _ e951=>deps_nil (lo aggMat (((((((hb9.ext (e13.trans (e17.trans (e24.trans e30)))).updN u38 (by omega)).ext (e41.trans (e46.trans (e52.trans e60)))).updN u67 (by omega)).ext (e71.trans e77)).updN u87 (by omega)).ext (e90.trans (e910.trans e951))) [.int .i64 ((n:Nat):Int),.int .i64 ((n:Nat):Int),.slice Ay ny capy] rfl rfl rfl (pi_done rfl (Ext.refl _) rfl))
  · 
   intro v952 e953
   have hw18:=hw17.trans e953
   refine dk rfl rfl (deps_nil (cl (vs:= [.agg #[.int .i64 ((n:Nat):Int),.int .i64 ((n:Nat):Int),.slice Ay ny capy]]) hw18 (g_top_copyMat (w0:=w) hw18.size (Nat.le_trans hlb914 e953.size) hw18 ((show ZF w _ _ _ _ _ from⟨msy,hly,hmy⟩).ext hw18) (by omega)) rfl (by kernel_rfl) fun xr961 v959 r961 e960 hw19=>?_))
   obtain⟨lv962,rfl,⟨LA963,lc963,rfl,lz963⟩⟩:=r961
   have blk964:=lz963.block
   exact pi_done rfl e960 ⟨_,rfl,⟨_,_,rfl,lz963⟩⟩
  · 
   intro v965 e966
   have hw18:=hw17.trans e966
   refine deps_cons rfl rfl fun x967 y968 h969 e970 f971=>?_
   obtain⟨lv972,rfl,⟨LA973,lc973,rfl,lz973⟩⟩:=h969
   have blk974:=lz973.block
   have lz973:=lz973.ext f971
   refine deps_cons rfl rfl fun x975 y976 h977 e978 f979=>?_
   obtain⟨lv980,rfl,⟨LA981,lc981,rfl,lz981⟩⟩:=h977
   have blk982:=lz981.block
   have lz981:=lz981.ext f979
   refine deps_nil (cl (vs:= [.agg #[.int .i64 ((n:Nat):Int),.int .i64 ((n:Nat):Int),.slice LA973 na lc973],.agg #[.int .i64 ((n:Nat):Int),.int .i64 ((n:Nat):Int),.slice LA981 ny lc981]]) hw18 (g_mat_Mul (r:=n) (m:=n) (c:=n) (X:=X) (Y:=Y) (K:=1048576) hw18.size (Nat.le_trans hlb914 e966.size) (((lz973).zf hw18).mono (by decide)) (((lz981).zf hw18).mono (by decide)) hna hny hn hn hn hX hY hKm) rfl (by kernel_rfl) fun xr985 v983 r985 e984 hw19=>?_)
   obtain⟨_,_,rfl,⟨lv987,rfl,⟨LA988,lc988,zs988,rfl,lz988,hz988⟩⟩,r986_1⟩:=r985
   have blk989:=lz988.block
   obtain rfl:=r986_1
   exact pi_done rfl e984 ⟨_,_,rfl,⟨_,rfl,⟨_,_,_,rfl,lz988,hz988⟩⟩,rfl⟩
  · 
   intro v990 e991
   refine deps_cons rfl rfl fun x992 y993 h994 e995 f996=>?_
   obtain⟨_,_,rfl,⟨lv998,rfl,⟨LA999,lc999,zs999,rfl,lz999,hz999⟩⟩,r997_1⟩:=h994
   have blk1000:=lz999.block
   obtain rfl:=r997_1
   have lz999:=lz999.ext f996
   refine deps_nil (mv 1 rfl ?_)
   exact pi_done rfl (Ext.refl _) ⟨_,_,rfl,⟨_,rfl,⟨_,_,_,rfl,lz999,hz999⟩⟩,rfl⟩
  · 
   intro v1001 e1002
   refine deps_cons rfl rfl fun x1003 y1004 h1005 e1006 f1007=>?_
   obtain⟨_,_,rfl,⟨lv1009,rfl,⟨LA1010,lc1010,zs1010,rfl,lz1010,hz1010⟩⟩,r1008_1⟩:=h1005
   have blk1011:=lz1010.block
   obtain rfl:=r1008_1
   have lz1010:=lz1010.ext f1007
   refine deps_nil ?_
   exact⟨.agg #[.int .i64 ((n:Nat):Int),.int .i64 ((n:Nat):Int),.slice LA1010 (n*n) lc1010],rfl,rfl,fun _=>by kernel_rfl,⟨_,rfl,⟨_,_,_,rfl,lz1010,hz1010⟩⟩⟩
  · 
   intro v1012 e1013
   refine deps_cons rfl rfl fun x1014 y1015 h1016 e1017 f1018=>?_
   obtain⟨_,_,rfl,⟨lv1020,rfl,⟨LA1021,lc1021,zs1021,rfl,lz1021,hz1021⟩⟩,r1019_1⟩:=h1016
   have blk1022:=lz1021.block
   obtain rfl:=r1019_1
   have lz1021:=lz1021.ext f1018
   refine deps_nil ?_
   exact⟨.int .i64 0,rfl,rfl,fun _=>by kernel_rfl,rfl⟩
  · 
   intro v1023 e1024
   refine deps_nil (wl_alloc rfl (z:= .agg #[I0,I0,S0]) (vs:= [I0,I0,S0]) (fun _=>by kernel_rfl) rfl (by decide) fun g1025 v1026 nb=>?_)
   exact pi_done rfl nb.ext ⟨_,rfl,by rw [←nb.at_];exact e1024.size,nb.bk⟩
  · 
   intro v1027 e1028
   have hw18:=hw17.trans e1028
   refine dk rfl rfl (deps_cons rfl rfl fun x1034 y1035 h1036 e1037 f1038=>?_)
   obtain⟨lv1039,rfl,⟨LA1040,lc1040,rfl,lz1040⟩⟩:=h1036
   have blk1041:=lz1040.block
   have lz1040:=lz1040.ext f1038
   refine dk rfl rfl (deps_cons rfl rfl fun x1047 y1048 h1049 e1050 f1051=>?_)
   obtain⟨lv1052,rfl,⟨LA1053,lc1053,rfl,lz1053⟩⟩:=h1049
   have blk1054:=lz1053.block
   have lz1053:=lz1053.ext f1051
   refine deps_cons rfl rfl fun x1055 y1056 h1057 e1058 f1059=>?_
   obtain⟨_,_,rfl,⟨lv1061,rfl,⟨LA1062,lc1062,zs1062,rfl,lz1062,hz1062⟩⟩,r1060_1⟩:=h1057
   have blk1063:=lz1062.block
   obtain rfl:=r1060_1
   have lz1062:=lz1062.ext f1059
   refine deps_cons rfl rfl fun x1064 y1065 h1066 e1067 f1068=>?_
   obtain⟨_,_,rfl,⟨lv1070,rfl,⟨LA1071,lc1071,zs1071,rfl,lz1071,hz1071⟩⟩,r1069_1⟩:=h1066
   have blk1072:=lz1071.block
   obtain rfl:=r1069_1
   have lz1071:=lz1071.ext f1068
   refine deps_cons rfl rfl fun x1073 y1074 h1075 e1076 f1077=>?_
   obtain⟨lv1078,rfl,⟨LA1079,lc1079,zs1079,rfl,lz1079,hz1079⟩⟩:=h1075
   have blk1080:=lz1079.block
   have lz1079:=lz1079.ext f1077
   refine dk rfl rfl (deps_cons rfl rfl fun x1086 y1087 h1088 e1089 f1090=>?_)
   obtain⟨g1091,rfl,ge1093,hb1092⟩:=h1088
   have hb1092:=hb1092.ext f1090
   have q1094:g75<g1091:=Nat.lt_of_lt_of_le (hb86.ext (e90.trans e910)).lt ge1093
   have ge1093:w.heap.size≤g1091:=Nat.le_trans hw17.size ge1093
   refine deps_nil (so aggMat hb1092 [.int .i64 ((n:Nat):Int),.int .i64 ((n:Nat):Int),.slice LA1079 (n*n) lc1079] hw18 ge1093 rfl rfl rfl rfl fun v1095 hb1097 u1098 hw19=>(mv 1 rfl (wl_nil (eo_np (eo_then (cw_seq (sr (lo aggMat ((((((((hb9.ext (e13.trans (e17.trans (e24.trans e30)))).updN u38 (by omega)).ext (e41.trans (e46.trans (e52.trans e60)))).updN u67 (by omega)).ext (e71.trans e77)).updN u87 (by omega)).ext (e90.trans (e910.trans e1028))).updN u1098 (by omega)) [.int .i64 ((n:Nat):Int),.int .i64 ((n:Nat):Int),.slice Ay ny capy] rfl rfl rfl (cl (vs:= [.agg #[.int .i64 ((n:Nat):Int),.int .i64 ((n:Nat):Int),.slice Ay ny capy]]) hw19 (g_top_sound_t hsy) rfl (by kernel_rfl) fun xr1102 v1100 r1102 e1101 hw20=>?_)))))))))
   obtain rfl:=r1102
   refine pu (v:= .bool false) rfl (by kernel_rfl) (mv 1 rfl (pf g6 0 rfl (by kernel_rfl) (wl_load rfl rfl (load_cell cellInt (((((((((hb9.ext (e13.trans (e17.trans (e24.trans e30)))).updN u38 (by omega)).ext (e41.trans (e46.trans (e52.trans e60)))).updN u67 (by omega)).ext (e71.trans e77)).updN u87 (by omega)).ext (e90.trans (e910.trans e1028))).updN u1098 (by omega)).ext e1101) rfl) (by decide) (pf g1 0 rfl (by kernel_rfl) (wl_load rfl rfl (load_cell cellInt (((((((((hb4.ext (e8.trans (e13.trans (e17.trans (e24.trans e30))))).updN u38 (by omega)).ext (e41.trans (e46.trans (e52.trans e60)))).updN u67 (by omega)).ext (e71.trans e77)).updN u87 (by omega)).ext (e90.trans (e910.trans e1028))).updN u1098 (by omega)).ext e1101) rfl) (by decide) (wl_cmp rfl rfl rfl false (cb_ne_f (a:=n) (b:=n) rfl rfl (by omega)) (by decide) (pu (v:= .bool false) rfl (by kernel_rfl) (mv 1 rfl (pf g6 1 rfl (by kernel_rfl) (wl_load rfl rfl (load_cell cellInt (((((((((hb9.ext (e13.trans (e17.trans (e24.trans e30)))).updN u38 (by omega)).ext (e41.trans (e46.trans (e52.trans e60)))).updN u67 (by omega)).ext (e71.trans e77)).updN u87 (by omega)).ext (e90.trans (e910.trans e1028))).updN u1098 (by omega)).ext e1101) rfl) (by decide) (pf g1 0 rfl (by kernel_rfl) (wl_load rfl rfl (load_cell cellInt (((((((((hb4.ext (e8.trans (e13.trans (e17.trans (e24.trans e30))))).updN u38 (by omega)).ext (e41.trans (e46.trans (e52.trans e60)))).updN u67 (by omega)).ext (e71.trans e77)).updN u87 (by omega)).ext (e90.trans (e910.trans e1028))).updN u1098 (by omega)).ext e1101) rfl) (by decide) (wl_cmp rfl rfl rfl false (cb_ne_f (a:=n) (b:=n) rfl rfl (by omega)) (by decide) ?_)))))))))))))
   refine pu (v:= .bool false) rfl (by kernel_rfl) (ne_ (cw_false rfl (cw_skip (eo_then (sr (lo aggMat (((((((((hb9.ext (e13.trans (e17.trans (e24.trans e30)))).updN u38 (by omega)).ext (e41.trans (e46.trans (e52.trans e60)))).updN u67 (by omega)).ext (e71.trans e77)).updN u87 (by omega)).ext (e90.trans (e910.trans e1028))).updN u1098 (by omega)).ext e1101) [.int .i64 ((n:Nat):Int),.int .i64 ((n:Nat):Int),.slice Ay ny capy] rfl rfl rfl ?_))))))
   obtain⟨lb1103,hlb1103,hlelb1103,hgl1103,hq1103_0,hq1103_1,hq1103_2,hq1103_3,hq1103_4,hq1103_5⟩:∃lb,lb≤v1100.heap.size∧v1100.heap.size≤lb∧w.heap.size≤lb∧g1<lb∧g6<lb∧g28<lb∧g58<lb∧g75<lb∧g1091<lb:=⟨v1100.heap.size,Nat.le_refl _,Nat.le_refl _,hw20.size,(((((((((hb4.ext (e8.trans (e13.trans (e17.trans (e24.trans e30))))).updN u38 (by omega)).ext (e41.trans (e46.trans (e52.trans e60)))).updN u67 (by omega)).ext (e71.trans e77)).updN u87 (by omega)).ext (e90.trans (e910.trans e1028))).updN u1098 (by omega)).ext e1101).lt,(((((((((hb9.ext (e13.trans (e17.trans (e24.trans e30)))).updN u38 (by omega)).ext (e41.trans (e46.trans (e52.trans e60)))).updN u67 (by omega)).ext (e71.trans e77)).updN u87 (by omega)).ext (e90.trans (e910.trans e1028))).updN u1098 (by omega)).ext e1101).lt,(((((((hb37.ext (e41.trans (e46.trans (e52.trans e60)))).updN u67 (by omega)).ext (e71.trans e77)).updN u87 (by omega)).ext (e90.trans (e910.trans e1028))).updN u1098 (by omega)).ext e1101).lt,(((((hb66.ext (e71.trans e77)).updN u87 (by omega)).ext (e90.trans (e910.trans e1028))).updN u1098 (by omega)).ext e1101).lt,(((hb86.ext (e90.trans (e910.trans e1028))).updN u1098 (by omega)).ext e1101).lt,(hb1097.ext e1101).lt⟩
   have hql1104:∀p:Addr,LA20=some p→p.block<lb1103:=fun p hp=>Nat.lt_of_lt_of_le (((((((((((lz20.ext (e24.trans e30)).updT hb31 u38 ne34).ext (e41.trans (e46.trans (e52.trans e60)))).updY hb61 u67).ext (e71.trans e77)).updT hb78 u87 ne81).ext (e90.trans (e910.trans e1028))).updY hb1092 u1098).ext e1101)).block p hp).2 hlelb1103
   have hql1105:∀p:Addr,LA49=some p→p.block<lb1103:=fun p hp=>Nat.lt_of_lt_of_le (((((((((lz49.ext (e52.trans e60)).updY hb61 u67).ext (e71.trans e77)).updT hb78 u87 ne82).ext (e90.trans (e910.trans e1028))).updY hb1092 u1098).ext e1101)).block p hp).2 hlelb1103
   have hql1106:∀p:Addr,LA56=some p→p.block<lb1103:=fun p hp=>Nat.lt_of_lt_of_le (((((((((lz56.ext e60).updY hb61 u67).ext (e71.trans e77)).updT hb78 u87 ne83).ext (e90.trans (e910.trans e1028))).updY hb1092 u1098).ext e1101)).block p hp).2 hlelb1103
   have hql1107:∀p:Addr,LA1040=some p→p.block<lb1103:=fun p hp=>Nat.lt_of_lt_of_le ((((lz1040.updY hb1092 u1098).ext e1101)).block p hp).2 hlelb1103
   have hql1108:∀p:Addr,LA1053=some p→p.block<lb1103:=fun p hp=>Nat.lt_of_lt_of_le ((((lz1053.updY hb1092 u1098).ext e1101)).block p hp).2 hlelb1103
   have hql1109:∀p:Addr,LA1062=some p→p.block<lb1103:=fun p hp=>Nat.lt_of_lt_of_le ((((lz1062.updY hb1092 u1098).ext e1101)).block p hp).2 hlelb1103
   have hql1110:∀p:Addr,LA1071=some p→p.block<lb1103:=fun p hp=>Nat.lt_of_lt_of_le ((((lz1071.updY hb1092 u1098).ext e1101)).block p hp).2 hlelb1103
   have hql1111:∀p:Addr,LA1079=some p→p.block<lb1103:=fun p hp=>Nat.lt_of_lt_of_le ((((lz1079.updY hb1092 u1098).ext e1101)).block p hp).2 hlelb1103
   refine cl (vs:= [.agg #[.int .i64 ((n:Nat):Int),.int .i64 ((n:Nat):Int),.slice Ay ny capy]]) hw20 (g_top_copyMat (w0:=w) hw20.size hlb1103 hw20 ((show ZF w _ _ _ _ _ from⟨msy,hly,hmy⟩).ext hw20) (by omega)) rfl (by kernel_rfl) fun xr1114 v1112 r1114 e1113 hw21=>?_
   obtain⟨lv1115,rfl,⟨LA1116,lc1116,rfl,lz1116⟩⟩:=r1114
   have blk1117:=lz1116.block
   have Ld1118:ln (dt n Y)≤134217728:=ln_dtB hn (fun i j hi hj=>hY.ln ((lz1116).zf hw21) hi hj)
   refine cl (vs:= [.agg #[.int .i64 ((n:Nat):Int),.int .i64 ((n:Nat):Int),.slice LA1116 ny lc1116]]) hw21 (g_brs_Det (X:=Y) hw21.size ((lz1116).zf hw21) hny hn hY) rfl (by kernel_rfl) fun xr1121 v1119 r1121 e1120 hw22=>?_
   obtain⟨_,_,rfl,⟨s1123,A1123,n1123,c1123,rfl,z1123⟩,rfl⟩:=r1121
   refine mv 1 rfl (pu (v:= .agg #[.bool s1123,.slice A1123 n1123 c1123]) rfl (by kernel_rfl) (pu (v:= .int .i64 0) rfl (by kernel_rfl) (wl_alloc rfl (z:= .agg #[F0,S0]) (vs:= [F0,S0]) (fun _=>by kernel_rfl) rfl (by decide) fun g1124 v1125 nb=>?_)))
   have hb1127:=nb.bk
   have ge1128:w.heap.size≤g1124:=by rw [←nb.at_];exact hw22.size
   have q1129:g1091<g1124:=by rw [←nb.at_];exact (hb1097.ext (e1101.trans (e1113.trans e1120))).lt
   have ne1130:∀p:Addr,LA20=some p→p.block≠g1124:=fun p hp=>by have:=((((((((((lz20.ext (e24.trans e30)).updT hb31 u38 ne34).ext (e41.trans (e46.trans (e52.trans e60)))).updY hb61 u67).ext (e71.trans e77)).updT hb78 u87 ne81).ext (e90.trans (e910.trans e1028))).updY hb1092 u1098).ext (e1101.trans (e1113.trans e1120)))).block p hp;have:=nb.at_;omega
   have ne1131:∀p:Addr,LA49=some p→p.block≠g1124:=fun p hp=>by have:=((((((((lz49.ext (e52.trans e60)).updY hb61 u67).ext (e71.trans e77)).updT hb78 u87 ne82).ext (e90.trans (e910.trans e1028))).updY hb1092 u1098).ext (e1101.trans (e1113.trans e1120)))).block p hp;have:=nb.at_;omega
   have ne1132:∀p:Addr,LA56=some p→p.block≠g1124:=fun p hp=>by have:=((((((((lz56.ext e60).updY hb61 u67).ext (e71.trans e77)).updT hb78 u87 ne83).ext (e90.trans (e910.trans e1028))).updY hb1092 u1098).ext (e1101.trans (e1113.trans e1120)))).block p hp;have:=nb.at_;omega
   have ne1133:∀p:Addr,LA1040=some p→p.block≠g1124:=fun p hp=>by have:=(((lz1040.updY hb1092 u1098).ext (e1101.trans (e1113.trans e1120)))).block p hp;have:=nb.at_;omega
   have ne1134:∀p:Addr,LA1053=some p→p.block≠g1124:=fun p hp=>by have:=(((lz1053.updY hb1092 u1098).ext (e1101.trans (e1113.trans e1120)))).block p hp;have:=nb.at_;omega
   have ne1135:∀p:Addr,LA1062=some p→p.block≠g1124:=fun p hp=>by have:=(((lz1062.updY hb1092 u1098).ext (e1101.trans (e1113.trans e1120)))).block p hp;have:=nb.at_;omega
   have ne1136:∀p:Addr,LA1071=some p→p.block≠g1124:=fun p hp=>by have:=(((lz1071.updY hb1092 u1098).ext (e1101.trans (e1113.trans e1120)))).block p hp;have:=nb.at_;omega
   have ne1137:∀p:Addr,LA1079=some p→p.block≠g1124:=fun p hp=>by have:=(((lz1079.updY hb1092 u1098).ext (e1101.trans (e1113.trans e1120)))).block p hp;have:=nb.at_;omega
   have ne1138:∀p:Addr,LA1116=some p→p.block≠g1124:=fun p hp=>by have:=((lz1116.ext e1120)).block p hp;have:=nb.at_;omega
   have e1126:=nb.ext
   clear nb
   have hw23:=hw22.trans e1126
   refine so aggInt hb1127 [.bool s1123,.slice A1123 n1123 c1123] hw23 ge1128 rfl rfl rfl rfl fun v1139 hb1141 u1142 hw24=>(mv 1 rfl (ne_ (sr (lo aggMat ((hb1097.ext (e1101.trans (e1113.trans (e1120.trans e1126)))).updN u1142 (by omega)) [.int .i64 ((n:Nat):Int),.int .i64 ((n:Nat):Int),.slice LA1079 (n*n) lc1079] rfl rfl rfl ?_))))
   have Ld1144:ln (dt n (mm n X Y))≤134217728:=ln_dtB hn (fun i j hi hj=>hz1079.ln ((((lz1079.updY hb1092 u1098).ext (e1101.trans (e1113.trans (e1120.trans e1126)))).updT hb1127 u1142 ne1137).zf0) hi hj)
   refine cl (vs:= [.agg #[.int .i64 ((n:Nat):Int),.int .i64 ((n:Nat):Int),.slice LA1079 (n*n) lc1079]]) hw24 (g_brs_Det (X:=mm n X Y) hw24.size ((((lz1079.updY hb1092 u1098).ext (e1101.trans (e1113.trans (e1120.trans e1126)))).updT hb1127 u1142 ne1137).zf0) rfl hn hz1079) rfl (by kernel_rfl) fun xr1147 v1145 r1147 e1146 hw25=>?_
   obtain⟨_,_,rfl,⟨s1149,A1149,n1149,c1149,rfl,z1149⟩,rfl⟩:=r1147
   refine mv 1 rfl (pu (v:= .agg #[.bool s1149,.slice A1149 n1149 c1149]) rfl (by kernel_rfl) (pu (v:= .int .i64 0) rfl (by kernel_rfl) (wl_alloc rfl (z:= .agg #[F0,S0]) (vs:= [F0,S0]) (fun _=>by kernel_rfl) rfl (by decide) fun g1150 v1151 nb=>?_)))
   have hb1153:=nb.bk
   have ge1154:w.heap.size≤g1150:=by rw [←nb.at_];exact hw25.size
   have q1155:g1124<g1150:=by rw [←nb.at_];exact (hb1141.ext e1146).lt
   have ne1156:∀p:Addr,LA20=some p→p.block≠g1150:=fun p hp=>by have:=((((((((((((lz20.ext (e24.trans e30)).updT hb31 u38 ne34).ext (e41.trans (e46.trans (e52.trans e60)))).updY hb61 u67).ext (e71.trans e77)).updT hb78 u87 ne81).ext (e90.trans (e910.trans e1028))).updY hb1092 u1098).ext (e1101.trans (e1113.trans (e1120.trans e1126)))).updT hb1127 u1142 ne1130).ext e1146)).block p hp;have:=nb.at_;omega
   have ne1157:∀p:Addr,LA49=some p→p.block≠g1150:=fun p hp=>by have:=((((((((((lz49.ext (e52.trans e60)).updY hb61 u67).ext (e71.trans e77)).updT hb78 u87 ne82).ext (e90.trans (e910.trans e1028))).updY hb1092 u1098).ext (e1101.trans (e1113.trans (e1120.trans e1126)))).updT hb1127 u1142 ne1131).ext e1146)).block p hp;have:=nb.at_;omega
   have ne1158:∀p:Addr,LA56=some p→p.block≠g1150:=fun p hp=>by have:=((((((((((lz56.ext e60).updY hb61 u67).ext (e71.trans e77)).updT hb78 u87 ne83).ext (e90.trans (e910.trans e1028))).updY hb1092 u1098).ext (e1101.trans (e1113.trans (e1120.trans e1126)))).updT hb1127 u1142 ne1132).ext e1146)).block p hp;have:=nb.at_;omega
   have ne1159:∀p:Addr,LA1040=some p→p.block≠g1150:=fun p hp=>by have:=(((((lz1040.updY hb1092 u1098).ext (e1101.trans (e1113.trans (e1120.trans e1126)))).updT hb1127 u1142 ne1133).ext e1146)).block p hp;have:=nb.at_;omega
   have ne1160:∀p:Addr,LA1053=some p→p.block≠g1150:=fun p hp=>by have:=(((((lz1053.updY hb1092 u1098).ext (e1101.trans (e1113.trans (e1120.trans e1126)))).updT hb1127 u1142 ne1134).ext e1146)).block p hp;have:=nb.at_;omega
   have ne1161:∀p:Addr,LA1062=some p→p.block≠g1150:=fun p hp=>by have:=(((((lz1062.updY hb1092 u1098).ext (e1101.trans (e1113.trans (e1120.trans e1126)))).updT hb1127 u1142 ne1135).ext e1146)).block p hp;have:=nb.at_;omega
   have ne1162:∀p:Addr,LA1071=some p→p.block≠g1150:=fun p hp=>by have:=(((((lz1071.updY hb1092 u1098).ext (e1101.trans (e1113.trans (e1120.trans e1126)))).updT hb1127 u1142 ne1136).ext e1146)).block p hp;have:=nb.at_;omega
   have ne1163:∀p:Addr,LA1079=some p→p.block≠g1150:=fun p hp=>by have:=(((((lz1079.updY hb1092 u1098).ext (e1101.trans (e1113.trans (e1120.trans e1126)))).updT hb1127 u1142 ne1137).ext e1146)).block p hp;have:=nb.at_;omega
   have ne1164:∀p:Addr,LA1116=some p→p.block≠g1150:=fun p hp=>by have:=((((lz1116.ext (e1120.trans e1126)).updT hb1127 u1142 ne1138).ext e1146)).block p hp;have:=nb.at_;omega
   have e1152:=nb.ext
   clear nb
   have hw26:=hw25.trans e1152
   refine so aggInt hb1153 [.bool s1149,.slice A1149 n1149 c1149] hw26 ge1154 rfl rfl rfl rfl fun v1165 hb1167 u1168 hw27=>(mv 1 rfl (ne_ (cw_seq ?_)))
   have L1170:ln ((dt n X)*(dt n Y))≤268435456:=Nat.le_trans (ln_mul Ld22 Ld1118) (by decide)
   refine cw_draw mix 17 [] [Is (.int .i64 0),Is (.bool true),Is (.bool true),Is (.int .i64 0),Is (.bool true),Is (.bool true),Is (.bool true),Is (.int .i64 0),Is (.bool true),Is (.bool true),Is (.bool true),Is (.agg #[.bool s1149,.slice A1149 n1149 c1149]),Is (.agg #[.bool s27,.slice A27 n27 c27]),Is (.agg #[.bool s1123,.slice A1123 n1123 c1123]),ZR w.heap.size ((dt n X)*(dt n Y)),Is (.bool true),Is (.bool true)] [[],[0],[1],[2],[2,3],[2,4],[5],[6],[6,7],[6,8],[9],[10],[10],[10],[10,12,13],[10,11,14],[10,15]] [[],[0],[0,1],[0,1,2],[0,1,2,3],[0,1,2,3,4],[0,1,2,3,4,5],[0,1,2,3,4,5,6],[0,1,2,3,4,5,6,7],[0,1,2,3,4,5,6,7,8],[0,1,2,3,4,5,6,7,8,9],[0,1,2,3,4,5,6,7,8,9,10],[0,1,2,3,4,5,6,7,8,9,10],[0,1,2,3,4,5,6,7,8,9,10],[0,1,2,3,4,5,6,7,8,9,10,12,13],[0,1,2,3,4,5,6,7,8,9,10,11,12,13,14],[0,1,2,3,4,5,6,7,8,9,10,11,12,13,14,15],[0,1,2,3,4,5,6,7,8,9,10,11,12,13,14,15,16]] rfl
    (obs_cons rfl rfl (hob rfl rfl ?_) (obs_cons rfl rfl (hob rfl rfl ?_) (obs_cons rfl rfl (hob rfl rfl ?_) (obs_cons rfl rfl (hob rfl rfl ?_) (obs_cons rfl rfl (hob rfl rfl ?_) (obs_cons rfl rfl (hob rfl rfl ?_) (obs_cons rfl rfl (hob rfl rfl ?_) (obs_cons rfl rfl (hob rfl rfl ?_) (obs_cons rfl rfl (hob rfl rfl ?_) (obs_cons rfl rfl (hob rfl rfl ?_) (obs_cons rfl rfl (hob rfl rfl ?_) (obs_cons rfl rfl (hob rfl rfl ?_) (obs_cons rfl rfl (hob rfl rfl ?_) (obs_cons rfl rfl (hob rfl rfl ?_) (obs_cons rfl rfl (hob rfl rfl ?_) (obs_cons rfl rfl (hob rfl rfl ?_) (obs_cons rfl rfl (hob rfl rfl ?_) obs_nil))))))))))))))))) ?_
   · 
    exact fun _ _=>deps_nil (mv 1 rfl (pi_done rfl (Ext.refl _) rfl))
   · 
    exact fun _ _=>dk rfl rfl (deps_nil (wl_cmp rfl rfl rfl true (by decide) (by decide) (pi_done rfl (Ext.refl _) rfl)))
   · 
    exact fun _ _=>dk rfl rfl (deps_nil (mv 1 rfl (pi_done rfl (Ext.refl _) rfl)))
   · 
    exact fun _ _=>dk rfl rfl (deps_nil (mv 1 rfl (pi_done rfl (Ext.refl _) rfl)))
   · 
    exact fun _ _=>dk rfl rfl (dk rfl rfl (deps_nil (wl_cmp rfl rfl rfl true (by decide) (by decide) (pi_done rfl (Ext.refl _) rfl))))
   · 
    exact fun _ _=>dk rfl rfl (dk rfl rfl (deps_nil (pu (v:= .bool true) rfl (by kernel_rfl) (pi_done rfl (Ext.refl _) rfl))))
   · 
    exact fun _ _=>dk rfl rfl (deps_nil (mv 1 rfl (pi_done rfl (Ext.refl _) rfl)))
   · 
    exact fun _ _=>dk rfl rfl (deps_nil (mv 1 rfl (pi_done rfl (Ext.refl _) rfl)))
   · 
    exact fun _ _=>dk rfl rfl (dk rfl rfl (deps_nil (wl_cmp rfl rfl rfl true (by decide) (by decide) (pi_done rfl (Ext.refl _) rfl))))
   · 
    exact fun _ _=>dk rfl rfl (dk rfl rfl (deps_nil (pu (v:= .bool true) rfl (by kernel_rfl) (pi_done rfl (Ext.refl _) rfl))))
   · 
    exact fun _ _=>dk rfl rfl (deps_nil (mv 1 rfl (pi_done rfl (Ext.refl _) rfl)))
   · 
    exact fun _ e1265=>dk rfl rfl (deps_nil (lo aggInt (hb1167.ext e1265) [.bool s1149,.slice A1149 n1149 c1149] rfl rfl rfl (pi_done rfl (Ext.refl _) rfl)))
   · 
    exact fun _ e1272=>dk rfl rfl (deps_nil (lo aggInt (((((((((((hb37.ext (e41.trans (e46.trans (e52.trans e60)))).updN u67 (by omega)).ext (e71.trans e77)).updN u87 (by omega)).ext (e90.trans (e910.trans e1028))).updN u1098 (by omega)).ext (e1101.trans (e1113.trans (e1120.trans e1126)))).updN u1142 (by omega)).ext (e1146.trans e1152)).updN u1168 (by omega)).ext e1272) [.bool s27,.slice A27 n27 c27] rfl rfl rfl (pi_done rfl (Ext.refl _) rfl)))
   · 
    exact fun _ e1279=>dk rfl rfl (deps_nil (lo aggInt (((hb1141.ext (e1146.trans e1152)).updN u1168 (by omega)).ext e1279) [.bool s1123,.slice A1123 n1123 c1123] rfl rfl rfl (pi_done rfl (Ext.refl _) rfl)))
   · 
    intro v1285 e1286
    have hw28:=hw27.trans e1286
    refine dk rfl rfl (dk rfl rfl (dk rfl rfl (deps_nil ?_)))
    have L1302:ln ((dt n X)*(dt n Y))≤268435456:=Nat.le_trans (ln_mul Ld22 Ld1118) (by decide)
    refine cl (vs:= [.agg #[.bool s27,.slice A27 n27 c27],.agg #[.bool s1123,.slice A1123 n1123 c1123]]) hw28 (g_zint_Mul hw28.size (((((((((((((z27.ext e30).updT hb31 u38).ext (e41.trans (e46.trans (e52.trans e60)))).updT hb61 u67).ext (e71.trans e77)).updT hb78 u87).ext (e90.trans (e910.trans e1028))).updT hb1092 u1098).ext (e1101.trans (e1113.trans (e1120.trans e1126)))).updT hb1127 u1142).ext (e1146.trans e1152)).updT hb1153 u1168).ext e1286).zi (z27.le (lx_ Ld22 rfl)) (((((z1123.ext e1126).updT hb1127 u1142).ext (e1146.trans e1152)).updT hb1153 u1168).ext e1286).zi (z1123.le (lx_ Ld1118 rfl))) rfl (by kernel_rfl) fun xr1305 v1303 r1305 e1304 hw29=>?_
    obtain⟨s1306,A1306,n1306,c1306,rfl,z1306⟩:=r1305
    exact pi_done rfl e1304 ⟨_,_,_,_,rfl,z1306⟩
   · 
    intro v1307 e1308
    have hw28:=hw27.trans e1308
    refine dk rfl rfl (dk rfl rfl (deps_cons rfl rfl fun x1319 y1320 h1321 e1322 f1323=>?_))
    obtain⟨s1324,A1324,n1324,c1324,rfl,z1324⟩:=h1321
    have z1324:=z1324.ext f1323
    refine deps_nil (cl (vs:= [.agg #[.bool s1149,.slice A1149 n1149 c1149],.agg #[.bool s1324,.slice A1324 n1324 c1324]]) hw28 (g_top_sameInt (((((z1149.ext e1152).updT hb1153 u1168).ext e1308)).cast (dt_mul n X Y)) (z1324)) rfl (by kernel_rfl) fun xr1327 v1325 r1327 e1326 hw29=>?_)
    obtain rfl:=r1327
    exact pi_done rfl e1326 rfl
   · 
    exact fun _ _=>dk rfl rfl (dk rfl rfl (deps_nil (pu (v:= .bool true) rfl (by kernel_rfl) (pi_done rfl (Ext.refl _) rfl))))
   · 
    intro v1340 e1341
    have hw28:=hw27.trans e1341
    refine dk rfl rfl (dk rfl rfl (dk rfl rfl (dk rfl rfl (dk rfl rfl (dk rfl rfl (dk rfl rfl (dk rfl rfl (dk rfl rfl (dk rfl rfl (dk rfl rfl (dk rfl rfl (dk rfl rfl (dk rfl rfl ?_)))))))))))))
    refine deps_cons rfl rfl fun x1412 y1413 h1414 e1415 f1416=>?_
    obtain⟨s1417,A1417,n1417,c1417,rfl,z1417⟩:=h1414
    have z1417:=z1417.ext f1416
    refine dk rfl rfl (dk rfl rfl (deps_nil (mv 1 rfl (wl_nil (eo_np (eo_then (cw_ret (eo_ret [.bool true] rfl ⟨rfl,trivial⟩ ?_))))))))
    exact⟨_,rfl,rfl,hw28⟩
theorem law_WholeDetProduct {w:World}{R C Ry Cy:Int}{Aa Ay As:Option Addr}{na capa ny capy m caps Ka Ky:Nat}{xs ys:List Int}{ss:List Stp}{ms:List Nat}(hxa:ZF w Aa na capa Ka xs) (hxy:ZF w Ay ny capy Ky ys) (hS:Sl w As m ss ms)
  (hk:(Ka+na)+(Ky+ny)+(m+ms.sum)≤1048576):
  Calls Try.prog 4 #[.agg #[.int .i64 R,.int .i64 C,.slice Aa na capa],.agg #[.int .i64 Ry,.int .i64 Cy,.slice Ay ny capy],.slice As m caps] w (fun e w'=>e= .returned (.bool true)∧Ext w w'):=by
 have hxa':ZF w Aa na capa 1048576 xs:=hxa.mono (by omega)
 have hxy':ZF w Ay ny capy 1048576 ys:=hxy.mono (by omega)
 have hM:∀i,ms.getD i 0≤1048576:=fun i=>Nat.le_trans (getD_le_sum ms i) (by omega)
 have hm:m≤1048576:=by omega
 have key:Calls Try.prog 4 #[.agg #[.int .i64 R,.int .i64 C,.slice Aa na capa],.agg #[.int .i64 Ry,.int .i64 Cy,.slice Ay ny capy],.slice As m caps] w (Gv w (Is (.bool true))):=by
  by_cases hs:Snd R C na
  ·by_cases hRC:R=C
   ·subst hRC
    obtain⟨n,rfl⟩:=Int.eq_ofNat_of_zero_le hs.1.1
    have hn:n≤64:=by have:=hs.1.2;omega
    have hna:na=n*n:=by have:=hs.2.2;exact_mod_cast this
    have hX:En n n (fun i j=>xs.getD (i*n+j) 0) xs:=fun _ _ _ _=>rfl
    have hXa:∀a b,a<n→b<n→ln (xs.getD (a*n+b) 0)≤Ka:=fun a b _ _=>hxa.ln _
    have hnn:n≤na:=by rw [hna];exact Nat.le_mul_self n
    by_cases hsy:Snd Ry Cy ny
    ·by_cases hRy:Ry=((n:Nat):Int)
     ·subst hRy
      obtain⟨c,rfl⟩:=Int.eq_ofNat_of_zero_le hsy.2.1.1
      have hc:c≤64:=by have:=hsy.2.1.2;omega
      have hny:ny=n*c:=by have:=hsy.2.2;exact_mod_cast this
      by_cases hcn:c=n
      ·subst hcn
       exact g_top_WholeDetProduct_ok_ok hxa' hxy' hS hM hm (by omega) (by omega) hna hn hX hXa (by omega) hny (fun _ _ _ _=>rfl) (fun a b _ _=>hxy.ln _) (by omega)
      ·exact g_top_WholeDetProduct_ok_c hxa' hxy' hS hM hm (by omega) (by omega) hna hn hX hXa (by omega) hny hc hcn (fun _ _ _ _=>rfl)
     ·exact g_top_WholeDetProduct_ok_unfit hxa' hxy' hS hM hm (by omega) (by omega) hna hn hX hXa (by omega) hsy hRy
    ·exact g_top_WholeDetProduct_ok_bad hxa' hxy' hS hM hm (by omega) (by omega) hna hn hX hXa (by omega) hsy
   ·exact g_top_WholeDetProduct_unfit hxa' hxy' hS hM hm (by omega) (by omega) hs hRC
  ·exact g_top_WholeDetProduct_bad hxa' hxy' hS hM hm (by omega) (by omega) hs
 refine key.mono fun e w' h=>?_
 obtain⟨v,rfl,h1,h2⟩:=h
 exact⟨by rw [show v=_ from h1],h2⟩
end Go.Proofs.Ytgekkehpljbklaa
