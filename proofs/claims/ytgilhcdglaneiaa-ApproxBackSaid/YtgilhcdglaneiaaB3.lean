/- Parts Lw7b, joined. -/
import Derived.Test.YtgilhcdglaneiaaB2

namespace Go.Proofs.Ytgilhcdglaneiaa
open Go.RowKit
theorem gv_bool7b {w:World}{b:Bool}:∀e w',Gv w (Is (.bool b)) e w'→BoolP b w e w':=by
 rintro e w' ⟨v,rfl,rfl,hx⟩
 exact⟨rfl,hx⟩
set_option maxHeartbeats 8000000 in
theorem law_ApproxBack {w:World}{f:Nat}(hb:f<18446744073709551616) (hf:fin f):
    Calls Try.prog 6 #[.int .u64 ((f:Nat):Int)] w (Gv w (Is (.bool true))):=by
 refine sx_enter Try.func6 rfl (n:=161) rfl (bq rfl) (args:= [.int .u64 ((f:Nat):Int)]) (cw_keep [(0,.int .u64 ((f:Nat):Int))] ⟨rfl,trivial⟩ (sr (mv 1 rfl (ne_ (cw_seq (sr (wl_call rfl rfl (vs:= []) (by kernel_rfl) (by decide) g_awake7 ?_)))))))
 rintro _ v1 ⟨xr3,rfl,r3,e2⟩
 refine ret_intro ?_
 have hw1:=(Ext.refl w).trans e2
 obtain rfl:=r3
 refine pu (v:= .bool false) rfl (by kernel_rfl) (ne_ (cw_false rfl (cw_skip (eo_then (sr (mv 1 rfl (pu (v:= .float .f64 f) rfl (by kernel_rfl) (mv 1 rfl (ne_ (sr (mv 1 rfl (cl (vs:= [.float .f64 f]) hw1 (g_Split hw1.size hb hf) rfl (by kernel_rfl) fun xr6 v4 r6 e5 hw2=>?_))))))))))))
 obtain⟨_,_,_,rfl,⟨s8,A8,n8,c8,rfl,z8⟩,rfl,rfl⟩:=r6
 refine mv 1 rfl (pu (v:= .agg #[.bool s8,.slice A8 n8 c8]) rfl (by kernel_rfl) (pu (v:= .int .i64 (spN f)) rfl (by kernel_rfl) (pu (v:= .int .i64 0) rfl (by kernel_rfl) (al [F0,S0] hw2 (fun _=>by kernel_rfl) rfl fun g9 v10 hb12 ge13 e11 hw3=>(so aggInt hb12 [.bool s8,.slice A8 n8 c8] hw3 ge13 rfl rfl rfl rfl fun v14 hb16 u17 hw4=>(mv 2 rfl (ne_ (sr (mv 1 rfl (cl (vs:= [.float .f64 f]) hw4 (g_Whole hw4.size hb hf) rfl (by kernel_rfl) fun xr21 v19 r21 e20 hw5=>?_))))))))))
 obtain⟨_,_,rfl,⟨s23,A23,n23,c23,rfl,z23⟩,rfl⟩:=r21
 refine mv 1 rfl (pu (v:= .agg #[.bool s23,.slice A23 n23 c23]) rfl (by kernel_rfl) (pu (v:= .int .i64 0) rfl (by kernel_rfl) (alq [F0,S0] hw5 (hb16.ext e20).lt (fun _=>by kernel_rfl) rfl fun g24 v25 hb27 ge28 q29 e26 hw6=>(so aggInt hb27 [.bool s23,.slice A23 n23 c23] hw6 ge28 rfl rfl rfl rfl fun v30 hb32 u33 hw7=>(mv 1 rfl (ne_ (cw_seq (sr (mv 1 rfl (cl (vs:= [.float .f64 f]) hw7 (g_finite hf) rfl (by kernel_rfl) fun xr37 v35 r37 e36 hw8=>?_))))))))))
 obtain rfl:=r37
 refine pu (v:= .bool false) rfl (by kernel_rfl) (ne_ (cw_false rfl (cw_skip (eo_then (cw_seq (cw_seq ?_))))))
 have hbd:=spN_bd2 hf
 refine cw_region (mv 1 rfl (wl_cmp rfl rfl rfl false (by decide) (by decide) (mv 2 rfl (wl_cmp rfl rfl rfl false (by decide) (by decide) (pu (v:= .bool false) rfl (by kernel_rfl) (mv 2 rfl (wl_cmp rfl rfl rfl false (lt_f hbd.1) (by decide) (pu (v:= .bool false) rfl (by kernel_rfl) (mv 2 rfl (wl_cmp rfl rfl rfl false (gt_f hbd.2) (by decide) (pu (v:= .bool false) rfl (by kernel_rfl) (ne_ (cw_false rfl ?_)))))))))))))
 refine cw_skip (eo_then (cw_seq (cw_seq ?_)))
 by_cases hz:mg f=0
 · 
  have hz3:=back_z (mg_pm.1 hz)
  refine cw_region (mv 1 rfl (wl_pureE rfl rfl (v:= .bool (FloatKind.f64.format.order f 0==some .eq)) (v':= .bool true) (by decide) (by kernel_rfl) (congrArg Value.bool ((flt_eq0_all f).trans (decide_eq_true hz))) (ne_ (cw_true rfl (sr (lo aggInt (((hb16.ext (e20.trans e26)).updN u33 (by omega)).ext e36) [.bool s8,.slice A8 n8 c8] rfl rfl rfl (cl (vs:= [.agg #[.bool s8,.slice A8 n8 c8]]) hw8 (g_zint_Sign (((((z8.ext e11).updT hb12 u17).ext (e20.trans e26)).updT hb27 u33).ext e36).zi (z8.le (Nat.le_trans (show ln (spM f)≤1 from ln_sg (od_len f)) (by decide)))) rfl (by kernel_rfl) fun xr40 v38 r40 e39 hw9=>?_)))))))
  obtain rfl:=r40
  refine wl_cmp rfl rfl rfl true (scmp_eqT hz3.1) (by decide) (mv 2 rfl (wl_cmp rfl rfl rfl true (eq_t hz3.2.1) (by decide) (pu (v:= .bool true) rfl (by kernel_rfl) (mv 1 rfl (lo aggInt (hb32.ext (e36.trans e39)) [.bool s23,.slice A23 n23 c23] rfl rfl rfl (cl (vs:= [.agg #[.bool s23,.slice A23 n23 c23]]) hw9 (g_zint_Sign (((z23.ext e26).updT hb27 u33).ext (e36.trans e39)).zi (z23.le (Nat.le_trans (ln_whV hf) (by decide)))) rfl (by kernel_rfl) fun xr43 v41 r43 e42 hw10=>?_))))))
  obtain rfl:=r43
  refine wl_cmp rfl rfl rfl true (scmp_eqT hz3.2.2) (by decide) (pu (v:= .bool true) rfl (by kernel_rfl) (mv 1 rfl (ne_ (cw_ret (eo_thenR (eo_ret [.bool true] rfl ⟨rfl,trivial⟩ ?_))))))
  exact⟨_,rfl,rfl,hw10⟩
 · 
  have hp0:pm f≠0:=fun e=>hz (mg_pm.2 e)
  refine cw_region (mv 1 rfl (wl_pureE rfl rfl (v:= .bool (FloatKind.f64.format.order f 0==some .eq)) (v':= .bool false) (by decide) (by kernel_rfl) (congrArg Value.bool ((flt_eq0_all f).trans (decide_eq_false hz))) (ne_ (cw_false rfl (cw_skip (eo_then (cw_seq (cw_seq ?_))))))))
  have hw1:=ln_spM hp0
  have hn1:n8=1:=((((((z8.ext e11).updT hb12 u17).ext (e20.trans e26)).updT hb27 u33).ext e36)).len.trans hw1
  have hodd:Int.natAbs (spM f)%2=1:=by rw [spM_abs];exact (od_ne hp0).2
  have hs7:=(sp_neg (((((z8.ext e11).updT hb12 u17).ext (e20.trans e26)).updT hb27 u33).ext e36)).2 hp0
  rcases hsg:sgnb f with _ | _
  · 
   rw [hsg] at hs7
   subst hs7
   refine cw_region (pf g9 1 rfl (by kernel_rfl) (wl_load rfl rfl (load_cell cellWords (((hb16.ext (e20.trans e26)).updN u33 (by omega)).ext e36) rfl) (by decide) (pu (v:= .int .i64 ((n8:Nat):Int)) rfl (by kernel_rfl) (wl_cmp rfl rfl rfl false (cb_ne_f (a:=n8) (b:=1) rfl rfl (by omega)) (by decide) (mv 1 rfl (pf g9 1 rfl (by kernel_rfl) (wl_load rfl rfl (load_cell cellWords (((hb16.ext (e20.trans e26)).updN u33 (by omega)).ext e36) rfl) (by decide) ?_)))))))
   obtain⟨p44,hp44,hc44⟩:=own_word ((((((z8.ext e11).updT hb12 u17).ext (e20.trans e26)).updT hb27 u33).ext e36)).own ((((((z8.ext e11).updT hb12 u17).ext (e20.trans e26)).updT hb27 u33).ext e36)).len hw1
   refine wl_idx rfl rfl rfl un_u64 sz_u64 0 rfl (by omega) p44 hp44 (by decide) (wl_load rfl rfl (load_cell1 ag_u64 hc44) (by decide) (wl_ar rfl rfl rfl (((Int.natAbs (spM f))%2:Nat):Int) (au_rem (a:=Int.natAbs (spM f)) (b:=2) rfl rfl (by omega)) (by decide) (wl_cmp rfl rfl rfl false (cb_eq_f (a:=(Int.natAbs (spM f))%2) (b:=0) rfl rfl (by omega)) (by decide) (pu (v:= .bool false) rfl (by kernel_rfl) (mv 1 rfl (pf g9 0 rfl (by kernel_rfl) (wl_load rfl rfl (load_cell cellBool (((hb16.ext (e20.trans e26)).updN u33 (by omega)).ext e36) rfl) (by decide) (mv 1 rfl (wl_pureE rfl rfl (v:= .bool (FloatKind.f64.format.order f 0==some .lt)) (v':= .bool false) (by decide) (by kernel_rfl) (congrArg Value.bool ((flt_lt0 hb hf hz).trans hsg)) (pu (v:= .bool false) rfl (by kernel_rfl) (pu (v:= .bool false) rfl (by kernel_rfl) (ne_ (cw_false rfl ?_)))))))))))))
   refine cw_skip (eo_then (cw_seq ?_))
   refine cw_drawA mix 4 [] [2,3] [Is (.agg #[F0,.slice A8 n8 c8]),ZR w.heap.size (((1:Nat):Int)),PR v35.heap.size 43 [F0,S0],PR v35.heap.size 43 [F0,S0]] [[],[],[],[]] [[],[],[],[],[0,1,2,3],[0,1,2,3,4]] rfl rfl ⟨fun _ _ h=>PR.old h,fun _ _ h=>PR.old h,trivial⟩
    (obs_cons rfl rfl (hob rfl rfl ?_) (obs_cons rfl rfl (hob rfl rfl ?_) (obs_cons rfl rfl (hobA rfl ?_) (obs_cons rfl rfl (hobA rfl ?_) obs_nil)))) ?_
   · 
    exact fun _ e47=>deps_nil (lo aggInt (((hb16.ext (e20.trans e26)).updN u33 (by omega)).ext (e36.trans e47)) [F0,.slice A8 n8 c8] rfl rfl rfl (pi_done rfl (Ext.refl _) rfl))
   · 
    intro v48 e49
    have hw9:=hw8.trans e49
    refine deps_nil (cl (vs:= [I0]) hw9 (g_two (k:=0) (u:=1) hw9.size (by decide) rfl) rfl (by kernel_rfl) fun xr52 v50 r52 e51 hw10=>?_)
    obtain⟨s53,A53,n53,c53,rfl,z53⟩:=r52
    exact pi_done rfl e51 ⟨_,_,_,_,rfl,z53⟩
   · 
    intro v54 e55
    refine deps_nil (wl_alloc rfl (z:= .agg #[F0,S0]) (vs:= [F0,S0]) (fun _=>by kernel_rfl) rfl (by decide) fun g56 v57 nb=>?_)
    exact pi_done rfl nb.ext ⟨⟨_,rfl,by rw [←nb.at_];exact e55.size,nb.bk⟩,_,rfl,Nat.le_of_eq nb.at_⟩
   · 
    intro v58 e59
    refine deps_nil (wl_alloc rfl (z:= .agg #[F0,S0]) (vs:= [F0,S0]) (fun _=>by kernel_rfl) rfl (by decide) fun g60 v61 nb=>?_)
    exact pi_done rfl nb.ext ⟨⟨_,rfl,by rw [←nb.at_];exact e59.size,nb.bk⟩,_,rfl,Nat.le_of_eq nb.at_⟩
   · 
    intro v62 e63
    have hw9:=hw8.trans e63
    refine dk rfl rfl (deps_cons rfl rfl fun x69 y70 h71 e72 f73=>?_)
    obtain⟨s74,A74,n74,c74,rfl,z74⟩:=h71
    have z74:=z74.ext f73
    refine deps_cons rfl rfl fun x75 y76 h77 e78 f79=>?_
    obtain⟨g80,rfl,ge82,hb81⟩:=h77
    have hb81:=hb81.ext f79
    have q83:g24<g80:=Nat.lt_of_lt_of_le (hb32.ext e36).lt ge82
    have ge82:w.heap.size≤g80:=Nat.le_trans hw8.size ge82
    refine deps_cons rfl rfl fun x84 y85 h86 e87 f88=>?_
    obtain⟨g89,rfl,ge91,hb90⟩:=h86
    have hb90:=hb90.ext f88
    have q92:g24<g89:=Nat.lt_of_lt_of_le (hb32.ext e36).lt ge91
    have ge91:w.heap.size≤g89:=Nat.le_trans hw8.size ge91
    refine deps_nil ?_
    intro hdist
    have q93:g89≠g80:=fun e=>hdist 3 (by decide) 2 (by decide) (by decide) _ _ rfl rfl _ rfl (by rw [e];rfl)
    clear hdist
    refine so aggInt hb81 [F0,.slice A8 n8 c8] hw9 ge82 rfl rfl rfl rfl fun v94 hb96 u97 hw10=>?_
    have hb100:=(hb90.updN u97 (by omega))
    refine so aggInt hb100 [.bool s74,.slice A74 n74 c74] hw10 ge91 rfl rfl rfl rfl fun v99 hb101 u102 hw11=>(wl_nil (eo_np (eo_then (cw_seq (cw_seq ?_)))))
    by_cases hsp:0≤spN f
    · 
     obtain⟨k,hk⟩:∃k:Nat,spN f=(k:Int):=⟨(spN f).toNat,by omega⟩
     rw [hk]
     refine cw_region (mv 1 rfl (wl_cmp rfl rfl rfl true (cb_ge_t (a:=k) (b:=0) rfl rfl (by omega)) (by decide) (ne_ (cw_true rfl ?_))))
     have L105:ln ((spM f)*((2^k:Nat):Int))≤19:=Nat.le_trans (ln_mul (show ln (spM f)≤1 from ln_sg (od_len f)) (ln_two (k:=k) rfl (by omega))) (by decide)
     refine cw_draw mix 4 [] [Is (.agg #[F0,.slice A8 n8 c8]),Is (.int .i64 ((k:Nat):Int)),ZR w.heap.size (((2^k:Nat):Int)),ZR w.heap.size ((spM f)*((2^k:Nat):Int))] [[],[],[1],[0,2]] [[],[],[1],[0,1,2],[0,1,2,3]] rfl
      (obs_cons rfl rfl (hob rfl rfl ?_) (obs_cons rfl rfl (hob rfl rfl ?_) (obs_cons rfl rfl (hob rfl rfl ?_) (obs_cons rfl rfl (hob rfl rfl ?_) obs_nil)))) ?_
     · 
      exact fun _ e108=>deps_nil (lo aggInt ((((((hb16.ext (e20.trans e26)).updN u33 (by omega)).ext (e36.trans e63)).updN u97 (by omega)).updN u102 (by omega)).ext e108) [F0,.slice A8 n8 c8] rfl rfl rfl (pi_done rfl (Ext.refl _) rfl))
     · 
      exact fun _ _=>deps_nil (mv 1 rfl (pi_done rfl (Ext.refl _) rfl))
     · 
      intro v111 e112
      have hw12:=hw11.trans e112
      refine dk rfl rfl (deps_nil (cl (vs:= [.int .i64 ((k:Nat):Int)]) hw12 (g_two (k:=k) (u:=2^k) hw12.size (by omega) rfl) rfl (by kernel_rfl) fun xr120 v118 r120 e119 hw13=>?_))
      obtain⟨s121,A121,n121,c121,rfl,z121⟩:=r120
      exact pi_done rfl e119 ⟨_,_,_,_,rfl,z121⟩
     · 
      intro v122 e123
      have hw12:=hw11.trans e123
      refine dk rfl rfl (deps_cons rfl rfl fun x129 y130 h131 e132 f133=>?_)
      obtain⟨s134,A134,n134,c134,rfl,z134⟩:=h131
      have z134:=z134.ext f133
      refine deps_nil ?_
      have L135:ln ((spM f)*((2^k:Nat):Int))≤19:=Nat.le_trans (ln_mul (show ln (spM f)≤1 from ln_sg (od_len f)) (ln_two (k:=k) rfl (by omega))) (by decide)
      refine cl (vs:= [.agg #[F0,.slice A8 n8 c8],.agg #[.bool s134,.slice A134 n134 c134]]) hw12 (g_zint_Mul hw12.size ((((((((z8.ext e11).updT hb12 u17).ext (e20.trans e26)).updT hb27 u33).ext (e36.trans e63)).updT hb81 u97).updT hb100 u102).ext e123).zi (z8.le (Nat.le_trans (show ln (spM f)≤1 from ln_sg (od_len f)) (by decide))) z134.zi (z134.le (Nat.le_trans (ln_two (k:=k) rfl (by omega)) (by decide)))) rfl (by kernel_rfl) fun xr138 v136 r138 e137 hw13=>?_
      obtain⟨s139,A139,n139,c139,rfl,z139⟩:=r138
      exact pi_done rfl e137 ⟨_,_,_,_,rfl,z139⟩
     · 
      intro v140 e141
      have hw12:=hw11.trans e141
      refine dk rfl rfl (dk rfl rfl (deps_cons rfl rfl fun x152 y153 h154 e155 f156=>?_))
      obtain⟨s157,A157,n157,c157,rfl,z157⟩:=h154
      have z157:=z157.ext f156
      refine deps_cons rfl rfl fun x158 y159 h160 e161 f162=>?_
      obtain⟨s163,A163,n163,c163,rfl,z163⟩:=h160
      have z163:=z163.ext f162
      refine deps_nil ?_
      have hb165:=((hb96.updN u102 (by omega)).ext e141)
      refine so aggInt hb165 [.bool s163,.slice A163 n163 c163] hw12 ge82 rfl rfl rfl rfl fun v164 hb166 u167 hw13=>(wl_nil (eo_np (eo_then (sr (lo aggInt hb166 [.bool s163,.slice A163 n163 c163] rfl rfl rfl (lo aggInt ((hb101.ext e141).updN u167 (by omega)) [.bool s74,.slice A74 n74 c74] rfl rfl rfl (cl (vs:= [.agg #[.bool s163,.slice A163 n163 c163],.agg #[.bool s74,.slice A74 n74 c74]]) hw13 (g_Ratio_e (z163.updT hb165 u167).zi (z163.le (lx_ L105 rfl)) ((((z74.updT hb81 u97).updT hb100 u102).ext e141).updT hb165 u167).zi (z74.le (Nat.le_trans (ln_two (k:=0) rfl (by decide)) (by decide))) (by decide) (ra_up hb hf hz hk)) rfl (by kernel_rfl) fun xr171 v169 r171 e170 hw14=>?_)))))))
      obtain⟨_,_,rfl,rfl,rfl⟩:=r171
      refine mv 1 rfl (pu (v:= .float .f64 f) rfl (by kernel_rfl) (pu (v:= .int .i64 0) rfl (by kernel_rfl) (mv 2 rfl (ne_ (cw_seq (sr (mv 1 rfl (wl_cmp rfl rfl rfl false (by decide) (by decide) (mv 2 rfl (cl (vs:= [.float .f64 f]) hw14 (g_bits_e (btB_self hz)) rfl (by kernel_rfl) fun xr175 v173 r175 e174 hw15=>?_))))))))))
      obtain rfl:=r175
      refine mv 1 rfl (wl_cmp rfl rfl rfl false (cb_ne_f (a:=f) (b:=f) rfl rfl (by omega)) (by decide) (pu (v:= .bool false) rfl (by kernel_rfl) (ne_ (cw_false rfl (cw_skip (eo_then (sr (lo aggInt (hb166.ext (e170.trans e174)) [.bool s163,.slice A163 n163 c163] rfl rfl rfl (lo aggInt (((hb101.ext e141).updN u167 (by omega)).ext (e170.trans e174)) [.bool s74,.slice A74 n74 c74] rfl rfl rfl ?_)))))))))
      have L176:ln ((((spM f)*((2^k:Nat):Int))).tdiv ((1:Nat):Int))≤19:=Nat.le_trans (ln_tdiv _ _) L105
      have L177:ln ((((spM f)*((2^k:Nat):Int))).tmod ((1:Nat):Int))≤19:=Nat.le_trans (ln_tmod _ _) L105
      refine cl (vs:= [.agg #[.bool s163,.slice A163 n163 c163],.agg #[.bool s74,.slice A74 n74 c74]]) hw15 (g_zint_Trunc hw15.size ((z163.updT hb165 u167).ext (e170.trans e174)).zi (z163.le (lx_ L105 rfl)) (((((z74.updT hb81 u97).updT hb100 u102).ext e141).updT hb165 u167).ext (e170.trans e174)).zi (z74.le (Nat.le_trans (ln_two (k:=0) rfl (by decide)) (by decide))) (by decide)) rfl (by kernel_rfl) fun xr180 v178 r180 e179 hw16=>?_
      obtain⟨_,_,_,rfl,⟨s182,A182,n182,c182,rfl,z182⟩,⟨s183,A183,n183,c183,rfl,z183⟩,rfl⟩:=r180
      refine mv 1 rfl (pu (v:= .agg #[.bool s182,.slice A182 n182 c182]) rfl (by kernel_rfl) (pu (v:= .agg #[.bool s183,.slice A183 n183 c183]) rfl (by kernel_rfl) (pu (v:= .int .i64 0) rfl (by kernel_rfl) (alq [F0,S0] hw16 (((hb101.ext e141).updN u167 (by omega)).ext (e170.trans (e174.trans e179))).lt (fun _=>by kernel_rfl) rfl fun g184 v185 hb187 ge188 q189 e186 hw17=>(alq [F0,S0] hw17 hb187.lt (fun _=>by kernel_rfl) rfl fun g190 v191 hb193 ge194 q195 e192 hw18=>?_)))))
      have hb197:=(hb187.ext e192)
      refine so aggInt hb197 [.bool s182,.slice A182 n182 c182] hw18 ge188 rfl rfl rfl rfl fun v196 hb198 u199 hw19=>?_
      have hb202:=(hb193.updN u199 (by omega))
      refine so aggInt hb202 [.bool s183,.slice A183 n183 c183] hw19 ge194 rfl rfl rfl rfl fun v201 hb203 u204 hw20=>(mv 1 rfl (ne_ (cw_seq (sr (mv 1 rfl (wl_cmp rfl rfl rfl false (by decide) (by decide) (mv 1 rfl (lo aggInt (hb198.updN u204 (by omega)) [.bool s182,.slice A182 n182 c182] rfl rfl rfl (lo aggInt ((((((((hb32.ext (e36.trans e63)).updN u97 (by omega)).updN u102 (by omega)).ext e141).updN u167 (by omega)).ext (e170.trans (e174.trans (e179.trans (e186.trans e192))))).updN u199 (by omega)).updN u204 (by omega)) [.bool s23,.slice A23 n23 c23] rfl rfl rfl (cl (vs:= [.agg #[.bool s182,.slice A182 n182 c182],.agg #[.bool s23,.slice A23 n23 c23]]) hw20 (g_zint_Cmp (((z182.ext (e186.trans e192)).updT hb197 u199).updT hb202 u204).zi (z182.le (lx_ L176 rfl)) ((((((((((z23.ext e26).updT hb27 u33).ext (e36.trans e63)).updT hb81 u97).updT hb100 u102).ext e141).updT hb165 u167).ext (e170.trans (e174.trans (e179.trans (e186.trans e192))))).updT hb197 u199).updT hb202 u204).zi (z23.le (Nat.le_trans (ln_whV hf) (by decide)))) rfl (by kernel_rfl) fun xr208 v206 r208 e207 hw21=>?_))))))))))
      obtain rfl:=r208
      refine wl_cmp rfl rfl rfl false (ne_f_ (scmp_zero.2 (td_up hk))) (by decide) (pu (v:= .bool false) rfl (by kernel_rfl) (ne_ (cw_false rfl (cw_skip (eo_then (sr (lo aggInt (((((((((hb32.ext (e36.trans e63)).updN u97 (by omega)).updN u102 (by omega)).ext e141).updN u167 (by omega)).ext (e170.trans (e174.trans (e179.trans (e186.trans e192))))).updN u199 (by omega)).updN u204 (by omega)).ext e207) [.bool s23,.slice A23 n23 c23] rfl rfl rfl (mv 1 rfl (cl (vs:= [.agg #[.bool s23,.slice A23 n23 c23],.float .f64 f]) hw21 (g_ACmp_e (((((((((((z23.ext e26).updT hb27 u33).ext (e36.trans e63)).updT hb81 u97).updT hb100 u102).ext e141).updT hb165 u167).ext (e170.trans (e174.trans (e179.trans (e186.trans e192))))).updT hb197 u199).updT hb202 u204).ext e207).zi (z23.le (Nat.le_trans (ln_whV hf) (by decide))) hb hf (scmp_zero.2 (fv_wh hk).symm)) rfl (by kernel_rfl) fun xr211 v209 r211 e210 hw22=>?_)))))))))
      obtain⟨_,_,rfl,rfl,rfl⟩:=r211
      refine mv 1 rfl (pu (v:= .int .i64 0) rfl (by kernel_rfl) (pu (v:= .int .i64 0) rfl (by kernel_rfl) (mv 2 rfl (ne_ (cw_seq (sr (mv 1 rfl (wl_cmp rfl rfl rfl false (by decide) (by decide) (mv 2 rfl (wl_cmp rfl rfl rfl true (by decide) (by decide) (mv 1 rfl (wl_cmp rfl rfl rfl true (cb_ge_t (a:=k) (b:=0) rfl rfl (by omega)) (by decide) (pu (v:= .bool false) rfl (by kernel_rfl) ?_)))))))))))))
      refine pu (v:= .bool false) rfl (by kernel_rfl) (mv 2 rfl (wl_cmp rfl rfl rfl false (cb_lt_f (a:=k) (b:=0) rfl rfl (by omega)) (by decide) (mv 6 rfl (pu (v:= .bool false) rfl (by kernel_rfl) (pu (v:= .bool false) rfl (by kernel_rfl) (ne_ (cw_false rfl (cw_skip (eo_then (sr (mv 1 rfl (wl_cmp rfl rfl rfl false (cb_lt_f (a:=k) (b:=0) rfl rfl (by omega)) (by decide) (mv 1 rfl ?_)))))))))))))
      refine lo aggInt (((((((((hb32.ext (e36.trans e63)).updN u97 (by omega)).updN u102 (by omega)).ext e141).updN u167 (by omega)).ext (e170.trans (e174.trans (e179.trans (e186.trans e192))))).updN u199 (by omega)).updN u204 (by omega)).ext (e207.trans e210)) [.bool s23,.slice A23 n23 c23] rfl rfl rfl (cl (vs:= [.agg #[.bool s23,.slice A23 n23 c23]]) hw22 (g_Near_e (nr_back hb hf hz hk) (((((((((((z23.ext e26).updT hb27 u33).ext (e36.trans e63)).updT hb81 u97).updT hb100 u102).ext e141).updT hb165 u167).ext (e170.trans (e174.trans (e179.trans (e186.trans e192))))).updT hb197 u199).updT hb202 u204).ext (e207.trans e210)).zi (z23.le (Nat.le_trans (ln_whV hf) (by decide)))) rfl (by kernel_rfl) fun xr215 v213 r215 e214 hw23=>?_)
      obtain rfl:=r215
      refine cl (vs:= [.float .f64 f]) hw23 (g_bits_e (btB_self hz)) rfl (by kernel_rfl) fun xr218 v216 r218 e217 hw24=>?_
      obtain rfl:=r218
      refine mv 1 rfl (wl_cmp rfl rfl rfl true (cb_eq_t (a:=f) (b:=f) rfl rfl (by omega)) (by decide) (pu (v:= .bool true) rfl (by kernel_rfl) (mv 1 rfl (ne_ (cw_ret (eo_ret [.bool true] rfl ⟨rfl,trivial⟩ ?_))))))
      exact⟨_,rfl,rfl,hw24⟩
    · 
     obtain⟨k,hk⟩:∃k:Nat,spN f= -(k:Int):=⟨(-spN f).toNat,by omega⟩
     rw [hk]
     refine cw_region (mv 1 rfl (wl_cmp rfl rfl rfl false (ge_f (by omega)) (by decide) (ne_ (cw_false rfl (cw_region (mv 1 rfl (wl_pureE rfl rfl (v:= .int .i64 (IntKind.i64.wrap (0- -((k:Nat):Int)))) (v':= .int .i64 ((k:Nat):Int)) (by decide) (by kernel_rfl) (cv_neg (by omega)) (cl (vs:= [.int .i64 ((k:Nat):Int)]) hw11 (g_two (k:=k) (u:=2^k) hw11.size (by omega) rfl) rfl (by kernel_rfl) fun xr221 v219 r221 e220 hw12=>?_))))))))
     obtain⟨s222,A222,n222,c222,rfl,z222⟩:=r221
     have hb224:=(hb101.ext e220)
     refine so aggInt hb224 [.bool s222,.slice A222 n222 c222] hw12 ge91 rfl rfl rfl rfl fun v223 hb225 u226 hw13=>(ne_ (sr (lo aggInt (((hb96.updN u102 (by omega)).ext e220).updN u226 (by omega)) [F0,.slice A8 n8 c8] rfl rfl rfl (lo aggInt hb225 [.bool s222,.slice A222 n222 c222] rfl rfl rfl (cl (vs:= [.agg #[F0,.slice A8 n8 c8],.agg #[.bool s222,.slice A222 n222 c222]]) hw13 (g_Ratio_e (((((((((z8.ext e11).updT hb12 u17).ext (e20.trans e26)).updT hb27 u33).ext (e36.trans e63)).updT hb81 u97).updT hb100 u102).ext e220).updT hb224 u226).zi (z8.le (Nat.le_trans (show ln (spM f)≤1 from ln_sg (od_len f)) (by decide))) (z222.updT hb224 u226).zi (z222.le (Nat.le_trans (ln_two (k:=k) rfl (by omega)) (by decide))) (Int.ne_of_gt (Int.natCast_pos.2 (Nat.two_pow_pos k))) (ra_dn hb hf hz hk)) rfl (by kernel_rfl) fun xr230 v228 r230 e229 hw14=>?_)))))
     obtain⟨_,_,rfl,rfl,rfl⟩:=r230
     refine mv 1 rfl (pu (v:= .float .f64 f) rfl (by kernel_rfl) (pu (v:= .int .i64 0) rfl (by kernel_rfl) (mv 2 rfl (ne_ (cw_seq (sr (mv 1 rfl (wl_cmp rfl rfl rfl false (by decide) (by decide) (mv 2 rfl (cl (vs:= [.float .f64 f]) hw14 (g_bits_e (btB_self hz)) rfl (by kernel_rfl) fun xr234 v232 r234 e233 hw15=>?_))))))))))
     obtain rfl:=r234
     refine mv 1 rfl (wl_cmp rfl rfl rfl false (cb_ne_f (a:=f) (b:=f) rfl rfl (by omega)) (by decide) (pu (v:= .bool false) rfl (by kernel_rfl) (ne_ (cw_false rfl (cw_skip (eo_then (sr (lo aggInt ((((hb96.updN u102 (by omega)).ext e220).updN u226 (by omega)).ext (e229.trans e233)) [F0,.slice A8 n8 c8] rfl rfl rfl (lo aggInt (hb225.ext (e229.trans e233)) [.bool s222,.slice A222 n222 c222] rfl rfl rfl ?_)))))))))
     have L235:ln (((spM f)).tdiv ((2^k:Nat):Int))≤1:=Nat.le_trans (ln_tdiv _ _) (show ln (spM f)≤1 from ln_sg (od_len f))
     have L236:ln (((spM f)).tmod ((2^k:Nat):Int))≤1:=Nat.le_trans (ln_tmod _ _) (show ln (spM f)≤1 from ln_sg (od_len f))
     refine cl (vs:= [.agg #[F0,.slice A8 n8 c8],.agg #[.bool s222,.slice A222 n222 c222]]) hw15 (g_zint_Trunc hw15.size ((((((((((z8.ext e11).updT hb12 u17).ext (e20.trans e26)).updT hb27 u33).ext (e36.trans e63)).updT hb81 u97).updT hb100 u102).ext e220).updT hb224 u226).ext (e229.trans e233)).zi (z8.le (Nat.le_trans (show ln (spM f)≤1 from ln_sg (od_len f)) (by decide))) ((z222.updT hb224 u226).ext (e229.trans e233)).zi (z222.le (Nat.le_trans (ln_two (k:=k) rfl (by omega)) (by decide))) (Int.ne_of_gt (Int.natCast_pos.2 (Nat.two_pow_pos k)))) rfl (by kernel_rfl) fun xr239 v237 r239 e238 hw16=>?_
     obtain⟨_,_,_,rfl,⟨s241,A241,n241,c241,rfl,z241⟩,⟨s242,A242,n242,c242,rfl,z242⟩,rfl⟩:=r239
     refine mv 1 rfl (pu (v:= .agg #[.bool s241,.slice A241 n241 c241]) rfl (by kernel_rfl) (pu (v:= .agg #[.bool s242,.slice A242 n242 c242]) rfl (by kernel_rfl) (pu (v:= .int .i64 0) rfl (by kernel_rfl) (wl_alloc rfl (z:= .agg #[F0,S0]) (vs:= [F0,S0]) (fun _=>by kernel_rfl) rfl (by decide) fun g243 v244 nb=>?_))))
     have hb246:=nb.bk
     have ge247:w.heap.size≤g243:=by rw [←nb.at_];exact hw16.size
     have q248:g80<g243:=by rw [←nb.at_];exact ((((hb96.updN u102 (by omega)).ext e220).updN u226 (by omega)).ext (e229.trans (e233.trans e238))).lt
     have q249:g89<g243:=by rw [←nb.at_];exact (hb225.ext (e229.trans (e233.trans e238))).lt
     have e245:=nb.ext
     clear nb
     have hw17:=hw16.trans e245
     refine alq [F0,S0] hw17 hb246.lt (fun _=>by kernel_rfl) rfl fun g250 v251 hb253 ge254 q255 e252 hw18=>?_
     have hb257:=(hb246.ext e252)
     refine so aggInt hb257 [.bool s241,.slice A241 n241 c241] hw18 ge247 rfl rfl rfl rfl fun v256 hb258 u259 hw19=>?_
     have hb262:=(hb253.updN u259 (by omega))
     refine so aggInt hb262 [.bool s242,.slice A242 n242 c242] hw19 ge254 rfl rfl rfl rfl fun v261 hb263 u264 hw20=>(mv 1 rfl (ne_ (cw_seq (sr (mv 1 rfl (wl_cmp rfl rfl rfl false (by decide) (by decide) (mv 1 rfl (lo aggInt (hb258.updN u264 (by omega)) [.bool s241,.slice A241 n241 c241] rfl rfl rfl (lo aggInt ((((((((hb32.ext (e36.trans e63)).updN u97 (by omega)).updN u102 (by omega)).ext e220).updN u226 (by omega)).ext (e229.trans (e233.trans (e238.trans (e245.trans e252))))).updN u259 (by omega)).updN u264 (by omega)) [.bool s23,.slice A23 n23 c23] rfl rfl rfl (cl (vs:= [.agg #[.bool s241,.slice A241 n241 c241],.agg #[.bool s23,.slice A23 n23 c23]]) hw20 (g_zint_Cmp (((z241.ext (e245.trans e252)).updT hb257 u259).updT hb262 u264).zi (z241.le (lx_ L235 rfl)) ((((((((((z23.ext e26).updT hb27 u33).ext (e36.trans e63)).updT hb81 u97).updT hb100 u102).ext e220).updT hb224 u226).ext (e229.trans (e233.trans (e238.trans (e245.trans e252))))).updT hb257 u259).updT hb262 u264).zi (z23.le (Nat.le_trans (ln_whV hf) (by decide)))) rfl (by kernel_rfl) fun xr268 v266 r268 e267 hw21=>?_))))))))))
     obtain rfl:=r268
     refine wl_cmp rfl rfl rfl false (ne_f_ (scmp_zero.2 (td_dn hk))) (by decide) (pu (v:= .bool false) rfl (by kernel_rfl) (ne_ (cw_false rfl (cw_skip (eo_then (sr (lo aggInt (((((((((hb32.ext (e36.trans e63)).updN u97 (by omega)).updN u102 (by omega)).ext e220).updN u226 (by omega)).ext (e229.trans (e233.trans (e238.trans (e245.trans e252))))).updN u259 (by omega)).updN u264 (by omega)).ext e267) [.bool s23,.slice A23 n23 c23] rfl rfl rfl (mv 1 rfl (cl (vs:= [.agg #[.bool s23,.slice A23 n23 c23],.float .f64 f]) hw21 (g_ACmp_e (((((((((((z23.ext e26).updT hb27 u33).ext (e36.trans e63)).updT hb81 u97).updT hb100 u102).ext e220).updT hb224 u226).ext (e229.trans (e233.trans (e238.trans (e245.trans e252))))).updT hb257 u259).updT hb262 u264).ext e267).zi (z23.le (Nat.le_trans (ln_whV hf) (by decide))) hb hf (cmp_dn2 hp0 hk (by omega))) rfl (by kernel_rfl) fun xr271 v269 r271 e270 hw22=>?_)))))))))
     obtain⟨_,_,rfl,rfl,rfl⟩:=r271
     refine mv 1 rfl (pu (v:= .int .i64 (-(scmp (spM f) 0))) rfl (by kernel_rfl) (pu (v:= .int .i64 0) rfl (by kernel_rfl) (mv 2 rfl (ne_ (cw_seq (sr (mv 1 rfl (wl_cmp rfl rfl rfl false (by decide) (by decide) (mv 2 rfl (wl_cmp rfl rfl rfl false (eq_f (by have:=scmp_zero (x:=spM f) (y:=0);have:=spM_ne hp0;omega)) (by decide) (mv 1 rfl (wl_cmp rfl rfl rfl false (ge_f (by omega)) (by decide) (pu (v:= .bool false) rfl (by kernel_rfl) ?_)))))))))))))
     refine pu (v:= .bool false) rfl (by kernel_rfl) (mv 2 rfl (wl_cmp rfl rfl rfl true (lt_t (by omega)) (by decide) (mv 2 rfl (lo aggInt (((((((((((hb16.ext (e20.trans e26)).updN u33 (by omega)).ext (e36.trans e63)).updN u97 (by omega)).updN u102 (by omega)).ext e220).updN u226 (by omega)).ext (e229.trans (e233.trans (e238.trans (e245.trans e252))))).updN u259 (by omega)).updN u264 (by omega)).ext (e267.trans e270)) [F0,.slice A8 n8 c8] rfl rfl rfl (cl (vs:= [.agg #[F0,.slice A8 n8 c8]]) hw22 (g_zint_Sign (((((((((((((z8.ext e11).updT hb12 u17).ext (e20.trans e26)).updT hb27 u33).ext (e36.trans e63)).updT hb81 u97).updT hb100 u102).ext e220).updT hb224 u226).ext (e229.trans (e233.trans (e238.trans (e245.trans e252))))).updT hb257 u259).updT hb262 u264).ext (e267.trans e270)).zi (z8.le (Nat.le_trans (show ln (spM f)≤1 from ln_sg (od_len f)) (by decide)))) rfl (by kernel_rfl) fun xr275 v273 r275 e274 hw23=>?_)))))
     obtain rfl:=r275
     refine wl_pureE rfl rfl (v:= .int .i64 (IntKind.i64.wrap (0-scmp (spM f) 0))) (v':= .int .i64 (-(scmp (spM f) 0))) (by decide) (by kernel_rfl) (cv_negs _ _) (wl_cmp rfl rfl rfl false neF (by decide) (pu (v:= .bool false) rfl (by kernel_rfl) (pu (v:= .bool false) rfl (by kernel_rfl) (ne_ (cw_false rfl (cw_skip (eo_then (sr (mv 1 rfl (wl_cmp rfl rfl rfl true (lt_t (by omega)) (by decide) (mv 6 rfl (pu (v:= .bool true) rfl (by kernel_rfl) (mv 1 rfl ?_)))))))))))))
     refine ne_ (cw_ret (eo_ret [.bool true] rfl ⟨rfl,trivial⟩ ?_))
     exact⟨_,rfl,rfl,hw23⟩
  · 
   rw [hsg] at hs7
   subst hs7
   refine cw_region (pf g9 1 rfl (by kernel_rfl) (wl_load rfl rfl (load_cell cellWords (((hb16.ext (e20.trans e26)).updN u33 (by omega)).ext e36) rfl) (by decide) (pu (v:= .int .i64 ((n8:Nat):Int)) rfl (by kernel_rfl) (wl_cmp rfl rfl rfl false (cb_ne_f (a:=n8) (b:=1) rfl rfl (by omega)) (by decide) (mv 1 rfl (pf g9 1 rfl (by kernel_rfl) (wl_load rfl rfl (load_cell cellWords (((hb16.ext (e20.trans e26)).updN u33 (by omega)).ext e36) rfl) (by decide) ?_)))))))
   obtain⟨p276,hp276,hc276⟩:=own_word ((((((z8.ext e11).updT hb12 u17).ext (e20.trans e26)).updT hb27 u33).ext e36)).own ((((((z8.ext e11).updT hb12 u17).ext (e20.trans e26)).updT hb27 u33).ext e36)).len hw1
   refine wl_idx rfl rfl rfl un_u64 sz_u64 0 rfl (by omega) p276 hp276 (by decide) (wl_load rfl rfl (load_cell1 ag_u64 hc276) (by decide) (wl_ar rfl rfl rfl (((Int.natAbs (spM f))%2:Nat):Int) (au_rem (a:=Int.natAbs (spM f)) (b:=2) rfl rfl (by omega)) (by decide) (wl_cmp rfl rfl rfl false (cb_eq_f (a:=(Int.natAbs (spM f))%2) (b:=0) rfl rfl (by omega)) (by decide) (pu (v:= .bool false) rfl (by kernel_rfl) (mv 1 rfl (pf g9 0 rfl (by kernel_rfl) (wl_load rfl rfl (load_cell cellBool (((hb16.ext (e20.trans e26)).updN u33 (by omega)).ext e36) rfl) (by decide) (mv 1 rfl (wl_pureE rfl rfl (v:= .bool (FloatKind.f64.format.order f 0==some .lt)) (v':= .bool true) (by decide) (by kernel_rfl) (congrArg Value.bool ((flt_lt0 hb hf hz).trans hsg)) (pu (v:= .bool false) rfl (by kernel_rfl) (pu (v:= .bool false) rfl (by kernel_rfl) (ne_ (cw_false rfl ?_)))))))))))))
   refine cw_skip (eo_then (cw_seq ?_))
   refine cw_drawA mix 4 [] [2,3] [Is (.agg #[.bool true,.slice A8 n8 c8]),ZR w.heap.size (((1:Nat):Int)),PR v35.heap.size 43 [F0,S0],PR v35.heap.size 43 [F0,S0]] [[],[],[],[]] [[],[],[],[],[0,1,2,3],[0,1,2,3,4]] rfl rfl ⟨fun _ _ h=>PR.old h,fun _ _ h=>PR.old h,trivial⟩
    (obs_cons rfl rfl (hob rfl rfl ?_) (obs_cons rfl rfl (hob rfl rfl ?_) (obs_cons rfl rfl (hobA rfl ?_) (obs_cons rfl rfl (hobA rfl ?_) obs_nil)))) ?_
   · 
    exact fun _ e279=>deps_nil (lo aggInt (((hb16.ext (e20.trans e26)).updN u33 (by omega)).ext (e36.trans e279)) [.bool true,.slice A8 n8 c8] rfl rfl rfl (pi_done rfl (Ext.refl _) rfl))
   · 
    intro v280 e281
    have hw9:=hw8.trans e281
    refine deps_nil (cl (vs:= [I0]) hw9 (g_two (k:=0) (u:=1) hw9.size (by decide) rfl) rfl (by kernel_rfl) fun xr284 v282 r284 e283 hw10=>?_)
    obtain⟨s285,A285,n285,c285,rfl,z285⟩:=r284
    exact pi_done rfl e283 ⟨_,_,_,_,rfl,z285⟩
   · 
    intro v286 e287
    refine deps_nil (wl_alloc rfl (z:= .agg #[F0,S0]) (vs:= [F0,S0]) (fun _=>by kernel_rfl) rfl (by decide) fun g288 v289 nb=>?_)
    exact pi_done rfl nb.ext ⟨⟨_,rfl,by rw [←nb.at_];exact e287.size,nb.bk⟩,_,rfl,Nat.le_of_eq nb.at_⟩
   · 
    intro v290 e291
    refine deps_nil (wl_alloc rfl (z:= .agg #[F0,S0]) (vs:= [F0,S0]) (fun _=>by kernel_rfl) rfl (by decide) fun g292 v293 nb=>?_)
    exact pi_done rfl nb.ext ⟨⟨_,rfl,by rw [←nb.at_];exact e291.size,nb.bk⟩,_,rfl,Nat.le_of_eq nb.at_⟩
   · 
    intro v294 e295
    have hw9:=hw8.trans e295
    refine dk rfl rfl (deps_cons rfl rfl fun x301 y302 h303 e304 f305=>?_)
    obtain⟨s306,A306,n306,c306,rfl,z306⟩:=h303
    have z306:=z306.ext f305
    refine deps_cons rfl rfl fun x307 y308 h309 e310 f311=>?_
    obtain⟨g312,rfl,ge314,hb313⟩:=h309
    have hb313:=hb313.ext f311
    have q315:g24<g312:=Nat.lt_of_lt_of_le (hb32.ext e36).lt ge314
    have ge314:w.heap.size≤g312:=Nat.le_trans hw8.size ge314
    refine deps_cons rfl rfl fun x316 y317 h318 e319 f320=>?_
    obtain⟨g321,rfl,ge323,hb322⟩:=h318
    have hb322:=hb322.ext f320
    have q324:g24<g321:=Nat.lt_of_lt_of_le (hb32.ext e36).lt ge323
    have ge323:w.heap.size≤g321:=Nat.le_trans hw8.size ge323
    refine deps_nil ?_
    intro hdist
    have q325:g321≠g312:=fun e=>hdist 3 (by decide) 2 (by decide) (by decide) _ _ rfl rfl _ rfl (by rw [e];rfl)
    clear hdist
    refine so aggInt hb313 [.bool true,.slice A8 n8 c8] hw9 ge314 rfl rfl rfl rfl fun v326 hb328 u329 hw10=>?_
    have hb332:=(hb322.updN u329 (by omega))
    refine so aggInt hb332 [.bool s306,.slice A306 n306 c306] hw10 ge323 rfl rfl rfl rfl fun v331 hb333 u334 hw11=>(wl_nil (eo_np (eo_then (cw_seq (cw_seq ?_)))))
    by_cases hsp:0≤spN f
    · 
     obtain⟨k,hk⟩:∃k:Nat,spN f=(k:Int):=⟨(spN f).toNat,by omega⟩
     rw [hk]
     refine cw_region (mv 1 rfl (wl_cmp rfl rfl rfl true (cb_ge_t (a:=k) (b:=0) rfl rfl (by omega)) (by decide) (ne_ (cw_true rfl ?_))))
     have L337:ln ((spM f)*((2^k:Nat):Int))≤19:=Nat.le_trans (ln_mul (show ln (spM f)≤1 from ln_sg (od_len f)) (ln_two (k:=k) rfl (by omega))) (by decide)
     refine cw_draw mix 4 [] [Is (.agg #[.bool true,.slice A8 n8 c8]),Is (.int .i64 ((k:Nat):Int)),ZR w.heap.size (((2^k:Nat):Int)),ZR w.heap.size ((spM f)*((2^k:Nat):Int))] [[],[],[1],[0,2]] [[],[],[1],[0,1,2],[0,1,2,3]] rfl
      (obs_cons rfl rfl (hob rfl rfl ?_) (obs_cons rfl rfl (hob rfl rfl ?_) (obs_cons rfl rfl (hob rfl rfl ?_) (obs_cons rfl rfl (hob rfl rfl ?_) obs_nil)))) ?_
     · 
      exact fun _ e340=>deps_nil (lo aggInt ((((((hb16.ext (e20.trans e26)).updN u33 (by omega)).ext (e36.trans e295)).updN u329 (by omega)).updN u334 (by omega)).ext e340) [.bool true,.slice A8 n8 c8] rfl rfl rfl (pi_done rfl (Ext.refl _) rfl))
     · 
      exact fun _ _=>deps_nil (mv 1 rfl (pi_done rfl (Ext.refl _) rfl))
     · 
      intro v343 e344
      have hw12:=hw11.trans e344
      refine dk rfl rfl (deps_nil (cl (vs:= [.int .i64 ((k:Nat):Int)]) hw12 (g_two (k:=k) (u:=2^k) hw12.size (by omega) rfl) rfl (by kernel_rfl) fun xr352 v350 r352 e351 hw13=>?_))
      obtain⟨s353,A353,n353,c353,rfl,z353⟩:=r352
      exact pi_done rfl e351 ⟨_,_,_,_,rfl,z353⟩
     · 
      intro v354 e355
      have hw12:=hw11.trans e355
      refine dk rfl rfl (deps_cons rfl rfl fun x361 y362 h363 e364 f365=>?_)
      obtain⟨s366,A366,n366,c366,rfl,z366⟩:=h363
      have z366:=z366.ext f365
      refine deps_nil ?_
      have L367:ln ((spM f)*((2^k:Nat):Int))≤19:=Nat.le_trans (ln_mul (show ln (spM f)≤1 from ln_sg (od_len f)) (ln_two (k:=k) rfl (by omega))) (by decide)
      refine cl (vs:= [.agg #[.bool true,.slice A8 n8 c8],.agg #[.bool s366,.slice A366 n366 c366]]) hw12 (g_zint_Mul hw12.size ((((((((z8.ext e11).updT hb12 u17).ext (e20.trans e26)).updT hb27 u33).ext (e36.trans e295)).updT hb313 u329).updT hb332 u334).ext e355).zi (z8.le (Nat.le_trans (show ln (spM f)≤1 from ln_sg (od_len f)) (by decide))) z366.zi (z366.le (Nat.le_trans (ln_two (k:=k) rfl (by omega)) (by decide)))) rfl (by kernel_rfl) fun xr370 v368 r370 e369 hw13=>?_
      obtain⟨s371,A371,n371,c371,rfl,z371⟩:=r370
      exact pi_done rfl e369 ⟨_,_,_,_,rfl,z371⟩
     · 
      intro v372 e373
      have hw12:=hw11.trans e373
      refine dk rfl rfl (dk rfl rfl (deps_cons rfl rfl fun x384 y385 h386 e387 f388=>?_))
      obtain⟨s389,A389,n389,c389,rfl,z389⟩:=h386
      have z389:=z389.ext f388
      refine deps_cons rfl rfl fun x390 y391 h392 e393 f394=>?_
      obtain⟨s395,A395,n395,c395,rfl,z395⟩:=h392
      have z395:=z395.ext f394
      refine deps_nil ?_
      have hb397:=((hb328.updN u334 (by omega)).ext e373)
      refine so aggInt hb397 [.bool s395,.slice A395 n395 c395] hw12 ge314 rfl rfl rfl rfl fun v396 hb398 u399 hw13=>(wl_nil (eo_np (eo_then (sr (lo aggInt hb398 [.bool s395,.slice A395 n395 c395] rfl rfl rfl (lo aggInt ((hb333.ext e373).updN u399 (by omega)) [.bool s306,.slice A306 n306 c306] rfl rfl rfl (cl (vs:= [.agg #[.bool s395,.slice A395 n395 c395],.agg #[.bool s306,.slice A306 n306 c306]]) hw13 (g_Ratio_e (z395.updT hb397 u399).zi (z395.le (lx_ L337 rfl)) ((((z306.updT hb313 u329).updT hb332 u334).ext e373).updT hb397 u399).zi (z306.le (Nat.le_trans (ln_two (k:=0) rfl (by decide)) (by decide))) (by decide) (ra_up hb hf hz hk)) rfl (by kernel_rfl) fun xr403 v401 r403 e402 hw14=>?_)))))))
      obtain⟨_,_,rfl,rfl,rfl⟩:=r403
      refine mv 1 rfl (pu (v:= .float .f64 f) rfl (by kernel_rfl) (pu (v:= .int .i64 0) rfl (by kernel_rfl) (mv 2 rfl (ne_ (cw_seq (sr (mv 1 rfl (wl_cmp rfl rfl rfl false (by decide) (by decide) (mv 2 rfl (cl (vs:= [.float .f64 f]) hw14 (g_bits_e (btB_self hz)) rfl (by kernel_rfl) fun xr407 v405 r407 e406 hw15=>?_))))))))))
      obtain rfl:=r407
      refine mv 1 rfl (wl_cmp rfl rfl rfl false (cb_ne_f (a:=f) (b:=f) rfl rfl (by omega)) (by decide) (pu (v:= .bool false) rfl (by kernel_rfl) (ne_ (cw_false rfl (cw_skip (eo_then (sr (lo aggInt (hb398.ext (e402.trans e406)) [.bool s395,.slice A395 n395 c395] rfl rfl rfl (lo aggInt (((hb333.ext e373).updN u399 (by omega)).ext (e402.trans e406)) [.bool s306,.slice A306 n306 c306] rfl rfl rfl ?_)))))))))
      have L408:ln ((((spM f)*((2^k:Nat):Int))).tdiv ((1:Nat):Int))≤19:=Nat.le_trans (ln_tdiv _ _) L337
      have L409:ln ((((spM f)*((2^k:Nat):Int))).tmod ((1:Nat):Int))≤19:=Nat.le_trans (ln_tmod _ _) L337
      refine cl (vs:= [.agg #[.bool s395,.slice A395 n395 c395],.agg #[.bool s306,.slice A306 n306 c306]]) hw15 (g_zint_Trunc hw15.size ((z395.updT hb397 u399).ext (e402.trans e406)).zi (z395.le (lx_ L337 rfl)) (((((z306.updT hb313 u329).updT hb332 u334).ext e373).updT hb397 u399).ext (e402.trans e406)).zi (z306.le (Nat.le_trans (ln_two (k:=0) rfl (by decide)) (by decide))) (by decide)) rfl (by kernel_rfl) fun xr412 v410 r412 e411 hw16=>?_
      obtain⟨_,_,_,rfl,⟨s414,A414,n414,c414,rfl,z414⟩,⟨s415,A415,n415,c415,rfl,z415⟩,rfl⟩:=r412
      refine mv 1 rfl (pu (v:= .agg #[.bool s414,.slice A414 n414 c414]) rfl (by kernel_rfl) (pu (v:= .agg #[.bool s415,.slice A415 n415 c415]) rfl (by kernel_rfl) (pu (v:= .int .i64 0) rfl (by kernel_rfl) (alq [F0,S0] hw16 (((hb333.ext e373).updN u399 (by omega)).ext (e402.trans (e406.trans e411))).lt (fun _=>by kernel_rfl) rfl fun g416 v417 hb419 ge420 q421 e418 hw17=>(alq [F0,S0] hw17 hb419.lt (fun _=>by kernel_rfl) rfl fun g422 v423 hb425 ge426 q427 e424 hw18=>?_)))))
      have hb429:=(hb419.ext e424)
      refine so aggInt hb429 [.bool s414,.slice A414 n414 c414] hw18 ge420 rfl rfl rfl rfl fun v428 hb430 u431 hw19=>?_
      have hb434:=(hb425.updN u431 (by omega))
      refine so aggInt hb434 [.bool s415,.slice A415 n415 c415] hw19 ge426 rfl rfl rfl rfl fun v433 hb435 u436 hw20=>(mv 1 rfl (ne_ (cw_seq (sr (mv 1 rfl (wl_cmp rfl rfl rfl false (by decide) (by decide) (mv 1 rfl (lo aggInt (hb430.updN u436 (by omega)) [.bool s414,.slice A414 n414 c414] rfl rfl rfl (lo aggInt ((((((((hb32.ext (e36.trans e295)).updN u329 (by omega)).updN u334 (by omega)).ext e373).updN u399 (by omega)).ext (e402.trans (e406.trans (e411.trans (e418.trans e424))))).updN u431 (by omega)).updN u436 (by omega)) [.bool s23,.slice A23 n23 c23] rfl rfl rfl (cl (vs:= [.agg #[.bool s414,.slice A414 n414 c414],.agg #[.bool s23,.slice A23 n23 c23]]) hw20 (g_zint_Cmp (((z414.ext (e418.trans e424)).updT hb429 u431).updT hb434 u436).zi (z414.le (lx_ L408 rfl)) ((((((((((z23.ext e26).updT hb27 u33).ext (e36.trans e295)).updT hb313 u329).updT hb332 u334).ext e373).updT hb397 u399).ext (e402.trans (e406.trans (e411.trans (e418.trans e424))))).updT hb429 u431).updT hb434 u436).zi (z23.le (Nat.le_trans (ln_whV hf) (by decide)))) rfl (by kernel_rfl) fun xr440 v438 r440 e439 hw21=>?_))))))))))
      obtain rfl:=r440
      refine wl_cmp rfl rfl rfl false (ne_f_ (scmp_zero.2 (td_up hk))) (by decide) (pu (v:= .bool false) rfl (by kernel_rfl) (ne_ (cw_false rfl (cw_skip (eo_then (sr (lo aggInt (((((((((hb32.ext (e36.trans e295)).updN u329 (by omega)).updN u334 (by omega)).ext e373).updN u399 (by omega)).ext (e402.trans (e406.trans (e411.trans (e418.trans e424))))).updN u431 (by omega)).updN u436 (by omega)).ext e439) [.bool s23,.slice A23 n23 c23] rfl rfl rfl (mv 1 rfl (cl (vs:= [.agg #[.bool s23,.slice A23 n23 c23],.float .f64 f]) hw21 (g_ACmp_e (((((((((((z23.ext e26).updT hb27 u33).ext (e36.trans e295)).updT hb313 u329).updT hb332 u334).ext e373).updT hb397 u399).ext (e402.trans (e406.trans (e411.trans (e418.trans e424))))).updT hb429 u431).updT hb434 u436).ext e439).zi (z23.le (Nat.le_trans (ln_whV hf) (by decide))) hb hf (scmp_zero.2 (fv_wh hk).symm)) rfl (by kernel_rfl) fun xr443 v441 r443 e442 hw22=>?_)))))))))
      obtain⟨_,_,rfl,rfl,rfl⟩:=r443
      refine mv 1 rfl (pu (v:= .int .i64 0) rfl (by kernel_rfl) (pu (v:= .int .i64 0) rfl (by kernel_rfl) (mv 2 rfl (ne_ (cw_seq (sr (mv 1 rfl (wl_cmp rfl rfl rfl false (by decide) (by decide) (mv 2 rfl (wl_cmp rfl rfl rfl true (by decide) (by decide) (mv 1 rfl (wl_cmp rfl rfl rfl true (cb_ge_t (a:=k) (b:=0) rfl rfl (by omega)) (by decide) (pu (v:= .bool false) rfl (by kernel_rfl) ?_)))))))))))))
      refine pu (v:= .bool false) rfl (by kernel_rfl) (mv 2 rfl (wl_cmp rfl rfl rfl false (cb_lt_f (a:=k) (b:=0) rfl rfl (by omega)) (by decide) (mv 6 rfl (pu (v:= .bool false) rfl (by kernel_rfl) (pu (v:= .bool false) rfl (by kernel_rfl) (ne_ (cw_false rfl (cw_skip (eo_then (sr (mv 1 rfl (wl_cmp rfl rfl rfl false (cb_lt_f (a:=k) (b:=0) rfl rfl (by omega)) (by decide) (mv 1 rfl ?_)))))))))))))
      refine lo aggInt (((((((((hb32.ext (e36.trans e295)).updN u329 (by omega)).updN u334 (by omega)).ext e373).updN u399 (by omega)).ext (e402.trans (e406.trans (e411.trans (e418.trans e424))))).updN u431 (by omega)).updN u436 (by omega)).ext (e439.trans e442)) [.bool s23,.slice A23 n23 c23] rfl rfl rfl (cl (vs:= [.agg #[.bool s23,.slice A23 n23 c23]]) hw22 (g_Near_e (nr_back hb hf hz hk) (((((((((((z23.ext e26).updT hb27 u33).ext (e36.trans e295)).updT hb313 u329).updT hb332 u334).ext e373).updT hb397 u399).ext (e402.trans (e406.trans (e411.trans (e418.trans e424))))).updT hb429 u431).updT hb434 u436).ext (e439.trans e442)).zi (z23.le (Nat.le_trans (ln_whV hf) (by decide)))) rfl (by kernel_rfl) fun xr447 v445 r447 e446 hw23=>?_)
      obtain rfl:=r447
      refine cl (vs:= [.float .f64 f]) hw23 (g_bits_e (btB_self hz)) rfl (by kernel_rfl) fun xr450 v448 r450 e449 hw24=>?_
      obtain rfl:=r450
      refine mv 1 rfl (wl_cmp rfl rfl rfl true (cb_eq_t (a:=f) (b:=f) rfl rfl (by omega)) (by decide) (pu (v:= .bool true) rfl (by kernel_rfl) (mv 1 rfl (ne_ (cw_ret (eo_ret [.bool true] rfl ⟨rfl,trivial⟩ ?_))))))
      exact⟨_,rfl,rfl,hw24⟩
    · 
     obtain⟨k,hk⟩:∃k:Nat,spN f= -(k:Int):=⟨(-spN f).toNat,by omega⟩
     rw [hk]
     refine cw_region (mv 1 rfl (wl_cmp rfl rfl rfl false (ge_f (by omega)) (by decide) (ne_ (cw_false rfl (cw_region (mv 1 rfl (wl_pureE rfl rfl (v:= .int .i64 (IntKind.i64.wrap (0- -((k:Nat):Int)))) (v':= .int .i64 ((k:Nat):Int)) (by decide) (by kernel_rfl) (cv_neg (by omega)) (cl (vs:= [.int .i64 ((k:Nat):Int)]) hw11 (g_two (k:=k) (u:=2^k) hw11.size (by omega) rfl) rfl (by kernel_rfl) fun xr453 v451 r453 e452 hw12=>?_))))))))
     obtain⟨s454,A454,n454,c454,rfl,z454⟩:=r453
     have hb456:=(hb333.ext e452)
     refine so aggInt hb456 [.bool s454,.slice A454 n454 c454] hw12 ge323 rfl rfl rfl rfl fun v455 hb457 u458 hw13=>(ne_ (sr (lo aggInt (((hb328.updN u334 (by omega)).ext e452).updN u458 (by omega)) [.bool true,.slice A8 n8 c8] rfl rfl rfl (lo aggInt hb457 [.bool s454,.slice A454 n454 c454] rfl rfl rfl (cl (vs:= [.agg #[.bool true,.slice A8 n8 c8],.agg #[.bool s454,.slice A454 n454 c454]]) hw13 (g_Ratio_e (((((((((z8.ext e11).updT hb12 u17).ext (e20.trans e26)).updT hb27 u33).ext (e36.trans e295)).updT hb313 u329).updT hb332 u334).ext e452).updT hb456 u458).zi (z8.le (Nat.le_trans (show ln (spM f)≤1 from ln_sg (od_len f)) (by decide))) (z454.updT hb456 u458).zi (z454.le (Nat.le_trans (ln_two (k:=k) rfl (by omega)) (by decide))) (Int.ne_of_gt (Int.natCast_pos.2 (Nat.two_pow_pos k))) (ra_dn hb hf hz hk)) rfl (by kernel_rfl) fun xr462 v460 r462 e461 hw14=>?_)))))
     obtain⟨_,_,rfl,rfl,rfl⟩:=r462
     refine mv 1 rfl (pu (v:= .float .f64 f) rfl (by kernel_rfl) (pu (v:= .int .i64 0) rfl (by kernel_rfl) (mv 2 rfl (ne_ (cw_seq (sr (mv 1 rfl (wl_cmp rfl rfl rfl false (by decide) (by decide) (mv 2 rfl (cl (vs:= [.float .f64 f]) hw14 (g_bits_e (btB_self hz)) rfl (by kernel_rfl) fun xr466 v464 r466 e465 hw15=>?_))))))))))
     obtain rfl:=r466
     refine mv 1 rfl (wl_cmp rfl rfl rfl false (cb_ne_f (a:=f) (b:=f) rfl rfl (by omega)) (by decide) (pu (v:= .bool false) rfl (by kernel_rfl) (ne_ (cw_false rfl (cw_skip (eo_then (sr (lo aggInt ((((hb328.updN u334 (by omega)).ext e452).updN u458 (by omega)).ext (e461.trans e465)) [.bool true,.slice A8 n8 c8] rfl rfl rfl (lo aggInt (hb457.ext (e461.trans e465)) [.bool s454,.slice A454 n454 c454] rfl rfl rfl ?_)))))))))
     have L467:ln (((spM f)).tdiv ((2^k:Nat):Int))≤1:=Nat.le_trans (ln_tdiv _ _) (show ln (spM f)≤1 from ln_sg (od_len f))
     have L468:ln (((spM f)).tmod ((2^k:Nat):Int))≤1:=Nat.le_trans (ln_tmod _ _) (show ln (spM f)≤1 from ln_sg (od_len f))
     refine cl (vs:= [.agg #[.bool true,.slice A8 n8 c8],.agg #[.bool s454,.slice A454 n454 c454]]) hw15 (g_zint_Trunc hw15.size ((((((((((z8.ext e11).updT hb12 u17).ext (e20.trans e26)).updT hb27 u33).ext (e36.trans e295)).updT hb313 u329).updT hb332 u334).ext e452).updT hb456 u458).ext (e461.trans e465)).zi (z8.le (Nat.le_trans (show ln (spM f)≤1 from ln_sg (od_len f)) (by decide))) ((z454.updT hb456 u458).ext (e461.trans e465)).zi (z454.le (Nat.le_trans (ln_two (k:=k) rfl (by omega)) (by decide))) (Int.ne_of_gt (Int.natCast_pos.2 (Nat.two_pow_pos k)))) rfl (by kernel_rfl) fun xr471 v469 r471 e470 hw16=>?_
     obtain⟨_,_,_,rfl,⟨s473,A473,n473,c473,rfl,z473⟩,⟨s474,A474,n474,c474,rfl,z474⟩,rfl⟩:=r471
     refine mv 1 rfl (pu (v:= .agg #[.bool s473,.slice A473 n473 c473]) rfl (by kernel_rfl) (pu (v:= .agg #[.bool s474,.slice A474 n474 c474]) rfl (by kernel_rfl) (pu (v:= .int .i64 0) rfl (by kernel_rfl) (wl_alloc rfl (z:= .agg #[F0,S0]) (vs:= [F0,S0]) (fun _=>by kernel_rfl) rfl (by decide) fun g475 v476 nb=>?_))))
     have hb478:=nb.bk
     have ge479:w.heap.size≤g475:=by rw [←nb.at_];exact hw16.size
     have q480:g312<g475:=by rw [←nb.at_];exact ((((hb328.updN u334 (by omega)).ext e452).updN u458 (by omega)).ext (e461.trans (e465.trans e470))).lt
     have q481:g321<g475:=by rw [←nb.at_];exact (hb457.ext (e461.trans (e465.trans e470))).lt
     have e477:=nb.ext
     clear nb
     have hw17:=hw16.trans e477
     refine alq [F0,S0] hw17 hb478.lt (fun _=>by kernel_rfl) rfl fun g482 v483 hb485 ge486 q487 e484 hw18=>?_
     have hb489:=(hb478.ext e484)
     refine so aggInt hb489 [.bool s473,.slice A473 n473 c473] hw18 ge479 rfl rfl rfl rfl fun v488 hb490 u491 hw19=>?_
     have hb494:=(hb485.updN u491 (by omega))
     refine so aggInt hb494 [.bool s474,.slice A474 n474 c474] hw19 ge486 rfl rfl rfl rfl fun v493 hb495 u496 hw20=>(mv 1 rfl (ne_ (cw_seq (sr (mv 1 rfl (wl_cmp rfl rfl rfl false (by decide) (by decide) (mv 1 rfl (lo aggInt (hb490.updN u496 (by omega)) [.bool s473,.slice A473 n473 c473] rfl rfl rfl (lo aggInt ((((((((hb32.ext (e36.trans e295)).updN u329 (by omega)).updN u334 (by omega)).ext e452).updN u458 (by omega)).ext (e461.trans (e465.trans (e470.trans (e477.trans e484))))).updN u491 (by omega)).updN u496 (by omega)) [.bool s23,.slice A23 n23 c23] rfl rfl rfl (cl (vs:= [.agg #[.bool s473,.slice A473 n473 c473],.agg #[.bool s23,.slice A23 n23 c23]]) hw20 (g_zint_Cmp (((z473.ext (e477.trans e484)).updT hb489 u491).updT hb494 u496).zi (z473.le (lx_ L467 rfl)) ((((((((((z23.ext e26).updT hb27 u33).ext (e36.trans e295)).updT hb313 u329).updT hb332 u334).ext e452).updT hb456 u458).ext (e461.trans (e465.trans (e470.trans (e477.trans e484))))).updT hb489 u491).updT hb494 u496).zi (z23.le (Nat.le_trans (ln_whV hf) (by decide)))) rfl (by kernel_rfl) fun xr500 v498 r500 e499 hw21=>?_))))))))))
     obtain rfl:=r500
     refine wl_cmp rfl rfl rfl false (ne_f_ (scmp_zero.2 (td_dn hk))) (by decide) (pu (v:= .bool false) rfl (by kernel_rfl) (ne_ (cw_false rfl (cw_skip (eo_then (sr (lo aggInt (((((((((hb32.ext (e36.trans e295)).updN u329 (by omega)).updN u334 (by omega)).ext e452).updN u458 (by omega)).ext (e461.trans (e465.trans (e470.trans (e477.trans e484))))).updN u491 (by omega)).updN u496 (by omega)).ext e499) [.bool s23,.slice A23 n23 c23] rfl rfl rfl (mv 1 rfl (cl (vs:= [.agg #[.bool s23,.slice A23 n23 c23],.float .f64 f]) hw21 (g_ACmp_e (((((((((((z23.ext e26).updT hb27 u33).ext (e36.trans e295)).updT hb313 u329).updT hb332 u334).ext e452).updT hb456 u458).ext (e461.trans (e465.trans (e470.trans (e477.trans e484))))).updT hb489 u491).updT hb494 u496).ext e499).zi (z23.le (Nat.le_trans (ln_whV hf) (by decide))) hb hf (cmp_dn2 hp0 hk (by omega))) rfl (by kernel_rfl) fun xr503 v501 r503 e502 hw22=>?_)))))))))
     obtain⟨_,_,rfl,rfl,rfl⟩:=r503
     refine mv 1 rfl (pu (v:= .int .i64 (-(scmp (spM f) 0))) rfl (by kernel_rfl) (pu (v:= .int .i64 0) rfl (by kernel_rfl) (mv 2 rfl (ne_ (cw_seq (sr (mv 1 rfl (wl_cmp rfl rfl rfl false (by decide) (by decide) (mv 2 rfl (wl_cmp rfl rfl rfl false (eq_f (by have:=scmp_zero (x:=spM f) (y:=0);have:=spM_ne hp0;omega)) (by decide) (mv 1 rfl (wl_cmp rfl rfl rfl false (ge_f (by omega)) (by decide) (pu (v:= .bool false) rfl (by kernel_rfl) ?_)))))))))))))
     refine pu (v:= .bool false) rfl (by kernel_rfl) (mv 2 rfl (wl_cmp rfl rfl rfl true (lt_t (by omega)) (by decide) (mv 2 rfl (lo aggInt (((((((((((hb16.ext (e20.trans e26)).updN u33 (by omega)).ext (e36.trans e295)).updN u329 (by omega)).updN u334 (by omega)).ext e452).updN u458 (by omega)).ext (e461.trans (e465.trans (e470.trans (e477.trans e484))))).updN u491 (by omega)).updN u496 (by omega)).ext (e499.trans e502)) [.bool true,.slice A8 n8 c8] rfl rfl rfl (cl (vs:= [.agg #[.bool true,.slice A8 n8 c8]]) hw22 (g_zint_Sign (((((((((((((z8.ext e11).updT hb12 u17).ext (e20.trans e26)).updT hb27 u33).ext (e36.trans e295)).updT hb313 u329).updT hb332 u334).ext e452).updT hb456 u458).ext (e461.trans (e465.trans (e470.trans (e477.trans e484))))).updT hb489 u491).updT hb494 u496).ext (e499.trans e502)).zi (z8.le (Nat.le_trans (show ln (spM f)≤1 from ln_sg (od_len f)) (by decide)))) rfl (by kernel_rfl) fun xr507 v505 r507 e506 hw23=>?_)))))
     obtain rfl:=r507
     refine wl_pureE rfl rfl (v:= .int .i64 (IntKind.i64.wrap (0-scmp (spM f) 0))) (v':= .int .i64 (-(scmp (spM f) 0))) (by decide) (by kernel_rfl) (cv_negs _ _) (wl_cmp rfl rfl rfl false neF (by decide) (pu (v:= .bool false) rfl (by kernel_rfl) (pu (v:= .bool false) rfl (by kernel_rfl) (ne_ (cw_false rfl (cw_skip (eo_then (sr (mv 1 rfl (wl_cmp rfl rfl rfl true (lt_t (by omega)) (by decide) (mv 6 rfl (pu (v:= .bool true) rfl (by kernel_rfl) (mv 1 rfl ?_)))))))))))))
     refine ne_ (cw_ret (eo_ret [.bool true] rfl ⟨rfl,trivial⟩ ?_))
     exact⟨_,rfl,rfl,hw23⟩
set_option maxHeartbeats 8000000 in
theorem law_ApproxBack_bad {w:World}{f:Nat}(hb:f<18446744073709551616) (hf:¬fin f):
    Calls Try.prog 6 #[.int .u64 ((f:Nat):Int)] w (Gv w (Is (.bool true))):=by
 refine sx_enter Try.func6 rfl (n:=161) rfl (bq rfl) (args:= [.int .u64 ((f:Nat):Int)]) (cw_keep [(0,.int .u64 ((f:Nat):Int))] ⟨rfl,trivial⟩ (sr (mv 1 rfl (ne_ (cw_seq (sr (wl_call rfl rfl (vs:= []) (by kernel_rfl) (by decide) g_awake7 ?_)))))))
 rintro _ v1 ⟨xr3,rfl,r3,e2⟩
 refine ret_intro ?_
 have hw1:=(Ext.refl w).trans e2
 obtain rfl:=r3
 refine pu (v:= .bool false) rfl (by kernel_rfl) (ne_ (cw_false rfl (cw_skip (eo_then (sr (mv 1 rfl (pu (v:= .float .f64 f) rfl (by kernel_rfl) (mv 1 rfl (ne_ (sr (mv 1 rfl (cl (vs:= [.float .f64 f]) hw1 (g_Split_bad hw1.size hb hf) rfl (by kernel_rfl) fun xr6 v4 r6 e5 hw2=>?_))))))))))))
 obtain⟨_,_,_,rfl,⟨s8,A8,n8,c8,rfl,z8⟩,rfl,rfl⟩:=r6
 refine mv 1 rfl (pu (v:= .agg #[.bool s8,.slice A8 n8 c8]) rfl (by kernel_rfl) (pu (v:= .int .i64 0) rfl (by kernel_rfl) (pu (v:= .int .i64 3) rfl (by kernel_rfl) (al [F0,S0] hw2 (fun _=>by kernel_rfl) rfl fun g9 v10 hb12 ge13 e11 hw3=>(so aggInt hb12 [.bool s8,.slice A8 n8 c8] hw3 ge13 rfl rfl rfl rfl fun v14 hb16 u17 hw4=>(mv 2 rfl (ne_ (sr (mv 1 rfl (cl (vs:= [.float .f64 f]) hw4 (g_Whole_bad hw4.size hb hf) rfl (by kernel_rfl) fun xr21 v19 r21 e20 hw5=>?_))))))))))
 obtain⟨_,_,rfl,⟨s23,A23,n23,c23,rfl,z23⟩,rfl⟩:=r21
 refine mv 1 rfl (pu (v:= .agg #[.bool s23,.slice A23 n23 c23]) rfl (by kernel_rfl) (pu (v:= .int .i64 3) rfl (by kernel_rfl) (alq [F0,S0] hw5 (hb16.ext e20).lt (fun _=>by kernel_rfl) rfl fun g24 v25 hb27 ge28 q29 e26 hw6=>(so aggInt hb27 [.bool s23,.slice A23 n23 c23] hw6 ge28 rfl rfl rfl rfl fun v30 hb32 u33 hw7=>(mv 1 rfl (ne_ (cw_seq (sr (mv 1 rfl (cl (vs:= [.float .f64 f]) hw7 (g_finite_bad hf) rfl (by kernel_rfl) fun xr37 v35 r37 e36 hw8=>?_))))))))))
 obtain rfl:=r37
 refine pu (v:= .bool true) rfl (by kernel_rfl) (ne_ (cw_true rfl (sr (mv 1 rfl (wl_cmp rfl rfl rfl true (by decide) (by decide) (mv 2 rfl (wl_cmp rfl rfl rfl true (by decide) (by decide) (pu (v:= .bool true) rfl (by kernel_rfl) (mv 1 rfl (ne_ (cw_ret (eo_thenR (eo_ret [.bool true] rfl ⟨rfl,trivial⟩ ?_)))))))))))))
 exact⟨_,rfl,rfl,hw8⟩
theorem law_ApproxBack7 {w:World}{f:Nat}(h:f≤18446744073709551615):Calls Try.prog 6 #[.int .u64 ((f:Nat):Int)] w (BoolP true w):=by
 by_cases hf:fin f
 ·exact (law_ApproxBack (by omega) hf).mono fun e w' h=>gv_bool7b _ _ h
 ·exact (law_ApproxBack_bad (by omega) hf).mono fun e w' h=>gv_bool7b _ _ h
end Go.Proofs.Ytgilhcdglaneiaa
