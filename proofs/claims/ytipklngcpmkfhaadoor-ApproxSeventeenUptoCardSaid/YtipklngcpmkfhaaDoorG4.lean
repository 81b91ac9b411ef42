/- Parts Apb, Fl2, Apc, Atq, Root, Lw7, Lw7t, Lw7u, Lw7v, Nr17, Lw7w, joined. -/
import Derived.Test.YtipklngcpmkfhaaDoorG3

namespace Go.Proofs.YtipklngcpmkfhaaDoor
open Go.RowKit
set_option maxHeartbeats 4000000 in
theorem g_parts {w:World}{f:Nat}(hb:f<18446744073709551616) (hf:fin f):
    Calls Tryd.prog 85 #[.float .f64 f] w (Gv w (Is (.tuple #[.bool (sgnb f),.int .u64 ((pm f:Nat):Int),.int .i64 ((pe f:Int)+ -1074),.bool true]))):=by
 have hfd:=fin_fld.1 hf
 refine sx_enter Tryd.func85 rfl (n:=30) rfl (bq rfl) (args:= [.float .f64 f]) (cw_keep [(0,.float .f64 f)] ⟨rfl,trivial⟩ (sr (mv 4 rfl (ne_ (sr (mv 1 rfl (pu (v:= .int .u64 ((f:Nat):Int)) rfl (by kernel_rfl) (mv 1 rfl (ne_ (sr (mv 1 rfl (wl_op rfl rfl rfl (r:= .int .u64 ((f/4503599627370496:Nat):Int)) rfl (fun w=>u64_shr52 (x:=f) _ _ w) (by decide) (wl_op rfl rfl rfl (r:= .int .u64 (((f/4503599627370496)%2048:Nat):Int)) rfl (fun w=>u64_field (x:=f/4503599627370496) (by omega) _ _ w) (by decide) ?_)))))))))))))
 refine wl_pureE rfl rfl (v:= .int .i64 (IntKind.i64.wrap (((f/4503599627370496)%2048:Nat):Int))) (v':= .int .i64 (((f/4503599627370496)%2048:Nat):Int)) (by decide) (by kernel_rfl) (cv_i64 (by first | omega | exact (by omega))) (mv 1 rfl (ne_ (sr (mv 1 rfl (wl_op rfl rfl rfl (r:= .int .u64 ((f%4503599627370496:Nat):Int)) rfl (fun w=>u64_frac (x:=f) (by omega) _ _ w) (by decide) (mv 1 rfl (ne_ (cw_seq (cw_seq ?_)))))))))
 have hfl:f/4503599627370496%2048=fld f:=rfl
 have hfle:=fld_le f
 refine cw_region (mv 1 rfl (wl_cmp rfl rfl rfl false (cb_eq_f (a:=(f/4503599627370496)%2048) (b:=2047) rfl rfl (by omega)) (by decide) (ne_ (cw_false rfl (cw_skip (eo_then (cw_seq (cw_seq ?_))))))))
 by_cases hf0:(f/4503599627370496)%2048>0
 · 
  refine cw_region (mv 1 rfl (wl_cmp rfl rfl rfl true (cb_gt_t (a:=(f/4503599627370496)%2048) (b:=0) rfl rfl (by omega)) (by decide) (ne_ (cw_true rfl (sr (mv 1 rfl (wl_op rfl rfl rfl (r:= .int .u64 (((f%4503599627370496)+4503599627370496:Nat):Int)) rfl (fun w=>u64_or52 (x:=f%4503599627370496) (by omega) _ _ w) (by decide) (mv 1 rfl (ne_ (cw_region (mv 1 rfl (wl_ar rfl rfl rfl ((((f/4503599627370496)%2048)-1:Nat):Int) (ai_sub (a:=(f/4503599627370496)%2048) (b:=1) rfl rfl (by omega) (by omega)) (by decide) (mv 1 rfl ?_)))))))))))))
  refine ne_ (sr (mv 1 rfl (wl_op rfl rfl rfl (r:= .int .u64 ((f/9223372036854775808:Nat):Int)) rfl (fun w=>u64_shr63 (x:=f) _ _ w) (by decide) (wl_cmp rfl rfl rfl (sgnb f) (cb_sgn f) (by decide) (mv 2 rfl (wl_ar rfl rfl rfl (((((f/4503599627370496)%2048)-1:Nat):Int)+ -1074) (ar_i64 rfl (by omega) (by omega)) (by decide) (mv 4 rfl (ne_ (cw_ret (eo_ret [.bool (sgnb f),.int .u64 (((f%4503599627370496)+4503599627370496:Nat):Int),.int .i64 (((((f/4503599627370496)%2048)-1:Nat):Int)+ -1074),.bool true] rfl ⟨rfl,rfl,rfl,rfl,trivial⟩ ?_))))))))))
  have em:pm f=(f%4503599627370496)+4503599627370496:=by unfold pm;rw [if_neg (by omega)]
  have ee:((pe f:Nat):Int)=((((f/4503599627370496)%2048)-1:Nat):Int):=by unfold pe;omega
  rw [em,ee]
  exact⟨_,rfl,rfl,(Ext.refl w)⟩
 · 
  refine cw_region (mv 1 rfl (wl_cmp rfl rfl rfl false (cb_gt_f (a:=(f/4503599627370496)%2048) (b:=0) rfl rfl (by omega)) (by decide) (ne_ (cw_false rfl (cw_skip (eo_then (sr (mv 1 rfl (wl_op rfl rfl rfl (r:= .int .u64 ((f/9223372036854775808:Nat):Int)) rfl (fun w=>u64_shr63 (x:=f) _ _ w) (by decide) (wl_cmp rfl rfl rfl (sgnb f) (cb_sgn f) (by decide) (mv 2 rfl (wl_ar rfl rfl rfl ((((f/4503599627370496)%2048:Nat):Int)+ -1074) (ar_i64 rfl (by omega) (by omega)) (by decide) (mv 1 rfl ?_)))))))))))))
  refine mv 3 rfl (ne_ (cw_ret (eo_ret [.bool (sgnb f),.int .u64 ((f%4503599627370496:Nat):Int),.int .i64 ((((f/4503599627370496)%2048:Nat):Int)+ -1074),.bool true] rfl ⟨rfl,rfl,rfl,rfl,trivial⟩ ?_)))
  have em:pm f=f%4503599627370496:=by unfold pm;rw [if_pos (by omega)]
  have ee:((pe f:Nat):Int)=(((f/4503599627370496)%2048:Nat):Int):=by unfold pe;omega
  rw [em,ee]
  exact⟨_,rfl,rfl,(Ext.refl w)⟩
set_option maxHeartbeats 4000000 in
theorem g_parts_bad {w:World}{f:Nat}(hb:f<18446744073709551616) (hf:¬fin f):
    Calls Tryd.prog 85 #[.float .f64 f] w (Gv w (Is (.tuple #[.bool false,.int .u64 0,.int .i64 0,.bool false]))):=by
 have hfd:=Classical.not_not.1 (fun h=>hf (fin_fld.2 h))
 refine sx_enter Tryd.func85 rfl (n:=30) rfl (bq rfl) (args:= [.float .f64 f]) (cw_keep [(0,.float .f64 f)] ⟨rfl,trivial⟩ (sr (mv 4 rfl (ne_ (sr (mv 1 rfl (pu (v:= .int .u64 ((f:Nat):Int)) rfl (by kernel_rfl) (mv 1 rfl (ne_ (sr (mv 1 rfl (wl_op rfl rfl rfl (r:= .int .u64 ((f/4503599627370496:Nat):Int)) rfl (fun w=>u64_shr52 (x:=f) _ _ w) (by decide) (wl_op rfl rfl rfl (r:= .int .u64 (((f/4503599627370496)%2048:Nat):Int)) rfl (fun w=>u64_field (x:=f/4503599627370496) (by omega) _ _ w) (by decide) ?_)))))))))))))
 refine wl_pureE rfl rfl (v:= .int .i64 (IntKind.i64.wrap (((f/4503599627370496)%2048:Nat):Int))) (v':= .int .i64 (((f/4503599627370496)%2048:Nat):Int)) (by decide) (by kernel_rfl) (cv_i64 (by first | omega | exact (by omega))) (mv 1 rfl (ne_ (sr (mv 1 rfl (wl_op rfl rfl rfl (r:= .int .u64 ((f%4503599627370496:Nat):Int)) rfl (fun w=>u64_frac (x:=f) (by omega) _ _ w) (by decide) (mv 1 rfl (ne_ (cw_seq (cw_seq ?_)))))))))
 have hfl:f/4503599627370496%2048=fld f:=rfl
 have hfle:=fld_le f
 refine cw_region (mv 1 rfl (wl_cmp rfl rfl rfl true (cb_eq_t (a:=(f/4503599627370496)%2048) (b:=2047) rfl rfl (by omega)) (by decide) (ne_ (cw_true rfl (sr (mv 4 rfl (ne_ (cw_ret (eo_thenR (eo_ret [F0,.int .u64 0,I0,F0] rfl ⟨rfl,rfl,rfl,rfl,trivial⟩ ?_))))))))))
 exact⟨_,rfl,rfl,(Ext.refl w)⟩
theorem half_step {m w j:Nat}(h:m=w*2^j) (he:w%2=0):m=w/2*2^(j+1):=by
 rw [h,Nat.pow_succ,Nat.mul_comm (2^j),←Nat.mul_assoc]
 congr 1;have:=e74_eq;omega
theorem half_bd {m w j:Nat}(h:m=w*2^j) (h0:w≠0) (hm:m<9007199254740992):j≤53:=by
 have h1:2^j≤m:=by rw [h];exact Nat.le_mul_of_pos_left _ (by omega)
 have h2:2^j<2^53:=Nat.lt_of_le_of_lt h1 hm
 have:=(Nat.pow_lt_pow_iff_right (a:=2) (by omega)).1 h2
 omega
theorem od_len (f:Nat):(wd (od (pm f))).length≤1:=len_wd_le (by have:=od_lt f;rw [WB_def,Nat.pow_one];omega)
set_option maxHeartbeats 4000000 in
theorem g_Split {w:World}{b f:Nat}(hb0:b≤w.heap.size) (hb:f<18446744073709551616) (hf:fin f):
    Calls Tryd.prog 62 #[.float .f64 f] w (Gv w (T3 (ZR b (spM f)) (Is (.int .i64 (spN f))) (Is (.int .i64 0)))):=by
 refine sx_enter Tryd.func62 rfl (n:=34) rfl (bq rfl) (args:= [.float .f64 f]) (cw_keep [(0,.float .f64 f)] ⟨rfl,trivial⟩ (sr (al [F0,S0] (Ext.refl w) (fun _=>by kernel_rfl) rfl fun g1 v2 hb4 ge5 e3 hw1=>(mv 2 rfl (ne_ (sr (mv 1 rfl (cl (vs:= [.float .f64 f]) hw1 (g_parts hb hf) rfl (by kernel_rfl) fun xr8 v6 r8 e7 hw2=>?_))))))))
 obtain rfl:=r8
 refine mv 1 rfl (pu (v:= .bool (sgnb f)) rfl (by kernel_rfl) (pu (v:= .int .u64 ((pm f:Nat):Int)) rfl (by kernel_rfl) (pu (v:= .int .i64 ((pe f:Int)+ -1074)) rfl (by kernel_rfl) (pu (v:= .bool true) rfl (by kernel_rfl) (mv 4 rfl (ne_ (cw_seq (sr (mv 1 rfl (pu (v:= .bool false) rfl (by kernel_rfl) (ne_ (cw_false rfl (cw_skip ?_)))))))))))))
 refine eo_then (cw_seq (cw_seq ?_))
 have hpl:=pm_lt f
 have hpe:=pe_le hf
 by_cases hp0:pm f=0
 · 
  refine cw_region (mv 1 rfl (wl_cmp rfl rfl rfl true (cb_eq_t (a:=pm f) (b:=0) rfl rfl (by omega)) (by decide) (ne_ (cw_true rfl (sr (pu (v:= .agg #[F0,S0]) rfl (by kernel_rfl) ?_))))))
  have hb10:=(hb4.ext e7)
  refine so aggInt hb10 [F0,S0] hw2 ge5 rfl rfl rfl rfl fun v9 hb11 u12 hw3=>(mv 2 rfl (ne_ (cw_ret (eo_thenR (eo_ret [.agg #[F0,S0],I0,I0] rfl ⟨⟨_,rfl,load_agg aggInt hb11 [F0,S0] rfl (bq rfl) rfl⟩,rfl,rfl,trivial⟩ ?_)))))
  have e1:spM f=0:=by unfold spM;rw [hp0,od_zero,sg_z0]
  have e2:spN f=0:=by unfold spN;rw [if_pos hp0]
  rw [e1,e2]
  exact⟨_,rfl,⟨_,_,_,rfl,⟨_,_,_,_,rfl,Zr.zero⟩,rfl,rfl⟩,hw3⟩
 · 
  refine cw_region (mv 1 rfl (wl_cmp rfl rfl rfl false (cb_eq_f (a:=pm f) (b:=0) rfl rfl (by omega)) (by decide) (ne_ (cw_false rfl (cw_skip (eo_then (cw_seq (cw_block ?_))))))))
  refine cw_loop (T:=World×Nat×Nat×Int)
   (fun⟨wr,ww,j,kk⟩=> [(2,.pointer (some ⟨g1,0,none⟩)),(5,.bool (sgnb f)),(6,.int .u64 ((ww:Nat):Int)),(7,.int .i64 kk)])
   (fun⟨wr,ww,j,kk⟩=>wr)
   (fun⟨wr,ww,j,kk⟩=>(Ext w wr)∧(Bk wr g1 24 [F0,S0])∧(pm f=ww*2^j)∧(kk=(pe f:Int)+ -1074+(j:Int)))
   (fun⟨wr,ww,j,kk⟩=>ww)
   (⟨v6,_,0,_⟩:World×Nat×Nat×Int) ⟨hw2,(hb4.ext e7),(by rw [Nat.pow_zero,Nat.mul_one]),(by omega)⟩ rfl ⟨rfl,rfl,rfl,rfl,trivial⟩ ?_
  rintro⟨wr,ww,j,kk⟩ ⟨hw1,hB,hmw,hkk⟩
  refine cw_re [(2,.pointer (some ⟨g1,0,none⟩)),(5,.bool (sgnb f)),(6,.int .u64 ((ww:Nat):Int)),(7,.int .i64 kk)] wr rfl ⟨rfl,rfl,rfl,rfl,trivial⟩ (cw_seq (cw_seq ?_))
  have hww:ww≠0:=fun e=>by rw [e,Nat.zero_mul] at hmw;omega
  have hwl:ww≤pm f:=by rw [hmw];exact Nat.le_mul_of_pos_right _ (Nat.two_pow_pos j)
  by_cases hev:ww%2=0
  · 
   refine cw_region (mv 1 rfl (wl_op rfl rfl rfl (r:= .int .u64 ((ww%2:Nat):Int)) rfl (fun w=>u64_and1 (x:=ww) (by first | omega | exact (by omega)) _ _ w) (by decide) (wl_cmp rfl rfl rfl true (cb_eq_t (a:=ww%2) (b:=0) rfl rfl (by omega)) (by decide) (ne_ (cw_true rfl (cw_skip (eo_then (cw_block (sr (mv 1 rfl (wl_op rfl rfl rfl (r:= .int .u64 ((ww/2:Nat):Int)) rfl (fun w=>u64_shr_1 (x:=ww) _ _ w) (by decide) (mv 1 rfl (wl_nil ?_)))))))))))))
   refine eo_then ?_
   have hj53:tz (pm f)≤53:=(od_split hp0 hpl).2.2
   have hjb:=half_bd hmw hww hpl
   refine cw_region (mv 1 rfl (wl_ar rfl rfl rfl (kk+1) (ar_i64 rfl (by omega) (by omega)) (by decide) (mv 1 rfl (wl_nil (eo_block_normal (eo_round (⟨wr,_,j+1,_⟩:World×Nat×Nat×Int) ⟨hw1,hB,(half_step hmw hev),(by omega)⟩ (show ww/2<ww by omega) rfl ⟨rfl,rfl,rfl,rfl,trivial⟩))))))
  · 
   obtain⟨htz,hod⟩:=tz_eq hmw (by omega) hpl
   refine cw_region (mv 1 rfl (wl_op rfl rfl rfl (r:= .int .u64 ((ww%2:Nat):Int)) rfl (fun w=>u64_and1 (x:=ww) (by first | omega | exact (by omega)) _ _ w) (by decide) (wl_cmp rfl rfl rfl false (cb_eq_f (a:=ww%2) (b:=0) rfl rfl (by omega)) (by decide) (ne_ (cw_false rfl (cw_exit (eo_thenX (eo_loopX (eo_block_here (eo_then (sr (mv 2 rfl (wl_bslice rfl rfl (by decide) (k:=1) (e:=50) [.int .u64 ((ww:Nat):Int)] (fun _=>by kernel_rfl) fun g14 v15 nb16=>?_)))))))))))))
   have o17:=O1.mk_ (x:=ww) (b:=w.heap.size) nb16 hw1.size
   have e18:=nb16.ext
   have hw2:=hw1.trans e18
   have o20:=own1_wd o17 (show ww≤18446744073709551615 by omega) hww
   have j19:=len1 (show ww≤18446744073709551615 by omega) hww
   have z21:=Zr_sg (sgnb f) hww j19 o20
   refine pu (v:= .agg #[.bool (sgnb f),.slice (some ⟨g14,0,none⟩) 1 1]) rfl (by kernel_rfl) (mv 1 rfl ?_)
   have hb23:=(hB.ext e18)
   refine so aggInt hb23 [.bool (sgnb f),.slice (some ⟨g14,0,none⟩) 1 1] hw2 ge5 rfl rfl rfl rfl fun v22 hb24 u25 hw3=>(mv 2 rfl (ne_ (cw_ret (eo_ret [.agg #[.bool (sgnb f),.slice (some ⟨g14,0,none⟩) 1 1],.int .i64 kk,I0] rfl ⟨⟨_,rfl,load_agg aggInt hb24 [.bool (sgnb f),.slice (some ⟨g14,0,none⟩) 1 1] rfl (bq rfl) rfl⟩,rfl,rfl,trivial⟩ ?_))))
   have e1:spM f=sg (sgnb f) ww:=by unfold spM;rw [hod]
   have e2:spN f=kk:=by unfold spN;rw [if_neg hp0,htz,hkk]
   rw [e1,e2]
   exact⟨_,rfl,⟨_,_,_,rfl,⟨_,_,_,_,rfl,((z21.updT hb23 u25)).mono hb0⟩,rfl,rfl⟩,hw3⟩
set_option maxHeartbeats 4000000 in
theorem g_Split_bad {w:World}{b f:Nat}(hb0:b≤w.heap.size) (hb:f<18446744073709551616) (hf:¬fin f):
    Calls Tryd.prog 62 #[.float .f64 f] w (Gv w (T3 (ZR b 0) (Is (.int .i64 0)) (Is (.int .i64 3)))):=by
 refine sx_enter Tryd.func62 rfl (n:=34) rfl (bq rfl) (args:= [.float .f64 f]) (cw_keep [(0,.float .f64 f)] ⟨rfl,trivial⟩ (sr (al [F0,S0] (Ext.refl w) (fun _=>by kernel_rfl) rfl fun g1 v2 hb4 ge5 e3 hw1=>(mv 2 rfl (ne_ (sr (mv 1 rfl (cl (vs:= [.float .f64 f]) hw1 (g_parts_bad hb hf) rfl (by kernel_rfl) fun xr8 v6 r8 e7 hw2=>?_))))))))
 obtain rfl:=r8
 refine mv 1 rfl (pu (v:= .bool false) rfl (by kernel_rfl) (pu (v:= .int .u64 0) rfl (by kernel_rfl) (pu (v:= .int .i64 0) rfl (by kernel_rfl) (pu (v:= .bool false) rfl (by kernel_rfl) (mv 4 rfl (ne_ (cw_seq (sr (mv 1 rfl (pu (v:= .bool true) rfl (by kernel_rfl) (ne_ (cw_true rfl (cw_seq ?_)))))))))))))
 refine cw_region (pu (v:= .agg #[F0,S0]) rfl (by kernel_rfl) ?_)
 have hb10:=(hb4.ext e7)
 refine so aggInt hb10 [F0,S0] hw2 ge5 rfl rfl rfl rfl fun v9 hb11 u12 hw3=>(mv 2 rfl (ne_ (cw_ret (eo_thenR (eo_ret [.agg #[F0,S0],I0,.int .i64 3] rfl ⟨⟨_,rfl,load_agg aggInt hb11 [F0,S0] rfl (bq rfl) rfl⟩,rfl,rfl,trivial⟩ ?_)))))
 exact⟨_,rfl,⟨_,_,_,rfl,⟨_,_,_,_,rfl,Zr.zero⟩,rfl,rfl⟩,hw3⟩
theorem natAbs_sg (s:Bool) (m:Nat):Int.natAbs (sg s m)=m:=by
 cases s
 ·rw [sg_false];rfl
 ·rw [sg_true,Int.natAbs_neg];rfl
theorem sp_neg {w:World}{b n c f:Nat}{s:Bool}{A:Option Addr}(h:Zr w b s A n c (spM f)):sg s (od (pm f))=spM f∧(pm f≠0→s=sgnb f):=by
 obtain⟨hs,_,_⟩:=h
 unfold spM at hs⊢
 by_cases h0:od (pm f)=0
 ·refine⟨by rw [h0,sg_z0,sg_z0],fun hp=>?_⟩
  have:=(od_split hp (pm_lt f)).2.1
  omega
 ·have e:s=sgnb f:=by
   rw [hs]
   cases sgnb f
   ·rw [sg_false];exact decide_eq_false (by omega)
   ·rw [sg_true];exact decide_eq_true (by omega)
  exact⟨by rw [e],fun _=>e⟩
theorem wh_up {w:World}{b n c f k:Nat}{s:Bool}{A:Option Addr}(h:Zr w b s A n c (spM f)) (ha:Int.natAbs (spM f)=od (pm f)) (hk:spN f=(k:Int)):sg s (Int.natAbs (spM f)*2^k)=whV f:=by
 rw [ha,←whole_up hk]
 by_cases h0:pm f=0
 ·rw [h0,od_zero,Nat.zero_mul,sg_z0,sg_z0]
 ·rw [(sp_neg h).2 h0]
theorem wh_dn {w:World}{b n c f k:Nat}{s:Bool}{A:Option Addr}(h:Zr w b s A n c (spM f)) (ha:Int.natAbs (spM f)=od (pm f)) (hk:spN f= -(k:Int)):sg s (Int.natAbs (spM f)/2^k)=whV f:=by
 rw [ha,←whole_dn hk]
 by_cases h0:pm f=0
 ·rw [h0,od_zero,Nat.zero_div,sg_z0,sg_z0]
 ·rw [(sp_neg h).2 h0]
set_option maxHeartbeats 4000000 in
theorem g_Whole {w:World}{b f:Nat}(hb0:b≤w.heap.size) (hb:f<18446744073709551616) (hf:fin f):
    Calls Tryd.prog 33 #[.float .f64 f] w (Gv w (T2 (ZR b (whV f)) (Is (.int .i64 0)))):=by
 refine sx_enter Tryd.func33 rfl (n:=35) rfl (bq rfl) (args:= [.float .f64 f]) (cw_keep [(0,.float .f64 f)] ⟨rfl,trivial⟩ (sr (al [F0,S0] (Ext.refl w) (fun _=>by kernel_rfl) rfl fun g1 v2 hb4 ge5 e3 hw1=>(mv 1 rfl (ne_ (sr (mv 1 rfl (cl (vs:= [.float .f64 f]) hw1 (g_Split hw1.size hb hf) rfl (by kernel_rfl) fun xr8 v6 r8 e7 hw2=>?_))))))))
 obtain⟨_,_,_,rfl,⟨s10,A10,n10,c10,rfl,z10⟩,rfl,rfl⟩:=r8
 refine mv 1 rfl (pu (v:= .agg #[.bool s10,.slice A10 n10 c10]) rfl (by kernel_rfl) (pu (v:= .int .i64 (spN f)) rfl (by kernel_rfl) (pu (v:= .int .i64 0) rfl (by kernel_rfl) (alq [F0,S0] hw2 (hb4.ext e7).lt (fun _=>by kernel_rfl) rfl fun g11 v12 hb14 ge15 q16 e13 hw3=>(so aggInt hb14 [.bool s10,.slice A10 n10 c10] hw3 ge15 rfl rfl rfl rfl fun v17 hb19 u20 hw4=>?_)))))
 have zs22:=((z10.ext e13).updT hb14 u20)
 refine mv 2 rfl (ne_ (cw_seq (sr (mv 1 rfl (wl_cmp rfl rfl rfl false (by decide) (by decide) (ne_ (cw_false rfl (cw_skip (eo_then (cw_seq (cw_seq ?_)))))))))))
 have hab:Int.natAbs (spM f)=od (pm f):=by unfold spM;exact natAbs_sg _ _
 have hsb:=spN_bd hf
 by_cases hsp:0≤spN f
 · 
  obtain⟨k,hk⟩:∃k:Nat,spN f=(k:Int):=⟨(spN f).toNat,by omega⟩
  rw [hk]
  refine cw_region (mv 1 rfl (wl_cmp rfl rfl rfl true (cb_ge_t (a:=k) (b:=0) rfl rfl (by omega)) (by decide) (ne_ (cw_true rfl (cw_region (pf g11 1 rfl (by kernel_rfl) (wl_load rfl rfl (load_cell cellWords hb19 rfl) (by decide) (mv 1 rfl (cl (vs:= [.slice A10 n10 c10,.int .i64 ((k:Nat):Int)]) hw4 (g_shifted (b:=w.heap.size) hw4.size (by omega) ((z10.ext e13).updT hb14 u20).zi.wi (z10.le (Nat.le_trans (show ln (spM f)≤1 from ln_sg (od_len f)) (by decide)))) rfl (by kernel_rfl) fun xr25 v23 r25 e24 hw5=>?_)))))))))
  obtain⟨A26,n26,c26,rfl,j26,o26⟩:=r25
  refine pf g11 1 rfl (by kernel_rfl) ?_
  have hb29:=(hb19.ext e24)
  refine wl_stored1 rfl rfl rfl (fun _=>by kernel_rfl) rfl hb29 (bq rfl) rfl [.bool s10,.slice A26 n26 c26] rfl fun v27 hb28 u30 hs31=>?_
  have hw6:=u30.ext hw5 ge15
  refine ne_ (sr (lo aggInt hb28 [.bool s10,.slice A26 n26 c26] rfl rfl rfl (cl (vs:= [.agg #[.bool s10,.slice A26 n26 c26]]) hw6 (g_zint_Least hw6.size (((o26.updT hb29 (by decide) u30)).wi.zi s10) (Nat.le_trans (Nat.le_trans (Nat.le_of_eq j26) (len_shl (n:=1) (by rw [hab];exact od_len f) (by omega))) (by decide))) rfl (by kernel_rfl) fun xr34 v32 r34 e33 hw7=>?_)))
  obtain⟨s35,A35,n35,c35,rfl,z35⟩:=r34
  have hb37:=(((((hb4.ext (e7.trans e13)).updN u20 (by omega)).ext e24).updN u30 (by omega)).ext e33)
  refine so aggInt hb37 [.bool s35,.slice A35 n35 c35] hw7 ge5 rfl rfl rfl rfl fun v36 hb38 u39 hw8=>(mv 1 rfl (ne_ (cw_ret (eo_ret [.agg #[.bool s35,.slice A35 n35 c35],I0] rfl ⟨⟨_,rfl,load_agg aggInt hb38 [.bool s35,.slice A35 n35 c35] rfl (bq rfl) rfl⟩,rfl,trivial⟩ ?_))))
  skip
  exact⟨_,rfl,⟨_,_,rfl,⟨_,_,_,_,rfl,(((z35.updT hb37 u39)).cast ((wh_up zs22 hab hk))).mono hb0⟩,rfl⟩,hw8⟩
 · 
  obtain⟨k,hk⟩:∃k:Nat,spN f= -(k:Int):=⟨(-spN f).toNat,by omega⟩
  rw [hk]
  refine cw_region (mv 1 rfl (wl_cmp rfl rfl rfl false (ge_f (by omega)) (by decide) (ne_ (cw_false rfl (cw_region (pf g11 1 rfl (by kernel_rfl) (wl_load rfl rfl (load_cell cellWords hb19 rfl) (by decide) (mv 1 rfl (wl_pureE rfl rfl (v:= .int .i64 (IntKind.i64.wrap (0- -((k:Nat):Int)))) (v':= .int .i64 ((k:Nat):Int)) (by decide) (by kernel_rfl) (cv_neg (by omega)) (cl (vs:= [.slice A10 n10 c10,.int .i64 ((k:Nat):Int)]) hw4 (app_Shr hw4.size ((z10.ext e13).updT hb14 u20).zi.wi (z10.le (Nat.le_trans (show ln (spM f)≤1 from ln_sg (od_len f)) (by decide))) (by omega)) rfl (by kernel_rfl) fun xr43 v41 r43 e42 hw5=>?_))))))))))
  obtain⟨_,_,rfl,⟨A45,n45,c45,rfl,j45,o45⟩,rfl⟩:=r43
  refine mv 1 rfl (pu (v:= .slice A45 n45 c45) rfl (by kernel_rfl) (pu (v:= .int .i64 0) rfl (by kernel_rfl) (pf g11 1 rfl (by kernel_rfl) ?_)))
  have hb48:=(hb19.ext e42)
  refine wl_stored1 rfl rfl rfl (fun _=>by kernel_rfl) rfl hb48 (bq rfl) rfl [.bool s10,.slice A45 n45 c45] rfl fun v46 hb47 u49 hs50=>?_
  have hw6:=u49.ext hw5 ge15
  refine ne_ (sr (lo aggInt hb47 [.bool s10,.slice A45 n45 c45] rfl rfl rfl (cl (vs:= [.agg #[.bool s10,.slice A45 n45 c45]]) hw6 (g_zint_Least hw6.size (((o45.updT hb48 (by decide) u49)).wi.zi s10) (Nat.le_trans (Nat.le_trans (Nat.le_of_eq j45) (Nat.le_trans (len_wd_mono (Nat.div_le_self _ _)) (by rw [hab];exact od_len f))) (by decide))) rfl (by kernel_rfl) fun xr53 v51 r53 e52 hw7=>?_)))
  obtain⟨s54,A54,n54,c54,rfl,z54⟩:=r53
  have hb56:=(((((hb4.ext (e7.trans e13)).updN u20 (by omega)).ext e42).updN u49 (by omega)).ext e52)
  refine so aggInt hb56 [.bool s54,.slice A54 n54 c54] hw7 ge5 rfl rfl rfl rfl fun v55 hb57 u58 hw8=>(mv 1 rfl (ne_ (cw_ret (eo_ret [.agg #[.bool s54,.slice A54 n54 c54],I0] rfl ⟨⟨_,rfl,load_agg aggInt hb57 [.bool s54,.slice A54 n54 c54] rfl (bq rfl) rfl⟩,rfl,trivial⟩ ?_))))
  skip
  exact⟨_,rfl,⟨_,_,rfl,⟨_,_,_,_,rfl,(((z54.updT hb56 u58)).cast ((wh_dn zs22 hab hk))).mono hb0⟩,rfl⟩,hw8⟩
set_option maxHeartbeats 4000000 in
theorem g_Whole_bad {w:World}{b f:Nat}(hb0:b≤w.heap.size) (hb:f<18446744073709551616) (hf:¬fin f):
    Calls Tryd.prog 33 #[.float .f64 f] w (Gv w (T2 (ZR b 0) (Is (.int .i64 3)))):=by
 refine sx_enter Tryd.func33 rfl (n:=35) rfl (bq rfl) (args:= [.float .f64 f]) (cw_keep [(0,.float .f64 f)] ⟨rfl,trivial⟩ (sr (al [F0,S0] (Ext.refl w) (fun _=>by kernel_rfl) rfl fun g1 v2 hb4 ge5 e3 hw1=>(mv 1 rfl (ne_ (sr (mv 1 rfl (cl (vs:= [.float .f64 f]) hw1 (g_Split_bad hw1.size hb hf) rfl (by kernel_rfl) fun xr8 v6 r8 e7 hw2=>?_))))))))
 obtain⟨_,_,_,rfl,⟨s10,A10,n10,c10,rfl,z10⟩,rfl,rfl⟩:=r8
 refine mv 1 rfl (pu (v:= .agg #[.bool s10,.slice A10 n10 c10]) rfl (by kernel_rfl) (pu (v:= .int .i64 0) rfl (by kernel_rfl) (pu (v:= .int .i64 3) rfl (by kernel_rfl) (alq [F0,S0] hw2 (hb4.ext e7).lt (fun _=>by kernel_rfl) rfl fun g11 v12 hb14 ge15 q16 e13 hw3=>(so aggInt hb14 [.bool s10,.slice A10 n10 c10] hw3 ge15 rfl rfl rfl rfl fun v17 hb19 u20 hw4=>(mv 2 rfl (ne_ (cw_seq (sr (mv 1 rfl (wl_cmp rfl rfl rfl true (by decide) (by decide) (ne_ (cw_true rfl ?_)))))))))))))
 refine sr (pu (v:= .agg #[F0,S0]) rfl (by kernel_rfl) (mv 1 rfl ?_))
 have hb23:=((hb4.ext (e7.trans e13)).updN u20 (by omega))
 refine so aggInt hb23 [F0,S0] hw4 ge5 rfl rfl rfl rfl fun v22 hb24 u25 hw5=>(mv 1 rfl (ne_ (cw_ret (eo_thenR (eo_ret [.agg #[F0,S0],.int .i64 3] rfl ⟨⟨_,rfl,load_agg aggInt hb24 [F0,S0] rfl (bq rfl) rfl⟩,rfl,trivial⟩ ?_)))))
 exact⟨_,rfl,⟨_,_,rfl,⟨_,_,_,_,rfl,Zr.zero⟩,rfl⟩,hw5⟩
end Go.Proofs.YtipklngcpmkfhaaDoor

namespace Go.Proofs.YtipklngcpmkfhaaDoor
open Go.RowKit
open Ieee
abbrev F64 (b:Nat):Value:= .float .f64 b
structure Rf (w:World) (A:Option Addr) (n cap:Nat) (xs:List Nat):Prop where
 rv:Rv w 1 A n cap (xs.map F64)
 wf:∀x,x∈xs→x<18446744073709551616
theorem Rf.ext {w w':World}{A:Option Addr}{n cap:Nat}{xs:List Nat}(h:Rf w A n cap xs) (e:Ext w w'):Rf w' A n cap xs:=⟨h.rv.ext e,h.wf⟩
theorem Rf.len {w:World}{A:Option Addr}{n cap:Nat}{xs:List Nat}(h:Rf w A n cap xs):xs.length=n:=by simpa using h.rv.len
theorem Rf.at {w:World}{A:Option Addr}{n c:Nat}{xs:List Nat}(h:Rf w A n c xs){i:Nat}(hi:i<n):
  ∃p,A.map (·.add (i*1))=some p∧w.cell? p=some (.float .f64 (xs.getD i 0))∧xs.getD i 0<18446744073709551616:=by
 obtain⟨a,ha,hc⟩:=h.rv.get i (by omega)
 subst ha
 have hl:=h.len
 have e:(xs.map F64).getD i undef= .float .f64 (xs.getD i 0):=by
  simp [List.getD_eq_getElem?_getD,List.getElem?_eq_getElem (show i<xs.length by omega)]
 have hm:xs.getD i 0∈xs:=by
  rw [List.getD_eq_getElem?_getD,List.getElem?_eq_getElem (show i<xs.length by omega)];exact List.getElem_mem _
 exact⟨a.add i,by rw [Nat.mul_one];rfl,by rw [←e];exact hc,h.wf _ hm⟩
theorem Rf.updL {w w':World}{A:Option Addr}{n c:Nat}{xs:List Nat}{g:Nat}(h:Rf w A n c xs) (e:Upd g w w') (hne:0<c→∀a,A=some a→a.block≠g):Rf w' A n c xs:=
 ⟨⟨h.rv.len,h.rv.le,h.rv.max,fun i hi=>by
  obtain⟨a,ha,hc⟩:=h.rv.get i hi
  exact⟨a,ha,e.cell hc (by rw [block_of_add];exact hne (by have:=h.rv.le;omega) a ha)⟩,fun a ha hc=>Nat.lt_of_lt_of_le (h.rv.blk a ha hc) e.size⟩,h.wf⟩
theorem fv_bd {f:Nat}(h:fin f):(fv f).natAbs≤2^e98:=by
 unfold fv
 rw [natAbs_sg]
 have h1:rv (mg f)≤rv 9218868437227405312:=rv_le (by unfold fin at h;omega)
 rw [rv_inf] at h1
 omega
theorem ln_of_bd {z:Int}{n k:Nat}(h:z.natAbs≤n*2^e98) (hn:n≤2097153):ln z≤34:=by
 show (wd z.natAbs).length≤34
 refine len_wd_le (Nat.lt_of_le_of_lt h ?_)
 rw [WB_pow,←Nat.pow_mul]
 have h0:64*34=78+e98:=by rw [e98_eq]
 rw [h0,Nat.pow_add]
 exact (Nat.mul_lt_mul_right (Nat.two_pow_pos e98)).2 (Nat.lt_of_le_of_lt hn (by decide))
def nrB (x:Int):Nat:=sgB (decide (x<0)) (nearB (x.natAbs*2^e74) 1)
theorem nearB_le (X D:Nat):nearB X D≤9218868437227405312:=Nat.min_le_right _ _
theorem cb_scmp_lt (x:Int):cmpB .lss (scmp x 0) 0=some (decide (x<0)):=by
 by_cases h:x<0
 ·rw [decide_eq_true h];exact lt_t (scmp_neg.2 h)
 ·rw [decide_eq_false h];exact lt_f (by have:=scmp_neg (x:=x) (y:=0);omega)
theorem sub_nan {b:Nat}(h:¬fin b) (P:Program) (t:TypeId) (w:World):∃r,¬fin r∧(binOp .sub t (.float .f64 b) (.float .f64 b)).run P w= .ok (.float .f64 r) w.drew:=by
 have e:=sub_not h
 refine⟨(Question.nanBits .f64 b b).cut (w.tape w.drawn (.nanBits .f64 b b)),?_,?_⟩
 ·generalize w.tape w.drawn (.nanBits .f64 b b)=t
  have:(Question.nanBits .f64 b b).cut t=t%2*9223372036854775808+9218868437227405312+1+t/2%4503599627370495:=rfl
  rw [this]
  unfold fin mg
  have hc:=Nat.mod_lt (t/2) (show 0<4503599627370495 by decide)
  generalize t/2%4503599627370495=c at*
  rw [Nat.add_assoc,Nat.add_assoc,Nat.add_comm,Nat.add_mul_mod_self_right,Nat.mod_eq_of_lt (by omega)]
  omega
 ·have e2:FloatKind.f64.format.sub b b=none:=e
  simp only [binOp,Op.floatArith,e2,Sem.run_bind,Sem.run_pure,Result.andThen_ok,run_choose_drew]
  rfl
theorem wl_opW {P:Program}{Q:Exit→Act→World→Prop}{n:Nat}{l:Fr}{w w':World}{ops:Array Oper}{rest:List Oper}{d:Nat}{ty:TypeId}{pos:String}{af:Array Edge}{gd:Option (Nat×Bool)}{o:BinOp}{t t':TypeId}{x y:Operand}{u v r:Value}(hw:guardB ops l gd=some true) (hx:evo l x=some u) (hy:evo l y=some v) (ho:notEq o=true) (hb:(binOp o t u v).run P w= .ok r w') (hn:d<n)
  (h:wl P ops Q n rest ((d,r)::l) w'):wl P ops Q n (⟨some d,.binOp o t x y t',ty,pos,af,gd⟩::rest) l w:=
 wl_val hw hn (fun a' ha=>by
  have e:((do eqGuard o t x y (a'.eval x) (a'.eval y);binOp o t (a'.eval x) (a'.eval y)):Sem Value).run P w= .ok r w':=by
   rw [ha.ev hx,ha.ev hy]
   cases o <;> first | (cases ho;done) | (simp only [eqGuard,Sem.run_bind];exact hb) | (simp [eqGuard,Sem.run_bind,hb])
  show ((((do eqGuard o t x y (a'.eval x) (a'.eval y);binOp o t (a'.eval x) (a'.eval y)):Sem Value)>>=fun r=>pure (Next.value r)):Sem Next).run P w=_
  rw [Sem.run_bind,e];rfl) h
theorem flt_eq0 {f:Nat}(h:fin f):(FloatKind.f64.format.order f 0==some .eq)=decide (mg f=0):=by
 show (double.order f 0==some .eq)=_
 rw [order_zero h]
 by_cases h0:mg f=0
 ·rw [if_pos h0,decide_eq_true h0];rfl
 ·rw [if_neg h0,decide_eq_false h0];split <;> rfl
theorem flt_eq0_not {f:Nat}(h:¬fin f):(FloatKind.f64.format.order f 0==some .eq)=false:=order_zero_not h
end Go.Proofs.YtipklngcpmkfhaaDoor

namespace Go.Proofs.YtipklngcpmkfhaaDoor
open Go.RowKit
set_option maxHeartbeats 4000000 in
theorem g_Near {w:World}{s:Bool}{A:Option Addr}{n cap:Nat}{x:Int}(hx:Zi w s A n cap x) (la:n≤67108864):
    Calls Tryd.prog 30 #[.agg #[.bool s,.slice A n cap]] w (Gv w (Is (.float .f64 (nrB x)))):=by
 have Lx:ln x≤67108864:=Nat.le_trans hx.ln la
 refine sx_enter Tryd.func30 rfl (n:=11) rfl (bq rfl) (args:= [.agg #[.bool s,.slice A n cap]]) (cw_keep [(0,.agg #[.bool s,.slice A n cap])] ⟨rfl,trivial⟩ (sr (bx [.bool s,.slice A n cap] (Ext.refl w) rfl rfl rfl fun g1 v2 hb4 ge5 e3 hw1=>(mv 1 rfl (ne_ (cw_seq ?_))))))
 refine cw_draw mix 8 [] [Is (.agg #[.bool s,.slice A n cap]),Is (.int .i64 (scmp x 0)),Is (.bool (decide (x<0))),Is (.pointer (some ⟨g1,1,none⟩)),Is (.slice A n cap),WR w.heap.size (1),Is (.float .f64 (nearB (Int.natAbs x*2^e74) 1)),Is (.float .f64 (sgB (decide (x<0)) (nearB (Int.natAbs x*2^e74) 1)))] [[],[0],[1],[],[3],[],[4,5],[2,6]] [[],[0],[0,1],[],[3],[],[0,1,3,4,5],[0,1,2,3,4,5,6],[0,1,2,3,4,5,6,7]] rfl
  (obs_cons rfl rfl (hob rfl rfl ?_) (obs_cons rfl rfl (hob rfl rfl ?_) (obs_cons rfl rfl (hob rfl rfl ?_) (obs_cons rfl rfl (hob rfl rfl ?_) (obs_cons rfl rfl (hob rfl rfl ?_) (obs_cons rfl rfl (hob rfl rfl ?_) (obs_cons rfl rfl (hob rfl rfl ?_) (obs_cons rfl rfl (hob rfl rfl ?_) obs_nil)))))))) ?_
 · 
  exact fun _ e8=>deps_nil (lo aggInt (hb4.ext e8) [.bool s,.slice A n cap] rfl rfl rfl (pi_done rfl (Ext.refl _) rfl))
 · 
  intro v9 e10
  have hw2:=hw1.trans e10
  refine dk rfl rfl (deps_nil (cl (vs:= [.agg #[.bool s,.slice A n cap]]) hw2 (g_zint_Sign (hx.ext hw2) (lx_ la rfl)) rfl (by kernel_rfl) fun xr18 v16 r18 e17 hw3=>?_))
  obtain rfl:=r18
  exact pi_done rfl e17 rfl
 · 
  exact fun _ _=>dk rfl rfl (deps_nil (wl_cmp rfl rfl rfl (decide (x<0)) (cb_scmp_lt x) (by decide) (pi_done rfl (Ext.refl _) rfl)))
 · 
  exact fun _ _=>deps_nil (pf g1 1 rfl (by kernel_rfl) (pi_done rfl (Ext.refl _) rfl))
 · 
  exact fun _ e29=>dk rfl rfl (deps_nil (wl_load rfl rfl (load_cell cellWords (hb4.ext e29) rfl) (by decide) (pi_done rfl (Ext.refl _) rfl)))
 · 
  intro v35 e36
  have hw2:=hw1.trans e36
  refine deps_nil (wl_bslice rfl rfl (by decide) (k:=1) (e:=50) [.int .u64 1] (fun _=>by kernel_rfl) fun g37 v38 nb39=>?_)
  have o40:=O1.mk_ (x:=1) (b:=w.heap.size) nb39 hw2.size
  have e41:=nb39.ext
  have hw3:=hw2.trans e41
  have o43:=own1_wd o40 (show 1≤18446744073709551615 by decide) (show 1≠0 by decide)
  have j42:=len1 (show 1≤18446744073709551615 by decide) (show 1≠0 by decide)
  exact pi_done rfl e41 ⟨_,_,_,rfl,j42,o43⟩
 · 
  intro v44 e45
  have hw2:=hw1.trans e45
  refine dk rfl rfl (deps_cons rfl rfl fun x51 y52 h53 e54 f55=>?_)
  obtain⟨A56,n56,c56,rfl,j56,o56⟩:=h53
  have o56:=o56.ext f55
  refine deps_nil (cl (vs:= [.slice A n cap,.slice A56 n56 c56]) hw2 (g_nearest (hx.ext hw2).wi (lx_ la rfl) o56.wi (by rw [j56];exact Nat.le_trans (Nat.le_of_eq (len1 (show 1≤18446744073709551615 by decide) (show 1≠0 by decide)).symm) (by decide)) (by decide)) rfl (by kernel_rfl) fun xr59 v57 r59 e58 hw3=>?_)
  obtain rfl:=r59
  exact pi_done rfl e58 rfl
 · 
  intro v60 e61
  have hw2:=hw1.trans e61
  refine dk rfl rfl (dk rfl rfl (deps_nil (cl (vs:= [.bool (decide (x<0)),.float .f64 (nearB (Int.natAbs x*2^e74) 1)]) hw2 (g_signed (ng:=(decide (x<0))) (nearB_le _ _)) rfl (by kernel_rfl) fun xr74 v72 r74 e73 hw3=>?_)))
  obtain rfl:=r74
  exact pi_done rfl e73 rfl
 · 
  intro v75 e76
  have hw2:=hw1.trans e76
  refine dk rfl rfl (dk rfl rfl (dk rfl rfl (dk rfl rfl (dk rfl rfl (deps_cons rfl rfl fun x102 y103 h104 e105 f106=>?_)))))
  obtain⟨A107,n107,c107,rfl,j107,o107⟩:=h104
  have o107:=o107.ext f106
  refine dk rfl rfl (dk rfl rfl (deps_nil (mv 1 rfl (wl_nil (eo_np (eo_then (cw_ret (eo_ret [.float .f64 (sgB (decide (x<0)) (nearB (Int.natAbs x*2^e74) 1))] rfl ⟨rfl,trivial⟩ ?_))))))))
  exact⟨_,rfl,rfl,hw2⟩
theorem vald_take_le {l:List Nat}(i:Nat):vald 10 ((l.take i).map dv)≤vald 10 (l.map dv):=by
 have h:=vald_append 10 ((l.take i).map dv) ((l.drop i).map dv)
 rw [←List.map_append,List.take_append_drop] at h
 rw [h]
 exact Nat.le_trans (Nat.le_mul_of_pos_right _ (Nat.pow_pos (by decide))) (Nat.le_add_right _ _)
theorem vald_take_step {l:List Nat}{i:Nat}(h:i<l.length) (hd:Digs l):vald 10 ((l.take (i+1)).map dv)=10*vald 10 ((l.take i).map dv)+(l.getD i 0-48):=by
 rw [take_snoc4 h,List.map_append,List.map_cons,List.map_nil,vald_snoc,dv_digit (hd _ (getD_mem0 h))]
 omega
theorem cv_negN {k:Nat}(h:k≤9223372036854775807):Value.int .i64 (IntKind.i64.wrap (0-((k:Nat):Int)))= .int .i64 (-((k:Nat):Int)):=by rw [IntWalk.i64_in _ ⟨by omega,by omega⟩,Int.zero_sub]
set_option maxHeartbeats 4000000 in
theorem g_aexp {w:World}{bs:List Nat}(hbs:∀b,b∈bs→b<256) (hlen:bs.length≤1073741824) (hdg:Digs bs):
    Calls Tryd.prog 56 #[.string (strB bs)] w (fun e w'=>(vald 10 (bs.map dv)≤5000→Gv w (T2 (Is (.int .i64 ((vald 10 (bs.map dv):Nat):Int))) (Is (.bool true))) e w')∧(5000<vald 10 (bs.map dv)→Gv w (T2 (Is (.int .i64 0)) (Is (.bool false))) e w')):=by
 refine sx_enter Tryd.func56 rfl (n:=23) rfl (bq rfl) (args:= [.string (strB bs)]) (cw_keep [(0,.string (strB bs))] ⟨rfl,trivial⟩ (sr (mv 2 rfl (ne_ (sr (mv 1 rfl (ne_ (cw_seq (sr (mv 1 rfl (wl_pureE rfl rfl (v:= .int .i64 (((strB bs).size:Nat):Int)) (v':= .int .i64 ((bs.length:Nat):Int)) (by decide) (by kernel_rfl) (by rw [strB_size]) (mv 1 rfl (wl_nil ?_)))))))))))))
 refine eo_then (cw_block ?_)
 refine cw_loop (T:=World×Nat×Nat)
  (fun⟨wr,i,v⟩=> [(0,.string (strB bs)),(4,.int .i64 ((v:Nat):Int)),(7,.int .i64 ((bs.length:Nat):Int)),(8,.int .i64 ((i:Nat):Int))])
  (fun⟨wr,i,v⟩=>wr)
  (fun⟨wr,i,v⟩=>(Ext w wr)∧(i≤bs.length)∧(v=vald 10 ((bs.take i).map dv))∧(v≤5000))
  (fun⟨wr,i,v⟩=>bs.length-i)
  (⟨w,0,0⟩:World×Nat×Nat) ⟨(Ext.refl w),(Nat.zero_le _),rfl,(by decide)⟩ rfl ⟨rfl,rfl,rfl,rfl,trivial⟩ ?_
 rintro⟨wr,i,v⟩ ⟨hw1,hi,hv,hv5⟩
 refine cw_re [(0,.string (strB bs)),(4,.int .i64 ((v:Nat):Int)),(7,.int .i64 ((bs.length:Nat):Int)),(8,.int .i64 ((i:Nat):Int))] wr rfl ⟨rfl,rfl,rfl,rfl,trivial⟩ (cw_seq ?_)
 by_cases hlt:i<bs.length
 · 
  refine cw_region (wl_cmp rfl rfl rfl true (cb_lt_t (a:=i) (b:=bs.length) rfl rfl (by omega)) (by decide) (ne_ (cw_seq (cw_true rfl (cw_skip (eo_then (cw_seq (cw_block (sr (mv 2 rfl (ne_ (cw_seq ?_))))))))))))
  have hst:=vald_take_step hlt hdg
  have hc:=hdg _ (getD_mem0 hlt)
  refine cw_region (mv 1 rfl (wl_ar rfl rfl rfl ((10*v:Nat):Int) (ai_mul (a:=10) (b:=v) rfl rfl (by omega)) (by decide) (mv 2 rfl (wl_strix (bs:=bs) (i:=i) rfl rfl rfl Tryd.underlying9 hbs (by omega) (by decide) (wl_ar rfl rfl rfl (((bs.getD i 0)-48:Nat):Int) (a8_sub (a:=bs.getD i 0) (b:=48) rfl rfl (by omega) (by omega)) (by decide) (wl_pureE rfl rfl (v:= .int .i64 (IntKind.i64.wrap (((bs.getD i 0)-48:Nat):Int))) (v':= .int .i64 (((bs.getD i 0)-48:Nat):Int)) (by decide) (by kernel_rfl) (cv_i64 (by first | omega | exact hle64)) (wl_ar rfl rfl rfl (((10*v)+((bs.getD i 0)-48):Nat):Int) (ai_add (a:=10*v) (b:=(bs.getD i 0)-48) rfl rfl (by omega)) (by decide) (mv 1 rfl (ne_ (cw_seq ?_))))))))))
  by_cases hgt:(10*v)+((bs.getD i 0)-48)>5000
  · 
   refine cw_region (mv 1 rfl (wl_cmp rfl rfl rfl true (cb_gt_t (a:=(10*v)+((bs.getD i 0)-48)) (b:=5000) rfl rfl (by omega)) (by decide) (ne_ (cw_true rfl (sr (mv 2 rfl (ne_ (cw_ret (eo_block_ret (eo_thenR (eo_loopR (eo_block_ret (eo_thenR ?_)))))))))))))
   refine eo_ret [I0,F0] rfl ⟨rfl,rfl,trivial⟩ ?_
   have hle:=vald_take_le (l:=bs) (i+1)
   exact⟨fun h=>absurd h (by omega),fun _=>⟨_,rfl,⟨_,_,rfl,rfl,rfl⟩,hw1⟩⟩
  · 
   refine cw_region (mv 1 rfl (wl_cmp rfl rfl rfl false (cb_gt_f (a:=(10*v)+((bs.getD i 0)-48)) (b:=5000) rfl rfl (by omega)) (by decide) (ne_ (cw_false rfl (cw_skip (eo_block_normal (eo_then (cw_region (wl_ar rfl rfl rfl ((i+1:Nat):Int) (ai_add (a:=i) (b:=1) rfl rfl (by omega)) (by decide) (mv 1 rfl (wl_nil (eo_round (⟨wr,i+1,10*v+(bs.getD i 0-48)⟩:World×Nat×Nat) ⟨hw1,(by omega),(by rw [hst,hv]),(by omega)⟩ (show bs.length-(i+1)<bs.length-i by omega) rfl ⟨rfl,rfl,rfl,rfl,trivial⟩))))))))))))
 · 
  have hie:i=bs.length:=by omega
  rw [hie,List.take_length] at hv
  refine cw_region (wl_cmp rfl rfl rfl false (cb_lt_f (a:=i) (b:=bs.length) rfl rfl (by omega)) (by decide) (ne_ (cw_seq (cw_false rfl (cw_exit (eo_thenX (eo_loopX (eo_block_here (eo_then (sr (mv 3 rfl (ne_ (cw_ret ?_)))))))))))))
  refine eo_ret [.int .i64 ((v:Nat):Int),.bool true] rfl ⟨rfl,rfl,trivial⟩ ?_
  exact⟨fun _=>⟨_,rfl,⟨_,_,rfl,(show Value.int .i64 ((v:Nat):Int)=_ by rw [hv]),rfl⟩,hw1⟩,fun h=>absurd hv5 (by omega)⟩
set_option maxHeartbeats 4000000 in
theorem g_aten {w:World}{n b:Nat}(hb:b≤w.heap.size) (hn:n≤68719476736):
    Calls Tryd.prog 58 #[.int .i64 ((n:Nat):Int)] w (Gv w (WR b (10^n))):=by
 refine sx_enter Tryd.func58 rfl (n:=20) rfl (bq rfl) (args:= [.int .i64 ((n:Nat):Int)]) (cw_keep [(0,.int .i64 ((n:Nat):Int))] ⟨rfl,trivial⟩ (sr (mv 1 rfl (ne_ (sr (wl_bslice rfl rfl (by decide) (k:=1) (e:=50) [.int .u64 1] (fun _=>by kernel_rfl) fun g1 v2 nb3=>?_))))))
 have o4:=O1.mk_ (x:=1) (b:=w.heap.size) nb3 (Ext.refl w).size
 have e5:=nb3.ext
 have hw1:=(Ext.refl w).trans e5
 have o7:=own1_wd o4 (show 1≤18446744073709551615 by decide) (show 1≠0 by decide)
 have j6:=len1 (show 1≤18446744073709551615 by decide) (show 1≠0 by decide)
 refine wl_bslice rfl rfl (by decide) (k:=1) (e:=50) [.int .u64 10] (fun _=>by kernel_rfl) fun g8 v9 nb10=>?_
 have o11:=O1.mk_ (x:=10) (b:=w.heap.size) nb10 hw1.size
 have e12:=nb10.ext
 have hw2:=hw1.trans e12
 have o14:=own1_wd o11 (show 10≤18446744073709551615 by decide) (show 10≠0 by decide)
 have j13:=len1 (show 10≤18446744073709551615 by decide) (show 10≠0 by decide)
 refine mv 2 rfl (ne_ (cw_seq (cw_block ?_)))
 refine cw_loop (T:=World×Nat×Nat×Nat×Option Addr×Nat×Nat×Option Addr×Nat×Nat)
  (fun⟨wr,e,p,b,PA,pn,pc,BA,bn,bc⟩=> [(0,.int .i64 ((e:Nat):Int)),(3,.slice PA pn pc),(4,.slice BA bn bc)])
  (fun⟨wr,e,p,b,PA,pn,pc,BA,bn,bc⟩=>wr)
  (fun⟨wr,e,p,b,PA,pn,pc,BA,bn,bc⟩=>(Ext w wr)∧(p*b^e=10^n)∧(1≤p)∧(1≤b)∧(pn=(wd p).length)∧(bn=(wd b).length)∧(Own wr w.heap.size 50 1 PA pn pc ((wd p).map W64))∧(Own wr w.heap.size 50 1 BA bn bc ((wd b).map W64))∧(e≤n))
  (fun⟨wr,e,p,b,PA,pn,pc,BA,bn,bc⟩=>e)
  (⟨v9,n,1,10,(some ⟨g1,0,none⟩),1,1,(some ⟨g8,0,none⟩),1,1⟩:World×Nat×Nat×Nat×Option Addr×Nat×Nat×Option Addr×Nat×Nat) ⟨hw2,(by rw [Nat.one_mul]),(by decide),(by decide),j6,j13,(o7.ext e12),o14,(Nat.le_refl _)⟩ rfl ⟨rfl,rfl,rfl,trivial⟩ ?_
 rintro⟨wr,e,p,b,PA,pn,pc,BA,bn,bc⟩ ⟨hw1,hI,hp1,hb1,hpn,hbn,hpo,hbo,he⟩
 refine cw_re [(0,.int .i64 ((e:Nat):Int)),(3,.slice PA pn pc),(4,.slice BA bn bc)] wr rfl ⟨rfl,rfl,rfl,trivial⟩ (cw_seq (cw_seq ?_))
 by_cases he0:e>0
 · 
  have hpK:=Nat.le_trans (len_wd_mono (pw_p hI hb1)) (len_pow36 (n:=n) (by decide))
  have hbK:=Nat.le_trans (len_wd_mono (pw_b hI hp1 hb1 he0)) (len_pow36 (n:=n) (by decide))
  refine cw_region (mv 1 rfl (wl_cmp rfl rfl rfl true (cb_gt_t (a:=e) (b:=0) rfl rfl (by omega)) (by decide) (ne_ (cw_true rfl (cw_skip (eo_then (cw_seq (cw_block (cw_seq (cw_seq ?_))))))))))
  by_cases ho:e%2=1
  · 
   refine cw_region (mv 1 rfl (wl_ar rfl rfl rfl ((e%2:Nat):Int) (au_rem (a:=e) (b:=2) rfl rfl (by omega)) (by decide) (wl_cmp rfl rfl rfl true (cb_eq_t (a:=e%2) (b:=1) rfl rfl (by omega)) (by decide) (ne_ (cw_true rfl (cw_region (mv 2 rfl (cl (vs:= [.slice PA pn pc,.slice BA bn bc]) hw1 (rx_MulW hw1.size hpo.wi hbo.wi (by omega)) rfl (by kernel_rfl) fun xr17 v15 r17 e16 hw2=>?_))))))))
   obtain⟨A18,n18,c18,rfl,j18,o18⟩:=r17
   refine mv 1 rfl (ne_ (cw_region (mv 1 rfl (cl (vs:= [.slice BA bn bc]) hw2 (rx_Square hw2.size (hbo.ext e16).wi (by omega)) rfl (by kernel_rfl) fun xr21 v19 r21 e20 hw3=>?_))))
   obtain⟨A22,n22,c22,rfl,j22,o22⟩:=r21
   refine mv 1 rfl (wl_nil (eo_block_normal (eo_then (cw_region (mv 1 rfl (wl_ar rfl rfl rfl ((e/2:Nat):Int) (ai_quo (a:=e) (b:=2) rfl rfl (by omega) (by omega)) (by decide) (mv 1 rfl (wl_nil (eo_round (⟨v19,e/2,p*b,b*b,A18,n18,c18,A22,n22,c22⟩:World×Nat×Nat×Nat×Option Addr×Nat×Nat×Option Addr×Nat×Nat) ⟨hw3,(by rw [pw_odd ho];exact hI),(Nat.mul_pos hp1 hb1),(Nat.mul_pos hb1 hb1),j18,j22,(o18.ext e20),o22,(Nat.le_trans (Nat.div_le_self _ _) he)⟩ (Nat.div_lt_self he0 (by decide)) rfl ⟨rfl,rfl,rfl,trivial⟩)))))))))
  · 
   refine cw_region (mv 1 rfl (wl_ar rfl rfl rfl ((e%2:Nat):Int) (au_rem (a:=e) (b:=2) rfl rfl (by omega)) (by decide) (wl_cmp rfl rfl rfl false (cb_eq_f (a:=e%2) (b:=1) rfl rfl (by omega)) (by decide) (ne_ (cw_false rfl (cw_skip (eo_then (cw_region (mv 1 rfl (cl (vs:= [.slice BA bn bc]) hw1 (rx_Square hw1.size hbo.wi (by omega)) rfl (by kernel_rfl) fun xr25 v23 r25 e24 hw2=>?_))))))))))
   obtain⟨A26,n26,c26,rfl,j26,o26⟩:=r25
   refine mv 1 rfl (wl_nil (eo_block_normal (eo_then (cw_region (mv 1 rfl (wl_ar rfl rfl rfl ((e/2:Nat):Int) (ai_quo (a:=e) (b:=2) rfl rfl (by omega) (by omega)) (by decide) (mv 1 rfl (wl_nil (eo_round (⟨v23,e/2,p,b*b,PA,pn,pc,A26,n26,c26⟩:World×Nat×Nat×Nat×Option Addr×Nat×Nat×Option Addr×Nat×Nat) ⟨hw2,(by rw [pw_even ho];exact hI),hp1,(Nat.mul_pos hb1 hb1),hpn,j26,(hpo.ext e24),o26,(Nat.le_trans (Nat.div_le_self _ _) he)⟩ (Nat.div_lt_self he0 (by decide)) rfl ⟨rfl,rfl,rfl,trivial⟩)))))))))
 · 
  refine cw_region (mv 1 rfl (wl_cmp rfl rfl rfl false (cb_gt_f (a:=e) (b:=0) rfl rfl (by omega)) (by decide) (ne_ (cw_false rfl (cw_exit (eo_thenX (eo_loopX (eo_block_here (eo_then (sr (mv 2 rfl (ne_ (cw_ret ?_)))))))))))))
  refine eo_ret [.slice PA pn pc] rfl ⟨rfl,trivial⟩ ?_
  have e0:e=0:=by omega
  subst e0
  rw [Nat.pow_zero,Nat.mul_one] at hI
  subst hI
  exact⟨_,rfl,⟨_,_,_,rfl,hpn,(hpo).mono hb⟩,hw1⟩
theorem g_nearest_v {w:World}{A:Option Addr}{n c X:Nat}(hX:Wi w A n c X) (hXn:n≤67108864){B:Option Addr}{n' c' D nb:Nat}(hD:Wi w B n' c' D) (hDn:n'≤67108864) (hD0:0<D) (h:nearB (X*2^e74) D=nb):
  Calls Tryd.prog 60 #[.slice A n c,.slice B n' c'] w (Gv w (Is (.float .f64 nb))):=by
 subst h
 exact g_nearest hX hXn hD hDn hD0
def nrX (m bh x:Nat) (dn:Bool):Nat:=if dn=false∧bh≤x then nearB (m*10^(x-bh)*2^e74) 1 else nearB (m*2^e74) (10^(if dn=true then x+bh else bh-x))
def rdR (bs:List Nat):Nat×Int:=if 4096<bs.length then (0,5) else match cutF bs with
 | none=>(0,7)
 | some x=>if 5000<vald 10 (x.2.2.2.map dv) then (0,5) else (sgB (sgT bs) (nrX (vald 10 (x.1.map dv)) x.2.1 (vald 10 (x.2.2.2.map dv)) x.2.2.1),0)
theorem rdR_long {bs:List Nat}(h:4096<bs.length):rdR bs=(0,5):=by unfold rdR;rw [if_pos h]
theorem rdR_none {bs:List Nat}(h:¬4096<bs.length) (hc:cutF bs=none):rdR bs=(0,7):=by unfold rdR;rw [if_neg h,hc]
theorem rdR_big {bs dg pw:List Nat}{bh:Nat}{dn:Bool}(h:¬4096<bs.length) (hc:cutF bs=some (dg,bh,dn,pw)) (h5:5000<vald 10 (pw.map dv)):rdR bs=(0,5):=by unfold rdR;rw [if_neg h,hc];exact if_pos h5
theorem rdR_ok {bs dg pw:List Nat}{bh X V nb:Nat}{dn:Bool}(h:¬4096<bs.length) (hc:cutF bs=some (dg,bh,dn,pw)) (hV:vald 10 (pw.map dv)=V) (h5:¬5000<V) (hX:vald 10 (dg.map dv)=X) (hn:nrX X bh V dn=nb):rdR bs=(sgB (sgT bs) nb,0):=by
 unfold rdR;rw [if_neg h,hc]
 show (if 5000<vald 10 (pw.map dv) then _ else (sgB (sgT bs) (nrX (vald 10 (dg.map dv)) bh (vald 10 (pw.map dv)) dn),(0:Int)))=_
 rw [hV,hX,if_neg h5,hn]
set_option maxHeartbeats 4000000 in
theorem g_aread {w:World}{bs:List Nat}(hbs:∀b,b∈bs→b<256) (hlen:bs.length≤1099511627776):
    Calls Tryd.prog 28 #[.string (strB bs)] w (Gv w (T2 (Is (.float .f64 (rdR bs).1)) (Is (.int .i64 (rdR bs).2)))):=by
 refine sx_enter Tryd.func28 rfl (n:=58) rfl (bq rfl) (args:= [.string (strB bs)]) (cw_keep [(0,.string (strB bs))] ⟨rfl,trivial⟩ (sr (mv 2 rfl (ne_ (cw_seq (cw_seq ?_))))))
 by_cases hlong:bs.length>4096
 · 
  refine cw_region (mv 1 rfl (wl_pureE rfl rfl (v:= .int .i64 (((strB bs).size:Nat):Int)) (v':= .int .i64 ((bs.length:Nat):Int)) (by decide) (by kernel_rfl) (by rw [strB_size]) (wl_cmp rfl rfl rfl true (cb_gt_t (a:=bs.length) (b:=4096) rfl rfl (by omega)) (by decide) (ne_ (cw_true rfl (sr (mv 2 rfl (ne_ (cw_ret (eo_thenR (eo_ret [.float .f64 0,.int .i64 5] rfl ⟨rfl,rfl,trivial⟩ ?_)))))))))))
  have hr:=rdR_long hlong
  exact⟨_,rfl,⟨_,_,rfl,(show Value.float .f64 _=_ by rw [hr]),(show Value.int .i64 _=_ by rw [hr])⟩,(Ext.refl w)⟩
 · 
  refine cw_region (mv 1 rfl (wl_pureE rfl rfl (v:= .int .i64 (((strB bs).size:Nat):Int)) (v':= .int .i64 ((bs.length:Nat):Int)) (by decide) (by kernel_rfl) (by rw [strB_size]) (wl_cmp rfl rfl rfl false (cb_gt_f (a:=bs.length) (b:=4096) rfl rfl (by omega)) (by decide) (ne_ (cw_false rfl (cw_skip (eo_then (cw_seq ?_))))))))
  rcases hcut:cutF bs with _ | ⟨dg,bh,dn,pw⟩
  · 
   refine cw_region (mv 1 rfl (wl_call rfl rfl (vs:= [.string (strB bs)]) (by kernel_rfl) (by decide) (g_acut_bad hbs (by omega) hcut) ?_))
   rintro _ v1 ⟨ng4,dg5,bh6,dn7,pw8,p9,xr3,rfl,r3,e2⟩
   refine ret_intro ?_
   have hw1:=(Ext.refl w).trans e2
   obtain rfl:=r3
   refine mv 1 rfl (pu (v:= .agg #[.bool ng4,.string (strB dg5),.int .i64 ((bh6:Nat):Int),.bool dn7,.string (strB pw8)]) rfl (by kernel_rfl) (pu (v:= .bool false) rfl (by kernel_rfl) (al [F0,.string (strB []),I0,F0,.string (strB [])] hw1 (fun _=>by kernel_rfl) rfl fun g10 v11 hb13 ge14 e12 hw2=>(so aggDec hb13 [.bool ng4,.string (strB dg5),.int .i64 ((bh6:Nat):Int),.bool dn7,.string (strB pw8)] hw2 ge14 rfl rfl rfl rfl fun v15 hb17 u18 hw3=>(mv 1 rfl (ne_ (cw_seq (sr (mv 1 rfl (pu (v:= .bool true) rfl (by kernel_rfl) (ne_ (cw_true rfl (cw_seq ?_)))))))))))))
   refine cw_region (mv 2 rfl (ne_ (cw_ret (eo_thenR (eo_ret [.float .f64 0,.int .i64 7] rfl ⟨rfl,rfl,trivial⟩ ?_)))))
   have hr:=rdR_none hlong hcut
   exact⟨_,rfl,⟨_,_,rfl,(show Value.float .f64 _=_ by rw [hr]),(show Value.int .i64 _=_ by rw [hr])⟩,hw3⟩
  · 
   obtain⟨hdg,hdg0,hpw,hbh,hdgl,hpwl⟩:=cutF_digs hcut
   have hdg256:∀b,b∈dg→b<256:=fun b hb=>by have:=hdg b hb;omega
   have hpw256:∀b,b∈pw→b<256:=fun b hb=>by have:=hpw b hb;omega
   obtain⟨X,hX⟩:∃X,vald 10 (dg.map dv)=X:=⟨_,rfl⟩
   obtain⟨V,hV⟩:∃V,vald 10 (pw.map dv)=V:=⟨_,rfl⟩
   have hXl:(wd X).length≤4096:=by rw [←hX];exact Nat.le_trans (len_wd_dv (by decide) (by decide) (hdg.good hdg0).2) (by omega)
   refine cw_region (mv 1 rfl (cl (vs:= [.string (strB bs)]) (Ext.refl w) (g_acut hbs (by omega) hcut) rfl (by kernel_rfl) fun xr22 v20 r22 e21 hw1=>?_))
   obtain rfl:=r22
   refine mv 1 rfl (pu (v:= .agg #[.bool (sgT bs),.string (strB dg),.int .i64 ((bh:Nat):Int),.bool dn,.string (strB pw)]) rfl (by kernel_rfl) (pu (v:= .bool true) rfl (by kernel_rfl) (al [F0,.string (strB []),I0,F0,.string (strB [])] hw1 (fun _=>by kernel_rfl) rfl fun g23 v24 hb26 ge27 e25 hw2=>(so aggDec hb26 [.bool (sgT bs),.string (strB dg),.int .i64 ((bh:Nat):Int),.bool dn,.string (strB pw)] hw2 ge27 rfl rfl rfl rfl fun v28 hb30 u31 hw3=>(mv 1 rfl (ne_ (cw_seq (sr (mv 1 rfl (pu (v:= .bool false) rfl (by kernel_rfl) (ne_ (cw_false rfl (cw_skip ?_)))))))))))))
   refine eo_then (cw_seq ?_)
   by_cases h5:5000<V
   · 
    refine cw_region (pf g23 4 rfl (by kernel_rfl) (wl_load rfl rfl (load_cell (fun _=>by kernel_rfl) hb30 rfl) (by decide) (cl (vs:= [.string (strB pw)]) hw3 ((g_aexp hpw256 (by omega) hpw).mono fun e w' h=>h.2 (by rw [hV];exact h5)) rfl (by kernel_rfl) fun xr35 v33 r35 e34 hw4=>?_)))
    obtain⟨_,_,rfl,rfl,rfl⟩:=r35
    refine mv 1 rfl (pu (v:= .int .i64 0) rfl (by kernel_rfl) (pu (v:= .bool false) rfl (by kernel_rfl) (mv 2 rfl (ne_ (cw_seq (sr (mv 1 rfl (pu (v:= .bool true) rfl (by kernel_rfl) (ne_ (cw_true rfl (sr (mv 2 rfl (wl_nil ?_)))))))))))))
    refine eo_then (cw_ret (eo_thenR (eo_ret [.float .f64 0,.int .i64 5] rfl ⟨rfl,rfl,trivial⟩ ?_)))
    have hr:=rdR_big hlong hcut (by rw [hV];exact h5)
    exact⟨_,rfl,⟨_,_,rfl,(show Value.float .f64 _=_ by rw [hr]),(show Value.int .i64 _=_ by rw [hr])⟩,hw4⟩
   · 
    refine cw_region (pf g23 4 rfl (by kernel_rfl) (wl_load rfl rfl (load_cell (fun _=>by kernel_rfl) hb30 rfl) (by decide) (cl (vs:= [.string (strB pw)]) hw3 ((g_aexp hpw256 (by omega) hpw).mono fun e w' h=>by have h2:=h.1 (by rw [hV];omega);rw [hV] at h2;exact h2) rfl (by kernel_rfl) fun xr39 v37 r39 e38 hw4=>?_)))
    obtain⟨_,_,rfl,rfl,rfl⟩:=r39
    refine mv 1 rfl (pu (v:= .int .i64 ((V:Nat):Int)) rfl (by kernel_rfl) (pu (v:= .bool true) rfl (by kernel_rfl) (mv 2 rfl (ne_ (cw_seq (sr (mv 1 rfl (pu (v:= .bool false) rfl (by kernel_rfl) (ne_ (cw_false rfl (cw_skip (eo_then (cw_seq ?_)))))))))))))
    refine cw_seq ?_
    cases dn
    · 
     refine cw_region (pf g23 3 rfl (by kernel_rfl) (wl_load rfl rfl (load_cell (fun _=>by kernel_rfl) (hb30.ext e38) rfl) (by decide) (ne_ (cw_false rfl (cw_skip (eo_then (sr (mv 1 rfl (pf g23 2 rfl (by kernel_rfl) (wl_load rfl rfl (load_cell (fun _=>by kernel_rfl) (hb30.ext e38) rfl) (by decide) (wl_ar rfl rfl rfl (((V:Nat):Int)-((bh:Nat):Int)) (ar_i64s rfl (by omega) (by omega)) (by decide) (mv 1 rfl (wl_nil ?_)))))))))))))
     refine eo_then (sr (pf g23 1 rfl (by kernel_rfl) (wl_load rfl rfl (load_cell (fun _=>by kernel_rfl) (hb30.ext e38) rfl) (by decide) (wl_call rfl rfl (vs:= [.string (strB dg)]) (by kernel_rfl) (by decide) (by have h:=rx_ReadDec_good (w:=v37) hdg256 (by omega) (hdg.good hdg0);rw [hX] at h;exact h.mono (Gv.imp (T2.imp (WR.imp hw4.size) Is.imp))) ?_))))
     rintro _ v41 ⟨xr43,rfl,r43,e42⟩
     refine ret_intro ?_
     have hw5:=hw4.trans e42
     obtain⟨_,_,rfl,⟨A45,n45,c45,rfl,j45,o45⟩,rfl⟩:=r43
     refine mv 1 rfl (pu (v:= .slice A45 n45 c45) rfl (by kernel_rfl) (pu (v:= .int .i64 0) rfl (by kernel_rfl) (mv 2 rfl (ne_ (sr (wl_bslice rfl rfl (by decide) (k:=1) (e:=50) [.int .u64 1] (fun _=>by kernel_rfl) fun g46 v47 nb48=>?_))))))
     have o49:=O1.mk_ (x:=1) (b:=w.heap.size) nb48 hw5.size
     have e50:=nb48.ext
     have hw6:=hw5.trans e50
     have o52:=own1_wd o49 (show 1≤18446744073709551615 by decide) (show 1≠0 by decide)
     have j51:=len1 (show 1≤18446744073709551615 by decide) (show 1≠0 by decide)
     refine mv 1 rfl (ne_ (cw_seq (cw_seq ?_)))
     by_cases hz:bh≤V
     · 
      refine cw_keep [(0,.string (strB bs)),(2,.float .f64 0),(3,.int .i64 0),(10,.string (strB bs)),(11,.int .i64 ((bs.length:Nat):Int)),(12,.bool false),(14,.string (strB bs)),(15,.tuple #[.agg #[.bool (sgT bs),.string (strB dg),.int .i64 ((bh:Nat):Int),F0,.string (strB pw)],.bool true]),(13,.tuple #[.agg #[.bool (sgT bs),.string (strB dg),.int .i64 ((bh:Nat):Int),F0,.string (strB pw)],.bool true]),(16,.agg #[.bool (sgT bs),.string (strB dg),.int .i64 ((bh:Nat):Int),F0,.string (strB pw)]),(17,.bool true),(4,.pointer (some ⟨g23,0,none⟩)),(5,.bool true),(18,.bool true),(19,.bool false),(21,.pointer (some ⟨g23,4,none⟩)),(22,.string (strB pw)),(23,.tuple #[.int .i64 ((V:Nat):Int),.bool true]),(20,.tuple #[.int .i64 ((V:Nat):Int),.bool true]),(24,.int .i64 ((V:Nat):Int)),(25,.bool true),(6,.int .i64 (((V:Nat):Int)-((bh:Nat):Int))),(26,.bool true),(27,.bool false),(28,.pointer (some ⟨g23,3,none⟩)),(29,.bool false),(32,.int .i64 ((V:Nat):Int)),(33,.pointer (some ⟨g23,2,none⟩)),(34,.int .i64 ((bh:Nat):Int)),(35,.int .i64 (((V:Nat):Int)-((bh:Nat):Int))),(37,.pointer (some ⟨g23,1,none⟩)),(38,.string (strB dg)),(39,.tuple #[.slice A45 n45 c45,I0]),(36,.tuple #[.slice A45 n45 c45,I0]),(40,.slice A45 n45 c45),(41,.int .i64 0),(7,.slice A45 n45 c45),(8,.int .i64 0),(42,.slice (some ⟨g46,0,none⟩) 1 1),(9,.slice (some ⟨g46,0,none⟩) 1 1)] ⟨rfl,rfl,rfl,rfl,rfl,rfl,rfl,rfl,rfl,rfl,rfl,rfl,rfl,rfl,rfl,rfl,rfl,rfl,rfl,rfl,rfl,rfl,rfl,rfl,rfl,rfl,rfl,rfl,rfl,rfl,rfl,rfl,rfl,rfl,rfl,rfl,rfl,rfl,rfl,rfl,trivial⟩ ?_
      rw [show (((V:Nat):Int)-((bh:Nat):Int))=((V-bh:Nat):Int) by omega]
      have h10:(wd (10^(V-bh))).length≤(V-bh)+1:=len_pow36 (by decide)
      refine cw_region (mv 1 rfl (wl_cmp rfl rfl rfl true (cb_ge_t (a:=V-bh) (b:=0) rfl rfl (by omega)) (by decide) (ne_ (cw_true rfl (cw_region (mv 2 rfl (cl (vs:= [.int .i64 ((V-bh:Nat):Int)]) hw6 (g_aten (n:=V-bh) hw6.size (by omega)) rfl (by kernel_rfl) fun xr55 v53 r55 e54 hw7=>?_)))))))
      obtain⟨A56,n56,c56,rfl,j56,o56⟩:=r55
      refine cl (vs:= [.slice A45 n45 c45,.slice A56 n56 c56]) hw7 (rx_MulW hw7.size (o45.ext (e50.trans e54)).wi o56.wi (by omega)) rfl (by kernel_rfl) fun xr59 v57 r59 e58 hw8=>?_
      obtain⟨A60,n60,c60,rfl,j60,o60⟩:=r59
      refine mv 1 rfl (ne_ (cw_seq ?_))
      have hXM:(wd (X*10^(V-bh))).length≤20000:=by have:=len_wd_mul X (10^(V-bh));omega
      obtain⟨nb,hnb⟩:∃nb,nearB ((X*10^(V-bh))*2^e74) 1=nb:=⟨_,rfl⟩
      have hnbl:nb≤9218868437227405312:=hnb▸nearB_le _ _
      have hrd:=rdR_ok (nb:=nb) hlong hcut hV h5 hX (by unfold nrX;rw [if_pos ⟨rfl,hz⟩];exact hnb)
      refine cw_draw mix 6 [] [Is (.pointer (some ⟨g23,0,none⟩)),Is (.bool (sgT bs)),Is (.slice A60 n60 c60),Is (.slice (some ⟨g46,0,none⟩) 1 1),Is (.float .f64 nb),Is (.float .f64 (sgB (sgT bs) nb))] [[],[0],[],[],[2,3],[1,4]] [[],[0],[],[],[2,3],[0,1,2,3,4],[0,1,2,3,4,5],[0,1,2,3,4,5,6]] rfl
       (obs_cons rfl rfl (hob rfl rfl ?_) (obs_cons rfl rfl (hob rfl rfl ?_) (obs_cons rfl rfl (hob rfl rfl ?_) (obs_cons rfl rfl (hob rfl rfl ?_) (obs_cons rfl rfl (hob rfl rfl ?_) (obs_cons rfl rfl (hob rfl rfl ?_) obs_nil)))))) ?_
      · 
       exact fun _ _=>deps_nil (pf g23 0 rfl (by kernel_rfl) (pi_done rfl (Ext.refl _) rfl))
      · 
       exact fun _ e64=>dk rfl rfl (deps_nil (wl_load rfl rfl (load_cell (fun _=>by kernel_rfl) (hb30.ext (e38.trans (e42.trans (e50.trans (e54.trans (e58.trans e64)))))) rfl) (by decide) (pi_done rfl (Ext.refl _) rfl)))
      · 
       exact fun _ _=>deps_nil (mv 1 rfl (pi_done rfl (Ext.refl _) rfl))
      · 
       exact fun _ _=>deps_nil (mv 1 rfl (pi_done rfl (Ext.refl _) rfl))
      · 
       intro v74 e75
       have hw9:=hw8.trans e75
       refine dk rfl rfl (dk rfl rfl (deps_nil (cl (vs:= [.slice A60 n60 c60,.slice (some ⟨g46,0,none⟩) 1 1]) hw9 (g_nearest_v (o60.ext e75).wi (by omega) (o52.ext (e54.trans (e58.trans e75))).wi (by omega) (by decide) hnb) rfl (by kernel_rfl) fun xr88 v86 r88 e87 hw10=>?_)))
       obtain rfl:=r88
       exact pi_done rfl e87 rfl
      · 
       intro v89 e90
       have hw9:=hw8.trans e90
       refine dk rfl rfl (dk rfl rfl (deps_nil (cl (vs:= [.bool (sgT bs),.float .f64 nb]) hw9 (g_signed hnbl) rfl (by kernel_rfl) fun xr103 v101 r103 e102 hw10=>?_)))
       obtain rfl:=r103
       exact pi_done rfl e102 rfl
      · 
       intro v104 e105
       have hw9:=hw8.trans e105
       refine dk rfl rfl (dk rfl rfl (dk rfl rfl (dk rfl rfl (dk rfl rfl (dk rfl rfl (deps_nil (mv 2 rfl (wl_nil (eo_np (eo_then (cw_ret (eo_ret [.float .f64 (sgB (sgT bs) nb),I0] rfl ⟨rfl,rfl,trivial⟩ ?_))))))))))))
       have hr:=hrd
       exact⟨_,rfl,⟨_,_,rfl,(show Value.float .f64 _=_ by rw [hr]),(show Value.int .i64 _=_ by rw [hr])⟩,hw9⟩
     · 
      refine cw_keep [(0,.string (strB bs)),(2,.float .f64 0),(3,.int .i64 0),(10,.string (strB bs)),(11,.int .i64 ((bs.length:Nat):Int)),(12,.bool false),(14,.string (strB bs)),(15,.tuple #[.agg #[.bool (sgT bs),.string (strB dg),.int .i64 ((bh:Nat):Int),F0,.string (strB pw)],.bool true]),(13,.tuple #[.agg #[.bool (sgT bs),.string (strB dg),.int .i64 ((bh:Nat):Int),F0,.string (strB pw)],.bool true]),(16,.agg #[.bool (sgT bs),.string (strB dg),.int .i64 ((bh:Nat):Int),F0,.string (strB pw)]),(17,.bool true),(4,.pointer (some ⟨g23,0,none⟩)),(5,.bool true),(18,.bool true),(19,.bool false),(21,.pointer (some ⟨g23,4,none⟩)),(22,.string (strB pw)),(23,.tuple #[.int .i64 ((V:Nat):Int),.bool true]),(20,.tuple #[.int .i64 ((V:Nat):Int),.bool true]),(24,.int .i64 ((V:Nat):Int)),(25,.bool true),(6,.int .i64 (((V:Nat):Int)-((bh:Nat):Int))),(26,.bool true),(27,.bool false),(28,.pointer (some ⟨g23,3,none⟩)),(29,.bool false),(32,.int .i64 ((V:Nat):Int)),(33,.pointer (some ⟨g23,2,none⟩)),(34,.int .i64 ((bh:Nat):Int)),(35,.int .i64 (((V:Nat):Int)-((bh:Nat):Int))),(37,.pointer (some ⟨g23,1,none⟩)),(38,.string (strB dg)),(39,.tuple #[.slice A45 n45 c45,I0]),(36,.tuple #[.slice A45 n45 c45,I0]),(40,.slice A45 n45 c45),(41,.int .i64 0),(7,.slice A45 n45 c45),(8,.int .i64 0),(42,.slice (some ⟨g46,0,none⟩) 1 1),(9,.slice (some ⟨g46,0,none⟩) 1 1)] ⟨rfl,rfl,rfl,rfl,rfl,rfl,rfl,rfl,rfl,rfl,rfl,rfl,rfl,rfl,rfl,rfl,rfl,rfl,rfl,rfl,rfl,rfl,rfl,rfl,rfl,rfl,rfl,rfl,rfl,rfl,rfl,rfl,rfl,rfl,rfl,rfl,rfl,rfl,rfl,rfl,trivial⟩ ?_
      rw [show (((V:Nat):Int)-((bh:Nat):Int))=(-((bh-V:Nat):Int)) by omega]
      have h10:(wd (10^(bh-V))).length≤(bh-V)+1:=len_pow36 (by decide)
      refine cw_region (mv 1 rfl (wl_cmp rfl rfl rfl false (ge_f (by omega)) (by decide) (ne_ (cw_false rfl (cw_region (mv 1 rfl (wl_pureE rfl rfl (v:= .int .i64 (IntKind.i64.wrap (0- -((bh-V:Nat):Int)))) (v':= .int .i64 ((bh-V:Nat):Int)) (by decide) (by kernel_rfl) (cv_neg (by omega)) (cl (vs:= [.int .i64 ((bh-V:Nat):Int)]) hw6 (g_aten (n:=bh-V) hw6.size (by omega)) rfl (by kernel_rfl) fun xr138 v136 r138 e137 hw7=>?_))))))))
      obtain⟨A139,n139,c139,rfl,j139,o139⟩:=r138
      refine mv 1 rfl (ne_ (cw_seq ?_))
      obtain⟨nb,hnb⟩:∃nb,nearB (X*2^e74) (10^(bh-V))=nb:=⟨_,rfl⟩
      have hnbl:nb≤9218868437227405312:=hnb▸nearB_le _ _
      have hrd:=rdR_ok (nb:=nb) hlong hcut hV h5 hX (by unfold nrX;rw [if_neg (fun h=>hz h.2),if_neg (by decide)];exact hnb)
      refine cw_draw mix 6 [] [Is (.pointer (some ⟨g23,0,none⟩)),Is (.bool (sgT bs)),Is (.slice A45 n45 c45),Is (.slice A139 n139 c139),Is (.float .f64 nb),Is (.float .f64 (sgB (sgT bs) nb))] [[],[0],[],[],[2,3],[1,4]] [[],[0],[],[],[2,3],[0,1,2,3,4],[0,1,2,3,4,5],[0,1,2,3,4,5,6]] rfl
       (obs_cons rfl rfl (hob rfl rfl ?_) (obs_cons rfl rfl (hob rfl rfl ?_) (obs_cons rfl rfl (hob rfl rfl ?_) (obs_cons rfl rfl (hob rfl rfl ?_) (obs_cons rfl rfl (hob rfl rfl ?_) (obs_cons rfl rfl (hob rfl rfl ?_) obs_nil)))))) ?_
      · 
       exact fun _ _=>deps_nil (pf g23 0 rfl (by kernel_rfl) (pi_done rfl (Ext.refl _) rfl))
      · 
       exact fun _ e143=>dk rfl rfl (deps_nil (wl_load rfl rfl (load_cell (fun _=>by kernel_rfl) (hb30.ext (e38.trans (e42.trans (e50.trans (e137.trans e143))))) rfl) (by decide) (pi_done rfl (Ext.refl _) rfl)))
      · 
       exact fun _ _=>deps_nil (mv 1 rfl (pi_done rfl (Ext.refl _) rfl))
      · 
       exact fun _ _=>deps_nil (mv 1 rfl (pi_done rfl (Ext.refl _) rfl))
      · 
       intro v153 e154
       have hw8:=hw7.trans e154
       refine dk rfl rfl (dk rfl rfl (deps_nil (cl (vs:= [.slice A45 n45 c45,.slice A139 n139 c139]) hw8 (g_nearest_v (o45.ext (e50.trans (e137.trans e154))).wi (by omega) (o139.ext e154).wi (by omega) (Nat.pow_pos (by decide)) hnb) rfl (by kernel_rfl) fun xr167 v165 r167 e166 hw9=>?_)))
       obtain rfl:=r167
       exact pi_done rfl e166 rfl
      · 
       intro v168 e169
       have hw8:=hw7.trans e169
       refine dk rfl rfl (dk rfl rfl (deps_nil (cl (vs:= [.bool (sgT bs),.float .f64 nb]) hw8 (g_signed hnbl) rfl (by kernel_rfl) fun xr182 v180 r182 e181 hw9=>?_)))
       obtain rfl:=r182
       exact pi_done rfl e181 rfl
      · 
       intro v183 e184
       have hw8:=hw7.trans e184
       refine dk rfl rfl (dk rfl rfl (dk rfl rfl (dk rfl rfl (dk rfl rfl (dk rfl rfl (deps_nil (mv 2 rfl (wl_nil (eo_np (eo_then (cw_ret (eo_ret [.float .f64 (sgB (sgT bs) nb),I0] rfl ⟨rfl,rfl,trivial⟩ ?_))))))))))))
       have hr:=hrd
       exact⟨_,rfl,⟨_,_,rfl,(show Value.float .f64 _=_ by rw [hr]),(show Value.int .i64 _=_ by rw [hr])⟩,hw8⟩
    · 
     refine cw_region (pf g23 3 rfl (by kernel_rfl) (wl_load rfl rfl (load_cell (fun _=>by kernel_rfl) (hb30.ext e38) rfl) (by decide) (ne_ (cw_true rfl (cw_region (mv 1 rfl (wl_pureE rfl rfl (v:= .int .i64 (IntKind.i64.wrap (0-((V:Nat):Int)))) (v':= .int .i64 (-((V:Nat):Int))) (by decide) (by kernel_rfl) (cv_negN (by omega)) (mv 1 rfl (ne_ (sr (mv 1 rfl (pf g23 2 rfl (by kernel_rfl) (wl_load rfl rfl (load_cell (fun _=>by kernel_rfl) (hb30.ext e38) rfl) (by decide) ?_)))))))))))))
     refine wl_ar rfl rfl rfl ((-((V:Nat):Int))-((bh:Nat):Int)) (ar_i64s rfl (by omega) (by omega)) (by decide) (mv 1 rfl (ne_ (sr (pf g23 1 rfl (by kernel_rfl) (wl_load rfl rfl (load_cell (fun _=>by kernel_rfl) (hb30.ext e38) rfl) (by decide) (wl_call rfl rfl (vs:= [.string (strB dg)]) (by kernel_rfl) (by decide) (by have h:=rx_ReadDec_good (w:=v37) hdg256 (by omega) (hdg.good hdg0);rw [hX] at h;exact h.mono (Gv.imp (T2.imp (WR.imp hw4.size) Is.imp))) ?_))))))
     rintro _ v215 ⟨xr217,rfl,r217,e216⟩
     refine ret_intro ?_
     have hw5:=hw4.trans e216
     obtain⟨_,_,rfl,⟨A219,n219,c219,rfl,j219,o219⟩,rfl⟩:=r217
     refine mv 1 rfl (pu (v:= .slice A219 n219 c219) rfl (by kernel_rfl) (pu (v:= .int .i64 0) rfl (by kernel_rfl) (mv 2 rfl (ne_ (sr (wl_bslice rfl rfl (by decide) (k:=1) (e:=50) [.int .u64 1] (fun _=>by kernel_rfl) fun g220 v221 nb222=>?_))))))
     have o223:=O1.mk_ (x:=1) (b:=w.heap.size) nb222 hw5.size
     have e224:=nb222.ext
     have hw6:=hw5.trans e224
     have o226:=own1_wd o223 (show 1≤18446744073709551615 by decide) (show 1≠0 by decide)
     have j225:=len1 (show 1≤18446744073709551615 by decide) (show 1≠0 by decide)
     refine mv 1 rfl (ne_ (cw_seq (cw_seq ?_)))
     by_cases hz:V+bh=0
     · 
      refine cw_keep [(0,.string (strB bs)),(2,.float .f64 0),(3,.int .i64 0),(10,.string (strB bs)),(11,.int .i64 ((bs.length:Nat):Int)),(12,.bool false),(14,.string (strB bs)),(15,.tuple #[.agg #[.bool (sgT bs),.string (strB dg),.int .i64 ((bh:Nat):Int),.bool true,.string (strB pw)],.bool true]),(13,.tuple #[.agg #[.bool (sgT bs),.string (strB dg),.int .i64 ((bh:Nat):Int),.bool true,.string (strB pw)],.bool true]),(16,.agg #[.bool (sgT bs),.string (strB dg),.int .i64 ((bh:Nat):Int),.bool true,.string (strB pw)]),(17,.bool true),(4,.pointer (some ⟨g23,0,none⟩)),(5,.bool true),(18,.bool true),(19,.bool false),(21,.pointer (some ⟨g23,4,none⟩)),(22,.string (strB pw)),(23,.tuple #[.int .i64 ((V:Nat):Int),.bool true]),(20,.tuple #[.int .i64 ((V:Nat):Int),.bool true]),(24,.int .i64 ((V:Nat):Int)),(25,.bool true),(6,.int .i64 ((-((V:Nat):Int))-((bh:Nat):Int))),(26,.bool true),(27,.bool false),(28,.pointer (some ⟨g23,3,none⟩)),(29,.bool true),(30,.int .i64 ((V:Nat):Int)),(31,.int .i64 (-((V:Nat):Int))),(32,.int .i64 (-((V:Nat):Int))),(33,.pointer (some ⟨g23,2,none⟩)),(34,.int .i64 ((bh:Nat):Int)),(35,.int .i64 ((-((V:Nat):Int))-((bh:Nat):Int))),(37,.pointer (some ⟨g23,1,none⟩)),(38,.string (strB dg)),(39,.tuple #[.slice A219 n219 c219,I0]),(36,.tuple #[.slice A219 n219 c219,I0]),(40,.slice A219 n219 c219),(41,.int .i64 0),(7,.slice A219 n219 c219),(8,.int .i64 0),(42,.slice (some ⟨g220,0,none⟩) 1 1),(9,.slice (some ⟨g220,0,none⟩) 1 1)] ⟨rfl,rfl,rfl,rfl,rfl,rfl,rfl,rfl,rfl,rfl,rfl,rfl,rfl,rfl,rfl,rfl,rfl,rfl,rfl,rfl,rfl,rfl,rfl,rfl,rfl,rfl,rfl,rfl,rfl,rfl,rfl,rfl,rfl,rfl,rfl,rfl,rfl,rfl,rfl,rfl,rfl,rfl,trivial⟩ ?_
      rw [show ((-((V:Nat):Int))-((bh:Nat):Int))=0 by omega]
      have h10:(wd (10^(0))).length≤0+1:=len_pow36 (by decide)
      refine cw_region (mv 1 rfl (wl_cmp rfl rfl rfl true (by decide) (by decide) (ne_ (cw_true rfl (cw_region (mv 2 rfl (cl (vs:= [I0]) hw6 (g_aten (n:=0) hw6.size (by omega)) rfl (by kernel_rfl) fun xr229 v227 r229 e228 hw7=>?_)))))))
      obtain⟨A230,n230,c230,rfl,j230,o230⟩:=r229
      refine cl (vs:= [.slice A219 n219 c219,.slice A230 n230 c230]) hw7 (rx_MulW hw7.size (o219.ext (e224.trans e228)).wi o230.wi (by omega)) rfl (by kernel_rfl) fun xr233 v231 r233 e232 hw8=>?_
      obtain⟨A234,n234,c234,rfl,j234,o234⟩:=r233
      refine mv 1 rfl (ne_ (cw_seq ?_))
      have hXM:(wd (X*10^(0))).length≤20000:=by have:=len_wd_mul X (10^(0));omega
      obtain⟨nb,hnb⟩:∃nb,nearB ((X*10^(0))*2^e74) 1=nb:=⟨_,rfl⟩
      have hnbl:nb≤9218868437227405312:=hnb▸nearB_le _ _
      have hrd:=rdR_ok (nb:=nb) hlong hcut hV h5 hX (by unfold nrX;rw [if_neg (by simp),if_pos rfl,hz,Nat.pow_zero];rw [Nat.pow_zero,Nat.mul_one] at hnb;exact hnb)
      refine cw_draw mix 6 [] [Is (.pointer (some ⟨g23,0,none⟩)),Is (.bool (sgT bs)),Is (.slice A234 n234 c234),Is (.slice (some ⟨g220,0,none⟩) 1 1),Is (.float .f64 nb),Is (.float .f64 (sgB (sgT bs) nb))] [[],[0],[],[],[2,3],[1,4]] [[],[0],[],[],[2,3],[0,1,2,3,4],[0,1,2,3,4,5],[0,1,2,3,4,5,6]] rfl
       (obs_cons rfl rfl (hob rfl rfl ?_) (obs_cons rfl rfl (hob rfl rfl ?_) (obs_cons rfl rfl (hob rfl rfl ?_) (obs_cons rfl rfl (hob rfl rfl ?_) (obs_cons rfl rfl (hob rfl rfl ?_) (obs_cons rfl rfl (hob rfl rfl ?_) obs_nil)))))) ?_
      · 
       exact fun _ _=>deps_nil (pf g23 0 rfl (by kernel_rfl) (pi_done rfl (Ext.refl _) rfl))
      · 
       exact fun _ e238=>dk rfl rfl (deps_nil (wl_load rfl rfl (load_cell (fun _=>by kernel_rfl) (hb30.ext (e38.trans (e216.trans (e224.trans (e228.trans (e232.trans e238)))))) rfl) (by decide) (pi_done rfl (Ext.refl _) rfl)))
      · 
       exact fun _ _=>deps_nil (mv 1 rfl (pi_done rfl (Ext.refl _) rfl))
      · 
       exact fun _ _=>deps_nil (mv 1 rfl (pi_done rfl (Ext.refl _) rfl))
      · 
       intro v248 e249
       have hw9:=hw8.trans e249
       refine dk rfl rfl (dk rfl rfl (deps_nil (cl (vs:= [.slice A234 n234 c234,.slice (some ⟨g220,0,none⟩) 1 1]) hw9 (g_nearest_v (o234.ext e249).wi (by omega) (o226.ext (e228.trans (e232.trans e249))).wi (by omega) (by decide) hnb) rfl (by kernel_rfl) fun xr262 v260 r262 e261 hw10=>?_)))
       obtain rfl:=r262
       exact pi_done rfl e261 rfl
      · 
       intro v263 e264
       have hw9:=hw8.trans e264
       refine dk rfl rfl (dk rfl rfl (deps_nil (cl (vs:= [.bool (sgT bs),.float .f64 nb]) hw9 (g_signed hnbl) rfl (by kernel_rfl) fun xr277 v275 r277 e276 hw10=>?_)))
       obtain rfl:=r277
       exact pi_done rfl e276 rfl
      · 
       intro v278 e279
       have hw9:=hw8.trans e279
       refine dk rfl rfl (dk rfl rfl (dk rfl rfl (dk rfl rfl (dk rfl rfl (dk rfl rfl (deps_nil (mv 2 rfl (wl_nil (eo_np (eo_then (cw_ret (eo_ret [.float .f64 (sgB (sgT bs) nb),I0] rfl ⟨rfl,rfl,trivial⟩ ?_))))))))))))
       have hr:=hrd
       exact⟨_,rfl,⟨_,_,rfl,(show Value.float .f64 _=_ by rw [hr]),(show Value.int .i64 _=_ by rw [hr])⟩,hw9⟩
     · 
      refine cw_keep [(0,.string (strB bs)),(2,.float .f64 0),(3,.int .i64 0),(10,.string (strB bs)),(11,.int .i64 ((bs.length:Nat):Int)),(12,.bool false),(14,.string (strB bs)),(15,.tuple #[.agg #[.bool (sgT bs),.string (strB dg),.int .i64 ((bh:Nat):Int),.bool true,.string (strB pw)],.bool true]),(13,.tuple #[.agg #[.bool (sgT bs),.string (strB dg),.int .i64 ((bh:Nat):Int),.bool true,.string (strB pw)],.bool true]),(16,.agg #[.bool (sgT bs),.string (strB dg),.int .i64 ((bh:Nat):Int),.bool true,.string (strB pw)]),(17,.bool true),(4,.pointer (some ⟨g23,0,none⟩)),(5,.bool true),(18,.bool true),(19,.bool false),(21,.pointer (some ⟨g23,4,none⟩)),(22,.string (strB pw)),(23,.tuple #[.int .i64 ((V:Nat):Int),.bool true]),(20,.tuple #[.int .i64 ((V:Nat):Int),.bool true]),(24,.int .i64 ((V:Nat):Int)),(25,.bool true),(6,.int .i64 ((-((V:Nat):Int))-((bh:Nat):Int))),(26,.bool true),(27,.bool false),(28,.pointer (some ⟨g23,3,none⟩)),(29,.bool true),(30,.int .i64 ((V:Nat):Int)),(31,.int .i64 (-((V:Nat):Int))),(32,.int .i64 (-((V:Nat):Int))),(33,.pointer (some ⟨g23,2,none⟩)),(34,.int .i64 ((bh:Nat):Int)),(35,.int .i64 ((-((V:Nat):Int))-((bh:Nat):Int))),(37,.pointer (some ⟨g23,1,none⟩)),(38,.string (strB dg)),(39,.tuple #[.slice A219 n219 c219,I0]),(36,.tuple #[.slice A219 n219 c219,I0]),(40,.slice A219 n219 c219),(41,.int .i64 0),(7,.slice A219 n219 c219),(8,.int .i64 0),(42,.slice (some ⟨g220,0,none⟩) 1 1),(9,.slice (some ⟨g220,0,none⟩) 1 1)] ⟨rfl,rfl,rfl,rfl,rfl,rfl,rfl,rfl,rfl,rfl,rfl,rfl,rfl,rfl,rfl,rfl,rfl,rfl,rfl,rfl,rfl,rfl,rfl,rfl,rfl,rfl,rfl,rfl,rfl,rfl,rfl,rfl,rfl,rfl,rfl,rfl,rfl,rfl,rfl,rfl,rfl,rfl,trivial⟩ ?_
      rw [show ((-((V:Nat):Int))-((bh:Nat):Int))=(-((V+bh:Nat):Int)) by omega]
      have h10:(wd (10^(V+bh))).length≤(V+bh)+1:=len_pow36 (by decide)
      refine cw_region (mv 1 rfl (wl_cmp rfl rfl rfl false (ge_f (by omega)) (by decide) (ne_ (cw_false rfl (cw_region (mv 1 rfl (wl_pureE rfl rfl (v:= .int .i64 (IntKind.i64.wrap (0- -((V+bh:Nat):Int)))) (v':= .int .i64 ((V+bh:Nat):Int)) (by decide) (by kernel_rfl) (cv_neg (by omega)) (cl (vs:= [.int .i64 ((V+bh:Nat):Int)]) hw6 (g_aten (n:=V+bh) hw6.size (by omega)) rfl (by kernel_rfl) fun xr312 v310 r312 e311 hw7=>?_))))))))
      obtain⟨A313,n313,c313,rfl,j313,o313⟩:=r312
      refine mv 1 rfl (ne_ (cw_seq ?_))
      obtain⟨nb,hnb⟩:∃nb,nearB (X*2^e74) (10^(V+bh))=nb:=⟨_,rfl⟩
      have hnbl:nb≤9218868437227405312:=hnb▸nearB_le _ _
      have hrd:=rdR_ok (nb:=nb) hlong hcut hV h5 hX (by unfold nrX;rw [if_neg (by simp),if_pos rfl];exact hnb)
      refine cw_draw mix 6 [] [Is (.pointer (some ⟨g23,0,none⟩)),Is (.bool (sgT bs)),Is (.slice A219 n219 c219),Is (.slice A313 n313 c313),Is (.float .f64 nb),Is (.float .f64 (sgB (sgT bs) nb))] [[],[0],[],[],[2,3],[1,4]] [[],[0],[],[],[2,3],[0,1,2,3,4],[0,1,2,3,4,5],[0,1,2,3,4,5,6]] rfl
       (obs_cons rfl rfl (hob rfl rfl ?_) (obs_cons rfl rfl (hob rfl rfl ?_) (obs_cons rfl rfl (hob rfl rfl ?_) (obs_cons rfl rfl (hob rfl rfl ?_) (obs_cons rfl rfl (hob rfl rfl ?_) (obs_cons rfl rfl (hob rfl rfl ?_) obs_nil)))))) ?_
      · 
       exact fun _ _=>deps_nil (pf g23 0 rfl (by kernel_rfl) (pi_done rfl (Ext.refl _) rfl))
      · 
       exact fun _ e317=>dk rfl rfl (deps_nil (wl_load rfl rfl (load_cell (fun _=>by kernel_rfl) (hb30.ext (e38.trans (e216.trans (e224.trans (e311.trans e317))))) rfl) (by decide) (pi_done rfl (Ext.refl _) rfl)))
      · 
       exact fun _ _=>deps_nil (mv 1 rfl (pi_done rfl (Ext.refl _) rfl))
      · 
       exact fun _ _=>deps_nil (mv 1 rfl (pi_done rfl (Ext.refl _) rfl))
      · 
       intro v327 e328
       have hw8:=hw7.trans e328
       refine dk rfl rfl (dk rfl rfl (deps_nil (cl (vs:= [.slice A219 n219 c219,.slice A313 n313 c313]) hw8 (g_nearest_v (o219.ext (e224.trans (e311.trans e328))).wi (by omega) (o313.ext e328).wi (by omega) (Nat.pow_pos (by decide)) hnb) rfl (by kernel_rfl) fun xr341 v339 r341 e340 hw9=>?_)))
       obtain rfl:=r341
       exact pi_done rfl e340 rfl
      · 
       intro v342 e343
       have hw8:=hw7.trans e343
       refine dk rfl rfl (dk rfl rfl (deps_nil (cl (vs:= [.bool (sgT bs),.float .f64 nb]) hw8 (g_signed hnbl) rfl (by kernel_rfl) fun xr356 v354 r356 e355 hw9=>?_)))
       obtain rfl:=r356
       exact pi_done rfl e355 rfl
      · 
       intro v357 e358
       have hw8:=hw7.trans e358
       refine dk rfl rfl (dk rfl rfl (dk rfl rfl (dk rfl rfl (dk rfl rfl (dk rfl rfl (deps_nil (mv 2 rfl (wl_nil (eo_np (eo_then (cw_ret (eo_ret [.float .f64 (sgB (sgT bs) nb),I0] rfl ⟨rfl,rfl,trivial⟩ ?_))))))))))))
       have hr:=hrd
       exact⟨_,rfl,⟨_,_,rfl,(show Value.float .f64 _=_ by rw [hr]),(show Value.int .i64 _=_ by rw [hr])⟩,hw8⟩
def IsRoot (X k r:Nat):Prop:=r^k≤X∧X<(r+1)^k
theorem IsRoot.le {X k r s:Nat}(h:IsRoot X k r) (hs:X<(s+1)^k):r≤s:=by
 refine Nat.le_of_not_lt (fun hlt=>?_)
 have h1:=Nat.pow_le_pow_left (Nat.succ_le_of_lt hlt) k
 have:=h.1
 rw [Nat.succ_eq_add_one] at h1
 omega
theorem IsRoot.uniq {X k r s:Nat}(h:IsRoot X k r) (g:IsRoot X k s):r=s:=Nat.le_antisymm (h.le g.2) (g.le h.2)
end Go.Proofs.YtipklngcpmkfhaaDoor

namespace Go.Proofs.YtipklngcpmkfhaaDoor
open Go.RowKit
open Ieee
theorem near_three:nearB (3*2^e74) 1=4613937818241073152:=by
 have e:rv 4613937818241073152=3*2^e74:=by
  obtain⟨p,hp⟩:∃p,p=1023:=⟨_,rfl⟩
  have h:=rv_form (p:=p) (m:=6755399441055744) (Or.inr (by decide)) (by decide)
  rw [show p*4503599627370496+6755399441055744=4613937818241073152 by subst hp;decide] at h
  have e0:e74=51+p:=by rw [e74_eq,hp]
  rw [h,e0,Nat.pow_add,←Nat.mul_assoc]
 have h:=nearR_self (D:=1) (r:=4613937818241073152) (by decide)
 rw [Nat.one_mul,e] at h
 unfold nearB
 rw [h];rfl
theorem nrB_m3:nrB (sg true 3)=13837309855095848960:=by
 unfold nrB
 have e1:(sg true 3).natAbs=3:=rfl
 have e2:decide (sg true 3<0)=true:=by decide
 rw [e1,e2,near_three];rfl
theorem awake7:(FloatKind.f64.format.order (nrB (sg true 3)) 13837309855095848960==some .eq)=true:=by
 rw [nrB_m3]
 show (double.order 13837309855095848960 13837309855095848960==some .eq)=true
 rw [order_fin (by decide) (by decide) (by decide) (by decide),Int.compare_eq_eq.2 rfl];rfl
def btB (f:Nat):Nat:=if mg f=0 then 0 else f
theorem flt_eq0_all (f:Nat):(FloatKind.f64.format.order f 0==some .eq)=decide (mg f=0):=by
 by_cases h:fin f
 ·exact flt_eq0 h
 ·rw [flt_eq0_not h,decide_eq_false (fun e=>h (by unfold fin;rw [e];decide))]
set_option maxHeartbeats 4000000 in
theorem g_awake7 {w:World}:
    Calls Tryd.prog 18 #[] w (Gv w (Is (.bool true))):=by
 refine sx_enter Tryd.func18 rfl (n:=7) rfl (bq rfl) (args:= []) (cw_keep [] trivial (sr (mv 1 rfl (ne_ (sr (wl_bslice rfl rfl (by decide) (k:=1) (e:=50) [.int .u64 3] (fun _=>by kernel_rfl) fun g1 v2 nb3=>?_))))))
 have o4:=O1.mk_ (x:=3) (b:=w.heap.size) nb3 (Ext.refl w).size
 have e5:=nb3.ext
 have hw1:=(Ext.refl w).trans e5
 have o7:=own1_wd o4 (show 3≤18446744073709551615 by decide) (show 3≠0 by decide)
 have j6:=len1 (show 3≤18446744073709551615 by decide) (show 3≠0 by decide)
 have z8:=Zr_sg true (show 3≠0 by decide) j6 o7
 refine pu (v:= .agg #[.bool true,.slice (some ⟨g1,0,none⟩) 1 1]) rfl (by kernel_rfl) (cl (vs:= [.agg #[.bool true,.slice (some ⟨g1,0,none⟩) 1 1]]) hw1 (g_Near z8.zi (z8.le (Nat.le_trans (ln_sg (s:=true) (Nat.le_of_eq j6.symm)) (by decide)))) rfl (by kernel_rfl) fun xr11 v9 r11 e10 hw2=>?_)
 obtain rfl:=r11
 refine mv 1 rfl (ne_ (sr (mv 1 rfl (wl_pureE rfl rfl (v:= .bool (FloatKind.f64.format.order (nrB (sg true 3)) 13837309855095848960==some .eq)) (v':= .bool true) (by decide) (by kernel_rfl) (congrArg Value.bool awake7) (mv 1 rfl (ne_ (cw_ret (eo_ret [.bool true] rfl ⟨rfl,trivial⟩ ?_))))))))
 exact⟨_,rfl,rfl,hw2⟩
set_option maxHeartbeats 4000000 in
theorem g_finite_bad {w:World}{f:Nat}(hf:¬fin f):
    Calls Tryd.prog 34 #[.float .f64 f] w (Gv w (Is (.bool false))):=by
 refine sx_enter Tryd.func34 rfl (n:=7) rfl (bq rfl) (args:= [.float .f64 f]) (cw_keep [(0,.float .f64 f)] ⟨rfl,trivial⟩ (sr (mv 1 rfl (ne_ (sr (mv 2 rfl ?_))))))
 obtain⟨r,hr,hrun⟩:=sub_nan hf Tryd.prog 52 w
 refine wl_opW rfl rfl rfl rfl hrun (by decide) ?_
 have hw1:Ext w w.drew:=(Ext.refl w).trans (Ext.refl w).drew
 refine wl_pureE rfl rfl (v:= .bool (FloatKind.f64.format.order r 0==some .eq)) (v':= .bool false) (by decide) (by kernel_rfl) (congrArg Value.bool (flt_eq0_not hr)) (mv 1 rfl (ne_ (cw_ret (eo_ret [F0] rfl ⟨rfl,trivial⟩ ?_))))
 exact⟨_,rfl,rfl,hw1⟩
set_option maxHeartbeats 4000000 in
theorem g_bits7 {w:World}{f:Nat}:
    Calls Tryd.prog 29 #[.float .f64 f] w (Gv w (Is (.int .u64 ((btB f:Nat):Int)))):=by
 refine sx_enter Tryd.func29 rfl (n:=7) rfl (bq rfl) (args:= [.float .f64 f]) (cw_keep [(0,.float .f64 f)] ⟨rfl,trivial⟩ (sr (mv 1 rfl (ne_ (cw_seq (cw_seq ?_))))))
 by_cases hz:mg f=0
 · 
  refine cw_region (mv 1 rfl (wl_pureE rfl rfl (v:= .bool (FloatKind.f64.format.order f 0==some .eq)) (v':= .bool true) (by decide) (by kernel_rfl) (congrArg Value.bool ((flt_eq0_all f).trans (decide_eq_true hz))) (ne_ (cw_true rfl (sr (mv 1 rfl (ne_ (cw_ret (eo_thenR (eo_ret [.int .u64 0] rfl ⟨rfl,trivial⟩ ?_))))))))))
  exact⟨_,rfl,(show Value.int .u64 0=_ by rw [show btB f=_ from if_pos hz];rfl),(Ext.refl w)⟩
 · 
  refine cw_region (mv 1 rfl (wl_pureE rfl rfl (v:= .bool (FloatKind.f64.format.order f 0==some .eq)) (v':= .bool false) (by decide) (by kernel_rfl) (congrArg Value.bool ((flt_eq0_all f).trans (decide_eq_false hz))) (ne_ (cw_false rfl (cw_skip (eo_then (sr (mv 1 rfl (pu (v:= .int .u64 ((f:Nat):Int)) rfl (by kernel_rfl) (mv 1 rfl (ne_ (cw_ret (eo_ret [.int .u64 ((f:Nat):Int)] rfl ⟨rfl,trivial⟩ ?_)))))))))))))
  exact⟨_,rfl,(show Value.int .u64 ((f:Nat):Int)=_ by rw [show btB f=_ from if_neg hz]),(Ext.refl w)⟩
end Go.Proofs.YtipklngcpmkfhaaDoor

namespace Go.Proofs.YtipklngcpmkfhaaDoor
open Go.RowKit
structure SciF (t:List Nat) (n q X P:Nat):Prop where
 b256:∀b,b∈t→b<256
 hp:P=if 1<n then n+1 else n
 len:t.length=P+1+(txtN 10 X).length
 d:∀j,j<n→t.getD (if j=0 then 0 else j+1) 0=(dgs n q).getD j 0
 dot:1<n→t.getD 1 0=46
 e:t.getD P 0=101
 x:∀i,i<(txtN 10 X).length→t.getD (P+1+i) 0=(txtN 10 X).getD i 0
theorem sciF_of {n q X:Nat}(hn:1≤n):SciF (sciD q n++([101]++txtN 10 X)) n q X (if 1<n then n+1 else n):=by
 have hT:=txtN_digs (m:=X)
 generalize hTX:txtN 10 X=T at hT
 have hl:=dgs_len n q
 have hdg:Digs (dgs n q):=fun c hc=>dgs_digit hc
 unfold sciD
 generalize hD:dgs n q=D at hl hdg
 obtain⟨c,r,rfl⟩:∃c r,D=c::r:=by
  cases D with
  | nil=>simp at hl;omega
  | cons c r=>exact⟨c,r,rfl⟩
 have hrl:r.length=n-1:=by rw [List.length_cons] at hl;omega
 have h256:∀b,b∈c::r→b<256:=fun b hb=>by have:=hdg b hb;omega
 have hT256:∀b,b∈T→b<256:=fun b hb=>by have:=hT.1 b hb;omega
 by_cases h1:1<n
 ·rw [if_pos h1,if_pos h1]
  have e:List.take 1 (c::r)++([46]++List.drop 1 (c::r))++([101]++T)=c::46::(r++(101::T)):=by simp
  rw [e]
  have hr:∀i,(c::46::(r++(101::T))).getD (i+2) 0=(r++(101::T)).getD i 0:=fun i=>rfl
  have hm:(r++(101::T)).getD (n-1) 0=101:=by rw [←hrl];have:=getD_appR (l:=r) (r:=101::T) (i:=0);rw [Nat.add_zero] at this;rw [this];rfl
  refine⟨fun b hb=>?_,by rw [if_pos h1],?_,fun j hj=>?_,fun _=>rfl,?_,fun i hi=>?_⟩
  ·rcases List.mem_cons.1 hb with rfl | hb
   ·exact h256 _ List.mem_cons_self
   rcases List.mem_cons.1 hb with rfl | hb
   ·decide
   rcases List.mem_append.1 hb with hb | hb
   ·exact h256 _ (List.mem_cons_of_mem _ hb)
   rcases List.mem_cons.1 hb with rfl | hb
   ·decide
   ·exact hT256 _ hb
  ·simp only [List.length_cons,List.length_append];rw [hTX];omega
  ·rw [hD]
   cases j with
   | zero=>rfl
   | succ j=>
    rw [if_neg (by omega)]
    show (r++(101::T)).getD j 0=r.getD j 0
    exact getD_appL (by omega)
  ·rw [show n+1=(n-1)+2 by omega,hr,hm]
  ·rw [hTX] at hi⊢
   rw [show n+1+1+i=(n+i)+2 by omega,hr,show n+i=r.length+(i+1) by omega,getD_appR]
   rfl
 ·rw [if_neg h1,if_neg h1]
  have hr0:r= []:=List.length_eq_zero_iff.1 (by omega)
  subst hr0
  have hn1:n=1:=by omega
  subst hn1
  have e:List.take 1 [c]++ []++([101]++T)=c::101::T:=by simp
  rw [e]
  refine⟨fun b hb=>?_,by rw [if_neg h1],?_,fun j hj=>?_,fun h=>absurd h h1,rfl,fun i hi=>?_⟩
  ·rcases List.mem_cons.1 hb with rfl | hb
   ·exact h256 _ List.mem_cons_self
   rcases List.mem_cons.1 hb with rfl | hb
   ·decide
   ·exact hT256 _ hb
  ·simp only [List.length_cons];rw [hTX];omega
  ·rw [hD,show j=0 by omega];rfl
  ·rw [hTX] at hi⊢
   rw [show 1+1+i=i+2 by omega];rfl
theorem g_aread_n {w:World}{bs:List Nat}{f:Nat}{e:Int}(hbs:∀b,b∈bs→b<256) (hlen:bs.length≤1099511627776) (h:rdR bs=(f,e)):Calls Tryd.prog 28 #[.string (strB bs)] w (Gv w (T2 (Is (.float .f64 f)) (Is (.int .i64 e)))):=by
 have h2:=g_aread (w:=w) hbs hlen
 rw [h] at h2;exact h2
theorem gv_bool7u {w:World}{b:Bool}:∀e w',Gv w (Is (.bool b)) e w'→BoolP b w e w':=by
 rintro e w' ⟨v,rfl,rfl,hx⟩
 exact⟨rfl,hx⟩
set_option maxHeartbeats 4000000 in
theorem g_sci_zero {w:World}{n:Nat}{sa:Bool}{Aa:Option Addr}{na ca:Nat}{x:Int}(hx:Zi w sa Aa na ca x) (la:na≤1048576) (hS:Signs w) (hx0:x=0) (hn1:1≤n) (hn40:n≤40):
    Calls Tryd.prog 19 #[.agg #[.bool sa,.slice Aa na ca],.int .i64 ((n:Nat):Int)] w (Gv w (T2 (Is (.string (strB [48]))) (Is (.int .i64 0)))):=by
 have Lx:ln x≤1048576:=Nat.le_trans hx.ln la
 refine sx_enter Tryd.func19 rfl (n:=113) rfl (bq rfl) (args:= [.agg #[.bool sa,.slice Aa na ca],.int .i64 ((n:Nat):Int)]) (cw_keep [(0,.agg #[.bool sa,.slice Aa na ca]),(1,.int .i64 ((n:Nat):Int))] ⟨rfl,rfl,trivial⟩ (sr (bx [.bool sa,.slice Aa na ca] (Ext.refl w) rfl rfl rfl fun g1 v2 hb4 ge5 e3 hw1=>(mv 2 rfl (ne_ (cw_seq (cw_seq ?_)))))))
 have h48:txtN 10 (Int.natAbs x)= [48]:=by rw [hx0];rfl
 refine cw_region (mv 1 rfl (wl_cmp rfl rfl rfl false (cb_lt_f (a:=n) (b:=1) rfl rfl (by omega)) (by decide) (mv 2 rfl (wl_cmp rfl rfl rfl false (cb_gt_f (a:=n) (b:=40) rfl rfl (by omega)) (by decide) (pu (v:= .bool false) rfl (by kernel_rfl) (ne_ (cw_false rfl (cw_skip (eo_then (sr (pf g1 1 rfl (by kernel_rfl) (wl_load rfl rfl (load_cell cellWords hb4 rfl) (by decide) (cl (vs:= [.slice Aa na ca]) hw1 (rx_DecF (hS.ext hw1) (hx.ext hw1).wi (lx_ la rfl)) rfl (by kernel_rfl) fun xr8 v6 r8 e7 hw2=>?_)))))))))))))
 obtain rfl:=r8
 refine mv 1 rfl (ne_ (cw_seq (sr (mv 1 rfl (wl_streq (a:=txtN 10 (Int.natAbs x)) (b:= [48]) rfl rfl rfl (fun b hb=>by rw [h48,List.mem_singleton] at hb;omega) (by decide) true (strE_eql_t (h48)) (by decide) (ne_ (cw_true rfl (sr (mv 3 rfl (ne_ (cw_ret (eo_thenR (eo_ret [.string (strB (txtN 10 (Int.natAbs x))),I0] rfl ⟨rfl,rfl,trivial⟩ ?_)))))))))))))
 exact⟨_,rfl,⟨_,_,rfl,(show Value.string _=_ by rw [h48]),rfl⟩,hw2⟩
theorem sciT_len {x:Int}{n:Nat}(hx:x≠0):(sciT x n).length≤n+3+(txtN 10 (sciX x.natAbs n)).length:=by
 rw [sciT_eq hx]
 unfold sciD
 have h1:(if decide (x<0)=true then [45] else ([]:List Nat)).length≤1:=by split <;> simp
 have h2:(if 1<n then [46]++(dgs n (sciQ x.natAbs n)).drop 1 else []).length≤n:=by split <;> simp [dgs_len];omega
 simp only [List.length_append,List.length_take,dgs_len,List.length_cons,List.length_nil]
 omega
theorem sciT_lt {x:Int}{n:Nat}(hn:1≤n) (hx:x≠0):∀b,b∈sciT x n→b<256:=by
 rw [sciT_eq hx]
 have h:=(sciF_of (n:=n) (q:=sciQ x.natAbs n) (X:=sciX x.natAbs n) hn).b256
 intro b hb
 rcases List.mem_append.1 hb with h1 | h1
 ·split at h1
  ·rw [List.mem_singleton] at h1;omega
  ·cases h1
 ·exact h b h1
theorem sciX_le {m n:Nat}:sciX m n≤dL m:=by unfold sciX;split <;> omega
theorem sg_z {x Z:Int}{q:Nat}(hZ:sg (decide (x<0)) q=Z):(x<0→Z= -(q:Int))∧(0≤x→Z=(q:Int)):=by
 subst hZ
 refine⟨fun h=>by rw [decide_eq_true h,sg_true],fun h=>by rw [decide_eq_false (by omega),sg_false]⟩
theorem rnd_abs {x Z:Int}{q S:Nat}(hZ:sg (decide (x<0)) q=Z):(x-Z*((S:Nat):Int)+(x-Z*((S:Nat):Int))).natAbs=2*((x.natAbs:Int)-((q*S:Nat):Int)).natAbs:=by
 obtain⟨h1,h2⟩:=sg_z hZ
 have e:((q*S:Nat):Int)=(q:Int)*(S:Int):=Int.natCast_mul _ _
 by_cases h:x<0
 ·rw [h1 h,Int.neg_mul,e];omega
 ·rw [h2 (by omega),e];omega
theorem rnd_two {x Z:Int}{n:Nat}(hx:x≠0) (h:n<dL x.natAbs) (hn:1≤n) (hX:sciX x.natAbs n=dL x.natAbs-1) (hZ:sg (decide (x<0)) (sciQ x.natAbs n)=Z){S:Nat}(hS:10^(sciX x.natAbs n-n+1)=S):
  (x-Z*((S:Nat):Int)+(x-Z*((S:Nat):Int))).natAbs≤S∧((x-Z*((S:Nat):Int)+(x-Z*((S:Nat):Int))).natAbs=S→sciQ x.natAbs n%2=0):=by
 rw [rnd_abs hZ]
 have hm0:0<x.natAbs:=by omega
 generalize x.natAbs=m at*
 have eS:dL m-n=sciX m n-n+1:=by omega
 rw [←eS] at hS
 have hsv:sv0 m n=m/S:=by unfold sv0;rw [if_neg (by omega),hS]
 have hdm:=Nat.div_add_mod m S
 have hp:0<S:=hS▸pow_pos10 _
 have hml:=Nat.mod_lt m hp
 by_cases hr:rup m (dL m-n)
 ·have hno:¬sv0 m n+1=10^n:=fun e=>by have:=(sci_over ⟨h,hr⟩ e).2;omega
  rw [(sci_up ⟨h,hr⟩ hno).1,hsv]
  unfold rup at hr
  rw [hS] at hr
  have e:(m/S+1)*S=S*(m/S)+S:=by rw [Nat.succ_mul,Nat.mul_comm]
  rw [e]
  generalize S*(m/S)=Y at*
  generalize m/S=d at*
  generalize m%S=r at*
  subst hdm
  refine⟨by omega,fun h=>by omega⟩
 ·rw [(sci_none (fun hc=>hr hc.2) hm0 hn).1,hsv]
  unfold rup at hr
  rw [hS] at hr
  rw [Nat.mul_comm (m/S) S]
  generalize S*(m/S)=Y at*
  generalize m/S=d at*
  generalize m%S=r at*
  subst hdm
  refine⟨by omega,fun h=>by omega⟩
theorem rnd_three {x Z:Int}{n:Nat}(hx:x≠0) (h:n<dL x.natAbs) (hn:1≤n) (hX:¬sciX x.natAbs n=dL x.natAbs-1) (hZ:sg (decide (x<0)) (sciQ x.natAbs n)=Z){S T:Nat}(hS:10^(sciX x.natAbs n-n+1)=S) (hT:10^(sciX x.natAbs n-n)=T):
  sciX x.natAbs n=dL x.natAbs∧(x-Z*((S:Nat):Int)+(x-Z*((S:Nat):Int))).natAbs≤T∧Z.natAbs=10^(n-1):=by
 rw [rnd_abs hZ]
 have hz:=sg_z hZ
 have hm0:0<x.natAbs:=by omega
 have hza:Z.natAbs=sciQ x.natAbs n:=by
  rcases Int.lt_or_le x 0 with h | h
  ·have:=hz.1 h;omega
  ·have:=hz.2 h;omega
 rw [hza]
 generalize x.natAbs=m at*
 have hov:sci1 m n=10^n:=by
  refine Classical.byContradiction fun hc=>hX ?_
  unfold sciX;rw [if_neg hc]
 have hv:=sv0_lt hm0 hn
 have hr:n<dL m∧rup m (dL m-n):=by
  refine Classical.byContradiction fun hc=>?_
  unfold sci1 at hov;rw [if_neg hc] at hov;omega
 have hsv1:sv0 m n+1=10^n:=by unfold sci1 at hov;rw [if_pos hr] at hov;exact hov
 obtain⟨h1,h2⟩:=sci_over hr hsv1
 rw [h2] at hS hT⊢
 rw [h1]
 have hsv:sv0 m n=m/T:=by unfold sv0;rw [if_neg (by omega),hT]
 have hrr:=hr.2
 unfold rup at hrr
 rw [hT] at hrr
 have e1:10^(n-1)*S=(sv0 m n+1)*T:=by
  rw [hsv1,←hS,←hT,←Nat.pow_add,←Nat.pow_add];congr 1;omega
 have hp:0<T:=hT▸pow_pos10 _
 have hml:=Nat.mod_lt m hp
 have hdm:=Nat.div_add_mod m T
 have e:(m/T+1)*T=T*(m/T)+T:=by rw [Nat.succ_mul,Nat.mul_comm]
 refine⟨rfl,?_,rfl⟩
 rw [e1,hsv,e]
 generalize T*(m/T)=Y at*
 generalize m%T=r at*
 omega
theorem g_sci_s {w:World}{s:Bool}{A:Option Addr}{n cap k:Nat}{x:Int}{t:List Nat}(ht:t=sciT x k) (hx:Zi w s A n cap x) (la:n≤1048576) (hS:Signs w) (h0:x≠0) (hk1:1≤k) (hk40:k≤40):Calls Tryd.prog 19 #[.agg #[.bool s,.slice A n cap],.int .i64 ((k:Nat):Int)] w (Gv w (T2 (Is (.string (strB t))) (Is (.int .i64 0)))):=by subst ht;exact g_sci hx la hS h0 hk1 hk40
end Go.Proofs.YtipklngcpmkfhaaDoor

namespace Go.Proofs.YtipklngcpmkfhaaDoor
theorem near17 {V N r T:Nat}(h:rv r=N*T) (hN:0<N) (hT:0<T) (h1:20000000000000000*V≤20000000000000000*N+N) (h2:20000000000000000*N≤20000000000000000*V+N):IsNear (V*T) 1 r:=by
 have e1:20000000000000000*(V*T)≤20000000000000000*(N*T)+N*T:=by
  have:=Nat.mul_le_mul_right T h1
  rw [Nat.add_mul,Nat.mul_assoc,Nat.mul_assoc] at this;exact this
 have e2:20000000000000000*(N*T)≤20000000000000000*(V*T)+N*T:=by
  have:=Nat.mul_le_mul_right T h2
  rw [Nat.add_mul,Nat.mul_assoc,Nat.mul_assoc] at this;exact this
 have hB:0<N*T:=Nat.mul_pos hN hT
 rw [←h] at e1 e2 hB
 generalize V*T=A at e1 e2⊢
 refine⟨fun s hs=>?_,?_⟩
 ·obtain⟨p,m,_,_,hm,h3,h4⟩:=rv_parts s
  subst hs
  have h5:(m+1)*2^p≤9007199254740992*2^p:=Nat.mul_le_mul_right _ hm
  have h6:(m+1)*2^p=m*2^p+2^p:=Nat.succ_mul _ _
  rw [h4] at e1 e2 hB
  rw [h3,h4]
  generalize m*2^p=B at h5 h6 e1 e2 hB⊢
  generalize (m+1)*2^p=C at h5 h6 e1 e2 hB⊢
  generalize 2^p=G at h5 h6 e1 e2 hB⊢
  omega
 ·obtain⟨p,m,_,_,hm,h3,h4⟩:=rv_parts r
  have h5:(m+1)*2^p≤9007199254740992*2^p:=Nat.mul_le_mul_right _ hm
  have h6:(m+1)*2^p=m*2^p+2^p:=Nat.succ_mul _ _
  rw [h3] at e1 e2 hB
  rw [h3,h4]
  generalize m*2^p=B at h5 h6 e1 e2 hB⊢
  generalize (m+1)*2^p=C at h5 h6 e1 e2 hB⊢
  generalize 2^p=G at h5 h6 e1 e2 hB⊢
  omega
end Go.Proofs.YtipklngcpmkfhaaDoor

namespace Go.Proofs.YtipklngcpmkfhaaDoor
open Go.RowKit
open Ieee in
theorem arch_run {P:Program}{w:World}{ρ:Operand→Value}{o:Oper}{x r:Nat}(h1:(execOp ρ o).run P w=((Extern.MathFloor.toIntegral "math.archTrunc" .zero #[.float .f64 x]>>=fun v=>pure (Next.value v)):Sem Next).run P w)
  (h2:(Extern.MathFloor.toIntegral "math.archTrunc" .zero #[.float .f64 x]).run P w= .ok (.float .f64 r) w):(execOp ρ o).run P w= .ok (.value (.float .f64 r)) w:=by
 rw [h1,Sem.run_bind,h2];rfl
open Ieee in
theorem run_trunc {P:Program}{w:World}{x r m:Nat}{s:Bool}{i:Int}(hd:Ieee.double.read x= .number s m i) (hr:Ieee.double.write ((Datum.number s m i).integral .zero)=r):(Extern.MathFloor.toIntegral "math.archTrunc" .zero #[.float .f64 x]).run P w= .ok (.float .f64 r) w:=by
 have e:FloatKind.f64.decode x= .number s m i:=hd
 have e2:FloatKind.f64.encode ((Datum.number s m i).integral .zero)=r:=hr
 have key:∀d:Datum,FloatKind.f64.decode x=d→(Extern.MathFloor.toIntegral "math.archTrunc" .zero #[.float .f64 x])=(match d with
  | .nan s t=>if FloatKind.f64.format.quiet t=t then pure (.float .f64 x) else do
   let kept←choose (.extern "math.Floor,Ceil,Trunc,RoundToEven.signallingNaN kept" 2)
   pure (.float .f64 (if kept==1 then x else FloatKind.f64.encode (.nan s (FloatKind.f64.format.quiet t))))
  | d=>pure (.float .f64 (FloatKind.f64.encode (d.integral .zero)))):=by
  rintro d rfl
  rfl
 rw [key _ e]
 show Sem.run P (pure (Value.float .f64 (FloatKind.f64.encode ((Datum.number s m i).integral .zero))):Sem Value) w=_
 rw [e2]
 rfl
theorem shl_one (n:Nat):1 <<< n=2^n:=by rw [Nat.shiftLeft_eq,Nat.one_mul]
open Ieee in
theorem cut_zero (s:Bool) (n d:Nat):Toward.zero.cut s n d=n/2^d:=by
 unfold Toward.cut
 show n/(1 <<< min d (n.log2+2))+Bool.toNat false=_
 rw [shl_one]
 show n/2^min d (n.log2+2)+0=_
 rw [Nat.add_zero]
 by_cases h:d≤n.log2+2
 ·rw [Nat.min_eq_left h]
 ·rw [Nat.min_eq_right (by omega)]
  have h1:n<2^(n.log2+2):=Nat.lt_trans Nat.lt_log2_self (Nat.pow_lt_pow_right (by decide) (by omega))
  rw [Nat.div_eq_of_lt h1,Nat.div_eq_of_lt (Nat.lt_of_lt_of_le h1 (Nat.pow_le_pow_right (by decide) (by omega)))]
open Ieee in
theorem cut_even {s:Bool}{n d k:Nat}(h:n=k*2^d) (hd:d≤n.log2+2):Toward.even.cut s n d=k:=by
 have hp:0<2^d:=Nat.two_pow_pos d
 unfold Toward.cut
 show n/(1 <<< min d (n.log2+2))+Bool.toNat (decide (1 <<< min d (n.log2+2)<2*(n%(1 <<< min d (n.log2+2))))||(1 <<< min d (n.log2+2)==2*(n%(1 <<< min d (n.log2+2)))&&n/(1 <<< min d (n.log2+2))%2==1))=k
 rw [shl_one,Nat.min_eq_left hd]
 have h1:n/2^d=k:=by rw [h];exact Nat.mul_div_cancel _ hp
 have h2:n%2^d=0:=by rw [h];exact Nat.mul_mod_left _ _
 rw [h1,h2]
 generalize 2^d=g at hp
 have e1:decide (g<2*0)=false:=decide_eq_false (by omega)
 have e2:(g==2*0)=false:=by rw [beq_eq_false_iff_ne];omega
 rw [e1,e2]
 rfl
theorem log2_shift {m k:Nat}(h0:m≠0):(m*2^k).log2=m.log2+k:=by
 have h1:=Nat.log2_self_le h0
 have h2:= @Nat.lt_log2_self m
 have hp:0<2^k:=Nat.two_pow_pos k
 refine (Nat.log2_eq_iff (Nat.mul_ne_zero h0 (by omega))).2 ⟨?_,?_⟩
 ·rw [Nat.pow_add];exact Nat.mul_le_mul_right _ h1
 ·rw [show m.log2+k+1=(m.log2+1)+k by omega,Nat.pow_add];exact Nat.mul_lt_mul_of_pos_right h2 hp
theorem log2_53 {m:Nat}(h1:4503599627370496≤m) (h2:m<9007199254740992):m.log2=52:=(Nat.log2_eq_iff (by omega)).2 ⟨h1,h2⟩
open Ieee in
theorem near_word {s:Bool}{N r:Nat}(hr:r<9218868437227405312) (h:(N=0∧r=0)∨(N≠0∧∃a kept:Nat,(max (0+(N.log2:Int)-52) (-1074)-(-1074)).toNat=a∧Toward.even.cut s (N <<< (0-max (0+(N.log2:Int)-52) (-1074)).toNat) (max (0+(N.log2:Int)-52) (-1074)-0).toNat=kept∧r=a*4503599627370496+kept)):Ieee.double.nearest s N 0=if s then 9223372036854775808+r else r:=by
 unfold Format.nearest
 rcases h with⟨h0,h1⟩ | ⟨h0,a,kept,ha,hk,hr2⟩
 ·rw [if_pos h0,h1];unfold Format.word;rw [dbl_sw]
 ·rw [if_neg h0]
  unfold Format.word
  rw [dbl_sw,dbl_bin,dbl_inf,dbl_lp]
  show (if s=true then 9223372036854775808+min ((max (0+(N.log2:Int)-((52:Nat):Int)) (-1074)-(-1074)).toNat*4503599627370496+Toward.even.cut s (N <<< (0-max (0+(N.log2:Int)-((52:Nat):Int)) (-1074)).toNat) (max (0+(N.log2:Int)-((52:Nat):Int)) (-1074)-0).toNat) 9218868437227405312 else min ((max (0+(N.log2:Int)-((52:Nat):Int)) (-1074)-(-1074)).toNat*4503599627370496+Toward.even.cut s (N <<< (0-max (0+(N.log2:Int)-((52:Nat):Int)) (-1074)).toNat) (max (0+(N.log2:Int)-((52:Nat):Int)) (-1074)-0).toNat) 9218868437227405312)=_
  rw [show ((52:Nat):Int)=52 from rfl,ha,hk,←hr2,Nat.min_eq_left (by omega)]
def whN (f:Nat):Nat:=rv (mg f)/2^e74
open Ieee in
theorem trunc_fin {f:Nat}(hb:f<18446744073709551616) (hf:fin f):∃r,Ieee.double.write ((Datum.number (sgnb f) (pm f) ((pe f:Int)+ -1074)).integral .zero)=(if sgnb f then 9223372036854775808+r else r)∧rv r=whN f*2^e74∧r<9218868437227405312:=by
 have hrv:=rv_pm f
 have hpl:=pm_lt f
 have hpe:=pe_le hf
 have he74:=e74_eq
 have hmf:mg f<9218868437227405312:=hf
 show∃r,Ieee.double.nearest (sgnb f) (Toward.zero.cut (sgnb f) (pm f <<< ((pe f:Int)+ -1074).toNat) (-((pe f:Int)+ -1074)).toNat) 0=_∧_∧_
 rw [cut_zero,Nat.shiftLeft_eq]
 by_cases h1:1074≤pe f
 ·obtain⟨k,hk⟩:∃k,pe f=e74+k:=⟨pe f-e74,by omega⟩
  have e1:((pe f:Int)+ -1074).toNat=k:=by omega
  have e2:(-((pe f:Int)+ -1074)).toNat=0:=by omega
  rw [e1,e2,Nat.pow_zero,Nat.div_one]
  have hpm:4503599627370496≤pm f:=by
   have:fld f≠0:=fun e=>by unfold pe at h1;omega
   unfold pm;rw [if_neg this];omega
  have hN:whN f=pm f*2^k:=by
   unfold whN
   rw [hrv,hk,Nat.pow_add,Nat.mul_left_comm,Nat.mul_div_cancel_left _ (Nat.two_pow_pos _)]
  have hl:(pm f*2^k).log2=52+k:=by rw [log2_shift (by omega),log2_53 hpm hpl]
  have hself:rv (mg f)=whN f*2^e74:=by rw [hN,hrv,hk,Nat.pow_add];grind
  have hrung:mg f=pe f*4503599627370496+pm f:=by
   refine rv_inj ?_
   rw [rv_form (Or.inr hpm) (by omega),hrv]
  refine⟨mg f,near_word hmf (Or.inr ⟨?_,pe f,pm f,?_,?_,hrung⟩),hself,hmf⟩
  ·have:=Nat.two_pow_pos k
   exact Nat.mul_ne_zero (by omega) (by omega)
  ·rw [hl];omega
  ·rw [hl]
   have e3:(0-max (0+((52+k:Nat):Int)-52) (-1074)).toNat=0:=by omega
   have e4:(max (0+((52+k:Nat):Int)-52) (-1074)-0).toNat=k:=by omega
   rw [e3,e4,Nat.shiftLeft_zero]
   exact cut_even rfl (by rw [hl];omega)
 ·obtain⟨d,hd⟩:∃d,e74=pe f+d:=⟨e74-pe f,by omega⟩
  have e1:((pe f:Int)+ -1074).toNat=0:=by omega
  have e2:(-((pe f:Int)+ -1074)).toNat=d:=by omega
  rw [e1,e2,Nat.pow_zero,Nat.mul_one]
  have hN:whN f=pm f/2^d:=by
   unfold whN
   rw [hrv,hd,Nat.pow_add,Nat.mul_comm (pm f),Nat.mul_div_mul_left _ _ (Nat.two_pow_pos _)]
  rw [←hN]
  have hlt:whN f<9007199254740992:=by rw [hN];exact Nat.lt_of_le_of_lt (Nat.div_le_self _ _) hpl
  generalize whN f=N at*
  by_cases h0:N=0
  ·exact⟨0,near_word (by decide) (Or.inl ⟨h0,rfl⟩),by rw [h0,Nat.zero_mul];rfl,by decide⟩
  ·have hl:N.log2≤52:=by
    have h2:N.log2<53:=(Nat.log2_lt h0).2 hlt
    omega
   obtain⟨c,hc⟩:∃c,N.log2+c=52:=⟨52-N.log2,by omega⟩
   have hk1:4503599627370496≤N*2^c:=by
    have:=Nat.mul_le_mul_right (2^c) (Nat.log2_self_le h0)
    rw [←Nat.pow_add,hc] at this;exact this
   have hk2:N*2^c<9007199254740992:=by
    have:=Nat.mul_lt_mul_of_pos_right (@Nat.lt_log2_self N) (Nat.two_pow_pos c)
    rw [←Nat.pow_add,show N.log2+1+c=53 by omega] at this;exact this
   obtain⟨a,ha⟩:∃a,a+c=e74:=⟨e74-c,by omega⟩
   have hrun:rv (a*4503599627370496+N*2^c)=N*2^e74:=by
    rw [rv_form (Or.inr hk1) (by omega),Nat.mul_assoc,←Nat.pow_add,Nat.add_comm c a,ha]
   have hri:a*4503599627370496+N*2^c<9218868437227405312:=by omega
   refine⟨_,near_word hri (Or.inr ⟨h0,a,N*2^c,?_,?_,rfl⟩),hrun,hri⟩
   ·omega
   ·have e3:(0-max (0+(N.log2:Int)-52) (-1074)).toNat=c:=by omega
    have e4:(max (0+(N.log2:Int)-52) (-1074)-0).toNat=0:=by omega
    rw [e3,e4,Nat.shiftLeft_eq]
    exact cut_even (by rw [Nat.pow_zero,Nat.mul_one]) (Nat.zero_le _)
theorem natAbs_sg7 (s:Bool) (m:Nat):Int.natAbs (sg s m)=m:=by
 cases s
 ·rw [sg_false];rfl
 ·rw [sg_true,Int.natAbs_neg];rfl
set_option maxHeartbeats 4000000 in
theorem g_Trunc {w:World}{f t:Nat}(hb:f<18446744073709551616) (hf:fin f) (ht:Ieee.double.write ((Ieee.Datum.number (sgnb f) (pm f) ((pe f:Int)+ -1074)).integral .zero)=t):
    Calls Tryd.prog 35 #[.float .f64 f] w (Gv w (Is (.float .f64 t))):=by
 refine sx_enter Tryd.func35 rfl (n:=7) rfl (bq rfl) (args:= [.float .f64 f]) (cw_keep [(0,.float .f64 f)] ⟨rfl,trivial⟩ (sr (mv 1 rfl (ne_ (cw_seq (cw_true rfl (sr (mv 1 rfl (wl_pure rfl rfl (v:= .float .f64 t) (by decide) (arch_run (by kernel_rfl) (run_trunc (read_parts hb hf) ht)) (mv 1 rfl (ne_ (cw_ret (eo_thenR ?_)))))))))))))
 refine eo_ret [.float .f64 t] rfl ⟨rfl,trivial⟩ ?_
 exact⟨_,rfl,rfl,(Ext.refl w)⟩
theorem ln_whV7 {f:Nat}(hf:fin f):ln (whV f)≤34:=by
 refine ln_of_bd (n:=1) (k:=0) ?_ (by decide)
 have h:=fv_bd hf
 unfold fv at h
 rw [natAbs_sg7] at h
 unfold whV
 rw [natAbs_sg7,Nat.one_mul]
 exact Nat.le_trans (Nat.div_le_self _ _) h
theorem rnd_nat {m n:Nat}(h0:0<m) (h:n<dL m) (hn:1≤n):2*(sciQ m n*10^(sciX m n-n+1))≤2*m+10^(dL m-n)∧2*m≤2*(sciQ m n*10^(sciX m n-n+1))+10^(dL m-n)∧n≤sciX m n:=by
 have hm:((m:Int)).natAbs=m:=Int.natAbs_natCast m
 have hx:(m:Int)≠0:=by omega
 by_cases hX:sciX m n=dL m-1
 ·have h1:=(rnd_two (x:=(m:Int)) (Z:=(sciQ m n:Int)) hx (by rw [hm];exact h) hn (by rw [hm];exact hX) (by rw [hm,decide_eq_false (by omega),sg_false]) (S:=10^(sciX m n-n+1)) (by rw [hm])).1
  have h2:=rnd_abs (x:=(m:Int)) (Z:=(sciQ m n:Int)) (q:=sciQ m n) (S:=10^(sciX m n-n+1)) (by rw [decide_eq_false (by omega),sg_false])
  rw [h2,hm] at h1
  have e:10^(dL m-n)=10^(sciX m n-n+1):=by congr 1;omega
  rw [e]
  generalize sciQ m n*10^(sciX m n-n+1)=V at*
  omega
 ·obtain⟨h3,h1,_⟩:=rnd_three (x:=(m:Int)) (Z:=(sciQ m n:Int)) hx (by rw [hm];exact h) hn (by rw [hm];exact hX) (by rw [hm,decide_eq_false (by omega),sg_false]) (S:=10^(sciX m n-n+1)) (T:=10^(sciX m n-n)) (by rw [hm]) (by rw [hm])
  have h2:=rnd_abs (x:=(m:Int)) (Z:=(sciQ m n:Int)) (q:=sciQ m n) (S:=10^(sciX m n-n+1)) (by rw [decide_eq_false (by omega),sg_false])
  rw [h2,hm] at h1
  rw [hm] at h3
  have e:10^(dL m-n)=10^(sciX m n-n):=by congr 1;omega
  rw [e]
  generalize sciQ m n*10^(sciX m n-n+1)=V at*
  omega
theorem nearB_of {X D r:Nat}(h:nearR X D=r) (hr:r<9218868437227405312):nearB X D=r:=by unfold nearB;rw [h];exact Nat.min_eq_left (by omega)
theorem near_sci {m n r:Nat}(h0:0<m) (hn:17≤n) (hrv:rv r=m*2^e74) (hr:r<9218868437227405312):nrX (sciQ m n) (n-1) (sciX m n) false=r:=by
 have hT:0<2^e74:=Nat.two_pow_pos _
 by_cases hL:n<dL m
 ·obtain⟨h1,h2,h3⟩:=rnd_nat h0 hL (by omega)
  obtain⟨k,hk,hk1,_,_⟩:=dL_ex h0
  have hS:10^(dL m-n)*10000000000000000≤m:=by
   refine Nat.le_trans ?_ hk1
   rw [show (10000000000000000:Nat)=10^16 from rfl,←Nat.pow_add]
   exact Nat.pow_le_pow_right (by decide) (by omega)
  unfold nrX
  rw [if_pos ⟨rfl,by omega⟩,show sciX m n-(n-1)=sciX m n-n+1 by omega]
  refine nearB_of (nearR_eq (by decide) (near17 hrv h0 hT ?_ ?_)) hr
  ·generalize sciQ m n*10^(sciX m n-n+1)=V at*
   generalize 10^(dL m-n)=S at*
   omega
  ·generalize sciQ m n*10^(sciX m n-n+1)=V at*
   generalize 10^(dL m-n)=S at*
   omega
 ·obtain⟨h1,h2⟩:=sci_none (m:=m) (n:=n) (fun hc=>hL hc.1) h0 (by omega)
  obtain⟨k,hk,_⟩:=dL_ex h0
  have hsv:sv0 m n=m*10^(n-dL m):=by unfold sv0;rw [if_pos (by omega)]
  unfold nrX
  by_cases hX:n-1≤sciX m n
  ·have e:n-dL m=0:=by omega
   rw [if_pos ⟨rfl,hX⟩,h1,hsv,e,Nat.pow_zero,Nat.mul_one,show sciX m n-(n-1)=0 by omega,Nat.pow_zero,Nat.mul_one,←hrv]
   have:=nearR_self (D:=1) (r:=r) (by decide)
   rw [Nat.one_mul] at this
   exact nearB_of this hr
  ·rw [if_neg (fun h=>hX h.2),if_neg (by decide),h1,hsv,show n-1-sciX m n=n-dL m by omega,Nat.mul_right_comm,←hrv,Nat.mul_comm]
   exact nearB_of (nearR_self (pow_pos10 _)) hr
theorem rd_seventeen {f n r t:Nat}(hb:f<18446744073709551616) (hf:fin f) (hn:17≤n) (hn40:n≤40) (hw:whV f≠0) (ht:(if sgnb f then 9223372036854775808+r else r)=t) (hrv:rv r=whN f*2^e74) (hr:r<9218868437227405312):rdR (sciT (whV f) n)=(t,0):=by
 have hwa:(whV f).natAbs=whN f:=by unfold whV whN;rw [natAbs_sg7]
 have hN0:0<whN f:=by omega
 have hsg:decide (whV f<0)=sgnb f:=by
  have e:whV f=sg (sgnb f) (whN f):=rfl
  rw [e]
  cases sgnb f
  ·rw [sg_false];exact decide_eq_false (by omega)
  ·rw [sg_true];exact decide_eq_true (by omega)
 have hl34:(wd (whN f)).length≤34:=by have h:=ln_whV7 hf;unfold ln at h;rwa [hwa] at h
 have hdl:dL (whN f)≤2177:=txtN_len (b:=10) (n:=34) (by decide) hl34
 have hXl:=sciX_le (m:=whN f) (n:=n)
 have hTl:(txtN 10 (sciX (whN f) n)).length≤65:=txtN_len (b:=10) (n:=1) (by decide) (len_w64a (by omega))
 have hlen:¬4096<(sciT (whV f) n).length:=by have:=sciT_len (n:=n) hw;rw [hwa] at this;omega
 obtain⟨hc,hs⟩:=cut_sci (n:=n) hw (by omega)
 rw [hwa] at hc
 have hq:=sciQ_lt (m:=whN f) (n:=n) hN0 (by omega)
 have hnr:=near_sci hN0 hn hrv hr
 rw [rdR_ok (nb:=r) hlen hc vald_digs10 (by omega) (dgs_vald hq.1) hnr,hs,hsg]
 have hr0:r≠0:=fun e=>by
  rw [e] at hrv
  have h2:rv 0=0:=rfl
  have:=Nat.mul_pos hN0 (Nat.two_pow_pos e74)
  omega
 congr 1
 unfold sgB
 rw [←ht]
 cases sgnb f
 ·rw [if_neg (by simp)];rfl
 ·rw [if_pos ⟨rfl,hr0⟩,if_pos rfl,Nat.add_comm]
theorem bt_trunc0 {f r t:Nat}(hw:whV f=0) (ht:(if sgnb f then 9223372036854775808+r else r)=t) (hrv:rv r=whN f*2^e74):btB t=0:=by
 have hN0:whN f=0:=by have h:=congrArg Int.natAbs hw;unfold whV at h;rw [natAbs_sg7] at h;exact h
 rw [hN0,Nat.zero_mul] at hrv
 have h2:rv 0=0:=rfl
 have hr0:r=0:=rv_inj (by rw [hrv,h2])
 subst hr0
 rw [←ht]
 cases sgnb f <;> rfl
theorem nrX_zero:nrX 0 0 0 false=0:=by
 unfold nrX
 have e:0*10^(0-0)=0:=Nat.zero_mul _
 rw [if_pos ⟨rfl,Nat.le_refl 0⟩,e]
 exact near_z (z:=e74) (by decide)
theorem rd_zero48:rdR [48]=(0,0):=by
 have hc:cutF [48]=some ([48],0,false,[]):=by decide
 have h4:¬4096< [48].length:=by decide
 have h:=rdR_ok (V:=0) (X:=0) (nb:=0) h4 hc rfl (by decide) rfl nrX_zero
 rw [h]
 rfl
set_option maxHeartbeats 8000000 in
set_option maxRecDepth 20000 in
theorem law_Seventeen_badB {w:World}{f:Nat}{n:Int}(hb:f<18446744073709551616) (hf:¬fin f):
    Calls Tryd.prog 6 #[.int .u64 ((f:Nat):Int),.int .i64 n] w (Gv w (Is (.bool true))):=by
 refine sx_enter Tryd.func6 rfl (n:=56) rfl (bq rfl) (args:= [.int .u64 ((f:Nat):Int),.int .i64 n]) (cw_keep [(0,.int .u64 ((f:Nat):Int)),(1,.int .i64 n)] ⟨rfl,rfl,trivial⟩ (sr (mv 1 rfl (ne_ (cw_seq (sr (wl_call rfl rfl (vs:= []) (by kernel_rfl) (by decide) g_awake7 ?_)))))))
 rintro _ v1 ⟨xr3,rfl,r3,e2⟩
 refine ret_intro ?_
 have hw1:=(Ext.refl w).trans e2
 obtain rfl:=r3
 refine pu (v:= .bool false) rfl (by kernel_rfl) (ne_ (cw_false rfl (cw_skip (eo_then (sr (mv 1 rfl (pu (v:= .float .f64 f) rfl (by kernel_rfl) (mv 1 rfl (ne_ (sr (mv 1 rfl (cl (vs:= [.float .f64 f]) hw1 (g_Whole_bad hw1.size hb hf) rfl (by kernel_rfl) fun xr6 v4 r6 e5 hw2=>?_))))))))))))
 obtain⟨_,_,rfl,⟨s8,A8,n8,c8,rfl,z8⟩,rfl⟩:=r6
 refine mv 1 rfl (pu (v:= .agg #[.bool s8,.slice A8 n8 c8]) rfl (by kernel_rfl) (pu (v:= .int .i64 3) rfl (by kernel_rfl) (al [F0,S0] hw2 (fun _=>by kernel_rfl) rfl fun g9 v10 hb12 ge13 e11 hw3=>(so aggInt hb12 [.bool s8,.slice A8 n8 c8] hw3 ge13 rfl rfl rfl rfl fun v14 hb16 u17 hw4=>(mv 1 rfl (ne_ (cw_seq (sr (mv 1 rfl (wl_cmp rfl rfl rfl true (by decide) (by decide) (ne_ (cw_true rfl (cw_seq ?_)))))))))))))
 refine cw_region (mv 1 rfl (cl (vs:= [.float .f64 f]) hw4 (g_finite_bad hf) rfl (by kernel_rfl) fun xr21 v19 r21 e20 hw5=>?_))
 obtain rfl:=r21
 refine pu (v:= .bool true) rfl (by kernel_rfl) (mv 1 rfl (ne_ (cw_ret (eo_thenR (eo_ret [.bool true] rfl ⟨rfl,trivial⟩ ?_)))))
 exact⟨_,rfl,rfl,hw5⟩
set_option maxHeartbeats 8000000 in
set_option maxRecDepth 20000 in
theorem law_Seventeen_zeroB {w:World}{f:Nat}{n:Int}(hb:f<18446744073709551616) (hS:Signs w) (hf:fin f) (hw0:whV f=0) (hn:n<17∨40<n):
    Calls Tryd.prog 6 #[.int .u64 ((f:Nat):Int),.int .i64 n] w (Gv w (Is (.bool true))):=by
 obtain⟨r,htr,hrv,hri⟩:=trunc_fin hb hf
 obtain⟨t,ht⟩:∃t,(if sgnb f then 9223372036854775808+r else r)=t:=⟨_,rfl⟩
 rw [ht] at htr
 refine sx_enter Tryd.func6 rfl (n:=56) rfl (bq rfl) (args:= [.int .u64 ((f:Nat):Int),.int .i64 n]) (cw_keep [(0,.int .u64 ((f:Nat):Int)),(1,.int .i64 n)] ⟨rfl,rfl,trivial⟩ (sr (mv 1 rfl (ne_ (cw_seq (sr (wl_call rfl rfl (vs:= []) (by kernel_rfl) (by decide) g_awake7 ?_)))))))
 rintro _ v1 ⟨xr3,rfl,r3,e2⟩
 refine ret_intro ?_
 have hw1:=(Ext.refl w).trans e2
 obtain rfl:=r3
 refine pu (v:= .bool false) rfl (by kernel_rfl) (ne_ (cw_false rfl (cw_skip (eo_then (sr (mv 1 rfl (pu (v:= .float .f64 f) rfl (by kernel_rfl) (mv 1 rfl (ne_ (sr (mv 1 rfl (cl (vs:= [.float .f64 f]) hw1 (g_Whole hw1.size hb hf) rfl (by kernel_rfl) fun xr6 v4 r6 e5 hw2=>?_))))))))))))
 obtain⟨_,_,rfl,⟨s8,A8,n8,c8,rfl,z8⟩,rfl⟩:=r6
 refine mv 1 rfl (pu (v:= .agg #[.bool s8,.slice A8 n8 c8]) rfl (by kernel_rfl) (pu (v:= .int .i64 0) rfl (by kernel_rfl) (al [F0,S0] hw2 (fun _=>by kernel_rfl) rfl fun g9 v10 hb12 ge13 e11 hw3=>(so aggInt hb12 [.bool s8,.slice A8 n8 c8] hw3 ge13 rfl rfl rfl rfl fun v14 hb16 u17 hw4=>(mv 1 rfl (ne_ (cw_seq (sr (mv 1 rfl (wl_cmp rfl rfl rfl false (by decide) (by decide) (ne_ (cw_false rfl (cw_skip ?_)))))))))))))
 refine eo_then (cw_seq (cw_seq ?_))
 by_cases h17:n<17
 · 
  refine cw_region (mv 1 rfl (wl_cmp rfl rfl rfl true (lt_t h17) (by decide) (mv 3 rfl (pu (v:= .bool true) rfl (by kernel_rfl) (ne_ (cw_true rfl (cw_region (mv 1 rfl (ne_ (sr (lo aggInt hb16 [.bool s8,.slice A8 n8 c8] rfl rfl rfl (mv 1 rfl (cl (vs:= [.agg #[.bool s8,.slice A8 n8 c8],.int .i64 17]) hw4 (g_sci_zero (n:=17) ((z8.ext e11).updT hb12 u17).zi (z8.le (Nat.le_trans (ln_whV7 hf) (by decide))) (hS.ext hw4) hw0 (by decide) (by decide)) rfl (by kernel_rfl) fun xr21 v19 r21 e20 hw5=>?_)))))))))))))
  obtain⟨_,_,rfl,rfl,rfl⟩:=r21
  refine mv 1 rfl (pu (v:= .string (strB ([48]))) rfl (by kernel_rfl) (pu (v:= .int .i64 0) rfl (by kernel_rfl) (mv 2 rfl (ne_ (sr (mv 1 rfl (cl (vs:= [.string (strB ([48]))]) hw5 (g_aread_n (by decide) (by decide) rd_zero48) rfl (by kernel_rfl) fun xr25 v23 r25 e24 hw6=>?_)))))))
  obtain⟨_,_,rfl,rfl,rfl⟩:=r25
  refine mv 1 rfl (pu (v:= .float .f64 0) rfl (by kernel_rfl) (pu (v:= .int .i64 0) rfl (by kernel_rfl) (mv 2 rfl (ne_ (cw_seq ?_)))))
  have hbt:=bt_trunc0 hw0 ht hrv
  have hb0:btB 0=0:=rfl
  refine cw_region (mv 1 rfl (wl_cmp rfl rfl rfl true (by decide) (by decide) (mv 2 rfl (wl_cmp rfl rfl rfl true (by decide) (by decide) (pu (v:= .bool true) rfl (by kernel_rfl) (mv 2 rfl (cl (vs:= [.float .f64 0]) hw6 (g_bits7 (f:=0)) rfl (by kernel_rfl) fun xr29 v27 r29 e28 hw7=>?_)))))))
  obtain rfl:=r29
  refine mv 1 rfl (cl (vs:= [.float .f64 f]) hw7 (g_Trunc hb hf htr) rfl (by kernel_rfl) fun xr32 v30 r32 e31 hw8=>?_)
  obtain rfl:=r32
  refine cl (vs:= [.float .f64 t]) hw8 (g_bits7 (f:=t)) rfl (by kernel_rfl) fun xr35 v33 r35 e34 hw9=>?_
  obtain rfl:=r35
  refine wl_cmp rfl rfl rfl true (cb_eq_t (a:=btB 0) (b:=btB t) rfl rfl (by omega)) (by decide) (pu (v:= .bool true) rfl (by kernel_rfl) (mv 1 rfl (ne_ (cw_ret (eo_ret [.bool true] rfl ⟨rfl,trivial⟩ ?_)))))
  exact⟨_,rfl,rfl,hw9⟩
 · 
  refine cw_region (mv 1 rfl (wl_cmp rfl rfl rfl false (lt_f (by omega)) (by decide) (mv 2 rfl (wl_cmp rfl rfl rfl true (gt_t (by omega)) (by decide) (pu (v:= .bool true) rfl (by kernel_rfl) (ne_ (cw_true rfl (cw_region (mv 1 rfl (ne_ (sr (lo aggInt hb16 [.bool s8,.slice A8 n8 c8] rfl rfl rfl (mv 1 rfl ?_)))))))))))))
  refine cl (vs:= [.agg #[.bool s8,.slice A8 n8 c8],.int .i64 17]) hw4 (g_sci_zero (n:=17) ((z8.ext e11).updT hb12 u17).zi (z8.le (Nat.le_trans (ln_whV7 hf) (by decide))) (hS.ext hw4) hw0 (by decide) (by decide)) rfl (by kernel_rfl) fun xr38 v36 r38 e37 hw5=>?_
  obtain⟨_,_,rfl,rfl,rfl⟩:=r38
  refine mv 1 rfl (pu (v:= .string (strB ([48]))) rfl (by kernel_rfl) (pu (v:= .int .i64 0) rfl (by kernel_rfl) (mv 2 rfl (ne_ (sr (mv 1 rfl (cl (vs:= [.string (strB ([48]))]) hw5 (g_aread_n (by decide) (by decide) rd_zero48) rfl (by kernel_rfl) fun xr42 v40 r42 e41 hw6=>?_)))))))
  obtain⟨_,_,rfl,rfl,rfl⟩:=r42
  refine mv 1 rfl (pu (v:= .float .f64 0) rfl (by kernel_rfl) (pu (v:= .int .i64 0) rfl (by kernel_rfl) (mv 2 rfl (ne_ (cw_seq ?_)))))
  have hbt:=bt_trunc0 hw0 ht hrv
  have hb0:btB 0=0:=rfl
  refine cw_region (mv 1 rfl (wl_cmp rfl rfl rfl true (by decide) (by decide) (mv 2 rfl (wl_cmp rfl rfl rfl true (by decide) (by decide) (pu (v:= .bool true) rfl (by kernel_rfl) (mv 2 rfl (cl (vs:= [.float .f64 0]) hw6 (g_bits7 (f:=0)) rfl (by kernel_rfl) fun xr46 v44 r46 e45 hw7=>?_)))))))
  obtain rfl:=r46
  refine mv 1 rfl (cl (vs:= [.float .f64 f]) hw7 (g_Trunc hb hf htr) rfl (by kernel_rfl) fun xr49 v47 r49 e48 hw8=>?_)
  obtain rfl:=r49
  refine cl (vs:= [.float .f64 t]) hw8 (g_bits7 (f:=t)) rfl (by kernel_rfl) fun xr52 v50 r52 e51 hw9=>?_
  obtain rfl:=r52
  refine wl_cmp rfl rfl rfl true (cb_eq_t (a:=btB 0) (b:=btB t) rfl rfl (by omega)) (by decide) (pu (v:= .bool true) rfl (by kernel_rfl) (mv 1 rfl (ne_ (cw_ret (eo_ret [.bool true] rfl ⟨rfl,trivial⟩ ?_)))))
  exact⟨_,rfl,rfl,hw9⟩
set_option maxHeartbeats 8000000 in
set_option maxRecDepth 20000 in
theorem law_Seventeen_zeroG {w:World}{f:Nat}{n:Nat}(hb:f<18446744073709551616) (hS:Signs w) (hf:fin f) (hw0:whV f=0) (hn17:17≤n) (hn40:n≤40):
    Calls Tryd.prog 6 #[.int .u64 ((f:Nat):Int),.int .i64 ((n:Nat):Int)] w (Gv w (Is (.bool true))):=by
 obtain⟨r,htr,hrv,hri⟩:=trunc_fin hb hf
 obtain⟨t,ht⟩:∃t,(if sgnb f then 9223372036854775808+r else r)=t:=⟨_,rfl⟩
 rw [ht] at htr
 refine sx_enter Tryd.func6 rfl (n:=56) rfl (bq rfl) (args:= [.int .u64 ((f:Nat):Int),.int .i64 ((n:Nat):Int)]) (cw_keep [(0,.int .u64 ((f:Nat):Int)),(1,.int .i64 ((n:Nat):Int))] ⟨rfl,rfl,trivial⟩ (sr (mv 1 rfl (ne_ (cw_seq (sr (wl_call rfl rfl (vs:= []) (by kernel_rfl) (by decide) g_awake7 ?_)))))))
 rintro _ v1 ⟨xr3,rfl,r3,e2⟩
 refine ret_intro ?_
 have hw1:=(Ext.refl w).trans e2
 obtain rfl:=r3
 refine pu (v:= .bool false) rfl (by kernel_rfl) (ne_ (cw_false rfl (cw_skip (eo_then (sr (mv 1 rfl (pu (v:= .float .f64 f) rfl (by kernel_rfl) (mv 1 rfl (ne_ (sr (mv 1 rfl (cl (vs:= [.float .f64 f]) hw1 (g_Whole hw1.size hb hf) rfl (by kernel_rfl) fun xr6 v4 r6 e5 hw2=>?_))))))))))))
 obtain⟨_,_,rfl,⟨s8,A8,n8,c8,rfl,z8⟩,rfl⟩:=r6
 refine mv 1 rfl (pu (v:= .agg #[.bool s8,.slice A8 n8 c8]) rfl (by kernel_rfl) (pu (v:= .int .i64 0) rfl (by kernel_rfl) (al [F0,S0] hw2 (fun _=>by kernel_rfl) rfl fun g9 v10 hb12 ge13 e11 hw3=>(so aggInt hb12 [.bool s8,.slice A8 n8 c8] hw3 ge13 rfl rfl rfl rfl fun v14 hb16 u17 hw4=>(mv 1 rfl (ne_ (cw_seq (sr (mv 1 rfl (wl_cmp rfl rfl rfl false (by decide) (by decide) (ne_ (cw_false rfl (cw_skip ?_)))))))))))))
 refine eo_then (cw_seq (sr (mv 1 rfl (wl_cmp rfl rfl rfl false (cb_lt_f (a:=n) (b:=17) rfl rfl (by omega)) (by decide) (mv 2 rfl (wl_cmp rfl rfl rfl false (cb_gt_f (a:=n) (b:=40) rfl rfl (by omega)) (by decide) (pu (v:= .bool false) rfl (by kernel_rfl) (ne_ (cw_false rfl (cw_skip (eo_then (sr (lo aggInt hb16 [.bool s8,.slice A8 n8 c8] rfl rfl rfl ?_)))))))))))))
 refine mv 1 rfl (cl (vs:= [.agg #[.bool s8,.slice A8 n8 c8],.int .i64 ((n:Nat):Int)]) hw4 (g_sci_zero (n:=n) ((z8.ext e11).updT hb12 u17).zi (z8.le (Nat.le_trans (ln_whV7 hf) (by decide))) (hS.ext hw4) hw0 (by omega) hn40) rfl (by kernel_rfl) fun xr21 v19 r21 e20 hw5=>?_)
 obtain⟨_,_,rfl,rfl,rfl⟩:=r21
 refine mv 1 rfl (pu (v:= .string (strB ([48]))) rfl (by kernel_rfl) (pu (v:= .int .i64 0) rfl (by kernel_rfl) (mv 2 rfl (ne_ (sr (mv 1 rfl (cl (vs:= [.string (strB ([48]))]) hw5 (g_aread_n (by decide) (by decide) rd_zero48) rfl (by kernel_rfl) fun xr25 v23 r25 e24 hw6=>?_)))))))
 obtain⟨_,_,rfl,rfl,rfl⟩:=r25
 refine mv 1 rfl (pu (v:= .float .f64 0) rfl (by kernel_rfl) (pu (v:= .int .i64 0) rfl (by kernel_rfl) (mv 2 rfl (ne_ (cw_seq ?_)))))
 have hbt:=bt_trunc0 hw0 ht hrv
 have hb0:btB 0=0:=rfl
 refine cw_region (mv 1 rfl (wl_cmp rfl rfl rfl true (by decide) (by decide) (mv 2 rfl (wl_cmp rfl rfl rfl true (by decide) (by decide) (pu (v:= .bool true) rfl (by kernel_rfl) (mv 2 rfl (cl (vs:= [.float .f64 0]) hw6 (g_bits7 (f:=0)) rfl (by kernel_rfl) fun xr29 v27 r29 e28 hw7=>?_)))))))
 obtain rfl:=r29
 refine mv 1 rfl (cl (vs:= [.float .f64 f]) hw7 (g_Trunc hb hf htr) rfl (by kernel_rfl) fun xr32 v30 r32 e31 hw8=>?_)
 obtain rfl:=r32
 refine cl (vs:= [.float .f64 t]) hw8 (g_bits7 (f:=t)) rfl (by kernel_rfl) fun xr35 v33 r35 e34 hw9=>?_
 obtain rfl:=r35
 refine wl_cmp rfl rfl rfl true (cb_eq_t (a:=btB 0) (b:=btB t) rfl rfl (by omega)) (by decide) (pu (v:= .bool true) rfl (by kernel_rfl) (mv 1 rfl (ne_ (cw_ret (eo_ret [.bool true] rfl ⟨rfl,trivial⟩ ?_)))))
 exact⟨_,rfl,rfl,hw9⟩
set_option maxHeartbeats 8000000 in
set_option maxRecDepth 20000 in
theorem law_Seventeen_mainB {w:World}{f:Nat}{n:Int}(hb:f<18446744073709551616) (hS:Signs w) (hf:fin f) (hw0:whV f≠0) (hn:n<17∨40<n):
    Calls Tryd.prog 6 #[.int .u64 ((f:Nat):Int),.int .i64 n] w (Gv w (Is (.bool true))):=by
 obtain⟨r,htr,hrv,hri⟩:=trunc_fin hb hf
 obtain⟨t,ht⟩:∃t,(if sgnb f then 9223372036854775808+r else r)=t:=⟨_,rfl⟩
 rw [ht] at htr
 refine sx_enter Tryd.func6 rfl (n:=56) rfl (bq rfl) (args:= [.int .u64 ((f:Nat):Int),.int .i64 n]) (cw_keep [(0,.int .u64 ((f:Nat):Int)),(1,.int .i64 n)] ⟨rfl,rfl,trivial⟩ (sr (mv 1 rfl (ne_ (cw_seq (sr (wl_call rfl rfl (vs:= []) (by kernel_rfl) (by decide) g_awake7 ?_)))))))
 rintro _ v1 ⟨xr3,rfl,r3,e2⟩
 refine ret_intro ?_
 have hw1:=(Ext.refl w).trans e2
 obtain rfl:=r3
 refine pu (v:= .bool false) rfl (by kernel_rfl) (ne_ (cw_false rfl (cw_skip (eo_then (sr (mv 1 rfl (pu (v:= .float .f64 f) rfl (by kernel_rfl) (mv 1 rfl (ne_ (sr (mv 1 rfl (cl (vs:= [.float .f64 f]) hw1 (g_Whole hw1.size hb hf) rfl (by kernel_rfl) fun xr6 v4 r6 e5 hw2=>?_))))))))))))
 obtain⟨_,_,rfl,⟨s8,A8,n8,c8,rfl,z8⟩,rfl⟩:=r6
 refine mv 1 rfl (pu (v:= .agg #[.bool s8,.slice A8 n8 c8]) rfl (by kernel_rfl) (pu (v:= .int .i64 0) rfl (by kernel_rfl) (al [F0,S0] hw2 (fun _=>by kernel_rfl) rfl fun g9 v10 hb12 ge13 e11 hw3=>(so aggInt hb12 [.bool s8,.slice A8 n8 c8] hw3 ge13 rfl rfl rfl rfl fun v14 hb16 u17 hw4=>(mv 1 rfl (ne_ (cw_seq (sr (mv 1 rfl (wl_cmp rfl rfl rfl false (by decide) (by decide) (ne_ (cw_false rfl (cw_skip ?_)))))))))))))
 refine eo_then (cw_seq (cw_seq ?_))
 by_cases h17:n<17
 · 
  refine cw_region (mv 1 rfl (wl_cmp rfl rfl rfl true (lt_t h17) (by decide) (mv 3 rfl (pu (v:= .bool true) rfl (by kernel_rfl) (ne_ (cw_true rfl (cw_region (mv 1 rfl (ne_ (cw_seq ?_))))))))))
  have hrd:=rd_seventeen (n:=17) hb hf (by decide) (by decide) hw0 ht hrv hri
  obtain⟨s,hs⟩:∃s,s=sciT (whV f) 17:=⟨_,rfl⟩
  rw [←hs] at hrd
  have hs256:∀b,b∈s→b<256:=hs▸sciT_lt (by decide) hw0
  refine cw_region (lo aggInt hb16 [.bool s8,.slice A8 n8 c8] rfl rfl rfl (mv 1 rfl (cl (vs:= [.agg #[.bool s8,.slice A8 n8 c8],.int .i64 17]) hw4 (g_sci_s (k:=17) hs ((z8.ext e11).updT hb12 u17).zi (z8.le (Nat.le_trans (ln_whV7 hf) (by decide))) (hS.ext hw4) hw0 (by decide) (by decide)) rfl (by kernel_rfl) fun xr21 v19 r21 e20 hw5=>?_)))
  obtain⟨_,_,rfl,rfl,rfl⟩:=r21
  refine mv 1 rfl (pu (v:= .string (strB s)) rfl (by kernel_rfl) (pu (v:= .int .i64 0) rfl (by kernel_rfl) (mv 2 rfl (ne_ (sr (mv 1 rfl (cl (vs:= [.string (strB s)]) hw5 (g_aread_n hs256 (by rw [hs];have h1:=sciT_len (n:=17) hw0;have h2:=sciX_le (m:=(whV f).natAbs) (n:=17);have h3:dL (whV f).natAbs≤2177:=txtN_len (b:=10) (n:=34) (by decide) (ln_whV7 hf);have h4:(txtN 10 (sciX (whV f).natAbs 17)).length≤65:=txtN_len (b:=10) (n:=1) (by decide) (len_w64a (by omega));omega) hrd) rfl (by kernel_rfl) fun xr25 v23 r25 e24 hw6=>?_)))))))
  obtain⟨_,_,rfl,rfl,rfl⟩:=r25
  refine mv 1 rfl (pu (v:= .float .f64 t) rfl (by kernel_rfl) (pu (v:= .int .i64 0) rfl (by kernel_rfl) (mv 2 rfl (ne_ (sr (mv 1 rfl (wl_cmp rfl rfl rfl true (by decide) (by decide) (mv 2 rfl (wl_cmp rfl rfl rfl true (by decide) (by decide) (pu (v:= .bool true) rfl (by kernel_rfl) (mv 2 rfl (cl (vs:= [.float .f64 t]) hw6 (g_bits7 (f:=t)) rfl (by kernel_rfl) fun xr29 v27 r29 e28 hw7=>?_))))))))))))
  obtain rfl:=r29
  refine mv 1 rfl (cl (vs:= [.float .f64 f]) hw7 (g_Trunc hb hf htr) rfl (by kernel_rfl) fun xr32 v30 r32 e31 hw8=>?_)
  obtain rfl:=r32
  refine cl (vs:= [.float .f64 t]) hw8 (g_bits7 (f:=t)) rfl (by kernel_rfl) fun xr35 v33 r35 e34 hw9=>?_
  obtain rfl:=r35
  refine wl_cmp rfl rfl rfl true (cb_eq_t (a:=btB t) (b:=btB t) rfl rfl (by omega)) (by decide) (pu (v:= .bool true) rfl (by kernel_rfl) (mv 1 rfl (ne_ (cw_ret (eo_ret [.bool true] rfl ⟨rfl,trivial⟩ ?_)))))
  exact⟨_,rfl,rfl,hw9⟩
 · 
  refine cw_region (mv 1 rfl (wl_cmp rfl rfl rfl false (lt_f (by omega)) (by decide) (mv 2 rfl (wl_cmp rfl rfl rfl true (gt_t (by omega)) (by decide) (pu (v:= .bool true) rfl (by kernel_rfl) (ne_ (cw_true rfl (cw_region (mv 1 rfl (ne_ (cw_seq ?_)))))))))))
  have hrd:=rd_seventeen (n:=17) hb hf (by decide) (by decide) hw0 ht hrv hri
  obtain⟨s,hs⟩:∃s,s=sciT (whV f) 17:=⟨_,rfl⟩
  rw [←hs] at hrd
  have hs256:∀b,b∈s→b<256:=hs▸sciT_lt (by decide) hw0
  refine cw_region (lo aggInt hb16 [.bool s8,.slice A8 n8 c8] rfl rfl rfl (mv 1 rfl (cl (vs:= [.agg #[.bool s8,.slice A8 n8 c8],.int .i64 17]) hw4 (g_sci_s (k:=17) hs ((z8.ext e11).updT hb12 u17).zi (z8.le (Nat.le_trans (ln_whV7 hf) (by decide))) (hS.ext hw4) hw0 (by decide) (by decide)) rfl (by kernel_rfl) fun xr38 v36 r38 e37 hw5=>?_)))
  obtain⟨_,_,rfl,rfl,rfl⟩:=r38
  refine mv 1 rfl (pu (v:= .string (strB s)) rfl (by kernel_rfl) (pu (v:= .int .i64 0) rfl (by kernel_rfl) (mv 2 rfl (ne_ (sr (mv 1 rfl (cl (vs:= [.string (strB s)]) hw5 (g_aread_n hs256 (by rw [hs];have h1:=sciT_len (n:=17) hw0;have h2:=sciX_le (m:=(whV f).natAbs) (n:=17);have h3:dL (whV f).natAbs≤2177:=txtN_len (b:=10) (n:=34) (by decide) (ln_whV7 hf);have h4:(txtN 10 (sciX (whV f).natAbs 17)).length≤65:=txtN_len (b:=10) (n:=1) (by decide) (len_w64a (by omega));omega) hrd) rfl (by kernel_rfl) fun xr42 v40 r42 e41 hw6=>?_)))))))
  obtain⟨_,_,rfl,rfl,rfl⟩:=r42
  refine mv 1 rfl (pu (v:= .float .f64 t) rfl (by kernel_rfl) (pu (v:= .int .i64 0) rfl (by kernel_rfl) (mv 2 rfl (ne_ (sr (mv 1 rfl (wl_cmp rfl rfl rfl true (by decide) (by decide) (mv 2 rfl (wl_cmp rfl rfl rfl true (by decide) (by decide) (pu (v:= .bool true) rfl (by kernel_rfl) (mv 2 rfl (cl (vs:= [.float .f64 t]) hw6 (g_bits7 (f:=t)) rfl (by kernel_rfl) fun xr46 v44 r46 e45 hw7=>?_))))))))))))
  obtain rfl:=r46
  refine mv 1 rfl (cl (vs:= [.float .f64 f]) hw7 (g_Trunc hb hf htr) rfl (by kernel_rfl) fun xr49 v47 r49 e48 hw8=>?_)
  obtain rfl:=r49
  refine cl (vs:= [.float .f64 t]) hw8 (g_bits7 (f:=t)) rfl (by kernel_rfl) fun xr52 v50 r52 e51 hw9=>?_
  obtain rfl:=r52
  refine wl_cmp rfl rfl rfl true (cb_eq_t (a:=btB t) (b:=btB t) rfl rfl (by omega)) (by decide) (pu (v:= .bool true) rfl (by kernel_rfl) (mv 1 rfl (ne_ (cw_ret (eo_ret [.bool true] rfl ⟨rfl,trivial⟩ ?_)))))
  exact⟨_,rfl,rfl,hw9⟩
set_option maxHeartbeats 8000000 in
set_option maxRecDepth 20000 in
theorem law_Seventeen_mainG {w:World}{f:Nat}{n:Nat}(hb:f<18446744073709551616) (hS:Signs w) (hf:fin f) (hw0:whV f≠0) (hn17:17≤n) (hn40:n≤40):
    Calls Tryd.prog 6 #[.int .u64 ((f:Nat):Int),.int .i64 ((n:Nat):Int)] w (Gv w (Is (.bool true))):=by
 obtain⟨r,htr,hrv,hri⟩:=trunc_fin hb hf
 obtain⟨t,ht⟩:∃t,(if sgnb f then 9223372036854775808+r else r)=t:=⟨_,rfl⟩
 rw [ht] at htr
 refine sx_enter Tryd.func6 rfl (n:=56) rfl (bq rfl) (args:= [.int .u64 ((f:Nat):Int),.int .i64 ((n:Nat):Int)]) (cw_keep [(0,.int .u64 ((f:Nat):Int)),(1,.int .i64 ((n:Nat):Int))] ⟨rfl,rfl,trivial⟩ (sr (mv 1 rfl (ne_ (cw_seq (sr (wl_call rfl rfl (vs:= []) (by kernel_rfl) (by decide) g_awake7 ?_)))))))
 rintro _ v1 ⟨xr3,rfl,r3,e2⟩
 refine ret_intro ?_
 have hw1:=(Ext.refl w).trans e2
 obtain rfl:=r3
 refine pu (v:= .bool false) rfl (by kernel_rfl) (ne_ (cw_false rfl (cw_skip (eo_then (sr (mv 1 rfl (pu (v:= .float .f64 f) rfl (by kernel_rfl) (mv 1 rfl (ne_ (sr (mv 1 rfl (cl (vs:= [.float .f64 f]) hw1 (g_Whole hw1.size hb hf) rfl (by kernel_rfl) fun xr6 v4 r6 e5 hw2=>?_))))))))))))
 obtain⟨_,_,rfl,⟨s8,A8,n8,c8,rfl,z8⟩,rfl⟩:=r6
 refine mv 1 rfl (pu (v:= .agg #[.bool s8,.slice A8 n8 c8]) rfl (by kernel_rfl) (pu (v:= .int .i64 0) rfl (by kernel_rfl) (al [F0,S0] hw2 (fun _=>by kernel_rfl) rfl fun g9 v10 hb12 ge13 e11 hw3=>(so aggInt hb12 [.bool s8,.slice A8 n8 c8] hw3 ge13 rfl rfl rfl rfl fun v14 hb16 u17 hw4=>(mv 1 rfl (ne_ (cw_seq (sr (mv 1 rfl (wl_cmp rfl rfl rfl false (by decide) (by decide) (ne_ (cw_false rfl (cw_skip ?_)))))))))))))
 refine eo_then (cw_seq (sr (mv 1 rfl (wl_cmp rfl rfl rfl false (cb_lt_f (a:=n) (b:=17) rfl rfl (by omega)) (by decide) (mv 2 rfl (wl_cmp rfl rfl rfl false (cb_gt_f (a:=n) (b:=40) rfl rfl (by omega)) (by decide) (pu (v:= .bool false) rfl (by kernel_rfl) (ne_ (cw_false rfl (cw_skip (eo_then (cw_seq ?_))))))))))))
 have hrd:=rd_seventeen (n:=n) hb hf hn17 hn40 hw0 ht hrv hri
 obtain⟨s,hs⟩:∃s,s=sciT (whV f) n:=⟨_,rfl⟩
 rw [←hs] at hrd
 have hs256:∀b,b∈s→b<256:=hs▸sciT_lt (by omega) hw0
 refine cw_region (lo aggInt hb16 [.bool s8,.slice A8 n8 c8] rfl rfl rfl (mv 1 rfl (cl (vs:= [.agg #[.bool s8,.slice A8 n8 c8],.int .i64 ((n:Nat):Int)]) hw4 (g_sci_s (k:=n) hs ((z8.ext e11).updT hb12 u17).zi (z8.le (Nat.le_trans (ln_whV7 hf) (by decide))) (hS.ext hw4) hw0 (by omega) hn40) rfl (by kernel_rfl) fun xr21 v19 r21 e20 hw5=>?_)))
 obtain⟨_,_,rfl,rfl,rfl⟩:=r21
 refine mv 1 rfl (pu (v:= .string (strB s)) rfl (by kernel_rfl) (pu (v:= .int .i64 0) rfl (by kernel_rfl) (mv 2 rfl (ne_ (sr (mv 1 rfl (cl (vs:= [.string (strB s)]) hw5 (g_aread_n hs256 (by rw [hs];have h1:=sciT_len (n:=n) hw0;have h2:=sciX_le (m:=(whV f).natAbs) (n:=n);have h3:dL (whV f).natAbs≤2177:=txtN_len (b:=10) (n:=34) (by decide) (ln_whV7 hf);have h4:(txtN 10 (sciX (whV f).natAbs n)).length≤65:=txtN_len (b:=10) (n:=1) (by decide) (len_w64a (by omega));omega) hrd) rfl (by kernel_rfl) fun xr25 v23 r25 e24 hw6=>?_)))))))
 obtain⟨_,_,rfl,rfl,rfl⟩:=r25
 refine mv 1 rfl (pu (v:= .float .f64 t) rfl (by kernel_rfl) (pu (v:= .int .i64 0) rfl (by kernel_rfl) (mv 2 rfl (ne_ (sr (mv 1 rfl (wl_cmp rfl rfl rfl true (by decide) (by decide) (mv 2 rfl (wl_cmp rfl rfl rfl true (by decide) (by decide) (pu (v:= .bool true) rfl (by kernel_rfl) (mv 2 rfl (cl (vs:= [.float .f64 t]) hw6 (g_bits7 (f:=t)) rfl (by kernel_rfl) fun xr29 v27 r29 e28 hw7=>?_))))))))))))
 obtain rfl:=r29
 refine mv 1 rfl (cl (vs:= [.float .f64 f]) hw7 (g_Trunc hb hf htr) rfl (by kernel_rfl) fun xr32 v30 r32 e31 hw8=>?_)
 obtain rfl:=r32
 refine cl (vs:= [.float .f64 t]) hw8 (g_bits7 (f:=t)) rfl (by kernel_rfl) fun xr35 v33 r35 e34 hw9=>?_
 obtain rfl:=r35
 refine wl_cmp rfl rfl rfl true (cb_eq_t (a:=btB t) (b:=btB t) rfl rfl (by omega)) (by decide) (pu (v:= .bool true) rfl (by kernel_rfl) (mv 1 rfl (ne_ (cw_ret (eo_ret [.bool true] rfl ⟨rfl,trivial⟩ ?_)))))
 exact⟨_,rfl,rfl,hw9⟩
theorem law_ApproxSeventeen {w:World}{f:Nat}(hf:f≤18446744073709551615){k:Int}(_: -9223372036854775808≤k) (_:k≤9223372036854775807) (hS:Signs w):Calls Tryd.prog 6 #[.int .u64 ((f:Nat):Int),.int .i64 k] w (BoolP true w):=by
 by_cases hfn:fin f
 ·by_cases hw:whV f=0
  ·by_cases hk:k<17∨40<k
   ·exact (law_Seventeen_zeroB (by omega) hS hfn hw hk).mono fun e w' h=>gv_bool7u _ _ h
   ·obtain⟨m,rfl⟩:=Int.eq_ofNat_of_zero_le (show 0≤k by omega)
    exact (law_Seventeen_zeroG (by omega) hS hfn hw (by omega) (by omega)).mono fun e w' h=>gv_bool7u _ _ h
  ·by_cases hk:k<17∨40<k
   ·exact (law_Seventeen_mainB (by omega) hS hfn hw hk).mono fun e w' h=>gv_bool7u _ _ h
   ·obtain⟨m,rfl⟩:=Int.eq_ofNat_of_zero_le (show 0≤k by omega)
    exact (law_Seventeen_mainG (by omega) hS hfn hw (by omega) (by omega)).mono fun e w' h=>gv_bool7u _ _ h
 ·exact (law_Seventeen_badB (by omega) hfn).mono fun e w' h=>gv_bool7u _ _ h
end Go.Proofs.YtipklngcpmkfhaaDoor
