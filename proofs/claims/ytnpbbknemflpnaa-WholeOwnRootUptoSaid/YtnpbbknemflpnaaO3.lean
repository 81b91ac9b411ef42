/- Parts Mta, Top, Br, Bs, Lpb, Ir, Il, Chp, Lin, Im, Rel, joined. -/
import Derived.Test.YtnpbbknemflpnaaO2
import Derived.RangeFuncNested
import Derived.RangeFuncLeaves
import Derived.OrdersIn
import Derived.TacticsIn

namespace Go.Proofs.Ytnpbbknemflpnaa
open Go.RowKit
set_option maxHeartbeats 4000000 in
theorem g_mat_side_t {w:World}{R:Int}(hR:(0≤R∧R≤64)):
    Calls Try.prog 45 #[.int .i64 R] w (Gv w (Is (.bool true))):=by
 refine sx_enter Try.func45 rfl (n:=9) rfl (bq rfl) (args:= [.int .i64 R]) (cw_keep [(0,.int .i64 R)] ⟨rfl,trivial⟩ (sr (mv 1 rfl (ne_ (sr (mv 1 rfl (wl_cmp rfl rfl rfl true (ci_le_t hR.1) (by decide) (mv 2 rfl (wl_cmp rfl rfl rfl true (ci_le_t hR.2) (by decide) (pu (v:= .bool true) rfl (by kernel_rfl) (mv 1 rfl (ne_ (cw_ret ?_)))))))))))))
 refine eo_ret [.bool true] rfl ⟨rfl,trivial⟩ ?_
 exact⟨_,rfl,rfl,(Ext.refl w)⟩
set_option maxHeartbeats 4000000 in
theorem g_mat_side_f {w:World}{R:Int}(hR:¬(0≤R∧R≤64)):
    Calls Try.prog 45 #[.int .i64 R] w (Gv w (Is (.bool false))):=by
 refine sx_enter Try.func45 rfl (n:=9) rfl (bq rfl) (args:= [.int .i64 R]) (cw_keep [(0,.int .i64 R)] ⟨rfl,trivial⟩ (sr (mv 1 rfl (ne_ (cw_seq ?_)))))
 by_cases h1:0≤R
 · 
  have hR2:¬R≤64:=fun h=>hR ⟨h1,h⟩
  refine cw_region (mv 1 rfl (wl_cmp rfl rfl rfl true (ci_le_t h1) (by decide) (mv 2 rfl (wl_cmp rfl rfl rfl false (ci_le_f hR2) (by decide) (pu (v:= .bool false) rfl (by kernel_rfl) (mv 1 rfl (ne_ (cw_ret (eo_ret [F0] rfl ⟨rfl,trivial⟩ ?_)))))))))
  exact⟨_,rfl,rfl,(Ext.refl w)⟩
 · 
  refine cw_region (mv 1 rfl (wl_cmp rfl rfl rfl false (ci_le_f h1) (by decide) (mv 3 rfl (pu (v:= .bool false) rfl (by kernel_rfl) (mv 1 rfl (ne_ (cw_ret (eo_ret [F0] rfl ⟨rfl,trivial⟩ ?_))))))))
  exact⟨_,rfl,rfl,(Ext.refl w)⟩
set_option maxHeartbeats 4000000 in
theorem g_mat_Check_ok {w:World}{r c na capa:Nat}{Aa:Option Addr}(hr:r≤64) (hc:c≤64) (hn:na=r*c):
    Calls Try.prog 27 #[.agg #[.int .i64 ((r:Nat):Int),.int .i64 ((c:Nat):Int),.slice Aa na capa]] w (Gv w (Is (.int .i64 0))):=by
 have hrc:=ix_64 hr hc
 refine sx_enter Try.func27 rfl (n:=24) rfl (bq rfl) (args:= [.agg #[.int .i64 ((r:Nat):Int),.int .i64 ((c:Nat):Int),.slice Aa na capa]]) (cw_keep [(0,.agg #[.int .i64 ((r:Nat):Int),.int .i64 ((c:Nat):Int),.slice Aa na capa])] ⟨rfl,trivial⟩ (sr (bx [.int .i64 ((r:Nat):Int),.int .i64 ((c:Nat):Int),.slice Aa na capa] (Ext.refl w) rfl rfl rfl fun g1 v2 hb4 ge5 e3 hw1=>(mv 1 rfl (ne_ (cw_seq (sr (pf g1 0 rfl (by kernel_rfl) (wl_load rfl rfl (load_cell cellInt hb4 rfl) (by decide) (cl (vs:= [.int .i64 ((r:Nat):Int)]) hw1 (g_mat_side_t ⟨by omega,by omega⟩) rfl (by kernel_rfl) fun xr8 v6 r8 e7 hw2=>?_))))))))))
 obtain rfl:=r8
 refine pu (v:= .bool false) rfl (by kernel_rfl) (mv 1 rfl (pf g1 1 rfl (by kernel_rfl) (wl_load rfl rfl (load_cell cellInt (hb4.ext e7) rfl) (by decide) (cl (vs:= [.int .i64 ((c:Nat):Int)]) hw2 (g_mat_side_t ⟨by omega,by omega⟩) rfl (by kernel_rfl) fun xr11 v9 r11 e10 hw3=>?_))))
 obtain rfl:=r11
 refine pu (v:= .bool false) rfl (by kernel_rfl) (pu (v:= .bool false) rfl (by kernel_rfl) (mv 1 rfl (pf g1 2 rfl (by kernel_rfl) (wl_load rfl rfl (load_cell cellInts (hb4.ext (e7.trans e10)) rfl) (by decide) (pu (v:= .int .i64 ((na:Nat):Int)) rfl (by kernel_rfl) (pf g1 0 rfl (by kernel_rfl) (wl_load rfl rfl (load_cell cellInt (hb4.ext (e7.trans e10)) rfl) (by decide) (pf g1 1 rfl (by kernel_rfl) (wl_load rfl rfl (load_cell cellInt (hb4.ext (e7.trans e10)) rfl) (by decide) (wl_ar rfl rfl rfl ((r*c:Nat):Int) (ai_mul (a:=r) (b:=c) rfl rfl (by omega)) (by decide) (wl_cmp rfl rfl rfl false (cb_ne_f (a:=na) (b:=r*c) rfl rfl (by omega)) (by decide) (pu (v:= .bool false) rfl (by kernel_rfl) (wl_nil ?_)))))))))))))
 refine eo_then (cw_false rfl (cw_skip (eo_then (sr (mv 1 rfl (ne_ (cw_ret (eo_ret [I0] rfl ⟨rfl,trivial⟩ ?_))))))))
 exact⟨_,rfl,rfl,hw3⟩
set_option maxHeartbeats 4000000 in
theorem g_mat_Check_bad1 {w:World}{R C:Int}{na capa:Nat}{Aa:Option Addr}(hR:¬(0≤R∧R≤64)):
    Calls Try.prog 27 #[.agg #[.int .i64 R,.int .i64 C,.slice Aa na capa]] w (Gv w (Is (.int .i64 1))):=by
 refine sx_enter Try.func27 rfl (n:=24) rfl (bq rfl) (args:= [.agg #[.int .i64 R,.int .i64 C,.slice Aa na capa]]) (cw_keep [(0,.agg #[.int .i64 R,.int .i64 C,.slice Aa na capa])] ⟨rfl,trivial⟩ (sr (bx [.int .i64 R,.int .i64 C,.slice Aa na capa] (Ext.refl w) rfl rfl rfl fun g1 v2 hb4 ge5 e3 hw1=>(mv 1 rfl (ne_ (cw_seq (sr (pf g1 0 rfl (by kernel_rfl) (wl_load rfl rfl (load_cell cellInt hb4 rfl) (by decide) (cl (vs:= [.int .i64 R]) hw1 (g_mat_side_f hR) rfl (by kernel_rfl) fun xr8 v6 r8 e7 hw2=>?_))))))))))
 obtain rfl:=r8
 refine pu (v:= .bool true) rfl (by kernel_rfl) (mv 5 rfl (pu (v:= .bool true) rfl (by kernel_rfl) (mv 10 rfl (pu (v:= .bool true) rfl (by kernel_rfl) (ne_ (cw_true rfl (sr (mv 1 rfl (ne_ (cw_ret (eo_thenR (eo_ret [.int .i64 1] rfl ⟨rfl,trivial⟩ ?_))))))))))))
 exact⟨_,rfl,rfl,hw2⟩
set_option maxHeartbeats 4000000 in
theorem g_mat_Check_bad2 {w:World}{R C:Int}{na capa:Nat}{Aa:Option Addr}(hR:(0≤R∧R≤64)) (hC:¬(0≤C∧C≤64)):
    Calls Try.prog 27 #[.agg #[.int .i64 R,.int .i64 C,.slice Aa na capa]] w (Gv w (Is (.int .i64 1))):=by
 refine sx_enter Try.func27 rfl (n:=24) rfl (bq rfl) (args:= [.agg #[.int .i64 R,.int .i64 C,.slice Aa na capa]]) (cw_keep [(0,.agg #[.int .i64 R,.int .i64 C,.slice Aa na capa])] ⟨rfl,trivial⟩ (sr (bx [.int .i64 R,.int .i64 C,.slice Aa na capa] (Ext.refl w) rfl rfl rfl fun g1 v2 hb4 ge5 e3 hw1=>(mv 1 rfl (ne_ (cw_seq (sr (pf g1 0 rfl (by kernel_rfl) (wl_load rfl rfl (load_cell cellInt hb4 rfl) (by decide) (cl (vs:= [.int .i64 R]) hw1 (g_mat_side_t hR) rfl (by kernel_rfl) fun xr8 v6 r8 e7 hw2=>?_))))))))))
 obtain rfl:=r8
 refine pu (v:= .bool false) rfl (by kernel_rfl) (mv 1 rfl (pf g1 1 rfl (by kernel_rfl) (wl_load rfl rfl (load_cell cellInt (hb4.ext e7) rfl) (by decide) (cl (vs:= [.int .i64 C]) hw2 (g_mat_side_f hC) rfl (by kernel_rfl) fun xr11 v9 r11 e10 hw3=>?_))))
 obtain rfl:=r11
 refine pu (v:= .bool true) rfl (by kernel_rfl) (pu (v:= .bool true) rfl (by kernel_rfl) (mv 10 rfl (pu (v:= .bool true) rfl (by kernel_rfl) (ne_ (cw_true rfl (sr (mv 1 rfl (ne_ (cw_ret (eo_thenR (eo_ret [.int .i64 1] rfl ⟨rfl,trivial⟩ ?_)))))))))))
 exact⟨_,rfl,rfl,hw3⟩
set_option maxHeartbeats 4000000 in
theorem g_mat_Check_bad3 {w:World}{r c na capa:Nat}{Aa:Option Addr}(hr:r≤64) (hc:c≤64) (hn:na≠r*c):
    Calls Try.prog 27 #[.agg #[.int .i64 ((r:Nat):Int),.int .i64 ((c:Nat):Int),.slice Aa na capa]] w (Gv w (Is (.int .i64 1))):=by
 have hrc:=ix_64 hr hc
 refine sx_enter Try.func27 rfl (n:=24) rfl (bq rfl) (args:= [.agg #[.int .i64 ((r:Nat):Int),.int .i64 ((c:Nat):Int),.slice Aa na capa]]) (cw_keep [(0,.agg #[.int .i64 ((r:Nat):Int),.int .i64 ((c:Nat):Int),.slice Aa na capa])] ⟨rfl,trivial⟩ (sr (bx [.int .i64 ((r:Nat):Int),.int .i64 ((c:Nat):Int),.slice Aa na capa] (Ext.refl w) rfl rfl rfl fun g1 v2 hb4 ge5 e3 hw1=>(mv 1 rfl (ne_ (cw_seq (sr (pf g1 0 rfl (by kernel_rfl) (wl_load rfl rfl (load_cell cellInt hb4 rfl) (by decide) (cl (vs:= [.int .i64 ((r:Nat):Int)]) hw1 (g_mat_side_t ⟨by omega,by omega⟩) rfl (by kernel_rfl) fun xr8 v6 r8 e7 hw2=>?_))))))))))
 obtain rfl:=r8
 refine pu (v:= .bool false) rfl (by kernel_rfl) (mv 1 rfl (pf g1 1 rfl (by kernel_rfl) (wl_load rfl rfl (load_cell cellInt (hb4.ext e7) rfl) (by decide) (cl (vs:= [.int .i64 ((c:Nat):Int)]) hw2 (g_mat_side_t ⟨by omega,by omega⟩) rfl (by kernel_rfl) fun xr11 v9 r11 e10 hw3=>?_))))
 obtain rfl:=r11
 refine pu (v:= .bool false) rfl (by kernel_rfl) (pu (v:= .bool false) rfl (by kernel_rfl) (mv 1 rfl (pf g1 2 rfl (by kernel_rfl) (wl_load rfl rfl (load_cell cellInts (hb4.ext (e7.trans e10)) rfl) (by decide) (pu (v:= .int .i64 ((na:Nat):Int)) rfl (by kernel_rfl) (pf g1 0 rfl (by kernel_rfl) (wl_load rfl rfl (load_cell cellInt (hb4.ext (e7.trans e10)) rfl) (by decide) (pf g1 1 rfl (by kernel_rfl) (wl_load rfl rfl (load_cell cellInt (hb4.ext (e7.trans e10)) rfl) (by decide) (wl_ar rfl rfl rfl ((r*c:Nat):Int) (ai_mul (a:=r) (b:=c) rfl rfl (by omega)) (by decide) (wl_cmp rfl rfl rfl true (cb_ne_t (a:=na) (b:=r*c) rfl rfl (by omega)) (by decide) (pu (v:= .bool true) rfl (by kernel_rfl) (wl_nil ?_)))))))))))))
 refine eo_then (cw_true rfl (sr (mv 1 rfl (ne_ (cw_ret (eo_thenR (eo_ret [.int .i64 1] rfl ⟨rfl,trivial⟩ ?_)))))))
 exact⟨_,rfl,rfl,hw3⟩
theorem g_mat_Check_no {w:World}{R C:Int}{na capa:Nat}{Aa:Option Addr}(h:¬Snd R C na):Calls Try.prog 27 #[.agg #[.int .i64 R,.int .i64 C,.slice Aa na capa]] w (Gv w (Is (.int .i64 1))):=by
 by_cases hR:0≤R∧R≤64
 ·by_cases hC:0≤C∧C≤64
  ·obtain⟨r,rfl⟩:∃r:Nat,R=r:=⟨R.toNat,by omega⟩
   obtain⟨c,rfl⟩:∃c:Nat,C=c:=⟨C.toNat,by omega⟩
   exact g_mat_Check_bad3 (by omega) (by omega) (fun e=>h ⟨hR,hC,by rw [e];exact Int.natCast_mul r c⟩)
  ·exact g_mat_Check_bad2 hR hC
 ·exact g_mat_Check_bad1 hR
theorem g_mat_Check_yes {w:World}{R C:Int}{na capa:Nat}{Aa:Option Addr}(h:Snd R C na):Calls Try.prog 27 #[.agg #[.int .i64 R,.int .i64 C,.slice Aa na capa]] w (Gv w (Is (.int .i64 0))):=by
 obtain⟨h1,h2,h3⟩:=h
 obtain⟨r,rfl⟩:∃r:Nat,R=r:=⟨R.toNat,by omega⟩
 obtain⟨c,rfl⟩:∃c:Nat,C=c:=⟨C.toNat,by omega⟩
 exact g_mat_Check_ok (by omega) (by omega) (by rw [←Int.natCast_mul] at h3;omega)
theorem snd_mk {r c n:Nat}(hr:r≤64) (hc:c≤64) (hn:n=r*c):Snd (r:Int) (c:Int) n:=⟨⟨by omega,by omega⟩,⟨by omega,by omega⟩,by rw [hn];exact Int.natCast_mul r c⟩
set_option maxHeartbeats 4000000 in
theorem g_mat_build {w:World}{b lb K r c kf:Nat}{cs:List Value}{f:Mx}(hb:b≤w.heap.size) (hlb:lb≤w.heap.size) (hr:r≤64) (hc:c≤64) (hen:∀(args:Array Value) (w:World),(callFunc kf args).run Try.prog w= .ok (.enter kf args) w) (hK:∀i j,i<r→j<c→ln (f i j)≤K) (hf:∀(i j:Nat) w',i<r→j<c→Ext w w'→Calls Try.prog kf ([Value.int .i64 (i:Int),.int .i64 (j:Int)]++cs).toArray w' (Gv w' (ZR w.heap.size (f i j)))):
    Calls Try.prog 46 #[.int .i64 ((r:Nat):Int),.int .i64 ((c:Nat):Int),.func (.func kf) #[] cs.toArray] w (Gv w (MQ (r:Int) (c:Int) (LQ none K b lb (r*c) (En r c f)))):=by
 have hrc:=ix_64 hr hc
 refine sx_enter Try.func46 rfl (n:=37) rfl (bq rfl) (args:= [.int .i64 ((r:Nat):Int),.int .i64 ((c:Nat):Int),.func (.func kf) #[] cs.toArray]) (cw_keep [(0,.int .i64 ((r:Nat):Int)),(1,.int .i64 ((c:Nat):Int)),(2,.func (.func kf) #[] cs.toArray)] ⟨rfl,rfl,rfl,trivial⟩ (sr (al [I0,I0,S0] (Ext.refl w) (fun _=>by kernel_rfl) rfl fun g1 v2 hb4 ge5 e3 hw1=>(ne_ (sr (mv 4 rfl (wl_ar rfl rfl rfl ((r*c:Nat):Int) (ai_mul (a:=r) (b:=c) rfl rfl (by omega)) (by decide) (wl_makeI (k:=r*c) none K w.heap.size rfl rfl rfl (by omega) (by decide) fun g6 v7 hg8 lz9 e10=>?_))))))))
 have q11:g1<g6:=by rw [←hg8];exact hb4.lt
 have hlbg6:g6≤v7.heap.size:=by have:=(lz9.block _ rfl).2;exact Nat.le_of_lt this
 have hglg6:w.heap.size≤g6:=by rw [←hg8];exact hw1.size
 clear hg8
 have hw2:=hw1.trans e10
 have blk12:=lz9.block
 refine pu (v:= .agg #[.int .i64 ((r:Nat):Int),.int .i64 ((c:Nat):Int),.slice (some ⟨g6,0,none⟩) 0 (r*c)]) rfl (by kernel_rfl) (wl_alloc rfl (z:= .agg #[I0,I0,S0]) (vs:= [I0,I0,S0]) (fun _=>by kernel_rfl) rfl (by decide) fun g13 v14 nb=>?_)
 have hb16:=nb.bk
 have ge17:w.heap.size≤g13:=by rw [←nb.at_];exact hw2.size
 have q18:g1<g13:=by rw [←nb.at_];exact (hb4.ext e10).lt
 have ne19:∀p:Addr,(some ⟨g6,0,none⟩)=some p→p.block≠g13:=fun p hp=>by have:=(lz9).block p hp;have:=nb.at_;omega
 have e15:=nb.ext
 clear nb
 have hw3:=hw2.trans e15
 refine so aggMat hb16 [.int .i64 ((r:Nat):Int),.int .i64 ((c:Nat):Int),.slice (some ⟨g6,0,none⟩) 0 (r*c)] hw3 ge17 rfl rfl rfl rfl fun v20 hb22 u23 hw4=>(ne_ (cw_seq (sr (mv 2 rfl (ne_ (cw_block ?_))))))
 refine cw_loop (T:=World×Nat×Nat×Option Addr×Nat×List Int) (fun⟨wr,i,q,LA,lc,zs⟩=> [(0,.int .i64 ((r:Nat):Int)),(1,.int .i64 ((c:Nat):Int)),(2,.func (.func kf) #[] cs.toArray),(6,.pointer (some ⟨g1,0,none⟩)),(7,.pointer (some ⟨g13,0,none⟩)),(10,.int .i64 ((r:Nat):Int)),(11,.int .i64 ((c:Nat):Int)),(12,.int .i64 ((r:Nat):Int)),(13,.int .i64 ((c:Nat):Int)),(14,.int .i64 ((r*c:Nat):Int)),(15,.slice (some ⟨g6,0,none⟩) 0 (r*c)),(16,.agg #[.int .i64 ((r:Nat):Int),.int .i64 ((c:Nat):Int),.slice (some ⟨g6,0,none⟩) 0 (r*c)]),(17,.int .i64 ((r:Nat):Int)),(18,.int .i64 ((i:Nat):Int))]) (fun⟨wr,i,q,LA,lc,zs⟩=>wr) (fun⟨wr,i,q,LA,lc,zs⟩=>(Ext w wr)∧(i≤r)∧(Bk wr g1 24 [I0,I0,S0])∧(Bk wr g13 24 [.int .i64 ((r:Nat):Int),.int .i64 ((c:Nat):Int),.slice LA q lc])∧(g6≤wr.heap.size)∧(Lz none K w.heap.size wr g6 LA q lc zs)∧(∀p:Addr,LA=some p→p.block≠g1)∧(∀p:Addr,LA=some p→p.block≠g13)∧(q=i*c)∧(Bld c q f zs)) (fun⟨wr,i,q,LA,lc,zs⟩=>r-i)
  (⟨v20,0,0,(some ⟨g6,0,none⟩),(r*c),[]⟩:World×Nat×Nat×Option Addr×Nat×List Int) ⟨hw4,(by omega),((hb4.ext (e10.trans e15)).updN u23 (by omega)),hb22,(Nat.le_trans (Nat.le_trans hlbg6 e15.size) u23.by_.size),((lz9.ext e15).updT hb16 u23 ne19),(show∀p:Addr,(some ⟨g6,0,none⟩)=some p→p.block≠g1 from fun p hp=>by have:=blk12 p hp;omega),ne19,(Nat.zero_mul c).symm,(fun k h=>absurd h (Nat.not_lt_zero k))⟩ rfl ⟨rfl,rfl,rfl,rfl,rfl,rfl,rfl,rfl,rfl,rfl,rfl,rfl,rfl,rfl,trivial⟩ ?_
 rintro⟨wr,i,q,LA,lc,zs⟩ ⟨hw1,hi_i,b_g1,b_g13,l_LAb,l_LA,l_LA_g1,l_LA_g13,hq,hz⟩
 refine cw_re [(0,.int .i64 ((r:Nat):Int)),(1,.int .i64 ((c:Nat):Int)),(2,.func (.func kf) #[] cs.toArray),(6,.pointer (some ⟨g1,0,none⟩)),(7,.pointer (some ⟨g13,0,none⟩)),(10,.int .i64 ((r:Nat):Int)),(11,.int .i64 ((c:Nat):Int)),(12,.int .i64 ((r:Nat):Int)),(13,.int .i64 ((c:Nat):Int)),(14,.int .i64 ((r*c:Nat):Int)),(15,.slice (some ⟨g6,0,none⟩) 0 (r*c)),(16,.agg #[.int .i64 ((r:Nat):Int),.int .i64 ((c:Nat):Int),.slice (some ⟨g6,0,none⟩) 0 (r*c)]),(17,.int .i64 ((r:Nat):Int)),(18,.int .i64 ((i:Nat):Int))] wr rfl ⟨rfl,rfl,rfl,rfl,rfl,rfl,rfl,rfl,rfl,rfl,rfl,rfl,rfl,rfl,trivial⟩ ?_
 have blk25:=l_LA.block
 refine cw_seq ?_
 by_cases hir:i<r
 · 
  refine cw_region (wl_cmp rfl rfl rfl true (cb_lt_t (a:=i) (b:=r) rfl rfl (by omega)) (by decide) (ne_ (cw_seq (cw_true rfl (cw_skip (eo_then (cw_seq (cw_block (sr (mv 2 rfl (ne_ (sr (mv 1 rfl ?_)))))))))))))
  refine mv 1 rfl (ne_ (cw_block ?_))
  refine cw_loop (T:=World×Nat×Nat×Option Addr×Nat×List Int) (fun⟨wi,j,p,LB,ld,ys⟩=> [(0,.int .i64 ((r:Nat):Int)),(1,.int .i64 ((c:Nat):Int)),(2,.func (.func kf) #[] cs.toArray),(6,.pointer (some ⟨g1,0,none⟩)),(7,.pointer (some ⟨g13,0,none⟩)),(8,.int .i64 ((i:Nat):Int)),(10,.int .i64 ((r:Nat):Int)),(11,.int .i64 ((c:Nat):Int)),(12,.int .i64 ((r:Nat):Int)),(13,.int .i64 ((c:Nat):Int)),(14,.int .i64 ((r*c:Nat):Int)),(15,.slice (some ⟨g6,0,none⟩) 0 (r*c)),(16,.agg #[.int .i64 ((r:Nat):Int),.int .i64 ((c:Nat):Int),.slice (some ⟨g6,0,none⟩) 0 (r*c)]),(17,.int .i64 ((r:Nat):Int)),(18,.int .i64 ((i:Nat):Int)),(19,.bool true),(20,.int .i64 ((i:Nat):Int)),(21,.int .i64 ((c:Nat):Int)),(22,.int .i64 ((j:Nat):Int))]) (fun⟨wi,j,p,LB,ld,ys⟩=>wi) (fun⟨wi,j,p,LB,ld,ys⟩=>(Ext w wi)∧(j≤c)∧(Bk wi g1 24 [I0,I0,S0])∧(Bk wi g13 24 [.int .i64 ((r:Nat):Int),.int .i64 ((c:Nat):Int),.slice LB p ld])∧(g6≤wi.heap.size)∧(Lz none K w.heap.size wi g6 LB p ld ys)∧(∀p:Addr,LB=some p→p.block≠g1)∧(∀p:Addr,LB=some p→p.block≠g13)∧(p=i*c+j)∧(Bld c p f ys)) (fun⟨wi,j,p,LB,ld,ys⟩=>c-j)
   (⟨wr,0,q,LA,lc,zs⟩:World×Nat×Nat×Option Addr×Nat×List Int) ⟨hw1,(by omega),b_g1,b_g13,l_LAb,l_LA,l_LA_g1,l_LA_g13,(by omega),hz⟩ rfl ⟨rfl,rfl,rfl,rfl,rfl,rfl,rfl,rfl,rfl,rfl,rfl,rfl,rfl,rfl,rfl,rfl,rfl,rfl,rfl,trivial⟩ ?_
  rintro⟨wi,j,p,LB,ld,ys⟩ ⟨hw1,hi_j,b_g1,b_g13,l_LBb,l_LB,l_LB_g1,l_LB_g13,hq_,hz_⟩
  refine cw_re [(0,.int .i64 ((r:Nat):Int)),(1,.int .i64 ((c:Nat):Int)),(2,.func (.func kf) #[] cs.toArray),(6,.pointer (some ⟨g1,0,none⟩)),(7,.pointer (some ⟨g13,0,none⟩)),(8,.int .i64 ((i:Nat):Int)),(10,.int .i64 ((r:Nat):Int)),(11,.int .i64 ((c:Nat):Int)),(12,.int .i64 ((r:Nat):Int)),(13,.int .i64 ((c:Nat):Int)),(14,.int .i64 ((r*c:Nat):Int)),(15,.slice (some ⟨g6,0,none⟩) 0 (r*c)),(16,.agg #[.int .i64 ((r:Nat):Int),.int .i64 ((c:Nat):Int),.slice (some ⟨g6,0,none⟩) 0 (r*c)]),(17,.int .i64 ((r:Nat):Int)),(18,.int .i64 ((i:Nat):Int)),(19,.bool true),(20,.int .i64 ((i:Nat):Int)),(21,.int .i64 ((c:Nat):Int)),(22,.int .i64 ((j:Nat):Int))] wi rfl ⟨rfl,rfl,rfl,rfl,rfl,rfl,rfl,rfl,rfl,rfl,rfl,rfl,rfl,rfl,rfl,rfl,rfl,rfl,rfl,trivial⟩ ?_
  have blk26:=l_LB.block
  refine cw_seq ?_
  have hic:=ix_64 (show i≤64 by omega) hc
  by_cases hjc:j<c
  · 
   refine cw_region (wl_cmp rfl rfl rfl true (cb_lt_t (a:=j) (b:=c) rfl rfl (by omega)) (by decide) (ne_ (cw_seq (cw_true rfl (cw_skip (eo_then (cw_seq (cw_block (sr (mv 2 rfl (ne_ ?_)))))))))))
   refine cw_draw mix 7 [] [Is (.pointer (some ⟨g13,2,none⟩)),Is (.slice LB p ld),Is (.func (.func kf) #[] cs.toArray),Is (.int .i64 ((i:Nat):Int)),Is (.int .i64 ((j:Nat):Int)),ZR w.heap.size (f i j),B1 w.heap.size (f i j)] [[],[0],[],[],[],[2,3,4],[5]] [[],[0],[],[],[],[2,3,4],[2,3,4,5],[0,1,2,3,4,5,6],[0,1,2,3,4,5,6,7],[0,1,2,3,4,5,6,7,8]] rfl
    (obs_cons rfl rfl (hob rfl rfl ?_) (obs_cons rfl rfl (hob rfl rfl ?_) (obs_cons rfl rfl (hob rfl rfl ?_) (obs_cons rfl rfl (hob rfl rfl ?_) (obs_cons rfl rfl (hob rfl rfl ?_) (obs_cons rfl rfl (hob rfl rfl ?_) (obs_cons rfl rfl (hob rfl rfl ?_) obs_nil))))))) ?_
   · 
    exact fun _ _=>deps_nil (pf g13 2 rfl (by kernel_rfl) (pi_done rfl (Ext.refl _) rfl))
   · 
    exact fun _ e32=>dk rfl rfl (deps_nil (wl_load rfl rfl (load_cell cellInts (b_g13.ext e32) rfl) (by decide) (pi_done rfl (Ext.refl _) rfl)))
   · 
    exact fun _ _=>deps_nil (mv 1 rfl (pi_done rfl (Ext.refl _) rfl))
   · 
    exact fun _ _=>deps_nil (mv 1 rfl (pi_done rfl (Ext.refl _) rfl))
   · 
    exact fun _ _=>deps_nil (mv 1 rfl (pi_done rfl (Ext.refl _) rfl))
   · 
    intro v44 e45
    have hw2:=hw1.trans e45
    refine dk rfl rfl (dk rfl rfl (dk rfl rfl (deps_nil (wl_callF [.int .i64 ((i:Nat):Int),.int .i64 ((j:Nat):Int)] rfl rfl rfl hen (by decide) (hf i j _ (by omega) (by omega) hw2) ?_))))
    rintro _ v61 ⟨xr63,rfl,r63,e62⟩
    refine ret_intro ?_
    have hw3:=hw2.trans e62
    obtain⟨s64,A64,n64,c64,rfl,z64⟩:=r63
    exact pi_done rfl e62 ⟨_,_,_,_,rfl,z64⟩
   · 
    intro v65 e66
    have hw2:=hw1.trans e66
    refine deps_cons rfl rfl fun x67 y68 h69 e70 f71=>?_
    obtain⟨s72,A72,n72,c72,rfl,z72⟩:=h69
    have z72:=z72.ext f71
    refine deps_nil (wl_bslice rfl rfl (by decide) (k:=1) (e:=34) [.bool s72,.slice A72 n72 c72] (fun _=>by kernel_rfl) fun g73 v74 nb=>?_)
    have hb76:=nb.bk
    have ge77:w.heap.size≤g73:=by rw [←nb.at_];exact hw2.size
    have q78:g13<g73:=by rw [←nb.at_];exact (b_g13.ext e66).lt
    have ne79:∀p:Addr,LB=some p→p.block≠g73:=fun p hp=>by have:=((l_LB.ext e66)).block p hp;have:=nb.at_;omega
    have e75:=nb.ext
    clear nb
    have hw3:=hw2.trans e75
    exact pi_done rfl e75 ⟨_,_,_,_,_,rfl,hb76,(z72.ext e75)⟩
   · 
    intro v80 e81
    have hw2:=hw1.trans e81
    refine dk rfl rfl (dk rfl rfl (dk rfl rfl (dk rfl rfl (dk rfl rfl (deps_cons rfl rfl fun x107 y108 h109 e110 f111=>?_)))))
    obtain⟨s112,A112,n112,c112,rfl,z112⟩:=h109
    have z112:=z112.ext f111
    refine deps_cons rfl rfl fun x113 y114 h115 e116 f117=>?_
    obtain⟨gb118,s118,A118,n118,c118,rfl,hbs118,z118⟩:=h115
    have hbs118:=hbs118.ext f117
    have z118:=z118.ext f117
    refine deps_nil ?_
    have lt124:=(l_LB.ext e81)
    obtain⟨us122,own123⟩:=lt124.own
    refine wl_appI (e:=⟨s118,A118,n118,c118⟩) (z:=f i j) rfl rfl rfl lt124 (Nat.le_trans l_LBb e81.size) hbs118 (Or.inl z118) (z118.le (hK i j (by omega) (by omega))) (by omega) (by decide) fun A125 c126 v119 lz120 uo121 kp127=>?_
    have hw3:=uo121.ext hw2 (fun p hp=>by have:=blk26 p hp;omega)
    have hlblz120:g6≤v119.heap.size:=Nat.le_trans (Nat.le_trans l_LBb e81.size) uo121.size
    have ne128:=kept_ne kp127 (b_g1.ext e81).lt l_LB_g1
    have ne129:=kept_ne kp127 (b_g13.ext e81).lt l_LB_g13
    have blk130:=lz120.block
    refine pf g13 2 rfl (by kernel_rfl) ?_
    have hb132:=((b_g13.ext e81).updO uo121 l_LB_g13)
    refine wl_stored1 rfl rfl rfl szInts rfl hb132 (bq rfl) rfl [.int .i64 ((r:Nat):Int),.int .i64 ((c:Nat):Int),.slice A125 (p+1) c126] rfl fun v131 hb133 u134 hs135=>?_
    have hw4:=u134.ext hw3 ge17
    refine wl_nil (eo_np (eo_block_normal (eo_then (cw_region (wl_ar rfl rfl rfl ((j+1:Nat):Int) (ai_add (a:=j) (b:=1) rfl rfl (by omega)) (by decide) (mv 1 rfl (wl_nil (eo_round (⟨v131,j+1,p+1,A125,c126,ys++ [f i j]⟩:World×Nat×Nat×Option Addr×Nat×List Int) ⟨hw4,(by omega),(((b_g1.ext e81).updO uo121 l_LB_g1).updN u134 (by omega)),hb133,(Nat.le_trans hlblz120 u134.by_.size),(lz120.updT hb132 u134 ne129),ne128,ne129,(by omega),(hz_.step hq_ hjc l_LB.len)⟩ (show c-(j+1)<c-j by omega) rfl ⟨rfl,rfl,rfl,rfl,rfl,rfl,rfl,rfl,rfl,rfl,rfl,rfl,rfl,rfl,rfl,rfl,rfl,rfl,rfl,trivial⟩))))))))
  · 
   refine cw_region (wl_cmp rfl rfl rfl false (cb_lt_f (a:=j) (b:=c) rfl rfl (by omega)) (by decide) (ne_ (cw_seq (cw_false rfl (cw_exit (eo_thenX (eo_loopX (eo_block_here (eo_block_normal (eo_then (cw_region (wl_ar rfl rfl rfl ((i+1:Nat):Int) (ai_add (a:=i) (b:=1) rfl rfl (by omega)) (by decide) (mv 1 rfl ?_)))))))))))))
   refine wl_nil (eo_round (⟨wi,i+1,p,LB,ld,ys⟩:World×Nat×Nat×Option Addr×Nat×List Int) ⟨hw1,(by omega),b_g1,b_g13,l_LBb,l_LB,l_LB_g1,l_LB_g13,(show p=(i+1)*c by rw [Nat.succ_mul];omega),hz_⟩ (show r-(i+1)<r-i by omega) rfl ⟨rfl,rfl,rfl,rfl,rfl,rfl,rfl,rfl,rfl,rfl,rfl,rfl,rfl,rfl,trivial⟩)
 · 
  refine cw_region (wl_cmp rfl rfl rfl false (cb_lt_f (a:=i) (b:=r) rfl rfl (by omega)) (by decide) (ne_ (cw_seq (cw_false rfl (cw_exit (eo_thenX (eo_loopX (eo_block_here (eo_then (sr (lo aggMat b_g13 [.int .i64 ((r:Nat):Int),.int .i64 ((c:Nat):Int),.slice LA q lc] rfl rfl rfl ?_)))))))))))
  have hb137:=b_g1
  refine so aggMat hb137 [.int .i64 ((r:Nat):Int),.int .i64 ((c:Nat):Int),.slice LA q lc] hw1 ge5 rfl rfl rfl rfl fun v136 hb138 u139 hw2=>(ne_ (cw_ret (eo_ret [.agg #[.int .i64 ((r:Nat):Int),.int .i64 ((c:Nat):Int),.slice LA q lc]] rfl ⟨⟨_,rfl,load_agg aggMat hb138 [.int .i64 ((r:Nat):Int),.int .i64 ((c:Nat):Int),.slice LA q lc] rfl (bq rfl) rfl⟩,trivial⟩ ?_)))
  have hqr:q=r*c:=by rw [hq,show i=r by omega]
  subst hqr
  exact⟨_,rfl,⟨_,rfl,_,_,_,rfl,((l_LA.updT hb137 u139 l_LA_g1)).mono (Nat.le_refl K) hb (Nat.le_trans hlb hglg6),hz.en rfl⟩,hw2⟩
set_option maxHeartbeats 4000000 in
set_option maxRecDepth 20000 in
theorem g_mat_each {w:World}{b lb:Nat}(hb:b≤w.heap.size) (hlb:lb≤w.heap.size){Aa:Option Addr}{na capa K:Nat}{zs:List Int}(hxa:ZF w Aa na capa K zs) (hna:na≤1048576) (hKB:K≤17179869184):
    Calls Try.prog 74 #[.slice Aa na capa,.func (.func 39) #[] #[]] w (Gv w (LE none K b lb na zs)):=by
 obtain⟨msa,hla,hma⟩:=hxa
 refine sx_enter Try.func74 rfl (n:=26) rfl (bq rfl) (args:= [.slice Aa na capa,.func (.func 39) #[] #[]]) (cw_keep [(0,.slice Aa na capa),(1,.func (.func 39) #[] #[])] ⟨rfl,rfl,trivial⟩ (sr (mv 1 rfl (ne_ (sr (mv 1 rfl (pu (v:= .int .i64 ((na:Nat):Int)) rfl (by kernel_rfl) (wl_makeL (k:=na) none K w.heap.size rfl rfl rfl (by omega) (by decide) fun g1 v2 hg3 lz4 e5=>?_))))))))
 have hlbg1:g1≤v2.heap.size:=by have:=(lz4.block _ rfl).2;exact Nat.le_of_lt this
 have hglg1:w.heap.size≤g1:=by rw [←hg3];exact (Ext.refl w).size
 clear hg3
 have hw1:=(Ext.refl w).trans e5
 have blk6:=lz4.block
 refine mv 1 rfl (ne_ (cw_seq (sr (mv 1 rfl (pu (v:= .int .i64 ((na:Nat):Int)) rfl (by kernel_rfl) (mv 1 rfl (ne_ (cw_block ?_))))))))
 have hl8:=lz4
 rw [upto5_zero zs na] at hl8
 refine cw_loop (T:=World×Nat) (fun⟨wr,i⟩=> [(0,.slice Aa na capa),(1,.func (.func 39) #[] #[]),(4,.slice none 0 0),(5,.slice (some ⟨g1,0,none⟩) na na),(8,.slice Aa na capa),(9,.int .i64 ((na:Nat):Int)),(10,.slice (some ⟨g1,0,none⟩) na na),(11,.slice Aa na capa),(12,.int .i64 ((na:Nat):Int)),(13,.int .i64 ((i:Nat):Int))]) (fun⟨wr,i⟩=>wr) (fun⟨wr,i⟩=>(Ext w wr)∧(i≤na)∧(g1≤wr.heap.size)∧(Lz none K w.heap.size wr g1 (some ⟨g1,0,none⟩) na na (upto5 zs na i))) (fun⟨wr,i⟩=>na-i)
  (⟨v2,0⟩:World×Nat) ⟨hw1,(by omega),hlbg1,hl8⟩ rfl ⟨rfl,rfl,rfl,rfl,rfl,rfl,rfl,rfl,rfl,rfl,trivial⟩ ?_
 rintro⟨wr,i⟩ ⟨hw1,hi_i,l_someg10noneb,l_someg10none⟩
 refine cw_re [(0,.slice Aa na capa),(1,.func (.func 39) #[] #[]),(4,.slice none 0 0),(5,.slice (some ⟨g1,0,none⟩) na na),(8,.slice Aa na capa),(9,.int .i64 ((na:Nat):Int)),(10,.slice (some ⟨g1,0,none⟩) na na),(11,.slice Aa na capa),(12,.int .i64 ((na:Nat):Int)),(13,.int .i64 ((i:Nat):Int))] wr rfl ⟨rfl,rfl,rfl,rfl,rfl,rfl,rfl,rfl,rfl,rfl,trivial⟩ ?_
 have blk7:=l_someg10none.block
 refine cw_seq ?_
 by_cases hin:i<na
 · 
  refine cw_region (wl_cmp rfl rfl rfl true (cb_lt_t (a:=i) (b:=na) rfl rfl (by omega)) (by decide) (ne_ (cw_seq (cw_true rfl (cw_skip (eo_then (cw_seq (cw_block (sr (mv 1 rfl ?_))))))))))
  obtain⟨pz8,sz8,Bz8,cz8,hpz8,ldz8,ez8⟩:=hla.at (i:=i) (by omega)
  refine wl_idx rfl rfl rfl elemI aggInt.size i rfl (by omega) pz8 hpz8 (by decide) (wl_load rfl rfl (ldz8 _ hw1 _ _ aggInt) (by decide) (wl_alloc rfl (z:= .agg #[F0,S0]) (vs:= [F0,S0]) (fun _=>by kernel_rfl) rfl (by decide) fun g9 v10 nb=>?_))
  have hb12:=nb.bk
  have ge13:w.heap.size≤g9:=by rw [←nb.at_];exact hw1.size
  have ne14:∀p:Addr,(some ⟨g1,0,none⟩)=some p→p.block≠g9:=fun p hp=>by have:=(l_someg10none).block p hp;have:=nb.at_;omega
  have e11:=nb.ext
  clear nb
  have hw2:=hw1.trans e11
  refine mv 1 rfl (so aggInt hb12 [.bool sz8,.slice Bz8 (msa.getD i 0) cz8] hw2 ge13 rfl rfl rfl rfl fun v15 hb17 u18 hw3=>(ne_ (cw_region (mv 3 rfl (lo aggInt hb17 [.bool sz8,.slice Bz8 (msa.getD i 0) cz8] rfl rfl rfl (wl_callF [.agg #[.bool sz8,.slice Bz8 (msa.getD i 0) cz8]] rfl rfl rfl (enters_of Try.func39 (by kernel_rfl) rfl) (by decide) (g_zint_Least hw3.size (ez8.ext hw3) (Nat.le_trans (hma i) (lx_ hKB rfl))) ?_))))))
  rintro _ v20 ⟨xr22,rfl,r22,e21⟩
  refine ret_intro ?_
  have hw4:=hw3.trans e21
  obtain⟨s23,A23,n23,c23,rfl,z23⟩:=r22
  obtain⟨pz24,sz24,Bz24,nz24,cz24,hpz24,ldz24,hKz24,ez24⟩:=((((l_someg10none.ext e11).updT hb12 u18 ne14).ext e21)).at (i:=i) (by omega)
  have zz24:=ez24.zr
  have Lz24:ln ((upto5 zs na i).getD i 0)≤K:=zz24.ln_le hKz24
  refine wl_idx rfl rfl rfl elemI aggInt.size i rfl (by omega) pz24 hpz24 (by decide) ?_
  have lt30:=(((l_someg10none.ext e11).updT hb12 u18 ne14).ext e21)
  obtain⟨us28,own29⟩:=lt30.own
  refine wl_setI (e:=⟨s23,A23,n23,c23⟩) (z:=(zs.getD i 0)) rfl rfl rfl hpz24 (by omega) lt30 (Or.inl z23) (z23.le (Nat.le_trans ez8.ln (hma i))) fun v25 lz26 uo27=>?_
  have hw5:=uo27.ext hw4 (fun p hp=>by have:=blk7 p hp;omega)
  have hlblz26:g1≤v25.heap.size:=Nat.le_trans (Nat.le_trans (Nat.le_trans (Nat.le_trans l_someg10noneb e11.size) u18.by_.size) e21.size) uo27.size
  refine wl_nil (eo_block_normal (eo_then (cw_region (wl_ar rfl rfl rfl ((i+1:Nat):Int) (ai_add (a:=i) (b:=1) rfl rfl (by omega)) (by decide) (mv 1 rfl (wl_nil ?_))))))
  have hl9:=lz26
  rw [upto5_succ hla.len hin] at hl9
  refine eo_round (⟨v25,i+1⟩:World×Nat) ⟨hw5,(by omega),hlblz26,hl9⟩ (show na-(i+1)<na-i by omega) rfl ⟨rfl,rfl,rfl,rfl,rfl,rfl,rfl,rfl,rfl,rfl,trivial⟩
 · 
  refine cw_region (wl_cmp rfl rfl rfl false (cb_lt_f (a:=i) (b:=na) rfl rfl (by omega)) (by decide) (ne_ (cw_seq (cw_false rfl (cw_exit (eo_thenX (eo_loopX (eo_block_here (eo_then (sr (mv 2 rfl (ne_ (cw_ret ?_)))))))))))))
  refine eo_ret [.slice (some ⟨g1,0,none⟩) na na] rfl ⟨rfl,trivial⟩ ?_
  have hl7:=(l_someg10none).mono (Nat.le_refl _) hb (Nat.le_trans hlb hglg1)
  rw [show i=na by omega,upto5_full hla.len] at hl7
  exact⟨_,rfl,⟨_,_,rfl,hl7⟩,hw1⟩
set_option maxHeartbeats 4000000 in
set_option maxRecDepth 20000 in
theorem g_mat_Least {w:World}{b lb:Nat}(hb:b≤w.heap.size) (hlb:lb≤w.heap.size){r c K:Nat}{Aa:Option Addr}{na capa:Nat}{zs:List Int}(hxa:ZF w Aa na capa K zs) (hr:r≤64) (hc:c≤64) (hna:na=r*c) (hKB:K≤17179869184):
    Calls Try.prog 72 #[.agg #[.int .i64 ((r:Nat):Int),.int .i64 ((c:Nat):Int),.slice Aa na capa]] w (Gv w (T2 (MQ ((r:Nat):Int) ((c:Nat):Int) (LE none K b lb na zs)) (Is (.int .i64 0)))):=by
 have hxa0:=hxa
 obtain⟨msa,hla,hma⟩:=hxa
 have hrc:=ix_64 hr hc
 refine sx_enter Try.func72 rfl (n:=19) rfl (bq rfl) (args:= [.agg #[.int .i64 ((r:Nat):Int),.int .i64 ((c:Nat):Int),.slice Aa na capa]]) (cw_keep [(0,.agg #[.int .i64 ((r:Nat):Int),.int .i64 ((c:Nat):Int),.slice Aa na capa])] ⟨rfl,trivial⟩ (sr (bx [.int .i64 ((r:Nat):Int),.int .i64 ((c:Nat):Int),.slice Aa na capa] (Ext.refl w) rfl rfl rfl fun g1 v2 hb4 ge5 e3 hw1=>(alq [I0,I0,S0] hw1 hb4.lt (fun _=>by kernel_rfl) rfl fun g6 v7 hb9 ge10 q11 e8 hw2=>(mv 1 rfl (ne_ (cw_seq (sr (lo aggMat (hb4.ext e8) [.int .i64 ((r:Nat):Int),.int .i64 ((c:Nat):Int),.slice Aa na capa] rfl rfl rfl (cl (vs:= [.agg #[.int .i64 ((r:Nat):Int),.int .i64 ((c:Nat):Int),.slice Aa na capa]]) hw2 (g_mat_Check_ok (by omega) (by omega) hna) rfl (by kernel_rfl) fun xr14 v12 r14 e13 hw3=>?_))))))))))
 obtain rfl:=r14
 refine mv 1 rfl (ne_ (sr (mv 1 rfl (wl_cmp rfl rfl rfl false (by decide) (by decide) (ne_ (cw_false rfl (cw_skip (eo_then (cw_seq ?_)))))))))
 obtain⟨lb15,hlb15,hlelb15,hgl15,hq15_0,hq15_1⟩:∃lb,lb≤v12.heap.size∧v12.heap.size≤lb∧w.heap.size≤lb∧g1<lb∧g6<lb:=⟨v12.heap.size,Nat.le_refl _,Nat.le_refl _,hw3.size,(hb4.ext (e8.trans e13)).lt,(hb9.ext e13).lt⟩
 refine cw_draw mix 8 [] [Is (.pointer (some ⟨g1,0,none⟩)),Is (.int .i64 ((r:Nat):Int)),Is (.pointer (some ⟨g1,1,none⟩)),Is (.int .i64 ((c:Nat):Int)),Is (.pointer (some ⟨g1,2,none⟩)),Is (.slice Aa na capa),LE none K w.heap.size lb15 na zs,MQ ((r:Nat):Int) ((c:Nat):Int) (LE none K w.heap.size lb15 na zs)] [[],[0],[],[2],[],[4],[5],[1,3,6]] [[],[0],[],[2],[],[4],[4,5],[0,1,2,3,4,5,6],[0,1,2,3,4,5,6,7],[0,1,2,3,4,5,6,7,8]] rfl
  (obs_cons rfl rfl (hob rfl rfl ?_) (obs_cons rfl rfl (hob rfl rfl ?_) (obs_cons rfl rfl (hob rfl rfl ?_) (obs_cons rfl rfl (hob rfl rfl ?_) (obs_cons rfl rfl (hob rfl rfl ?_) (obs_cons rfl rfl (hob rfl rfl ?_) (obs_cons rfl rfl (hob rfl rfl ?_) (obs_cons rfl rfl (hob rfl rfl ?_) obs_nil)))))))) ?_
 · 
  exact fun _ _=>deps_nil (pf g1 0 rfl (by kernel_rfl) (pi_done rfl (Ext.refl _) rfl))
 · 
  exact fun _ e24=>dk rfl rfl (deps_nil (wl_load rfl rfl (load_cell cellInt (hb4.ext (e8.trans (e13.trans e24))) rfl) (by decide) (pi_done rfl (Ext.refl _) rfl)))
 · 
  exact fun _ _=>deps_nil (pf g1 1 rfl (by kernel_rfl) (pi_done rfl (Ext.refl _) rfl))
 · 
  exact fun _ e33=>dk rfl rfl (deps_nil (wl_load rfl rfl (load_cell cellInt (hb4.ext (e8.trans (e13.trans e33))) rfl) (by decide) (pi_done rfl (Ext.refl _) rfl)))
 · 
  exact fun _ _=>deps_nil (pf g1 2 rfl (by kernel_rfl) (pi_done rfl (Ext.refl _) rfl))
 · 
  exact fun _ e42=>dk rfl rfl (deps_nil (wl_load rfl rfl (load_cell cellInts (hb4.ext (e8.trans (e13.trans e42))) rfl) (by decide) (pi_done rfl (Ext.refl _) rfl)))
 · 
  intro v48 e49
  have hw4:=hw3.trans e49
  refine dk rfl rfl (deps_nil (cl (vs:= [.slice Aa na capa,.func (.func 39) #[] #[]]) hw4 (g_mat_each hw4.size (Nat.le_trans hlb15 e49.size) ((show ZF w _ _ _ _ _ from⟨msa,hla,hma⟩).ext hw4) (by omega) hKB) rfl (by kernel_rfl) fun xr57 v55 r57 e56 hw5=>?_))
  obtain⟨LA58,lc58,rfl,lz58⟩:=r57
  have blk59:=lz58.block
  exact pi_done rfl e56 ⟨_,_,rfl,lz58⟩
 · 
  intro v60 e61
  refine dk rfl rfl (dk rfl rfl (deps_cons rfl rfl fun x72 y73 h74 e75 f76=>?_))
  obtain⟨LA77,lc77,rfl,lz77⟩:=h74
  have blk78:=lz77.block
  have lz77:=lz77.ext f76
  refine deps_nil (pu (v:= .agg #[.int .i64 ((r:Nat):Int),.int .i64 ((c:Nat):Int),.slice LA77 na lc77]) rfl (by kernel_rfl) ?_)
  exact pi_done rfl (Ext.refl _) ⟨_,rfl,⟨_,_,rfl,lz77⟩⟩
 · 
  intro v79 e80
  have hw4:=hw3.trans e80
  refine dk rfl rfl (dk rfl rfl (dk rfl rfl (dk rfl rfl (dk rfl rfl (dk rfl rfl (deps_cons rfl rfl fun x111 y112 h113 e114 f115=>?_))))))
  obtain⟨LA116,lc116,rfl,lz116⟩:=h113
  have blk117:=lz116.block
  have lz116:=lz116.ext f115
  refine deps_cons rfl rfl fun x118 y119 h120 e121 f122=>?_
  obtain⟨lv123,rfl,⟨LA124,lc124,rfl,lz124⟩⟩:=h120
  have blk125:=lz124.block
  have lz124:=lz124.ext f122
  refine deps_nil ?_
  have hb127:=(hb9.ext (e13.trans e80))
  refine so aggMat hb127 [.int .i64 ((r:Nat):Int),.int .i64 ((c:Nat):Int),.slice LA124 na lc124] hw4 ge10 rfl rfl rfl rfl fun v126 hb128 u129 hw5=>(mv 1 rfl (wl_nil (eo_np (eo_then (cw_ret (eo_ret [.agg #[.int .i64 ((r:Nat):Int),.int .i64 ((c:Nat):Int),.slice LA124 na lc124],I0] rfl ⟨⟨_,rfl,load_agg aggMat hb128 [.int .i64 ((r:Nat):Int),.int .i64 ((c:Nat):Int),.slice LA124 na lc124] rfl (bq rfl) rfl⟩,rfl,trivial⟩ ?_))))))
  exact⟨_,rfl,⟨_,_,rfl,⟨_,rfl,⟨_,_,rfl,((lz124.updT hb127 u129 (show∀p:Addr,LA124=some p→p.block≠g6 from fun p hp=>by have:=blk125 p hp;omega))).mono (Nat.le_refl _) hb (Nat.le_trans hlb hgl15)⟩⟩,rfl⟩,hw5⟩
set_option maxHeartbeats 4000000 in
set_option maxRecDepth 20000 in
theorem g_mat_Unit1 {w:World}{b:Nat}(hb:b≤w.heap.size){i j:Nat}:
    Calls Try.prog 47 #[.int .i64 ((i:Nat):Int),.int .i64 ((j:Nat):Int)] w (Gv w (ZR b (m1 i j))):=by
 refine sx_enter Try.func47 rfl (n:=10) rfl (bq rfl) (args:= [.int .i64 ((i:Nat):Int),.int .i64 ((j:Nat):Int)]) (cw_keep [(0,.int .i64 ((i:Nat):Int)),(1,.int .i64 ((j:Nat):Int))] ⟨rfl,rfl,trivial⟩ (sr (al [F0,S0] (Ext.refl w) (fun _=>by kernel_rfl) rfl fun g1 v2 hb4 ge5 e3 hw1=>(ne_ (cw_seq (cw_seq ?_))))))
 by_cases hij:i=j
 · 
  refine cw_region (mv 2 rfl (wl_cmp rfl rfl rfl true (cb_eq_t (a:=i) (b:=j) rfl rfl (by omega)) (by decide) (ne_ (cw_true rfl (sr (cl (vs:= [.int .i64 1]) hw1 (g_zint_Of hw1.size (by decide) (by decide)) rfl (by kernel_rfl) fun xr8 v6 r8 e7 hw2=>?_))))))
  obtain⟨s9,A9,n9,c9,rfl,z9⟩:=r8
  have hb11:=(hb4.ext e7)
  refine so aggInt hb11 [.bool s9,.slice A9 n9 c9] hw2 ge5 rfl rfl rfl rfl fun v10 hb12 u13 hw3=>(ne_ (cw_ret (eo_thenR (eo_ret [.agg #[.bool s9,.slice A9 n9 c9]] rfl ⟨⟨_,rfl,load_agg aggInt hb12 [.bool s9,.slice A9 n9 c9] rfl (bq rfl) rfl⟩,trivial⟩ ?_))))
  exact⟨_,rfl,⟨_,_,_,_,rfl,(((z9.updT hb11 u13)).cast (if_pos hij).symm).mono hb⟩,hw3⟩
 · 
  refine cw_region (mv 2 rfl (wl_cmp rfl rfl rfl false (cb_eq_f (a:=i) (b:=j) rfl rfl (by omega)) (by decide) (ne_ (cw_false rfl (cw_skip (eo_then (sr (pu (v:= .agg #[F0,S0]) rfl (by kernel_rfl) (so aggInt hb4 [F0,S0] hw1 ge5 rfl rfl rfl rfl fun v15 hb17 u18 hw2=>(ne_ (cw_ret (eo_ret [.agg #[F0,S0]] rfl ⟨⟨_,rfl,load_agg aggInt hb17 [F0,S0] rfl (bq rfl) rfl⟩,trivial⟩ ?_))))))))))))
  exact⟨_,rfl,⟨_,_,_,_,rfl,(((Zr.zero (w:=v15) (base:=w.heap.size))).cast (if_neg hij).symm).mono hb⟩,hw2⟩
set_option maxHeartbeats 4000000 in
set_option maxRecDepth 20000 in
theorem g_mat_Unit {w:World}{b lb:Nat}(hb:b≤w.heap.size) (hlb:lb≤w.heap.size){n:Nat}(hn:n≤64):
    Calls Try.prog 22 #[.int .i64 ((n:Nat):Int)] w (Gv w (T2 (MQ ((n:Nat):Int) ((n:Nat):Int) (LQ none 1 b lb (n*n) (En n n m1))) (Is (.int .i64 0)))):=by
 refine sx_enter Try.func22 rfl (n:=11) rfl (bq rfl) (args:= [.int .i64 ((n:Nat):Int)]) (cw_keep [(0,.int .i64 ((n:Nat):Int))] ⟨rfl,trivial⟩ (sr (al [I0,I0,S0] (Ext.refl w) (fun _=>by kernel_rfl) rfl fun g1 v2 hb4 ge5 e3 hw1=>(mv 1 rfl (ne_ (cw_seq (sr (mv 1 rfl (cl (vs:= [.int .i64 ((n:Nat):Int)]) hw1 (g_mat_side_t ⟨by omega,by omega⟩) rfl (by kernel_rfl) fun xr8 v6 r8 e7 hw2=>?_)))))))))
 obtain rfl:=r8
 refine pu (v:= .bool false) rfl (by kernel_rfl) (ne_ (cw_false rfl (cw_skip (eo_then (sr (mv 2 rfl ?_))))))
 obtain⟨lb9,hlb9,hlelb9,hgl9,hq9_0⟩:∃lb,lb≤v6.heap.size∧v6.heap.size≤lb∧w.heap.size≤lb∧g1<lb:=⟨v6.heap.size,Nat.le_refl _,Nat.le_refl _,hw2.size,(hb4.ext e7).lt⟩
 refine cl (vs:= [.int .i64 ((n:Nat):Int),.int .i64 ((n:Nat):Int),.func (.func 47) #[] #[]]) hw2 (g_mat_build (f:=m1) (cs:= []) (K:=1) hw2.size hlb9 hn hn (enters_of Try.func47 (by kernel_rfl) rfl) (fun i j _ _=>ln_m1 i j) (fun i j w' _ _ x=>(g_mat_Unit1 (Nat.le_trans (Ext.refl _).size x.size)))) rfl (by kernel_rfl) fun xr12 v10 r12 e11 hw3=>?_
 obtain⟨lv13,rfl,⟨LA14,lc14,zs14,rfl,lz14,hz14⟩⟩:=r12
 have blk15:=lz14.block
 have hb17:=(hb4.ext (e7.trans e11))
 refine so aggMat hb17 [.int .i64 ((n:Nat):Int),.int .i64 ((n:Nat):Int),.slice LA14 (n*n) lc14] hw3 ge5 rfl rfl rfl rfl fun v16 hb18 u19 hw4=>(mv 1 rfl (ne_ (cw_ret (eo_ret [.agg #[.int .i64 ((n:Nat):Int),.int .i64 ((n:Nat):Int),.slice LA14 (n*n) lc14],I0] rfl ⟨⟨_,rfl,load_agg aggMat hb18 [.int .i64 ((n:Nat):Int),.int .i64 ((n:Nat):Int),.slice LA14 (n*n) lc14] rfl (bq rfl) rfl⟩,rfl,trivial⟩ ?_))))
 exact⟨_,rfl,⟨_,_,rfl,⟨_,rfl,⟨_,_,_,rfl,((lz14.updT hb17 u19 (show∀p:Addr,LA14=some p→p.block≠g1 from fun p hp=>by have:=blk15 p hp;omega))).mono (Nat.le_refl _) hb (Nat.le_trans hlb hgl9),hz14⟩⟩,rfl⟩,hw4⟩
set_option maxHeartbeats 4000000 in
set_option maxRecDepth 20000 in
theorem g_mat_product1 {w:World}{b:Nat}(hb:b≤w.heap.size){r m c:Nat}{X Y:Mx}{Aa:Option Addr}{na capa:Nat}{xs:List Int}(hxa:ZF w Aa na capa 17179869184 xs){Ay:Option Addr}{ny capy:Nat}{ys:List Int}(hxy:ZF w Ay ny capy 17179869184 ys) (hna:na=r*m) (hny:ny=m*c) (hr:r≤64) (hm:m≤64) (hc:c≤64) (hX:En r m X xs) (hY:En m c Y ys){i j ga gy:Nat}(hi:i<r) (hj:j<c) (ha:Bk w ga 24 [.int .i64 ((r:Nat):Int),.int .i64 ((m:Nat):Int),.slice Aa na capa]) (hy:Bk w gy 24 [.int .i64 ((m:Nat):Int),.int .i64 ((c:Nat):Int),.slice Ay ny capy]):
    Calls Try.prog 62 #[.int .i64 ((i:Nat):Int),.int .i64 ((j:Nat):Int),.pointer (some ⟨ga,0,none⟩),.pointer (some ⟨gy,0,none⟩)] w (Gv w (ZR b (mm m X Y i j))):=by
 have hxa0:=hxa
 have hxy0:=hxy
 obtain⟨msa,hla,hma⟩:=hxa
 obtain⟨msy,hly,hmy⟩:=hxy
 have hS:∀k,k≤m→ln (sm k fun l=>X i l*Y l j)≤34359738496:=fun k hk=>Nat.le_trans (ln_part (fun l hl=>hX.ln hxa0 hi hl) (fun l hl=>hY.ln hxy0 hl hj) hk) (by omega)
 refine sx_enter Try.func62 rfl (n:=38) rfl (bq rfl) (args:= [.int .i64 ((i:Nat):Int),.int .i64 ((j:Nat):Int),.pointer (some ⟨ga,0,none⟩),.pointer (some ⟨gy,0,none⟩)]) ?_
 have hlt_ga:=ha.lt
 have hlt_gy:=hy.lt
 refine cw_keep [(0,.int .i64 ((i:Nat):Int)),(1,.int .i64 ((j:Nat):Int)),(2,.pointer (some ⟨ga,0,none⟩)),(3,.pointer (some ⟨gy,0,none⟩))] ⟨rfl,rfl,rfl,rfl,trivial⟩ (sr (alq [F0,S0] (Ext.refl w) hy.lt (fun _=>by kernel_rfl) rfl fun g1 v2 hb4 ge5 q6 e3 hw1=>(ne_ (sr (alq [F0,S0] hw1 hb4.lt (fun _=>by kernel_rfl) rfl fun g7 v8 hb10 ge11 q12 e9 hw2=>(ne_ (cw_seq (sr (pf ga 1 rfl (by kernel_rfl) (wl_load rfl rfl (load_cell cellInt (ha.ext (e3.trans e9)) rfl) (by decide) (mv 1 rfl (ne_ (cw_block ?_)))))))))))))
 refine cw_loop (T:=World×Nat×ZC) (fun⟨wr,k,sv⟩=> [(0,.int .i64 ((i:Nat):Int)),(1,.int .i64 ((j:Nat):Int)),(2,.pointer (some ⟨ga,0,none⟩)),(3,.pointer (some ⟨gy,0,none⟩)),(6,.pointer (some ⟨g1,0,none⟩)),(7,.pointer (some ⟨g7,0,none⟩)),(9,.pointer (some ⟨ga,1,none⟩)),(10,.int .i64 ((m:Nat):Int)),(11,.int .i64 ((k:Nat):Int))]) (fun⟨wr,k,sv⟩=>wr) (fun⟨wr,k,sv⟩=>(Ext w wr)∧(k≤m)∧(Bk wr g1 34 [F0,S0])∧(Bk wr g7 34 [.bool sv.s,.slice sv.A sv.n sv.c])∧(Zr wr w.heap.size sv.s sv.A sv.n sv.c (sm k (fun l=>X i l*Y l j)))) (fun⟨wr,k,sv⟩=>m-k)
  (⟨v8,0,⟨false,none,0,0⟩⟩:World×Nat×ZC) ⟨hw2,(by omega),(hb4.ext e9),hb10,(Zr.zero (w:=v8) (base:=w.heap.size))⟩ rfl ⟨rfl,rfl,rfl,rfl,rfl,rfl,rfl,rfl,rfl,trivial⟩ ?_
 rintro⟨wr,k,sv⟩ ⟨hw1,hi_k,b_g1,b_g7,z_g7⟩
 refine cw_re [(0,.int .i64 ((i:Nat):Int)),(1,.int .i64 ((j:Nat):Int)),(2,.pointer (some ⟨ga,0,none⟩)),(3,.pointer (some ⟨gy,0,none⟩)),(6,.pointer (some ⟨g1,0,none⟩)),(7,.pointer (some ⟨g7,0,none⟩)),(9,.pointer (some ⟨ga,1,none⟩)),(10,.int .i64 ((m:Nat):Int)),(11,.int .i64 ((k:Nat):Int))] wr rfl ⟨rfl,rfl,rfl,rfl,rfl,rfl,rfl,rfl,rfl,trivial⟩ (cw_seq ?_)
 by_cases hkm:k<m
 · 
  refine cw_region (wl_cmp rfl rfl rfl true (cb_lt_t (a:=k) (b:=m) rfl rfl (by omega)) (by decide) (ne_ (cw_seq (cw_true rfl (cw_skip (eo_then (cw_seq (cw_block (sr (mv 2 rfl (ne_ ?_)))))))))))
  have hx1:=ix_lt hi hkm
  have hx2:=ix_lt hkm hj
  have hx3:=ix_64 (show i≤64 by omega) hm
  have hx4:=ix_64 (show k≤64 by omega) hc
  obtain⟨pz13,sz13,Bz13,cz13,hpz13,ldz13,ez13⟩:=hla.at (i:=(i*m)+k) (by omega)
  obtain⟨pz14,sz14,Bz14,cz14,hpz14,ldz14,ez14⟩:=hly.at (i:=(k*c)+j) (by omega)
  have L15:ln ((xs.getD ((i*m)+k) 0)*(ys.getD ((k*c)+j) 0)+(sm k (fun l=>X i l*Y l j)))≤34359738497:=Nat.le_trans (ln_add (ln_mul (Nat.le_trans ez13.ln (hma ((i*m)+k))) (Nat.le_trans ez14.ln (hmy ((k*c)+j)))) (hS k (by omega))) (by decide)
  refine cw_draw mix 22 [] [Is (.pointer (some ⟨ga,2,none⟩)),Is (.slice Aa na capa),Is (.int .i64 ((i:Nat):Int)),Is (.pointer (some ⟨ga,1,none⟩)),Is (.int .i64 ((m:Nat):Int)),Is (.int .i64 ((i*m:Nat):Int)),Is (.int .i64 ((k:Nat):Int)),Is (.int .i64 (((i*m)+k:Nat):Int)),Is (.pointer (some pz13)),Is (.agg #[.bool sz13,.slice Bz13 (msa.getD ((i*m)+k) 0) cz13]),Is (.pointer (some ⟨gy,2,none⟩)),Is (.slice Ay ny capy),Is (.int .i64 ((k:Nat):Int)),Is (.pointer (some ⟨gy,1,none⟩)),Is (.int .i64 ((c:Nat):Int)),Is (.int .i64 ((k*c:Nat):Int)),Is (.int .i64 ((j:Nat):Int)),Is (.int .i64 (((k*c)+j:Nat):Int)),Is (.pointer (some pz14)),Is (.agg #[.bool sz14,.slice Bz14 (msy.getD ((k*c)+j) 0) cz14]),Is (.agg #[.bool sv.s,.slice sv.A sv.n sv.c]),ZR w.heap.size ((xs.getD ((i*m)+k) 0)*(ys.getD ((k*c)+j) 0)+(sm k (fun l=>X i l*Y l j)))] [[],[0],[],[],[3],[2,4],[],[5,6],[1,7],[8],[],[10],[],[],[13],[12,14],[],[15,16],[11,17],[18],[],[9,19,20]] [[],[0],[],[],[3],[2,3,4],[],[2,3,4,5,6],[0,1,2,3,4,5,6,7],[0,1,2,3,4,5,6,7,8],[],[10],[],[],[13],[12,13,14],[],[12,13,14,15,16],[10,11,12,13,14,15,16,17],[10,11,12,13,14,15,16,17,18],[],[0,1,2,3,4,5,6,7,8,9,10,11,12,13,14,15,16,17,18,19,20],[0,1,2,3,4,5,6,7,8,9,10,11,12,13,14,15,16,17,18,19,20,21]] rfl
   (obs_cons rfl rfl (hob rfl rfl ?_) (obs_cons rfl rfl (hob rfl rfl ?_) (obs_cons rfl rfl (hob rfl rfl ?_) (obs_cons rfl rfl (hob rfl rfl ?_) (obs_cons rfl rfl (hob rfl rfl ?_) (obs_cons rfl rfl (hob rfl rfl ?_) (obs_cons rfl rfl (hob rfl rfl ?_) (obs_cons rfl rfl (hob rfl rfl ?_) (obs_cons rfl rfl (hob rfl rfl ?_) (obs_cons rfl rfl (hob rfl rfl ?_) (obs_cons rfl rfl (hob rfl rfl ?_) (obs_cons rfl rfl (hob rfl rfl ?_) (obs_cons rfl rfl (hob rfl rfl ?_) (obs_cons rfl rfl (hob rfl rfl ?_) (obs_cons rfl rfl (hob rfl rfl ?_) (obs_cons rfl rfl (hob rfl rfl ?_) (obs_cons rfl rfl (hob rfl rfl ?_) (obs_cons rfl rfl (hob rfl rfl ?_) (obs_cons rfl rfl (hob rfl rfl ?_) (obs_cons rfl rfl (hob rfl rfl ?_) (obs_cons rfl rfl (hob rfl rfl ?_) (obs_cons rfl rfl (hob rfl rfl ?_) obs_nil)))))))))))))))))))))) ?_
  · 
   exact fun _ _=>deps_nil (pf ga 2 rfl (by kernel_rfl) (pi_done rfl (Ext.refl _) rfl))
  · 
   exact fun _ e20=>dk rfl rfl (deps_nil (wl_load rfl rfl (load_cell cellInts (ha.ext (hw1.trans e20)) rfl) (by decide) (pi_done rfl (Ext.refl _) rfl)))
  · 
   exact fun _ _=>deps_nil (mv 1 rfl (pi_done rfl (Ext.refl _) rfl))
  · 
   exact fun _ _=>deps_nil (pf ga 1 rfl (by kernel_rfl) (pi_done rfl (Ext.refl _) rfl))
  · 
   exact fun _ e31=>dk rfl rfl (deps_nil (wl_load rfl rfl (load_cell cellInt (ha.ext (hw1.trans e31)) rfl) (by decide) (pi_done rfl (Ext.refl _) rfl)))
  · 
   exact fun _ _=>dk rfl rfl (dk rfl rfl (deps_nil (wl_ar rfl rfl rfl ((i*m:Nat):Int) (ai_mul (a:=i) (b:=m) rfl rfl (by omega)) (by decide) (pi_done rfl (Ext.refl _) rfl))))
  · 
   exact fun _ _=>deps_nil (mv 1 rfl (pi_done rfl (Ext.refl _) rfl))
  · 
   exact fun _ _=>dk rfl rfl (dk rfl rfl (deps_nil (wl_ar rfl rfl rfl (((i*m)+k:Nat):Int) (ai_add (a:=i*m) (b:=k) rfl rfl (by omega)) (by decide) (pi_done rfl (Ext.refl _) rfl))))
  · 
   exact fun _ _=>dk rfl rfl (dk rfl rfl (deps_nil (wl_idx rfl rfl rfl elemI aggInt.size ((i*m)+k) rfl (by omega) pz13 hpz13 (by decide) (pi_done rfl (Ext.refl _) rfl))))
  · 
   intro v75 e76
   have hw2:=hw1.trans e76
   refine dk rfl rfl (deps_nil (wl_load rfl rfl (ldz13 _ hw2 _ _ aggInt) (by decide) ?_))
   exact pi_done rfl (Ext.refl _) rfl
  · 
   exact fun _ _=>deps_nil (pf gy 2 rfl (by kernel_rfl) (pi_done rfl (Ext.refl _) rfl))
  · 
   exact fun _ e85=>dk rfl rfl (deps_nil (wl_load rfl rfl (load_cell cellInts (hy.ext (hw1.trans e85)) rfl) (by decide) (pi_done rfl (Ext.refl _) rfl)))
  · 
   exact fun _ _=>deps_nil (mv 1 rfl (pi_done rfl (Ext.refl _) rfl))
  · 
   exact fun _ _=>deps_nil (pf gy 1 rfl (by kernel_rfl) (pi_done rfl (Ext.refl _) rfl))
  · 
   exact fun _ e96=>dk rfl rfl (deps_nil (wl_load rfl rfl (load_cell cellInt (hy.ext (hw1.trans e96)) rfl) (by decide) (pi_done rfl (Ext.refl _) rfl)))
  · 
   exact fun _ _=>dk rfl rfl (dk rfl rfl (deps_nil (wl_ar rfl rfl rfl ((k*c:Nat):Int) (ai_mul (a:=k) (b:=c) rfl rfl (by omega)) (by decide) (pi_done rfl (Ext.refl _) rfl))))
  · 
   exact fun _ _=>deps_nil (mv 1 rfl (pi_done rfl (Ext.refl _) rfl))
  · 
   exact fun _ _=>dk rfl rfl (dk rfl rfl (deps_nil (wl_ar rfl rfl rfl (((k*c)+j:Nat):Int) (ai_add (a:=k*c) (b:=j) rfl rfl (by omega)) (by decide) (pi_done rfl (Ext.refl _) rfl))))
  · 
   exact fun _ _=>dk rfl rfl (dk rfl rfl (deps_nil (wl_idx rfl rfl rfl elemI aggInt.size ((k*c)+j) rfl (by omega) pz14 hpz14 (by decide) (pi_done rfl (Ext.refl _) rfl))))
  · 
   intro v140 e141
   have hw2:=hw1.trans e141
   refine dk rfl rfl (deps_nil (wl_load rfl rfl (ldz14 _ hw2 _ _ aggInt) (by decide) ?_))
   exact pi_done rfl (Ext.refl _) rfl
  · 
   exact fun _ e148=>deps_nil (lo aggInt (b_g7.ext e148) [.bool sv.s,.slice sv.A sv.n sv.c] rfl rfl rfl (pi_done rfl (Ext.refl _) rfl))
  · 
   intro v149 e150
   have hw2:=hw1.trans e150
   refine dk rfl rfl (dk rfl rfl (dk rfl rfl (deps_nil ?_)))
   have L166:ln ((xs.getD ((i*m)+k) 0)*(ys.getD ((k*c)+j) 0)+(sm k (fun l=>X i l*Y l j)))≤34359738497:=Nat.le_trans (ln_add (ln_mul (Nat.le_trans ez13.ln (hma ((i*m)+k))) (Nat.le_trans ez14.ln (hmy ((k*c)+j)))) (hS k (by omega))) (by decide)
   refine cl (vs:= [.agg #[.bool sz13,.slice Bz13 (msa.getD ((i*m)+k) 0) cz13],.agg #[.bool sz14,.slice Bz14 (msy.getD ((k*c)+j) 0) cz14],.agg #[.bool sv.s,.slice sv.A sv.n sv.c]]) hw2 (g_zint_MulAdd hw2.size (ez13.ext hw2) (Nat.le_trans (hma ((i*m)+k)) (by decide)) (ez14.ext hw2) (Nat.le_trans (hmy ((k*c)+j)) (by decide)) (z_g7.ext e150).zi (z_g7.le (Nat.le_trans (hS k (by omega)) (by decide)))) rfl (by kernel_rfl) fun xr169 v167 r169 e168 hw3=>?_
   obtain⟨s170,A170,n170,c170,rfl,z170⟩:=r169
   exact pi_done rfl e168 ⟨_,_,_,_,rfl,z170⟩
  · 
   intro v171 e172
   have hw2:=hw1.trans e172
   refine dk rfl rfl (dk rfl rfl (dk rfl rfl (dk rfl rfl (dk rfl rfl (dk rfl rfl (dk rfl rfl (dk rfl rfl (dk rfl rfl (dk rfl rfl (dk rfl rfl (dk rfl rfl (dk rfl rfl (dk rfl rfl ?_)))))))))))))
   refine dk rfl rfl (dk rfl rfl (dk rfl rfl (dk rfl rfl (dk rfl rfl (dk rfl rfl (dk rfl rfl (deps_cons rfl rfl fun x278 y279 h280 e281 f282=>?_)))))))
   obtain⟨s283,A283,n283,c283,rfl,z283⟩:=h280
   have z283:=z283.ext f282
   refine deps_nil ?_
   have hb285:=(b_g7.ext e172)
   refine so aggInt hb285 [.bool s283,.slice A283 n283 c283] hw2 ge11 rfl rfl rfl rfl fun v284 hb286 u287 hw3=>(wl_nil (eo_np (eo_block_normal (eo_then (cw_region (wl_ar rfl rfl rfl ((k+1:Nat):Int) (ai_add (a:=k) (b:=1) rfl rfl (by omega)) (by decide) (mv 1 rfl (wl_nil ?_))))))))
   have zc289:=((z283.updT hb285 u287)).cast (show _=sm (k+1) (fun l=>X i l*Y l j) by rw [hX i k hi hkm,hY k j hkm hj];exact Int.add_comm _ _)
   refine eo_round (⟨v284,k+1,⟨s283,A283,n283,c283⟩⟩:World×Nat×ZC) ⟨hw3,(by omega),((b_g1.ext e172).updN u287 (by omega)),hb286,zc289⟩ (show m-(k+1)<m-k by omega) rfl ⟨rfl,rfl,rfl,rfl,rfl,rfl,rfl,rfl,rfl,trivial⟩
 · 
  refine cw_region (wl_cmp rfl rfl rfl false (cb_lt_f (a:=k) (b:=m) rfl rfl (by omega)) (by decide) (ne_ (cw_seq (cw_false rfl (cw_exit (eo_thenX (eo_loopX (eo_block_here (eo_then (sr (lo aggInt b_g7 [.bool sv.s,.slice sv.A sv.n sv.c] rfl rfl rfl ?_)))))))))))
  have hb291:=b_g1
  refine so aggInt hb291 [.bool sv.s,.slice sv.A sv.n sv.c] hw1 ge5 rfl rfl rfl rfl fun v290 hb292 u293 hw2=>(ne_ (cw_ret (eo_ret [.agg #[.bool sv.s,.slice sv.A sv.n sv.c]] rfl ⟨⟨_,rfl,load_agg aggInt hb292 [.bool sv.s,.slice sv.A sv.n sv.c] rfl (bq rfl) rfl⟩,trivial⟩ ?_)))
  exact⟨_,rfl,⟨_,_,_,_,rfl,(((z_g7.updT hb291 u293)).cast (show sm k _=mm m X Y i j by rw [show k=m by omega];rfl)).mono hb⟩,hw2⟩
set_option maxHeartbeats 4000000 in
set_option maxRecDepth 20000 in
theorem g_mat_product {w:World}{b lb:Nat}(hb:b≤w.heap.size) (hlb:lb≤w.heap.size){K:Nat}{r m c:Nat}{X Y:Mx}{Aa:Option Addr}{na capa:Nat}{xs:List Int}(hxa:ZF w Aa na capa 17179869184 xs){Ay:Option Addr}{ny capy:Nat}{ys:List Int}(hxy:ZF w Ay ny capy 17179869184 ys) (hna:na=r*m) (hny:ny=m*c) (hr:r≤64) (hm:m≤64) (hc:c≤64) (hX:En r m X xs) (hY:En m c Y ys) (hK:∀i j,i<r→j<c→ln (mm m X Y i j)≤K):
    Calls Try.prog 49 #[.agg #[.int .i64 ((r:Nat):Int),.int .i64 ((m:Nat):Int),.slice Aa na capa],.agg #[.int .i64 ((m:Nat):Int),.int .i64 ((c:Nat):Int),.slice Ay ny capy]] w (Gv w (MQ ((r:Nat):Int) ((c:Nat):Int) (LQ none K b lb (r*c) (En r c (mm m X Y))))):=by
 have hxa0:=hxa
 have hxy0:=hxy
 obtain⟨msa,hla,hma⟩:=hxa
 obtain⟨msy,hly,hmy⟩:=hxy
 refine sx_enter Try.func49 rfl (n:=11) rfl (bq rfl) (args:= [.agg #[.int .i64 ((r:Nat):Int),.int .i64 ((m:Nat):Int),.slice Aa na capa],.agg #[.int .i64 ((m:Nat):Int),.int .i64 ((c:Nat):Int),.slice Ay ny capy]]) (cw_keep [(0,.agg #[.int .i64 ((r:Nat):Int),.int .i64 ((m:Nat):Int),.slice Aa na capa]),(1,.agg #[.int .i64 ((m:Nat):Int),.int .i64 ((c:Nat):Int),.slice Ay ny capy])] ⟨rfl,rfl,trivial⟩ (sr (bx [.int .i64 ((r:Nat):Int),.int .i64 ((m:Nat):Int),.slice Aa na capa] (Ext.refl w) rfl rfl rfl fun g1 v2 hb4 ge5 e3 hw1=>(bxq [.int .i64 ((m:Nat):Int),.int .i64 ((c:Nat):Int),.slice Ay ny capy] hw1 hb4.lt rfl rfl rfl fun g6 v7 hb9 ge10 q11 e8 hw2=>(alq [I0,I0,S0] hw2 hb9.lt (fun _=>by kernel_rfl) rfl fun g12 v13 hb15 ge16 q17 e14 hw3=>(ne_ (sr (pf g1 0 rfl (by kernel_rfl) (wl_load rfl rfl (load_cell cellInt (hb4.ext (e8.trans e14)) rfl) (by decide) (pf g6 1 rfl (by kernel_rfl) (wl_load rfl rfl (load_cell cellInt (hb9.ext e14) rfl) (by decide) (pu (v:= .func (.func 62) #[] #[.pointer (some ⟨g1,0,none⟩),.pointer (some ⟨g6,0,none⟩)]) rfl (by kernel_rfl) ?_))))))))))))
 obtain⟨lb18,hlb18,hlelb18,hgl18,hq18_0,hq18_1,hq18_2⟩:∃lb,lb≤v13.heap.size∧v13.heap.size≤lb∧w.heap.size≤lb∧g1<lb∧g6<lb∧g12<lb:=⟨v13.heap.size,Nat.le_refl _,Nat.le_refl _,hw3.size,(hb4.ext (e8.trans e14)).lt,(hb9.ext e14).lt,hb15.lt⟩
 refine cl (vs:= [.int .i64 ((r:Nat):Int),.int .i64 ((c:Nat):Int),.func (.func 62) #[] #[.pointer (some ⟨g1,0,none⟩),.pointer (some ⟨g6,0,none⟩)]]) hw3 (g_mat_build (f:=mm m X Y) (cs:= [.pointer (some ⟨g1,0,none⟩),.pointer (some ⟨g6,0,none⟩)]) (K:=K) hw3.size hlb18 hr hc (enters_of Try.func62 (by kernel_rfl) rfl) hK (fun i j w' hi hj x=>(g_mat_product1 (Nat.le_trans (Ext.refl _).size x.size) ((hxa0.ext hw3).ext x) ((hxy0.ext hw3).ext x) hna hny hr hm hc hX hY hi hj ((hb4.ext (e8.trans e14)).ext x) ((hb9.ext e14).ext x)))) rfl (by kernel_rfl) fun xr21 v19 r21 e20 hw4=>?_
 obtain⟨lv22,rfl,⟨LA23,lc23,zs23,rfl,lz23,hz23⟩⟩:=r21
 have blk24:=lz23.block
 have hb26:=(hb15.ext e20)
 refine so aggMat hb26 [.int .i64 ((r:Nat):Int),.int .i64 ((c:Nat):Int),.slice LA23 (r*c) lc23] hw4 ge16 rfl rfl rfl rfl fun v25 hb27 u28 hw5=>(ne_ (cw_ret (eo_ret [.agg #[.int .i64 ((r:Nat):Int),.int .i64 ((c:Nat):Int),.slice LA23 (r*c) lc23]] rfl ⟨⟨_,rfl,load_agg aggMat hb27 [.int .i64 ((r:Nat):Int),.int .i64 ((c:Nat):Int),.slice LA23 (r*c) lc23] rfl (bq rfl) rfl⟩,trivial⟩ ?_)))
 exact⟨_,rfl,⟨_,rfl,⟨_,_,_,rfl,((lz23.updT hb26 u28 (show∀p:Addr,LA23=some p→p.block≠g12 from fun p hp=>by have:=blk24 p hp;omega))).mono (Nat.le_refl _) hb (Nat.le_trans hlb hgl18),hz23⟩⟩,hw5⟩
set_option maxHeartbeats 4000000 in
theorem g_mat_check2_ok {w:World}{gl na capa ny capy:Nat}{Ra Ca Ry Cy:Int}{Aa Ay:Option Addr}(hgl:Bk w gl 24 [.int .i64 Ra,.int .i64 Ca,.slice Aa na capa,.int .i64 Ry,.int .i64 Cy,.slice Ay ny capy]) (hsa:Snd Ra Ca na) (hsy:Snd Ry Cy ny):
    Calls Try.prog 48 #[.slice (some ⟨gl,0,none⟩) 2 2] w (Gv w (Is (.int .i64 0))):=by
 refine sx_enter Try.func48 rfl (n:=15) rfl (bq rfl) (args:= [.slice (some ⟨gl,0,none⟩) 2 2]) ?_
 have hlt_gl:=hgl.lt
 refine cw_keep [(0,.slice (some ⟨gl,0,none⟩) 2 2)] ⟨rfl,trivial⟩ (sr (mv 1 rfl (ne_ (cw_seq (sr (mv 1 rfl (pu (v:= .int .i64 ((2:Nat):Int)) rfl (by kernel_rfl) (mv 1 rfl (ne_ (cw_block ?_))))))))))
 refine cw_loop (T:=World×Nat) (fun⟨wr,k⟩=> [(0,.slice (some ⟨gl,0,none⟩) 2 2),(2,.int .i64 0),(5,.slice (some ⟨gl,0,none⟩) 2 2),(6,.int .i64 ((2:Nat):Int)),(7,.int .i64 ((k:Nat):Int))]) (fun⟨wr,k⟩=>wr) (fun⟨wr,k⟩=>(Ext w wr)∧(k≤2)) (fun⟨wr,k⟩=>2-k)
  (⟨w,0⟩:World×Nat) ⟨(Ext.refl w),(by omega)⟩ rfl ⟨rfl,rfl,rfl,rfl,rfl,trivial⟩ ?_
 rintro⟨wr,k⟩ ⟨hw1,hi_k⟩
 refine cw_re [(0,.slice (some ⟨gl,0,none⟩) 2 2),(2,.int .i64 0),(5,.slice (some ⟨gl,0,none⟩) 2 2),(6,.int .i64 ((2:Nat):Int)),(7,.int .i64 ((k:Nat):Int))] wr rfl ⟨rfl,rfl,rfl,rfl,rfl,trivial⟩ (cw_seq ?_)
 by_cases hk0:k=0
 · 
  refine cw_region (wl_cmp rfl rfl rfl true (cb_lt_t (a:=k) (b:=2) rfl rfl (by omega)) (by decide) (ne_ (cw_seq (cw_true rfl (cw_skip (eo_then (cw_seq (cw_block (sr (wl_idx rfl rfl rfl Try.underlying89 aggMat.size 0 (by omega) (by decide) ⟨gl,0,none⟩ rfl (by decide) (lo aggMat (hgl.ext hw1) [.int .i64 Ra,.int .i64 Ca,.slice Aa na capa] rfl rfl rfl (alq [I0,I0,S0] hw1 (hgl.ext hw1).lt (fun _=>by kernel_rfl) rfl fun g1 v2 hb4 ge5 q6 e3 hw2=>(so aggMat hb4 [.int .i64 Ra,.int .i64 Ca,.slice Aa na capa] hw2 ge5 rfl rfl rfl rfl fun v7 hb9 u10 hw3=>?_)))))))))))))
  refine ne_ (sr (lo aggMat hb9 [.int .i64 Ra,.int .i64 Ca,.slice Aa na capa] rfl rfl rfl (cl (vs:= [.agg #[.int .i64 Ra,.int .i64 Ca,.slice Aa na capa]]) hw3 (g_mat_Check_yes hsa) rfl (by kernel_rfl) fun xr14 v12 r14 e13 hw4=>?_)))
  obtain rfl:=r14
  refine wl_cmp rfl rfl rfl false (by decide) (by decide) (ne_ (cw_false rfl (cw_skip (eo_block_normal (eo_then (cw_region (wl_ar rfl rfl rfl ((k+1:Nat):Int) (ai_add (a:=k) (b:=1) rfl rfl (by omega)) (by decide) (mv 1 rfl (wl_nil (eo_round (⟨v12,k+1⟩:World×Nat) ⟨hw4,(by omega)⟩ (show 2-(k+1)<2-k by omega) rfl ⟨rfl,rfl,rfl,rfl,rfl,trivial⟩))))))))))
 · 
  by_cases hk1:k=1
  · 
   refine cw_region (wl_cmp rfl rfl rfl true (cb_lt_t (a:=k) (b:=2) rfl rfl (by omega)) (by decide) (ne_ (cw_seq (cw_true rfl (cw_skip (eo_then (cw_seq (cw_block (sr (wl_idx rfl rfl rfl Try.underlying89 aggMat.size 1 (by omega) (by decide) ⟨gl,3,none⟩ rfl (by decide) (lo aggMat (hgl.ext hw1) [.int .i64 Ry,.int .i64 Cy,.slice Ay ny capy] rfl rfl rfl (alq [I0,I0,S0] hw1 (hgl.ext hw1).lt (fun _=>by kernel_rfl) rfl fun g15 v16 hb18 ge19 q20 e17 hw2=>(so aggMat hb18 [.int .i64 Ry,.int .i64 Cy,.slice Ay ny capy] hw2 ge19 rfl rfl rfl rfl fun v21 hb23 u24 hw3=>?_)))))))))))))
   refine ne_ (sr (lo aggMat hb23 [.int .i64 Ry,.int .i64 Cy,.slice Ay ny capy] rfl rfl rfl (cl (vs:= [.agg #[.int .i64 Ry,.int .i64 Cy,.slice Ay ny capy]]) hw3 (g_mat_Check_yes hsy) rfl (by kernel_rfl) fun xr28 v26 r28 e27 hw4=>?_)))
   obtain rfl:=r28
   refine wl_cmp rfl rfl rfl false (by decide) (by decide) (ne_ (cw_false rfl (cw_skip (eo_block_normal (eo_then (cw_region (wl_ar rfl rfl rfl ((k+1:Nat):Int) (ai_add (a:=k) (b:=1) rfl rfl (by omega)) (by decide) (mv 1 rfl (wl_nil (eo_round (⟨v26,k+1⟩:World×Nat) ⟨hw4,(by omega)⟩ (show 2-(k+1)<2-k by omega) rfl ⟨rfl,rfl,rfl,rfl,rfl,trivial⟩))))))))))
  · 
   refine cw_region (wl_cmp rfl rfl rfl false (cb_lt_f (a:=k) (b:=2) rfl rfl (by omega)) (by decide) (ne_ (cw_seq (cw_false rfl (cw_exit (eo_thenX (eo_loopX (eo_block_here (eo_then (sr (mv 1 rfl (ne_ (cw_ret ?_)))))))))))))
   refine eo_ret [I0] rfl ⟨rfl,trivial⟩ ?_
   exact⟨_,rfl,rfl,hw1⟩
set_option maxHeartbeats 4000000 in
set_option maxRecDepth 20000 in
theorem g_mat_Mul {w:World}{b lb:Nat}(hb:b≤w.heap.size) (hlb:lb≤w.heap.size){K:Nat}{r m c:Nat}{X Y:Mx}{Aa:Option Addr}{na capa:Nat}{xs:List Int}(hxa:ZF w Aa na capa 17179869184 xs){Ay:Option Addr}{ny capy:Nat}{ys:List Int}(hxy:ZF w Ay ny capy 17179869184 ys) (hna:na=r*m) (hny:ny=m*c) (hr:r≤64) (hm:m≤64) (hc:c≤64) (hX:En r m X xs) (hY:En m c Y ys) (hK:∀i j,i<r→j<c→ln (mm m X Y i j)≤K):
    Calls Try.prog 23 #[.agg #[.int .i64 ((r:Nat):Int),.int .i64 ((m:Nat):Int),.slice Aa na capa],.agg #[.int .i64 ((m:Nat):Int),.int .i64 ((c:Nat):Int),.slice Ay ny capy]] w (Gv w (T2 (MQ ((r:Nat):Int) ((c:Nat):Int) (LQ none K b lb (r*c) (En r c (mm m X Y)))) (Is (.int .i64 0)))):=by
 have hxa0:=hxa
 have hxy0:=hxy
 obtain⟨msa,hla,hma⟩:=hxa
 obtain⟨msy,hly,hmy⟩:=hxy
 refine sx_enter Try.func23 rfl (n:=24) rfl (bq rfl) (args:= [.agg #[.int .i64 ((r:Nat):Int),.int .i64 ((m:Nat):Int),.slice Aa na capa],.agg #[.int .i64 ((m:Nat):Int),.int .i64 ((c:Nat):Int),.slice Ay ny capy]]) (cw_keep [(0,.agg #[.int .i64 ((r:Nat):Int),.int .i64 ((m:Nat):Int),.slice Aa na capa]),(1,.agg #[.int .i64 ((m:Nat):Int),.int .i64 ((c:Nat):Int),.slice Ay ny capy])] ⟨rfl,rfl,trivial⟩ (sr (bx [.int .i64 ((r:Nat):Int),.int .i64 ((m:Nat):Int),.slice Aa na capa] (Ext.refl w) rfl rfl rfl fun g1 v2 hb4 ge5 e3 hw1=>(bxq [.int .i64 ((m:Nat):Int),.int .i64 ((c:Nat):Int),.slice Ay ny capy] hw1 hb4.lt rfl rfl rfl fun g6 v7 hb9 ge10 q11 e8 hw2=>(alq [I0,I0,S0] hw2 hb9.lt (fun _=>by kernel_rfl) rfl fun g12 v13 hb15 ge16 q17 e14 hw3=>(mv 1 rfl (ne_ (cw_seq (sr (lo aggMat (hb4.ext (e8.trans e14)) [.int .i64 ((r:Nat):Int),.int .i64 ((m:Nat):Int),.slice Aa na capa] rfl rfl rfl (lo aggMat (hb9.ext e14) [.int .i64 ((m:Nat):Int),.int .i64 ((c:Nat):Int),.slice Ay ny capy] rfl rfl rfl (wl_bslice rfl rfl (by decide) (k:=2) (e:=24) [.int .i64 ((r:Nat):Int),.int .i64 ((m:Nat):Int),.slice Aa na capa,.int .i64 ((m:Nat):Int),.int .i64 ((c:Nat):Int),.slice Ay ny capy] (fun _=>by kernel_rfl) fun g18 v19 nb=>?_))))))))))))
 have hb21:=nb.bk
 have ge22:w.heap.size≤g18:=by rw [←nb.at_];exact hw3.size
 have q23:g12<g18:=by rw [←nb.at_];exact hb15.lt
 have e20:=nb.ext
 clear nb
 have hw4:=hw3.trans e20
 refine cl (vs:= [.slice (some ⟨g18,0,none⟩) 2 2]) hw4 (g_mat_check2_ok hb21 (snd_mk hr hm hna) (snd_mk hm hc hny)) rfl (by kernel_rfl) fun xr26 v24 r26 e25 hw5=>?_
 obtain rfl:=r26
 refine mv 1 rfl (ne_ (sr (mv 1 rfl (wl_cmp rfl rfl rfl false (by decide) (by decide) (ne_ (cw_false rfl (cw_skip (eo_then (cw_seq (sr (pf g1 1 rfl (by kernel_rfl) (wl_load rfl rfl (load_cell cellInt (hb4.ext (e8.trans (e14.trans (e20.trans e25)))) rfl) (by decide) (pf g6 0 rfl (by kernel_rfl) ?_)))))))))))))
 refine wl_load rfl rfl (load_cell cellInt (hb9.ext (e14.trans (e20.trans e25))) rfl) (by decide) (wl_cmp rfl rfl rfl false (cb_ne_f (a:=m) (b:=m) rfl rfl (by omega)) (by decide) (ne_ (cw_false rfl (cw_skip (eo_then (sr (lo aggMat (hb4.ext (e8.trans (e14.trans (e20.trans e25)))) [.int .i64 ((r:Nat):Int),.int .i64 ((m:Nat):Int),.slice Aa na capa] rfl rfl rfl (lo aggMat (hb9.ext (e14.trans (e20.trans e25))) [.int .i64 ((m:Nat):Int),.int .i64 ((c:Nat):Int),.slice Ay ny capy] rfl rfl rfl ?_))))))))
 obtain⟨lb27,hlb27,hlelb27,hgl27,hq27_0,hq27_1,hq27_2,hq27_3⟩:∃lb,lb≤v24.heap.size∧v24.heap.size≤lb∧w.heap.size≤lb∧g1<lb∧g6<lb∧g12<lb∧g18<lb:=⟨v24.heap.size,Nat.le_refl _,Nat.le_refl _,hw5.size,(hb4.ext (e8.trans (e14.trans (e20.trans e25)))).lt,(hb9.ext (e14.trans (e20.trans e25))).lt,(hb15.ext (e20.trans e25)).lt,(hb21.ext e25).lt⟩
 refine cl (vs:= [.agg #[.int .i64 ((r:Nat):Int),.int .i64 ((m:Nat):Int),.slice Aa na capa],.agg #[.int .i64 ((m:Nat):Int),.int .i64 ((c:Nat):Int),.slice Ay ny capy]]) hw5 (g_mat_product hw5.size hlb27 (hxa0.ext hw5) (hxy0.ext hw5) hna hny hr hm hc hX hY hK) rfl (by kernel_rfl) fun xr30 v28 r30 e29 hw6=>?_
 obtain⟨lv31,rfl,⟨LA32,lc32,zs32,rfl,lz32,hz32⟩⟩:=r30
 have blk33:=lz32.block
 have hb35:=(hb15.ext (e20.trans (e25.trans e29)))
 refine so aggMat hb35 [.int .i64 ((r:Nat):Int),.int .i64 ((c:Nat):Int),.slice LA32 (r*c) lc32] hw6 ge16 rfl rfl rfl rfl fun v34 hb36 u37 hw7=>(mv 1 rfl (ne_ (cw_ret (eo_ret [.agg #[.int .i64 ((r:Nat):Int),.int .i64 ((c:Nat):Int),.slice LA32 (r*c) lc32],I0] rfl ⟨⟨_,rfl,load_agg aggMat hb36 [.int .i64 ((r:Nat):Int),.int .i64 ((c:Nat):Int),.slice LA32 (r*c) lc32] rfl (bq rfl) rfl⟩,rfl,trivial⟩ ?_))))
 exact⟨_,rfl,⟨_,_,rfl,⟨_,rfl,⟨_,_,_,rfl,((lz32.updT hb35 u37 (show∀p:Addr,LA32=some p→p.block≠g12 from fun p hp=>by have:=blk33 p hp;omega))).mono (Nat.le_refl _) hb (Nat.le_trans hlb hgl27),hz32⟩⟩,rfl⟩,hw7⟩
set_option maxHeartbeats 4000000 in
set_option maxRecDepth 20000 in
theorem g_mat_Trace {w:World}{b:Nat}(hb:b≤w.heap.size){n:Nat}{X:Mx}{Aa:Option Addr}{na capa:Nat}{xs:List Int}(hxa:ZF w Aa na capa 17179869184 xs) (hna:na=n*n) (hn:n≤64) (hX:En n n X xs):
    Calls Try.prog 9 #[.agg #[.int .i64 ((n:Nat):Int),.int .i64 ((n:Nat):Int),.slice Aa na capa]] w (Gv w (T2 (ZR b (tr n X)) (Is (.int .i64 0)))):=by
 have hxa0:=hxa
 obtain⟨msa,hla,hma⟩:=hxa
 have hS:∀k,k≤n→ln (sm k fun l=>X l l)≤17179869248:=fun k hk=>Nat.le_trans (ln_sm fun l hl=>hX.ln hxa0 (show l<n by omega) (show l<n by omega)) (by omega)
 refine sx_enter Try.func9 rfl (n:=38) rfl (bq rfl) (args:= [.agg #[.int .i64 ((n:Nat):Int),.int .i64 ((n:Nat):Int),.slice Aa na capa]]) (cw_keep [(0,.agg #[.int .i64 ((n:Nat):Int),.int .i64 ((n:Nat):Int),.slice Aa na capa])] ⟨rfl,trivial⟩ (sr (bx [.int .i64 ((n:Nat):Int),.int .i64 ((n:Nat):Int),.slice Aa na capa] (Ext.refl w) rfl rfl rfl fun g1 v2 hb4 ge5 e3 hw1=>(alq [F0,S0] hw1 hb4.lt (fun _=>by kernel_rfl) rfl fun g6 v7 hb9 ge10 q11 e8 hw2=>(mv 1 rfl (ne_ (cw_seq (sr (lo aggMat (hb4.ext e8) [.int .i64 ((n:Nat):Int),.int .i64 ((n:Nat):Int),.slice Aa na capa] rfl rfl rfl (cl (vs:= [.agg #[.int .i64 ((n:Nat):Int),.int .i64 ((n:Nat):Int),.slice Aa na capa]]) hw2 (g_mat_Check_ok hn hn hna) rfl (by kernel_rfl) fun xr14 v12 r14 e13 hw3=>?_))))))))))
 obtain rfl:=r14
 refine mv 1 rfl (ne_ (sr (mv 1 rfl (wl_cmp rfl rfl rfl false (by decide) (by decide) (ne_ (cw_false rfl (cw_skip (eo_then (cw_seq (sr (pf g1 0 rfl (by kernel_rfl) (wl_load rfl rfl (load_cell cellInt (hb4.ext (e8.trans e13)) rfl) (by decide) (pf g1 1 rfl (by kernel_rfl) ?_)))))))))))))
 refine wl_load rfl rfl (load_cell cellInt (hb4.ext (e8.trans e13)) rfl) (by decide) (wl_cmp rfl rfl rfl false (cb_ne_f (a:=n) (b:=n) rfl rfl (by omega)) (by decide) (ne_ (cw_false rfl (cw_skip (eo_then (sr (alq [F0,S0] hw3 (hb9.ext e13).lt (fun _=>by kernel_rfl) rfl fun g15 v16 hb18 ge19 q20 e17 hw4=>(ne_ (cw_seq (sr (pf g1 0 rfl (by kernel_rfl) (wl_load rfl rfl (load_cell cellInt (hb4.ext (e8.trans (e13.trans e17))) rfl) (by decide) (mv 1 rfl ?_)))))))))))))
 refine ne_ (cw_block ?_)
 refine cw_loop (T:=World×Nat×ZC) (fun⟨wr,k,sv⟩=> [(0,.agg #[.int .i64 ((n:Nat):Int),.int .i64 ((n:Nat):Int),.slice Aa na capa]),(1,.pointer (some ⟨g1,0,none⟩)),(2,.pointer (some ⟨g6,0,none⟩)),(3,.int .i64 0),(4,.int .i64 0),(5,.pointer (some ⟨g15,0,none⟩)),(7,.agg #[.int .i64 ((n:Nat):Int),.int .i64 ((n:Nat):Int),.slice Aa na capa]),(8,.int .i64 0),(9,.int .i64 0),(10,.bool false),(13,.pointer (some ⟨g1,0,none⟩)),(14,.int .i64 ((n:Nat):Int)),(15,.pointer (some ⟨g1,1,none⟩)),(16,.int .i64 ((n:Nat):Int)),(17,.bool false),(19,.pointer (some ⟨g1,0,none⟩)),(20,.int .i64 ((n:Nat):Int)),(21,.int .i64 ((k:Nat):Int))]) (fun⟨wr,k,sv⟩=>wr) (fun⟨wr,k,sv⟩=>(Ext w wr)∧(k≤n)∧(Bk wr g1 24 [.int .i64 ((n:Nat):Int),.int .i64 ((n:Nat):Int),.slice Aa na capa])∧(Bk wr g6 34 [F0,S0])∧(Bk wr g15 34 [.bool sv.s,.slice sv.A sv.n sv.c])∧(Zr wr w.heap.size sv.s sv.A sv.n sv.c (sm k (fun l=>X l l)))) (fun⟨wr,k,sv⟩=>n-k)
  (⟨v16,0,⟨false,none,0,0⟩⟩:World×Nat×ZC) ⟨hw4,(by omega),(hb4.ext (e8.trans (e13.trans e17))),(hb9.ext (e13.trans e17)),hb18,(Zr.zero (w:=v16) (base:=w.heap.size))⟩ rfl ⟨rfl,rfl,rfl,rfl,rfl,rfl,rfl,rfl,rfl,rfl,rfl,rfl,rfl,rfl,rfl,rfl,rfl,rfl,trivial⟩ ?_
 rintro⟨wr,k,sv⟩ ⟨hw1,hi_k,b_g1,b_g6,b_g15,z_g15⟩
 refine cw_re [(0,.agg #[.int .i64 ((n:Nat):Int),.int .i64 ((n:Nat):Int),.slice Aa na capa]),(1,.pointer (some ⟨g1,0,none⟩)),(2,.pointer (some ⟨g6,0,none⟩)),(3,.int .i64 0),(4,.int .i64 0),(5,.pointer (some ⟨g15,0,none⟩)),(7,.agg #[.int .i64 ((n:Nat):Int),.int .i64 ((n:Nat):Int),.slice Aa na capa]),(8,.int .i64 0),(9,.int .i64 0),(10,.bool false),(13,.pointer (some ⟨g1,0,none⟩)),(14,.int .i64 ((n:Nat):Int)),(15,.pointer (some ⟨g1,1,none⟩)),(16,.int .i64 ((n:Nat):Int)),(17,.bool false),(19,.pointer (some ⟨g1,0,none⟩)),(20,.int .i64 ((n:Nat):Int)),(21,.int .i64 ((k:Nat):Int))] wr rfl ⟨rfl,rfl,rfl,rfl,rfl,rfl,rfl,rfl,rfl,rfl,rfl,rfl,rfl,rfl,rfl,rfl,rfl,rfl,trivial⟩ (cw_seq ?_)
 by_cases hkn:k<n
 · 
  refine cw_region (wl_cmp rfl rfl rfl true (cb_lt_t (a:=k) (b:=n) rfl rfl (by omega)) (by decide) (ne_ (cw_seq (cw_true rfl (cw_skip (eo_then (cw_seq (cw_block (sr (mv 2 rfl (ne_ ?_)))))))))))
  have hx1:=ix_lt hkn hkn
  have hx3:=ix_64 (show k≤64 by omega) hn
  obtain⟨pz21,sz21,Bz21,cz21,hpz21,ldz21,ez21⟩:=hla.at (i:=(k*n)+k) (by omega)
  have L22:ln ((sm k (fun l=>X l l))+(xs.getD ((k*n)+k) 0))≤17179869249:=Nat.le_trans (ln_add (hS k (by omega)) (Nat.le_trans ez21.ln (hma ((k*n)+k)))) (by decide)
  refine cw_draw mix 12 [] [Is (.agg #[.bool sv.s,.slice sv.A sv.n sv.c]),Is (.pointer (some ⟨g1,2,none⟩)),Is (.slice Aa na capa),Is (.int .i64 ((k:Nat):Int)),Is (.pointer (some ⟨g1,1,none⟩)),Is (.int .i64 ((n:Nat):Int)),Is (.int .i64 ((k*n:Nat):Int)),Is (.int .i64 ((k:Nat):Int)),Is (.int .i64 (((k*n)+k:Nat):Int)),Is (.pointer (some pz21)),Is (.agg #[.bool sz21,.slice Bz21 (msa.getD ((k*n)+k) 0) cz21]),ZR w.heap.size ((sm k (fun l=>X l l))+(xs.getD ((k*n)+k) 0))] [[],[],[1],[],[],[4],[3,5],[],[6,7],[2,8],[9],[0,10]] [[],[],[1],[],[],[4],[3,4,5],[],[3,4,5,6,7],[1,2,3,4,5,6,7,8],[1,2,3,4,5,6,7,8,9],[0,1,2,3,4,5,6,7,8,9,10],[0,1,2,3,4,5,6,7,8,9,10,11]] rfl
   (obs_cons rfl rfl (hob rfl rfl ?_) (obs_cons rfl rfl (hob rfl rfl ?_) (obs_cons rfl rfl (hob rfl rfl ?_) (obs_cons rfl rfl (hob rfl rfl ?_) (obs_cons rfl rfl (hob rfl rfl ?_) (obs_cons rfl rfl (hob rfl rfl ?_) (obs_cons rfl rfl (hob rfl rfl ?_) (obs_cons rfl rfl (hob rfl rfl ?_) (obs_cons rfl rfl (hob rfl rfl ?_) (obs_cons rfl rfl (hob rfl rfl ?_) (obs_cons rfl rfl (hob rfl rfl ?_) (obs_cons rfl rfl (hob rfl rfl ?_) obs_nil)))))))))))) ?_
  · 
   exact fun _ e25=>deps_nil (lo aggInt (b_g15.ext e25) [.bool sv.s,.slice sv.A sv.n sv.c] rfl rfl rfl (pi_done rfl (Ext.refl _) rfl))
  · 
   exact fun _ _=>deps_nil (pf g1 2 rfl (by kernel_rfl) (pi_done rfl (Ext.refl _) rfl))
  · 
   exact fun _ e29=>dk rfl rfl (deps_nil (wl_load rfl rfl (load_cell cellInts (b_g1.ext e29) rfl) (by decide) (pi_done rfl (Ext.refl _) rfl)))
  · 
   exact fun _ _=>deps_nil (mv 1 rfl (pi_done rfl (Ext.refl _) rfl))
  · 
   exact fun _ _=>deps_nil (pf g1 1 rfl (by kernel_rfl) (pi_done rfl (Ext.refl _) rfl))
  · 
   exact fun _ e40=>dk rfl rfl (deps_nil (wl_load rfl rfl (load_cell cellInt (b_g1.ext e40) rfl) (by decide) (pi_done rfl (Ext.refl _) rfl)))
  · 
   exact fun _ _=>dk rfl rfl (dk rfl rfl (deps_nil (wl_ar rfl rfl rfl ((k*n:Nat):Int) (ai_mul (a:=k) (b:=n) rfl rfl (by omega)) (by decide) (pi_done rfl (Ext.refl _) rfl))))
  · 
   exact fun _ _=>deps_nil (mv 1 rfl (pi_done rfl (Ext.refl _) rfl))
  · 
   exact fun _ _=>dk rfl rfl (dk rfl rfl (deps_nil (wl_ar rfl rfl rfl (((k*n)+k:Nat):Int) (ai_add (a:=k*n) (b:=k) rfl rfl (by omega)) (by decide) (pi_done rfl (Ext.refl _) rfl))))
  · 
   exact fun _ _=>dk rfl rfl (dk rfl rfl (deps_nil (wl_idx rfl rfl rfl elemI aggInt.size ((k*n)+k) rfl (by omega) pz21 hpz21 (by decide) (pi_done rfl (Ext.refl _) rfl))))
  · 
   intro v84 e85
   have hw2:=hw1.trans e85
   refine dk rfl rfl (deps_nil (wl_load rfl rfl (ldz21 _ hw2 _ _ aggInt) (by decide) ?_))
   exact pi_done rfl (Ext.refl _) rfl
  · 
   intro v91 e92
   have hw2:=hw1.trans e92
   refine dk rfl rfl (dk rfl rfl (deps_nil ?_))
   have L103:ln ((sm k (fun l=>X l l))+(xs.getD ((k*n)+k) 0))≤17179869249:=Nat.le_trans (ln_add (hS k (by omega)) (Nat.le_trans ez21.ln (hma ((k*n)+k)))) (by decide)
   refine cl (vs:= [.agg #[.bool sv.s,.slice sv.A sv.n sv.c],.agg #[.bool sz21,.slice Bz21 (msa.getD ((k*n)+k) 0) cz21]]) hw2 (g_zint_Add hw2.size (z_g15.ext e92).zi (z_g15.le (Nat.le_trans (hS k (by omega)) (by decide))) (ez21.ext hw2) (Nat.le_trans (hma ((k*n)+k)) (by decide))) rfl (by kernel_rfl) fun xr106 v104 r106 e105 hw3=>?_
   obtain⟨s107,A107,n107,c107,rfl,z107⟩:=r106
   exact pi_done rfl e105 ⟨_,_,_,_,rfl,z107⟩
  · 
   intro v108 e109
   have hw2:=hw1.trans e109
   refine dk rfl rfl (dk rfl rfl (dk rfl rfl (dk rfl rfl (dk rfl rfl (dk rfl rfl (dk rfl rfl (dk rfl rfl (dk rfl rfl (dk rfl rfl (dk rfl rfl (deps_cons rfl rfl fun x165 y166 h167 e168 f169=>?_)))))))))))
   obtain⟨s170,A170,n170,c170,rfl,z170⟩:=h167
   have z170:=z170.ext f169
   refine deps_nil ?_
   have hb172:=(b_g15.ext e109)
   refine so aggInt hb172 [.bool s170,.slice A170 n170 c170] hw2 ge19 rfl rfl rfl rfl fun v171 hb173 u174 hw3=>(wl_nil (eo_np (eo_block_normal (eo_then (cw_region (wl_ar rfl rfl rfl ((k+1:Nat):Int) (ai_add (a:=k) (b:=1) rfl rfl (by omega)) (by decide) (mv 1 rfl (wl_nil ?_))))))))
   have zc176:=((z170.updT hb172 u174)).cast (show _=sm (k+1) (fun l=>X l l) by rw [hX k k hkn hkn];rfl)
   refine eo_round (⟨v171,k+1,⟨s170,A170,n170,c170⟩⟩:World×Nat×ZC) ⟨hw3,(by omega),((b_g1.ext e109).updN u174 (by omega)),((b_g6.ext e109).updN u174 (by omega)),hb173,zc176⟩ (show n-(k+1)<n-k by omega) rfl ⟨rfl,rfl,rfl,rfl,rfl,rfl,rfl,rfl,rfl,rfl,rfl,rfl,rfl,rfl,rfl,rfl,rfl,rfl,trivial⟩
 · 
  refine cw_region (wl_cmp rfl rfl rfl false (cb_lt_f (a:=k) (b:=n) rfl rfl (by omega)) (by decide) (ne_ (cw_seq (cw_false rfl (cw_exit (eo_thenX (eo_loopX (eo_block_here (eo_then (sr (lo aggInt b_g15 [.bool sv.s,.slice sv.A sv.n sv.c] rfl rfl rfl ?_)))))))))))
  have hb178:=b_g6
  refine so aggInt hb178 [.bool sv.s,.slice sv.A sv.n sv.c] hw1 ge10 rfl rfl rfl rfl fun v177 hb179 u180 hw2=>(mv 1 rfl (ne_ (cw_ret (eo_ret [.agg #[.bool sv.s,.slice sv.A sv.n sv.c],I0] rfl ⟨⟨_,rfl,load_agg aggInt hb179 [.bool sv.s,.slice sv.A sv.n sv.c] rfl (bq rfl) rfl⟩,rfl,trivial⟩ ?_))))
  exact⟨_,rfl,⟨_,_,rfl,⟨_,_,_,_,rfl,(((z_g15.updT hb178 u180)).cast (show sm k _=tr n X by rw [show k=n by omega];rfl)).mono hb⟩,rfl⟩,hw2⟩
set_option maxHeartbeats 4000000 in
theorem g_top_copyIntI {w:World}{sa:Bool}{Aa:Option Addr}{na ca:Nat}{x:Int}(hx:Zi w sa Aa na ca x) (la:na≤1048576):
    Calls Try.prog 51 #[.agg #[.bool sa,.slice Aa na ca]] w (Gv w (ZOR w.heap.size sa na x)):=by
 have hx0:=hx
 obtain⟨xs,hrx,hxe⟩:=hx0
 have Lx:ln x≤1048576:=Nat.le_trans hx.ln la
 refine sx_enter Try.func51 rfl (n:=10) rfl (bq rfl) (args:= [.agg #[.bool sa,.slice Aa na ca]]) (cw_keep [(0,.agg #[.bool sa,.slice Aa na ca])] ⟨rfl,trivial⟩ (sr (bx [.bool sa,.slice Aa na ca] (Ext.refl w) rfl rfl rfl fun g1 v2 hb4 ge5 e3 hw1=>(alq [F0,S0] hw1 hb4.lt (fun _=>by kernel_rfl) rfl fun g6 v7 hb9 ge10 q11 e8 hw2=>(ne_ (cw_seq ?_))))))
 refine cw_draw mix 7 [] [Is (.pointer (some ⟨g1,0,none⟩)),Is (.bool sa),fun v' w'=>∃g,v'= .slice (some ⟨g,0,none⟩) 0 0∧v7.heap.size≤g∧Bk w' g 47 [],Is (.pointer (some ⟨g1,1,none⟩)),Is (.slice Aa na ca),fun v' w'=>∃A c,v'= .slice A na c∧Own w' w.heap.size 47 1 A na c (xs.map W64),ZOR w.heap.size sa na x] [[],[0],[],[],[3],[2,4],[1,5]] [[],[0],[],[],[3],[2,3,4],[0,1,2,3,4,5],[0,1,2,3,4,5,6]] rfl
  (obs_cons rfl rfl (hob rfl rfl ?_) (obs_cons rfl rfl (hob rfl rfl ?_) (obs_cons rfl rfl (hob rfl rfl ?_) (obs_cons rfl rfl (hob rfl rfl ?_) (obs_cons rfl rfl (hob rfl rfl ?_) (obs_cons rfl rfl (hob rfl rfl ?_) (obs_cons rfl rfl (hob rfl rfl ?_) obs_nil))))))) ?_
 · 
  exact fun _ _=>deps_nil (pf g1 0 rfl (by kernel_rfl) (pi_done rfl (Ext.refl _) rfl))
 · 
  exact fun _ e18=>dk rfl rfl (deps_nil (wl_load rfl rfl (load_cell cellBool (hb4.ext (e8.trans e18)) rfl) (by decide) (pi_done rfl (Ext.refl _) rfl)))
 · 
  intro v24 e25
  have hw3:=hw2.trans e25
  refine deps_nil (wl_bslice rfl rfl (by decide) (k:=0) (e:=47) [] (fun _=>by kernel_rfl) fun g26 v27 nb=>?_)
  have hb29:=nb.bk
  have e28:=nb.ext
  have hg30:v7.heap.size≤g26:=by rw [←nb.at_];exact e25.size
  clear nb
  have hw4:=hw3.trans e28
  exact pi_done rfl e28 ⟨_,rfl,hg30,hb29⟩
 · 
  exact fun _ _=>deps_nil (pf g1 1 rfl (by kernel_rfl) (pi_done rfl (Ext.refl _) rfl))
 · 
  exact fun _ e34=>dk rfl rfl (deps_nil (wl_load rfl rfl (load_cell cellWords (hb4.ext (e8.trans e34)) rfl) (by decide) (pi_done rfl (Ext.refl _) rfl)))
 · 
  intro v40 e41
  have hw3:=hw2.trans e41
  refine deps_cons rfl rfl fun x42 y43 h44 e45 f46=>?_
  obtain⟨ge47,rfl,hge47,hbe47⟩:=h44
  have hbe47:=hbe47.ext f46
  refine dk rfl rfl (deps_nil (wl_app0 rfl rfl rfl Try.underlying32 info64 rfl (by decide) (Nat.le_trans hw2.size hge47) hw3.size hbe47 (hrx.ext hw3).rv (W64_oneCell xs) (by omega) (by decide) fun A53 c54 v55 ho56 e57=>?_))
  have hw4:=hw3.trans e57
  exact pi_done rfl e57 ⟨_,_,rfl,ho56⟩
 · 
  intro v58 e59
  refine dk rfl rfl (deps_cons rfl rfl fun x65 y66 h67 e68 f69=>?_)
  obtain⟨Ao70,co70,rfl,ox70⟩:=h67
  have ox70:=ox70.ext f69
  refine deps_nil (pu (v:= .agg #[.bool sa,.slice Ao70 na co70]) rfl (by kernel_rfl) ?_)
  exact pi_done rfl (Ext.refl _) ⟨_,_,rfl,(show Zo _ _ sa _ _ _ x from⟨xs,ox70,hrx.wf,hxe⟩)⟩
 · 
  intro v71 e72
  have hw3:=hw2.trans e72
  refine dk rfl rfl (dk rfl rfl (deps_cons rfl rfl fun x83 y84 h85 e86 f87=>?_))
  obtain⟨ge88,rfl,hge88,hbe88⟩:=h85
  have hbe88:=hbe88.ext f87
  refine dk rfl rfl (dk rfl rfl (deps_cons rfl rfl fun x99 y100 h101 e102 f103=>?_))
  obtain⟨Ao104,co104,rfl,ox104⟩:=h101
  have ox104:=ox104.ext f103
  refine deps_cons rfl rfl fun x105 y106 h107 e108 f109=>?_
  obtain⟨Az110,cz110,rfl,zo110⟩:=h107
  have zo110:=zo110.ext f109
  refine deps_nil ?_
  have hb112:=(hb9.ext e72)
  refine so aggInt hb112 [.bool sa,.slice Az110 na cz110] hw3 ge10 rfl rfl rfl rfl fun v111 hb113 u114 hw4=>(wl_nil (eo_np (eo_then (cw_ret (eo_ret [.agg #[.bool sa,.slice Az110 na cz110]] rfl ⟨⟨_,rfl,load_agg aggInt hb113 [.bool sa,.slice Az110 na cz110] rfl (bq rfl) rfl⟩,trivial⟩ ?_)))))
  exact⟨_,rfl,⟨_,_,rfl,(zo110.updT hb112 u114)⟩,hw4⟩
theorem g_top_copyInt {w:World}{b:Nat}(hb:b≤w.heap.size){sa:Bool}{Aa:Option Addr}{na ca:Nat}{x:Int}(hx:Zi w sa Aa na ca x) (la:na≤1048576):
  Calls Try.prog 51 #[.agg #[.bool sa,.slice Aa na ca]] w (Gv w (ZOR b sa na x)):=(g_top_copyIntI hx la).mono (Gv.imp (ZOR.imp hb))
set_option maxHeartbeats 4000000 in
set_option maxRecDepth 20000 in
theorem g_top_copyRow {w:World}{b lb:Nat}(hb:b≤w.heap.size) (hlb:lb≤w.heap.size){w0:World}(hw0:Ext w0 w){Aa:Option Addr}{na capa:Nat}{zs:List Int}(hxa:ZF w Aa na capa 1048576 zs) (hna:na≤1048576):
    Calls Try.prog 26 #[.slice Aa na capa] w (Gv w (LE (some w0) 1048576 b lb na zs)):=by
 obtain⟨msa,hla,hma⟩:=hxa
 refine sx_enter Try.func26 rfl (n:=23) rfl (bq rfl) (args:= [.slice Aa na capa]) (cw_keep [(0,.slice Aa na capa)] ⟨rfl,trivial⟩ (sr (mv 1 rfl (ne_ (sr (mv 1 rfl (pu (v:= .int .i64 ((na:Nat):Int)) rfl (by kernel_rfl) (wl_makeL (k:=na) (some w0) 1048576 w.heap.size rfl rfl rfl (by omega) (by decide) fun g1 v2 hg3 lz4 e5=>?_))))))))
 have hlbg1:g1≤v2.heap.size:=by have:=(lz4.block _ rfl).2;exact Nat.le_of_lt this
 have hglg1:w.heap.size≤g1:=by rw [←hg3];exact (Ext.refl w).size
 clear hg3
 have hw1:=(Ext.refl w).trans e5
 have blk6:=lz4.block
 refine mv 1 rfl (ne_ (cw_seq (sr (mv 1 rfl (ne_ (cw_block ?_))))))
 have hl8:=lz4
 rw [upto5_zero zs na] at hl8
 refine cw_loop (T:=World×Nat) (fun⟨wr,i⟩=> [(0,.slice Aa na capa),(2,.slice none 0 0),(3,.slice (some ⟨g1,0,none⟩) na na),(4,.int .i64 ((i:Nat):Int)),(5,.slice Aa na capa),(6,.int .i64 ((na:Nat):Int)),(7,.slice (some ⟨g1,0,none⟩) na na)]) (fun⟨wr,i⟩=>wr) (fun⟨wr,i⟩=>(Ext w wr)∧(i≤na)∧(g1≤wr.heap.size)∧(Lz (some w0) 1048576 w.heap.size wr g1 (some ⟨g1,0,none⟩) na na (upto5 zs na i))) (fun⟨wr,i⟩=>na-i)
  (⟨v2,0⟩:World×Nat) ⟨hw1,(by omega),hlbg1,hl8⟩ rfl ⟨rfl,rfl,rfl,rfl,rfl,rfl,rfl,trivial⟩ ?_
 rintro⟨wr,i⟩ ⟨hw1,hi_i,l_someg10noneb,l_someg10none⟩
 refine cw_re [(0,.slice Aa na capa),(2,.slice none 0 0),(3,.slice (some ⟨g1,0,none⟩) na na),(4,.int .i64 ((i:Nat):Int)),(5,.slice Aa na capa),(6,.int .i64 ((na:Nat):Int)),(7,.slice (some ⟨g1,0,none⟩) na na)] wr rfl ⟨rfl,rfl,rfl,rfl,rfl,rfl,rfl,trivial⟩ ?_
 have blk7:=l_someg10none.block
 refine cw_seq (cw_seq ?_)
 by_cases hin:i<na
 · 
  refine cw_region (mv 2 rfl (pu (v:= .int .i64 ((na:Nat):Int)) rfl (by kernel_rfl) (wl_cmp rfl rfl rfl true (cb_lt_t (a:=i) (b:=na) rfl rfl (by omega)) (by decide) (ne_ (cw_true rfl (cw_skip (eo_then (cw_seq (cw_block (cw_region (mv 4 rfl ?_)))))))))))
  obtain⟨pz8,sz8,Bz8,cz8,hpz8,ldz8,ez8⟩:=hla.at (i:=i) (by omega)
  refine wl_idx rfl rfl rfl elemI aggInt.size i rfl (by omega) pz8 hpz8 (by decide) (wl_load rfl rfl (ldz8 _ hw1 _ _ aggInt) (by decide) (cl (vs:= [.agg #[.bool sz8,.slice Bz8 (msa.getD i 0) cz8]]) hw1 (g_top_copyInt hw1.size (ez8.ext hw1) (Nat.le_trans (hma i) (by decide))) rfl (by kernel_rfl) fun xr11 v9 r11 e10 hw2=>?_))
  obtain⟨Az12,cz12,rfl,zo12⟩:=r11
  obtain⟨pz13,sz13,Bz13,nz13,cz13,hpz13,ldz13,hKz13,ez13⟩:=((l_someg10none.ext e10)).at (i:=i) (by omega)
  have Lz13:ln ((upto5 zs na i).getD i 0)≤1048576:=Nat.le_trans (ez13.zi (hw0.trans hw2)).ln hKz13
  refine wl_idx rfl rfl rfl elemI aggInt.size i rfl (by omega) pz13 hpz13 (by decide) ?_
  have lt19:=(l_someg10none.ext e10)
  obtain⟨us17,own18⟩:=lt19.own
  refine wl_setI (e:=⟨sz8,Az12,(msa.getD i 0),cz12⟩) (z:=zs.getD i 0) rfl rfl rfl hpz13 (by omega) lt19 (Or.inr ⟨_,rfl,Or.inr zo12⟩) (Nat.le_trans (hma i) (by decide)) fun v14 lz15 uo16=>?_
  have hw3:=uo16.ext hw2 (fun p hp=>by have:=blk7 p hp;omega)
  have hlblz15:g1≤v14.heap.size:=Nat.le_trans (Nat.le_trans l_someg10noneb e10.size) uo16.size
  refine wl_nil (eo_block_normal (eo_then (cw_region (mv 1 rfl (wl_ar rfl rfl rfl ((i+1:Nat):Int) (ai_add (a:=i) (b:=1) rfl rfl (by omega)) (by decide) (mv 1 rfl (wl_nil ?_)))))))
  have hl9:=lz15
  rw [upto5_succ hla.len hin] at hl9
  refine eo_round (⟨v14,i+1⟩:World×Nat) ⟨hw3,(by omega),hlblz15,hl9⟩ (show na-(i+1)<na-i by omega) rfl ⟨rfl,rfl,rfl,rfl,rfl,rfl,rfl,trivial⟩
 · 
  refine cw_region (mv 2 rfl (pu (v:= .int .i64 ((na:Nat):Int)) rfl (by kernel_rfl) (wl_cmp rfl rfl rfl false (cb_lt_f (a:=i) (b:=na) rfl rfl (by omega)) (by decide) (ne_ (cw_false rfl (cw_exit (eo_thenX (eo_loopX (eo_block_here (eo_then (sr (mv 2 rfl (wl_nil ?_)))))))))))))
  refine eo_then (cw_ret (eo_ret [.slice (some ⟨g1,0,none⟩) na na] rfl ⟨rfl,trivial⟩ ?_))
  have hl7:=(l_someg10none).mono (Nat.le_refl _) hb (Nat.le_trans hlb hglg1)
  rw [show i=na by omega,upto5_full hla.len] at hl7
  exact⟨_,rfl,⟨_,_,rfl,hl7⟩,hw1⟩
set_option maxHeartbeats 4000000 in
set_option maxRecDepth 20000 in
theorem g_top_copyMat {w:World}{b lb:Nat}(hb:b≤w.heap.size) (hlb:lb≤w.heap.size){w0:World}(hw0:Ext w0 w){R C:Int}{Aa:Option Addr}{na capa:Nat}{zs:List Int}(hxa:ZF w Aa na capa 1048576 zs) (hna:na≤1048576):
    Calls Try.prog 6 #[.agg #[.int .i64 R,.int .i64 C,.slice Aa na capa]] w (Gv w (MQ R C (LE (some w0) 1048576 b lb na zs))):=by
 obtain⟨msa,hla,hma⟩:=hxa
 refine sx_enter Try.func6 rfl (n:=11) rfl (bq rfl) (args:= [.agg #[.int .i64 R,.int .i64 C,.slice Aa na capa]]) (cw_keep [(0,.agg #[.int .i64 R,.int .i64 C,.slice Aa na capa])] ⟨rfl,trivial⟩ (sr (bx [.int .i64 R,.int .i64 C,.slice Aa na capa] (Ext.refl w) rfl rfl rfl fun g1 v2 hb4 ge5 e3 hw1=>(alq [I0,I0,S0] hw1 hb4.lt (fun _=>by kernel_rfl) rfl fun g6 v7 hb9 ge10 q11 e8 hw2=>(ne_ (cw_seq ?_))))))
 obtain⟨lb12,hlb12,hlelb12,hgl12,hq12_0,hq12_1⟩:∃lb,lb≤v7.heap.size∧v7.heap.size≤lb∧w.heap.size≤lb∧g1<lb∧g6<lb:=⟨v7.heap.size,Nat.le_refl _,Nat.le_refl _,hw2.size,(hb4.ext e8).lt,hb9.lt⟩
 refine cw_draw mix 8 [] [Is (.pointer (some ⟨g1,0,none⟩)),Is (.int .i64 R),Is (.pointer (some ⟨g1,1,none⟩)),Is (.int .i64 C),Is (.pointer (some ⟨g1,2,none⟩)),Is (.slice Aa na capa),LE (some w0) 1048576 w.heap.size lb12 na zs,MQ R C (LE (some w0) 1048576 w.heap.size lb12 na zs)] [[],[0],[],[2],[],[4],[5],[1,3,6]] [[],[0],[],[2],[],[4],[4,5],[0,1,2,3,4,5,6],[0,1,2,3,4,5,6,7]] rfl
  (obs_cons rfl rfl (hob rfl rfl ?_) (obs_cons rfl rfl (hob rfl rfl ?_) (obs_cons rfl rfl (hob rfl rfl ?_) (obs_cons rfl rfl (hob rfl rfl ?_) (obs_cons rfl rfl (hob rfl rfl ?_) (obs_cons rfl rfl (hob rfl rfl ?_) (obs_cons rfl rfl (hob rfl rfl ?_) (obs_cons rfl rfl (hob rfl rfl ?_) obs_nil)))))))) ?_
 · 
  exact fun _ _=>deps_nil (pf g1 0 rfl (by kernel_rfl) (pi_done rfl (Ext.refl _) rfl))
 · 
  exact fun _ e21=>dk rfl rfl (deps_nil (wl_load rfl rfl (load_cell cellInt (hb4.ext (e8.trans e21)) rfl) (by decide) (pi_done rfl (Ext.refl _) rfl)))
 · 
  exact fun _ _=>deps_nil (pf g1 1 rfl (by kernel_rfl) (pi_done rfl (Ext.refl _) rfl))
 · 
  exact fun _ e30=>dk rfl rfl (deps_nil (wl_load rfl rfl (load_cell cellInt (hb4.ext (e8.trans e30)) rfl) (by decide) (pi_done rfl (Ext.refl _) rfl)))
 · 
  exact fun _ _=>deps_nil (pf g1 2 rfl (by kernel_rfl) (pi_done rfl (Ext.refl _) rfl))
 · 
  exact fun _ e39=>dk rfl rfl (deps_nil (wl_load rfl rfl (load_cell cellInts (hb4.ext (e8.trans e39)) rfl) (by decide) (pi_done rfl (Ext.refl _) rfl)))
 · 
  intro v45 e46
  have hw3:=hw2.trans e46
  refine dk rfl rfl (deps_nil (cl (vs:= [.slice Aa na capa]) hw3 (g_top_copyRow (w0:=w0) hw3.size (Nat.le_trans hlb12 e46.size) (hw0.trans hw3) ((show ZF w _ _ _ _ _ from⟨msa,hla,hma⟩).ext hw3) (by omega)) rfl (by kernel_rfl) fun xr54 v52 r54 e53 hw4=>?_))
  obtain⟨LA55,lc55,rfl,lz55⟩:=r54
  have blk56:=lz55.block
  exact pi_done rfl e53 ⟨_,_,rfl,lz55⟩
 · 
  intro v57 e58
  refine dk rfl rfl (dk rfl rfl (deps_cons rfl rfl fun x69 y70 h71 e72 f73=>?_))
  obtain⟨LA74,lc74,rfl,lz74⟩:=h71
  have blk75:=lz74.block
  have lz74:=lz74.ext f73
  refine deps_nil (pu (v:= .agg #[.int .i64 R,.int .i64 C,.slice LA74 na lc74]) rfl (by kernel_rfl) ?_)
  exact pi_done rfl (Ext.refl _) ⟨_,rfl,⟨_,_,rfl,lz74⟩⟩
 · 
  intro v76 e77
  have hw3:=hw2.trans e77
  refine dk rfl rfl (dk rfl rfl (dk rfl rfl (dk rfl rfl (dk rfl rfl (dk rfl rfl (deps_cons rfl rfl fun x108 y109 h110 e111 f112=>?_))))))
  obtain⟨LA113,lc113,rfl,lz113⟩:=h110
  have blk114:=lz113.block
  have lz113:=lz113.ext f112
  refine deps_cons rfl rfl fun x115 y116 h117 e118 f119=>?_
  obtain⟨lv120,rfl,⟨LA121,lc121,rfl,lz121⟩⟩:=h117
  have blk122:=lz121.block
  have lz121:=lz121.ext f119
  refine deps_nil ?_
  have hb124:=(hb9.ext e77)
  refine so aggMat hb124 [.int .i64 R,.int .i64 C,.slice LA121 na lc121] hw3 ge10 rfl rfl rfl rfl fun v123 hb125 u126 hw4=>(wl_nil (eo_np (eo_then (cw_ret (eo_ret [.agg #[.int .i64 R,.int .i64 C,.slice LA121 na lc121]] rfl ⟨⟨_,rfl,load_agg aggMat hb125 [.int .i64 R,.int .i64 C,.slice LA121 na lc121] rfl (bq rfl) rfl⟩,trivial⟩ ?_)))))
  exact⟨_,rfl,⟨_,rfl,⟨_,_,rfl,((lz121.updT hb124 u126 (show∀p:Addr,LA121=some p→p.block≠g6 from fun p hp=>by have:=blk122 p hp;omega))).mono (Nat.le_refl _) hb (Nat.le_trans hlb hgl12)⟩⟩,hw4⟩
set_option maxHeartbeats 4000000 in
set_option maxRecDepth 20000 in
theorem g_top_word {w:World}{b:Nat}(hb:b≤w.heap.size){x:Nat}(hx:x≤18446744073709551615):
    Calls Try.prog 44 #[.int .u64 ((x:Nat):Int)] w (Gv w (ZR b (((x:Nat):Int)))):=by
 refine sx_enter Try.func44 rfl (n:=9) rfl (bq rfl) (args:= [.int .u64 ((x:Nat):Int)]) (cw_keep [(0,.int .u64 ((x:Nat):Int))] ⟨rfl,trivial⟩ (sr (al [F0,S0] (Ext.refl w) (fun _=>by kernel_rfl) rfl fun g1 v2 hb4 ge5 e3 hw1=>(ne_ (cw_seq (cw_seq ?_))))))
 by_cases hx0:x=0
 · 
  refine cw_region (mv 1 rfl (wl_cmp rfl rfl rfl true (cb_eq_t (a:=x) (b:=0) rfl rfl (by omega)) (by decide) (ne_ (cw_true rfl (sr (pu (v:= .agg #[F0,S0]) rfl (by kernel_rfl) (so aggInt hb4 [F0,S0] hw1 ge5 rfl rfl rfl rfl fun v6 hb8 u9 hw2=>(ne_ (cw_ret (eo_thenR (eo_ret [.agg #[F0,S0]] rfl ⟨⟨_,rfl,load_agg aggInt hb8 [F0,S0] rfl (bq rfl) rfl⟩,trivial⟩ ?_)))))))))))
  exact⟨_,rfl,⟨_,_,_,_,rfl,(((Zr.zero (w:=v6) (base:=w.heap.size))).cast (by rw [hx0];rfl)).mono hb⟩,hw2⟩
 · 
  refine cw_region (mv 1 rfl (wl_cmp rfl rfl rfl false (cb_eq_f (a:=x) (b:=0) rfl rfl (by omega)) (by decide) (ne_ (cw_false rfl (cw_skip (eo_then (sr (mv 1 rfl (wl_bslice rfl rfl (by decide) (k:=1) (e:=47) [.int .u64 ((x:Nat):Int)] (fun _=>by kernel_rfl) fun g11 v12 nb13=>?_)))))))))
  have o14:=O1.mk_ (x:=x) (b:=w.heap.size) nb13 hw1.size
  have e15:=nb13.ext
  have hw2:=hw1.trans e15
  have o17:=own1_wd o14 hx hx0
  have j16:=len1 hx hx0
  refine pu (v:= .agg #[F0,.slice (some ⟨g11,0,none⟩) 1 1]) rfl (by kernel_rfl) ?_
  have hb19:=(hb4.ext e15)
  refine so aggInt hb19 [F0,.slice (some ⟨g11,0,none⟩) 1 1] hw2 ge5 rfl rfl rfl rfl fun v18 hb20 u21 hw3=>(ne_ (cw_ret (eo_ret [.agg #[F0,.slice (some ⟨g11,0,none⟩) 1 1]] rfl ⟨⟨_,rfl,load_agg aggInt hb20 [F0,.slice (some ⟨g11,0,none⟩) 1 1] rfl (bq rfl) rfl⟩,trivial⟩ ?_)))
  exact⟨_,rfl,⟨_,_,_,_,rfl,((Zr_nat j16 o17).updT hb19 u21).mono hb⟩,hw3⟩
set_option maxHeartbeats 4000000 in
set_option maxRecDepth 20000 in
theorem g_top_minus {w:World}{b:Nat}(hb:b≤w.heap.size){x:Nat}(hx:x≤18446744073709551615) (hx0:x≠0):
    Calls Try.prog 19 #[.int .u64 ((x:Nat):Int)] w (Gv w (ZR b (-((x:Nat):Int)))):=by
 refine sx_enter Try.func19 rfl (n:=6) rfl (bq rfl) (args:= [.int .u64 ((x:Nat):Int)]) (cw_keep [(0,.int .u64 ((x:Nat):Int))] ⟨rfl,trivial⟩ (sr (al [F0,S0] (Ext.refl w) (fun _=>by kernel_rfl) rfl fun g1 v2 hb4 ge5 e3 hw1=>(ne_ (sr (mv 1 rfl (wl_bslice rfl rfl (by decide) (k:=1) (e:=47) [.int .u64 ((x:Nat):Int)] (fun _=>by kernel_rfl) fun g6 v7 nb8=>?_)))))))
 have o9:=O1.mk_ (x:=x) (b:=w.heap.size) nb8 hw1.size
 have e10:=nb8.ext
 have hw2:=hw1.trans e10
 have o12:=own1_wd o9 hx hx0
 have j11:=len1 hx hx0
 refine pu (v:= .agg #[.bool true,.slice (some ⟨g6,0,none⟩) 1 1]) rfl (by kernel_rfl) ?_
 have hb14:=(hb4.ext e10)
 refine so aggInt hb14 [.bool true,.slice (some ⟨g6,0,none⟩) 1 1] hw2 ge5 rfl rfl rfl rfl fun v13 hb15 u16 hw3=>(ne_ (cw_ret (eo_ret [.agg #[.bool true,.slice (some ⟨g6,0,none⟩) 1 1]] rfl ⟨⟨_,rfl,load_agg aggInt hb15 [.bool true,.slice (some ⟨g6,0,none⟩) 1 1] rfl (bq rfl) rfl⟩,trivial⟩ ?_)))
 exact⟨_,rfl,⟨_,_,_,_,rfl,((Zr_neg hx0 j11 o12).updT hb14 u16).mono hb⟩,hw3⟩
set_option maxHeartbeats 4000000 in
set_option maxRecDepth 20000 in
theorem g_top_two {w:World}{b lb:Nat}(hb:b≤w.heap.size) (hlb:lb≤w.heap.size):
    Calls Try.prog 18 #[] w (Gv w (MQ 2 2 (LE none 1 b lb 4 ([2,4,6,8])))):=by
 refine sx_enter Try.func18 rfl (n:=7) rfl (bq rfl) (args:= []) (cw_keep [] trivial (sr (al [I0,I0,S0] (Ext.refl w) (fun _=>by kernel_rfl) rfl fun g1 v2 hb4 ge5 e3 hw1=>(ne_ (sr (cl (vs:= [.int .u64 2]) hw1 ((g_top_word (x:=2) hw1.size (by decide))) rfl (by kernel_rfl) fun xr8 v6 r8 e7 hw2=>?_))))))
 obtain⟨s9,A9,n9,c9,rfl,z9⟩:=r8
 refine cl (vs:= [.int .u64 4]) hw2 ((g_top_word (x:=4) hw2.size (by decide))) rfl (by kernel_rfl) fun xr12 v10 r12 e11 hw3=>?_
 obtain⟨s13,A13,n13,c13,rfl,z13⟩:=r12
 refine cl (vs:= [.int .u64 6]) hw3 ((g_top_word (x:=6) hw3.size (by decide))) rfl (by kernel_rfl) fun xr16 v14 r16 e15 hw4=>?_
 obtain⟨s17,A17,n17,c17,rfl,z17⟩:=r16
 refine cl (vs:= [.int .u64 8]) hw4 ((g_top_word (x:=8) hw4.size (by decide))) rfl (by kernel_rfl) fun xr20 v18 r20 e19 hw5=>?_
 obtain⟨s21,A21,n21,c21,rfl,z21⟩:=r20
 refine wl_bslice rfl rfl (by decide) (k:=4) (e:=34) [.bool s9,.slice A9 n9 c9,.bool s13,.slice A13 n13 c13,.bool s17,.slice A17 n17 c17,.bool s21,.slice A21 n21 c21] (fun _=>by kernel_rfl) fun g22 v23 nb=>?_
 have hb25:=nb.bk
 have ge26:w.heap.size≤g22:=by rw [←nb.at_];exact hw5.size
 have q27:g1<g22:=by rw [←nb.at_];exact (hb4.ext (e7.trans (e11.trans (e15.trans e19)))).lt
 have e24:=nb.ext
 clear nb
 have hw6:=hw5.trans e24
 refine pu (v:= .agg #[.int .i64 2,.int .i64 2,.slice (some ⟨g22,0,none⟩) 4 4]) rfl (by kernel_rfl) ?_
 have hb29:=(hb4.ext (e7.trans (e11.trans (e15.trans (e19.trans e24)))))
 refine so aggMat hb29 [.int .i64 2,.int .i64 2,.slice (some ⟨g22,0,none⟩) 4 4] hw6 ge5 rfl rfl rfl rfl fun v28 hb30 u31 hw7=>(ne_ (cw_ret (eo_ret [.agg #[.int .i64 2,.int .i64 2,.slice (some ⟨g22,0,none⟩) 4 4]] rfl ⟨⟨_,rfl,load_agg aggMat hb30 [.int .i64 2,.int .i64 2,.slice (some ⟨g22,0,none⟩) 4 4] rfl (bq rfl) rfl⟩,trivial⟩ ?_)))
 exact⟨_,rfl,⟨_,rfl,⟨_,_,rfl,lz4 (Nat.le_trans hlb ge26) (hb25.updN u31 (by omega)) (((z9.ext (e11.trans (e15.trans (e19.trans e24)))).updT hb29 u31).mono hb) (((z13.ext (e15.trans (e19.trans e24))).updT hb29 u31).mono hb) (((z17.ext (e19.trans e24)).updT hb29 u31).mono hb) (((z21.ext e24).updT hb29 u31).mono hb) (z9.le (Nat.le_trans (show ln ((2:Nat):Int)≤1 from ln_w64 (by decide)) (by decide))) (z13.le (Nat.le_trans (show ln ((4:Nat):Int)≤1 from ln_w64 (by decide)) (by decide))) (z17.le (Nat.le_trans (show ln ((6:Nat):Int)≤1 from ln_w64 (by decide)) (by decide))) (z21.le (Nat.le_trans (show ln ((8:Nat):Int)≤1 from ln_w64 (by decide)) (by decide)))⟩⟩,hw7⟩
set_option maxHeartbeats 4000000 in
set_option maxRecDepth 20000 in
theorem g_top_least {w:World}{x:Int}{b_a:Nat}{sa:Bool}{Aa:Option Addr}{na ca:Nat}(ha:Zr w b_a sa Aa na ca x):
    Calls Try.prog 29 #[.agg #[.bool sa,.slice Aa na ca]] w (Gv w (Is (.bool true))):=by
 refine sx_enter Try.func29 rfl (n:=19) rfl (bq rfl) (args:= [.agg #[.bool sa,.slice Aa na ca]]) (cw_keep [(0,.agg #[.bool sa,.slice Aa na ca])] ⟨rfl,trivial⟩ (sr (bx [.bool sa,.slice Aa na ca] (Ext.refl w) rfl rfl rfl fun g1 v2 hb4 ge5 e3 hw1=>(mv 1 rfl (ne_ (cw_seq ?_))))))
 have hn:=ha.len
 have hle:=ha.rd.rv.le
 have hmx:=ha.rd.rv.max
 rw [len_maxLen] at hmx
 by_cases hx0:x=0
 · 
  have hn0:na=0:=by rw [hn,hx0];rfl
  obtain rfl:sa=false:=by rw [ha.sgn,hx0];rfl
  refine cw_region (pf g1 1 rfl (by kernel_rfl) (wl_load rfl rfl (load_cell cellWords hb4 rfl) (by decide) (pu (v:= .int .i64 ((na:Nat):Int)) rfl (by kernel_rfl) (mv 1 rfl (ne_ (cw_seq (sr (mv 1 rfl (wl_cmp rfl rfl rfl true (cb_eq_t (a:=na) (b:=0) rfl rfl (by omega)) (by decide) (ne_ (cw_true rfl (sr (pf g1 0 rfl (by kernel_rfl) ?_)))))))))))))
  refine wl_load rfl rfl (load_cell cellBool hb4 rfl) (by decide) (pu (v:= .bool true) rfl (by kernel_rfl) (mv 1 rfl (ne_ (cw_ret (eo_thenR (eo_ret [.bool true] rfl ⟨rfl,trivial⟩ ?_))))))
  exact⟨_,rfl,rfl,hw1⟩
 · 
  have hn0:na≠0:=fun e=>hx0 (ln_eq_zero (by rw [←hn,e]))
  have htop:=wd_topI hx0
  rw [←hn] at htop
  refine cw_region (pf g1 1 rfl (by kernel_rfl) (wl_load rfl rfl (load_cell cellWords hb4 rfl) (by decide) (pu (v:= .int .i64 ((na:Nat):Int)) rfl (by kernel_rfl) (mv 1 rfl (ne_ (cw_seq (sr (mv 1 rfl (wl_cmp rfl rfl rfl false (cb_eq_f (a:=na) (b:=0) rfl rfl (by omega)) (by decide) (ne_ (cw_false rfl (cw_skip (eo_then ?_)))))))))))))
  refine sr (pf g1 1 rfl (by kernel_rfl) (wl_load rfl rfl (load_cell cellWords hb4 rfl) (by decide) (mv 1 rfl (wl_ar rfl rfl rfl ((na-1:Nat):Int) (ai_sub (a:=na) (b:=1) rfl rfl (by omega) (by omega)) (by decide) ?_))))
  obtain⟨p6,hp6,hc6,hv6⟩:=((ha.ext e3)).rd.at (i:=na-1) (by omega)
  refine wl_idx rfl rfl rfl un_u64 sz_u64 (na-1) rfl (by omega) p6 hp6 (by decide) (wl_load rfl rfl (load_cell1 ag_u64 hc6) (by decide) (wl_cmp rfl rfl rfl true (cb_ne_t (a:=(wd (Int.natAbs x)).getD (na-1) 0) (b:=0) rfl rfl (by omega)) (by decide) (mv 1 rfl (ne_ (cw_ret (eo_ret [.bool true] rfl ⟨rfl,trivial⟩ ?_))))))
  exact⟨_,rfl,rfl,hw1⟩
set_option maxHeartbeats 4000000 in
set_option maxRecDepth 20000 in
theorem g_top_sameInt {w:World}{x:Int}{b_a:Nat}{sa:Bool}{Aa:Option Addr}{na ca:Nat}(ha:Zr w b_a sa Aa na ca x){b_y:Nat}{sy:Bool}{Ay:Option Addr}{ny cy:Nat}(hy:Zr w b_y sy Ay ny cy x):
    Calls Try.prog 10 #[.agg #[.bool sa,.slice Aa na ca],.agg #[.bool sy,.slice Ay ny cy]] w (Gv w (Is (.bool true))):=by
 obtain rfl:sa=sy:=by rw [hy.sgn,ha.sgn]
 have hna:=ha.len
 have hny:=hy.len
 have hle:=ha.rd.rv.le
 have hma:=ha.rd.rv.max
 have hmy:=hy.rd.rv.max
 rw [len_maxLen] at hma hmy
 refine sx_enter Try.func10 rfl (n:=48) rfl (bq rfl) (args:= [.agg #[.bool sa,.slice Aa na ca],.agg #[.bool sa,.slice Ay ny cy]]) (cw_keep [(0,.agg #[.bool sa,.slice Aa na ca]),(1,.agg #[.bool sa,.slice Ay ny cy])] ⟨rfl,rfl,trivial⟩ (sr (bx [.bool sa,.slice Aa na ca] (Ext.refl w) rfl rfl rfl fun g1 v2 hb4 ge5 e3 hw1=>(bxq [.bool sa,.slice Ay ny cy] hw1 hb4.lt rfl rfl rfl fun g6 v7 hb9 ge10 q11 e8 hw2=>(mv 1 rfl (ne_ (cw_seq (sr (pf g1 0 rfl (by kernel_rfl) (wl_load rfl rfl (load_cell cellBool (hb4.ext e8) rfl) (by decide) (pf g6 0 rfl (by kernel_rfl) (wl_load rfl rfl (load_cell cellBool hb9 rfl) (by decide) (wl_pureE rfl rfl (v:= .bool (!(sa==sa))) (v':= .bool false) (by decide) (by kernel_rfl) (by simp) ?_)))))))))))))
 refine mv 1 rfl (pf g1 1 rfl (by kernel_rfl) (wl_load rfl rfl (load_cell cellWords (hb4.ext e8) rfl) (by decide) (pu (v:= .int .i64 ((na:Nat):Int)) rfl (by kernel_rfl) (pf g6 1 rfl (by kernel_rfl) (wl_load rfl rfl (load_cell cellWords hb9 rfl) (by decide) (pu (v:= .int .i64 ((ny:Nat):Int)) rfl (by kernel_rfl) (wl_cmp rfl rfl rfl false (cb_ne_f (a:=na) (b:=ny) rfl rfl (by omega)) (by decide) (pu (v:= .bool false) rfl (by kernel_rfl) (mv 1 rfl (lo aggInt (hb4.ext e8) [.bool sa,.slice Aa na ca] rfl rfl rfl (cl (vs:= [.agg #[.bool sa,.slice Aa na ca]]) hw2 (g_top_least (ha.ext (e3.trans e8))) rfl (by kernel_rfl) fun xr14 v12 r14 e13 hw3=>?_)))))))))))
 obtain rfl:=r14
 refine pu (v:= .bool false) rfl (by kernel_rfl) (pu (v:= .bool false) rfl (by kernel_rfl) (mv 1 rfl (lo aggInt (hb9.ext e13) [.bool sa,.slice Ay ny cy] rfl rfl rfl (cl (vs:= [.agg #[.bool sa,.slice Ay ny cy]]) hw3 (g_top_least (hy.ext (e3.trans (e8.trans e13)))) rfl (by kernel_rfl) fun xr17 v15 r17 e16 hw4=>?_))))
 obtain rfl:=r17
 refine pu (v:= .bool false) rfl (by kernel_rfl) (pu (v:= .bool false) rfl (by kernel_rfl) (ne_ (cw_false rfl (cw_skip (eo_then (cw_seq (sr (mv 1 rfl (ne_ (cw_block ?_))))))))))
 refine cw_loop (T:=World×Nat) (fun⟨wr,i⟩=> [(0,.agg #[.bool sa,.slice Aa na ca]),(1,.agg #[.bool sa,.slice Ay ny cy]),(2,.pointer (some ⟨g1,0,none⟩)),(3,.pointer (some ⟨g6,0,none⟩)),(4,.bool false),(5,.int .i64 ((i:Nat):Int)),(6,.pointer (some ⟨g1,0,none⟩)),(7,.bool sa),(8,.pointer (some ⟨g6,0,none⟩)),(9,.bool sa),(10,.bool false),(11,.bool false),(12,.pointer (some ⟨g1,1,none⟩)),(13,.slice Aa na ca),(14,.int .i64 ((na:Nat):Int)),(15,.pointer (some ⟨g6,1,none⟩)),(16,.slice Ay ny cy),(17,.int .i64 ((ny:Nat):Int)),(18,.bool false),(19,.bool false),(20,.bool false),(21,.agg #[.bool sa,.slice Aa na ca]),(22,.bool true),(23,.bool false),(24,.bool false),(25,.bool false),(26,.agg #[.bool sa,.slice Ay ny cy]),(27,.bool true),(28,.bool false),(29,.bool false)]) (fun⟨wr,i⟩=>wr) (fun⟨wr,i⟩=>(Ext w wr)∧(i≤na)∧(Bk wr g1 34 [.bool sa,.slice Aa na ca])∧(Zr wr b_a sa Aa na ca (x))∧(Bk wr g6 34 [.bool sa,.slice Ay ny cy])∧(Zr wr b_y sa Ay ny cy (x))) (fun⟨wr,i⟩=>na-i)
  (⟨v15,0⟩:World×Nat) ⟨hw4,(by omega),(hb4.ext (e8.trans (e13.trans e16))),(ha.ext (e3.trans (e8.trans (e13.trans e16)))),(hb9.ext (e13.trans e16)),(hy.ext (e3.trans (e8.trans (e13.trans e16))))⟩ rfl ⟨rfl,rfl,rfl,rfl,rfl,rfl,rfl,rfl,rfl,rfl,rfl,rfl,rfl,rfl,rfl,rfl,rfl,rfl,rfl,rfl,rfl,rfl,rfl,rfl,rfl,rfl,rfl,rfl,rfl,rfl,trivial⟩ ?_
 rintro⟨wr,i⟩ ⟨hw1,hi_i,b_g1,z_g1,b_g6,z_g6⟩
 refine cw_re [(0,.agg #[.bool sa,.slice Aa na ca]),(1,.agg #[.bool sa,.slice Ay ny cy]),(2,.pointer (some ⟨g1,0,none⟩)),(3,.pointer (some ⟨g6,0,none⟩)),(4,.bool false),(5,.int .i64 ((i:Nat):Int)),(6,.pointer (some ⟨g1,0,none⟩)),(7,.bool sa),(8,.pointer (some ⟨g6,0,none⟩)),(9,.bool sa),(10,.bool false),(11,.bool false),(12,.pointer (some ⟨g1,1,none⟩)),(13,.slice Aa na ca),(14,.int .i64 ((na:Nat):Int)),(15,.pointer (some ⟨g6,1,none⟩)),(16,.slice Ay ny cy),(17,.int .i64 ((ny:Nat):Int)),(18,.bool false),(19,.bool false),(20,.bool false),(21,.agg #[.bool sa,.slice Aa na ca]),(22,.bool true),(23,.bool false),(24,.bool false),(25,.bool false),(26,.agg #[.bool sa,.slice Ay ny cy]),(27,.bool true),(28,.bool false),(29,.bool false)] wr rfl ⟨rfl,rfl,rfl,rfl,rfl,rfl,rfl,rfl,rfl,rfl,rfl,rfl,rfl,rfl,rfl,rfl,rfl,rfl,rfl,rfl,rfl,rfl,rfl,rfl,rfl,rfl,rfl,rfl,rfl,rfl,trivial⟩ (cw_seq (cw_seq ?_))
 by_cases hin:i<na
 · 
  refine cw_region (mv 1 rfl (pf g1 1 rfl (by kernel_rfl) (wl_load rfl rfl (load_cell cellWords b_g1 rfl) (by decide) (pu (v:= .int .i64 ((na:Nat):Int)) rfl (by kernel_rfl) (wl_cmp rfl rfl rfl true (cb_lt_t (a:=i) (b:=na) rfl rfl (by omega)) (by decide) (ne_ (cw_true rfl (cw_skip (eo_then (cw_seq (cw_block (cw_seq (cw_keep [(0,.agg #[.bool sa,.slice Aa na ca]),(1,.agg #[.bool sa,.slice Ay ny cy]),(2,.pointer (some ⟨g1,0,none⟩)),(3,.pointer (some ⟨g6,0,none⟩)),(4,.bool false),(5,.int .i64 ((i:Nat):Int)),(6,.pointer (some ⟨g1,0,none⟩)),(7,.bool sa),(8,.pointer (some ⟨g6,0,none⟩)),(9,.bool sa),(10,.bool false),(11,.bool false),(12,.pointer (some ⟨g1,1,none⟩)),(13,.slice Aa na ca),(14,.int .i64 ((na:Nat):Int)),(15,.pointer (some ⟨g6,1,none⟩)),(16,.slice Ay ny cy),(17,.int .i64 ((ny:Nat):Int)),(18,.bool false),(19,.bool false),(20,.bool false),(21,.agg #[.bool sa,.slice Aa na ca]),(22,.bool true),(23,.bool false),(24,.bool false),(25,.bool false),(26,.agg #[.bool sa,.slice Ay ny cy]),(27,.bool true),(28,.bool false),(29,.bool false),(30,.int .i64 ((i:Nat):Int)),(31,.pointer (some ⟨g1,1,none⟩)),(32,.slice Aa na ca),(33,.int .i64 ((na:Nat):Int)),(34,.bool true)] ⟨rfl,rfl,rfl,rfl,rfl,rfl,rfl,rfl,rfl,rfl,rfl,rfl,rfl,rfl,rfl,rfl,rfl,rfl,rfl,rfl,rfl,rfl,rfl,rfl,rfl,rfl,rfl,rfl,rfl,rfl,rfl,rfl,rfl,rfl,rfl,trivial⟩ ?_)))))))))))))
  obtain⟨v18,hv,e19⟩:∃v,v=wr.drew∧Ext wr v:=⟨_,rfl,(Ext.refl _).drew⟩
  have hw2:=hw1.trans e19
  obtain⟨p20,hp20,hc20,hv20⟩:=((z_g1.ext e19)).rd.at (i:=i) (by omega)
  obtain⟨p21,hp21,hc21,hv21⟩:=((z_g6.ext e19)).rd.at (i:=i) (by omega)
  refine cw_det mix (w:=v18) [.pointer (some ⟨g1,1,none⟩),.slice Aa na ca,.int .i64 ((i:Nat):Int),.pointer (some p20),.int .u64 (((wd (Int.natAbs x)).getD i 0:Nat):Int),.pointer (some ⟨g6,1,none⟩),.slice Ay ny cy,.int .i64 ((i:Nat):Int),.pointer (some p21),.int .u64 (((wd (Int.natAbs x)).getD i 0:Nat):Int),F0] [v18] [] [[],[0],[],[1,2],[3],[],[5],[],[6,7],[8],[4,9]] [[],[0],[],[0,1,2],[0,1,2,3],[],[5],[],[5,6,7],[5,6,7,8],[0,1,2,3,4,5,6,7,8,9]] [(0,0),(1,0),(2,0),(3,0),(4,0),(5,0),(6,0),(7,0),(8,0),(9,0),(10,0)] rfl hv ?_ ?_
  · 
   refine dobs_val _ rfl rfl rfl rfl rfl (rd_pure rfl (by kernel_rfl)) (dobs_val _ rfl rfl rfl rfl rfl (rd_load rfl (load_cell cellWords (b_g1.ext e19) rfl)) (dobs_val _ rfl rfl rfl rfl rfl (rd_move rfl) (dobs_val _ rfl rfl rfl rfl rfl (rd_idx rfl rfl un_u64 sz_u64 i rfl (by omega) p20 hp20) (dobs_val _ rfl rfl rfl rfl rfl (rd_load rfl (load_cell1 ag_u64 hc20)) (dobs_val _ rfl rfl rfl rfl rfl (rd_pure rfl (by kernel_rfl)) (dobs_val _ rfl rfl rfl rfl rfl (rd_load rfl (load_cell cellWords (b_g6.ext e19) rfl)) (dobs_val _ rfl rfl rfl rfl rfl (rd_move rfl) (dobs_val _ rfl rfl rfl rfl rfl (rd_idx rfl rfl un_u64 sz_u64 i rfl (by omega) p21 hp21) (dobs_val _ rfl rfl rfl rfl rfl (rd_load rfl (load_cell1 ag_u64 hc21)) (dobs_val _ rfl rfl rfl rfl rfl (rd_cmp rfl rfl false (cb_ne_f (a:=(wd (Int.natAbs x)).getD i 0) (b:=(wd (Int.natAbs x)).getD i 0) rfl rfl (by omega))) ?_))))))))))
   exact dobs_nil
  clear hv
  refine eo_keep [(0,.agg #[.bool sa,.slice Aa na ca]),(1,.agg #[.bool sa,.slice Ay ny cy]),(2,.pointer (some ⟨g1,0,none⟩)),(3,.pointer (some ⟨g6,0,none⟩)),(4,.bool false),(5,.int .i64 ((i:Nat):Int)),(6,.pointer (some ⟨g1,0,none⟩)),(7,.bool sa),(8,.pointer (some ⟨g6,0,none⟩)),(9,.bool sa),(10,.bool false),(11,.bool false),(12,.pointer (some ⟨g1,1,none⟩)),(13,.slice Aa na ca),(14,.int .i64 ((na:Nat):Int)),(15,.pointer (some ⟨g6,1,none⟩)),(16,.slice Ay ny cy),(17,.int .i64 ((ny:Nat):Int)),(18,.bool false),(19,.bool false),(20,.bool false),(21,.agg #[.bool sa,.slice Aa na ca]),(22,.bool true),(23,.bool false),(24,.bool false),(25,.bool false),(26,.agg #[.bool sa,.slice Ay ny cy]),(27,.bool true),(28,.bool false),(29,.bool false),(30,.int .i64 ((i:Nat):Int)),(31,.pointer (some ⟨g1,1,none⟩)),(32,.slice Aa na ca),(33,.int .i64 ((na:Nat):Int)),(34,.bool true),(37,.pointer (some ⟨g1,1,none⟩)),(38,.slice Aa na ca),(39,.int .i64 ((i:Nat):Int)),(40,.pointer (some p20)),(41,.int .u64 (((wd (Int.natAbs x)).getD i 0:Nat):Int)),(42,.pointer (some ⟨g6,1,none⟩)),(43,.slice Ay ny cy),(44,.int .i64 ((i:Nat):Int)),(45,.pointer (some p21)),(46,.int .u64 (((wd (Int.natAbs x)).getD i 0:Nat):Int)),(47,.bool false)] ⟨rfl,rfl,rfl,rfl,rfl,rfl,rfl,rfl,rfl,rfl,rfl,rfl,rfl,rfl,rfl,rfl,rfl,rfl,rfl,rfl,rfl,rfl,rfl,rfl,rfl,rfl,rfl,rfl,rfl,rfl,rfl,rfl,rfl,rfl,rfl,rfl,rfl,rfl,rfl,rfl,rfl,rfl,rfl,rfl,rfl,rfl,trivial⟩ (eo_then (cw_false rfl (cw_skip (eo_block_normal (eo_then (cw_region (mv 1 rfl (wl_ar rfl rfl rfl ((i+1:Nat):Int) (ai_add (a:=i) (b:=1) rfl rfl (by omega)) (by decide) (mv 1 rfl (wl_nil (eo_round (⟨v18,i+1⟩:World×Nat) ⟨hw2,(by omega),(b_g1.ext e19),(z_g1.ext e19),(b_g6.ext e19),(z_g6.ext e19)⟩ (show na-(i+1)<na-i by omega) rfl ⟨rfl,rfl,rfl,rfl,rfl,rfl,rfl,rfl,rfl,rfl,rfl,rfl,rfl,rfl,rfl,rfl,rfl,rfl,rfl,rfl,rfl,rfl,rfl,rfl,rfl,rfl,rfl,rfl,rfl,rfl,trivial⟩)))))))))))
 · 
  refine cw_region (mv 1 rfl (pf g1 1 rfl (by kernel_rfl) (wl_load rfl rfl (load_cell cellWords b_g1 rfl) (by decide) (pu (v:= .int .i64 ((na:Nat):Int)) rfl (by kernel_rfl) (wl_cmp rfl rfl rfl false (cb_lt_f (a:=i) (b:=na) rfl rfl (by omega)) (by decide) (ne_ (cw_false rfl (cw_exit (eo_thenX (eo_loopX (eo_block_here (eo_then (cw_seq ?_)))))))))))))
  refine cw_region (mv 1 rfl (ne_ (cw_ret (eo_ret [.bool true] rfl ⟨rfl,trivial⟩ ?_))))
  exact⟨_,rfl,rfl,hw1⟩
set_option maxHeartbeats 4000000 in
set_option maxRecDepth 20000 in
theorem g_top_sound_t {w:World}{R C:Int}{na capa:Nat}{Aa:Option Addr}(hs:Snd R C na):
    Calls Try.prog 7 #[.agg #[.int .i64 R,.int .i64 C,.slice Aa na capa]] w (Gv w (Is (.bool true))):=by
 refine sx_enter Try.func7 rfl (n:=32) rfl (bq rfl) (args:= [.agg #[.int .i64 R,.int .i64 C,.slice Aa na capa]]) (cw_keep [(0,.agg #[.int .i64 R,.int .i64 C,.slice Aa na capa])] ⟨rfl,trivial⟩ (sr (bx [.int .i64 R,.int .i64 C,.slice Aa na capa] (Ext.refl w) rfl rfl rfl fun g1 v2 hb4 ge5 e3 hw1=>(mv 1 rfl (ne_ (cw_seq ?_))))))
 have h1:=hs.1
 have h3:=hs.2.1
 refine cw_region (pf g1 0 rfl (by kernel_rfl) (wl_load rfl rfl (load_cell cellInt hb4 rfl) (by decide) (wl_cmp rfl rfl rfl true (ci_ge_t hs.1.1) (by decide) (mv 1 rfl (pf g1 0 rfl (by kernel_rfl) (wl_load rfl rfl (load_cell cellInt hb4 rfl) (by decide) (wl_cmp rfl rfl rfl true (ci_le_t hs.1.2) (by decide) (pu (v:= .bool true) rfl (by kernel_rfl) (mv 1 rfl (pf g1 1 rfl (by kernel_rfl) (wl_load rfl rfl (load_cell cellInt hb4 rfl) (by decide) (wl_cmp rfl rfl rfl true (ci_ge_t hs.2.1.1) (by decide) (pu (v:= .bool true) rfl (by kernel_rfl) ?_)))))))))))))
 refine mv 1 rfl (pf g1 1 rfl (by kernel_rfl) (wl_load rfl rfl (load_cell cellInt hb4 rfl) (by decide) (wl_cmp rfl rfl rfl true (ci_le_t hs.2.1.2) (by decide) (pu (v:= .bool true) rfl (by kernel_rfl) (mv 1 rfl (pf g1 2 rfl (by kernel_rfl) (wl_load rfl rfl (load_cell cellInts hb4 rfl) (by decide) (pu (v:= .int .i64 ((na:Nat):Int)) rfl (by kernel_rfl) (pf g1 0 rfl (by kernel_rfl) (wl_load rfl rfl (load_cell cellInt hb4 rfl) (by decide) (pf g1 1 rfl (by kernel_rfl) (wl_load rfl rfl (load_cell cellInt hb4 rfl) (by decide) (wl_ar rfl rfl rfl (R*C) (ai_mulI hs.1 hs.2.1) (by decide) ?_)))))))))))))
 refine wl_cmp rfl rfl rfl true (ci_eq_t hs.2.2) (by decide) (pu (v:= .bool true) rfl (by kernel_rfl) (mv 1 rfl (ne_ (cw_ret (eo_ret [.bool true] rfl ⟨rfl,trivial⟩ ?_)))))
 exact⟨_,rfl,rfl,hw1⟩
set_option maxHeartbeats 4000000 in
set_option maxRecDepth 20000 in
theorem g_top_sound_f {w:World}{R C:Int}{na capa:Nat}{Aa:Option Addr}(hs:¬Snd R C na):
    Calls Try.prog 7 #[.agg #[.int .i64 R,.int .i64 C,.slice Aa na capa]] w (Gv w (Is (.bool false))):=by
 refine sx_enter Try.func7 rfl (n:=32) rfl (bq rfl) (args:= [.agg #[.int .i64 R,.int .i64 C,.slice Aa na capa]]) (cw_keep [(0,.agg #[.int .i64 R,.int .i64 C,.slice Aa na capa])] ⟨rfl,trivial⟩ (sr (bx [.int .i64 R,.int .i64 C,.slice Aa na capa] (Ext.refl w) rfl rfl rfl fun g1 v2 hb4 ge5 e3 hw1=>(mv 1 rfl (ne_ (cw_seq ?_))))))
 by_cases h0:R≥0
 · 
  by_cases h1:R≤64
  · 
   by_cases h2:C≥0
   · 
    by_cases h3:C≤64
    · 
     have hne:((na:Nat):Int)≠R*C:=fun e=>hs ⟨⟨h0,h1⟩,⟨h2,h3⟩,e⟩
     refine cw_region (pf g1 0 rfl (by kernel_rfl) (wl_load rfl rfl (load_cell cellInt hb4 rfl) (by decide) (wl_cmp rfl rfl rfl true (ci_ge_t h0) (by decide) (mv 1 rfl (pf g1 0 rfl (by kernel_rfl) (wl_load rfl rfl (load_cell cellInt hb4 rfl) (by decide) (wl_cmp rfl rfl rfl true (ci_le_t h1) (by decide) (pu (v:= .bool true) rfl (by kernel_rfl) (mv 1 rfl (pf g1 1 rfl (by kernel_rfl) (wl_load rfl rfl (load_cell cellInt hb4 rfl) (by decide) (wl_cmp rfl rfl rfl true (ci_ge_t h2) (by decide) (pu (v:= .bool true) rfl (by kernel_rfl) ?_)))))))))))))
     refine mv 1 rfl (pf g1 1 rfl (by kernel_rfl) (wl_load rfl rfl (load_cell cellInt hb4 rfl) (by decide) (wl_cmp rfl rfl rfl true (ci_le_t h3) (by decide) (pu (v:= .bool true) rfl (by kernel_rfl) (mv 1 rfl (pf g1 2 rfl (by kernel_rfl) (wl_load rfl rfl (load_cell cellInts hb4 rfl) (by decide) (pu (v:= .int .i64 ((na:Nat):Int)) rfl (by kernel_rfl) (pf g1 0 rfl (by kernel_rfl) (wl_load rfl rfl (load_cell cellInt hb4 rfl) (by decide) (pf g1 1 rfl (by kernel_rfl) (wl_load rfl rfl (load_cell cellInt hb4 rfl) (by decide) (wl_ar rfl rfl rfl (R*C) (ai_mulI ⟨h0,h1⟩ ⟨h2,h3⟩) (by decide) ?_)))))))))))))
     refine wl_cmp rfl rfl rfl false (ci_eq_f hne) (by decide) (pu (v:= .bool false) rfl (by kernel_rfl) (mv 1 rfl (ne_ (cw_ret (eo_ret [F0] rfl ⟨rfl,trivial⟩ ?_)))))
     exact⟨_,rfl,rfl,hw1⟩
    · 
     refine cw_region (pf g1 0 rfl (by kernel_rfl) (wl_load rfl rfl (load_cell cellInt hb4 rfl) (by decide) (wl_cmp rfl rfl rfl true (ci_ge_t h0) (by decide) (mv 1 rfl (pf g1 0 rfl (by kernel_rfl) (wl_load rfl rfl (load_cell cellInt hb4 rfl) (by decide) (wl_cmp rfl rfl rfl true (ci_le_t h1) (by decide) (pu (v:= .bool true) rfl (by kernel_rfl) (mv 1 rfl (pf g1 1 rfl (by kernel_rfl) (wl_load rfl rfl (load_cell cellInt hb4 rfl) (by decide) (wl_cmp rfl rfl rfl true (ci_ge_t h2) (by decide) (pu (v:= .bool true) rfl (by kernel_rfl) ?_)))))))))))))
     refine mv 1 rfl (pf g1 1 rfl (by kernel_rfl) (wl_load rfl rfl (load_cell cellInt hb4 rfl) (by decide) (wl_cmp rfl rfl rfl false (ci_le_f h3) (by decide) (pu (v:= .bool false) rfl (by kernel_rfl) (mv 10 rfl (pu (v:= .bool false) rfl (by kernel_rfl) (mv 1 rfl (ne_ (cw_ret (eo_ret [F0] rfl ⟨rfl,trivial⟩ ?_))))))))))
     exact⟨_,rfl,rfl,hw1⟩
   · 
    refine cw_region (pf g1 0 rfl (by kernel_rfl) (wl_load rfl rfl (load_cell cellInt hb4 rfl) (by decide) (wl_cmp rfl rfl rfl true (ci_ge_t h0) (by decide) (mv 1 rfl (pf g1 0 rfl (by kernel_rfl) (wl_load rfl rfl (load_cell cellInt hb4 rfl) (by decide) (wl_cmp rfl rfl rfl true (ci_le_t h1) (by decide) (pu (v:= .bool true) rfl (by kernel_rfl) (mv 1 rfl (pf g1 1 rfl (by kernel_rfl) (wl_load rfl rfl (load_cell cellInt hb4 rfl) (by decide) (wl_cmp rfl rfl rfl false (ci_ge_f h2) (by decide) (pu (v:= .bool false) rfl (by kernel_rfl) ?_)))))))))))))
    refine mv 4 rfl (pu (v:= .bool false) rfl (by kernel_rfl) (mv 10 rfl (pu (v:= .bool false) rfl (by kernel_rfl) (mv 1 rfl (ne_ (cw_ret (eo_ret [F0] rfl ⟨rfl,trivial⟩ ?_)))))))
    exact⟨_,rfl,rfl,hw1⟩
  · 
   refine cw_region (pf g1 0 rfl (by kernel_rfl) (wl_load rfl rfl (load_cell cellInt hb4 rfl) (by decide) (wl_cmp rfl rfl rfl true (ci_ge_t h0) (by decide) (mv 1 rfl (pf g1 0 rfl (by kernel_rfl) (wl_load rfl rfl (load_cell cellInt hb4 rfl) (by decide) (wl_cmp rfl rfl rfl false (ci_le_f h1) (by decide) (pu (v:= .bool false) rfl (by kernel_rfl) (mv 4 rfl (pu (v:= .bool false) rfl (by kernel_rfl) (mv 4 rfl (pu (v:= .bool false) rfl (by kernel_rfl) (mv 1 rfl ?_)))))))))))))
   refine mv 9 rfl (pu (v:= .bool false) rfl (by kernel_rfl) (mv 1 rfl (ne_ (cw_ret (eo_ret [F0] rfl ⟨rfl,trivial⟩ ?_)))))
   exact⟨_,rfl,rfl,hw1⟩
 · 
  refine cw_region (pf g1 0 rfl (by kernel_rfl) (wl_load rfl rfl (load_cell cellInt hb4 rfl) (by decide) (wl_cmp rfl rfl rfl false (ci_ge_f h0) (by decide) (mv 4 rfl (pu (v:= .bool false) rfl (by kernel_rfl) (mv 4 rfl (pu (v:= .bool false) rfl (by kernel_rfl) (mv 4 rfl (pu (v:= .bool false) rfl (by kernel_rfl) (mv 10 rfl (pu (v:= .bool false) rfl (by kernel_rfl) (mv 1 rfl (wl_nil ?_)))))))))))))
  refine eo_then (cw_ret (eo_ret [F0] rfl ⟨rfl,trivial⟩ ?_))
  exact⟨_,rfl,rfl,hw1⟩
theorem cellRows:∀w,(isAgg 70).run Try.prog w= .ok false w:=fun _=>by kernel_rfl
theorem cellNums:∀w,(isAgg 71).run Try.prog w= .ok false w:=fun _=>by kernel_rfl
theorem unRows:Try.prog.underlying 70=some (.slice 22):=Try.underlying70
structure Bl (lb:Nat) (w w':World):Prop where
 b:Below lb w w'
 l:lb≤w.heap.size
theorem Bl.size {lb:Nat}{w w':World}(h:Bl lb w w'):w.heap.size≤w'.heap.size:=h.b.size
theorem Bl.refl {lb:Nat}{w:World}(h:lb≤w.heap.size):Bl lb w w:=⟨Below.refl _ _,h⟩
theorem Bl.ext {lb:Nat}{a w w':World}(h:Bl lb a w) (e:Ext w w'):Bl lb a w':=⟨h.b.trans (e.below.mono (Nat.le_trans h.l h.b.size)),h.l⟩
theorem Bl.upd {lb g:Nat}{a w w':World}(h:Bl lb a w) (u:Upd g w w') (hg:lb≤g):Bl lb a w':=⟨h.b.grown u.by_ (Nat.le_trans h.l h.b.size) (fun k e=>by cases e;exact hg),h.l⟩
theorem Bl.updO {lb:Nat}{A:Option Addr}{a w w':World}(h:Bl lb a w) (u:UpdO A w w') (hg:∀p,A=some p→lb≤p.block):Bl lb a w':=
 ⟨h.b.grown u.by_ (Nat.le_trans h.l h.b.size) (fun k e=>by cases A with | none=>cases e | some p=>cases e;exact hg p rfl),h.l⟩
theorem Bl.toExt {lb:Nat}{a w w':World}(h:Bl lb w w') (e:Ext a w) (hl:a.heap.size≤lb):Ext a w':=⟨e.below.trans (h.b.mono hl)⟩
theorem Bk.bl {lb:Nat}{w w':World}{g:Nat}{t:TypeId}{vs:List Value}(h:Bk w g t vs) (e:Bl lb w w') (hg:g<lb):Bk w' g t vs:=(e.b.block g hg).trans h
section
variable {P:Program}{w w':World}{lb:Nat}{t:TypeId}{A:Option Addr}{n cap:Nat}{vs:List Value}
theorem Own.cellAt (h:Own w lb t 1 A n cap vs){i:Nat}(hi:i<n):∃p,A.map (·.add (i*1))=some p∧w.cell? p=some (vs.getD i undef):=by
 obtain⟨a,ha,hc⟩:=h.rv.get i (by omega)
 exact⟨a.add i,by rw [ha,Nat.mul_one];rfl,hc⟩
theorem Own.tailAt (h:Own w lb t 1 A n cap vs){lo i:Nat}(hi:lo+i<n):∃p,(if cap=lo then A else A.map (·.add (lo*1))).map (·.add (i*1))=some p∧w.cell? p=some (vs.getD (lo+i) undef):=by
 obtain⟨a,ha,hc⟩:=h.rv.get (lo+i) (by omega)
 have:=h.rv.le
 rw [if_neg (by omega),ha]
 exact⟨a.add (lo+i),by simp [add_of_add],hc⟩
theorem run_setO (h:Own w lb t 1 A n cap vs){T:TypeId}(hT:∀w,(sizeOf T).run P w= .ok 1 w){i:Nat}(hi:i<n){p:Addr}(hp:A.map (·.add (i*1))=some p){v:Value}(hv:v.cells= #[v]) (h1:v.oneCell'=true):
  ∃w',(storeVar T p v).run P w= .ok () w'∧Own w' lb t 1 A n cap (vs.set i v)∧UpdO A w w':=by
 rcases h with⟨rfl,_⟩ | ⟨g,cs,rfl,hg,hk,hn,hcm,hcl,hv2⟩
 ·cases hp
 ·have hp':p=⟨g,i,none⟩:=by
   injection hp with hp
   rw [←hp,Nat.mul_one]
   show (⟨g,0,none⟩:Addr).add i=_
   rw [add_lit0,Nat.zero_add]
  subst hp'
  obtain⟨w',hr,hb2,hu,hs⟩:=run_store1v (P:=P) hT hv hk (show i<cs.length by omega) h1 _ rfl
  refine⟨w',hr,Or.inr ⟨g,_,rfl,hg,hb2,hn,hcm,by rw [List.length_set];exact hcl,?_⟩,hu.updO⟩
  rw [←hv2,List.take_set]
end
def rwv (ra:Nat→Option Addr) (rc:Nat→Nat) (m r:Nat):Value:= .slice (ra r) m (rc r)
theorem getD_map_lt {α:Type}{ps:List α}{f:α→Value}{i:Nat}{d:α}(hi:i<ps.length):(ps.map f).getD i undef=f (ps.getD i d):=by
 simp [List.getD_eq_getElem?_getD,List.getElem?_map,List.getElem?_eq_getElem hi]
section
variable {w:World}{lb:Nat}{t:TypeId}{A:Option Addr}{n cap m:Nat}{ra:Nat→Option Addr}{rc:Nat→Nat}{ps:List Nat}{ns:List Int}
theorem Own.rowAt (h:Own w lb t 1 A n cap (ps.map (rwv ra rc m))){i:Nat}(hi:i<n):∃p,A.map (·.add (i*1))=some p∧w.cell? p=some (.slice (ra (ps.getD i 0)) m (rc (ps.getD i 0))):=by
 obtain⟨p,hp,hc⟩:=h.cellAt hi
 have hl:ps.length=n:=by simpa using h.rv.len
 rw [getD_map_lt (d:=0) (by omega)] at hc
 exact⟨p,hp,hc⟩
theorem Own.rowTail (h:Own w lb t 1 A n cap (ps.map (rwv ra rc m))){lo i:Nat}(hi:lo+i<n):∃p,(if cap=lo then A else A.map (·.add (lo*1))).map (·.add (i*1))=some p∧w.cell? p=some (.slice (ra (ps.getD (lo+i) 0)) m (rc (ps.getD (lo+i) 0))):=by
 obtain⟨p,hp,hc⟩:=h.tailAt hi
 have hl:ps.length=n:=by simpa using h.rv.len
 rw [getD_map_lt (d:=0) (by omega)] at hc
 exact⟨p,hp,hc⟩
theorem Own.numAt (h:Own w lb t 1 A n cap (ns.map I64)){i:Nat}(hi:i<n):∃p,A.map (·.add (i*1))=some p∧w.cell? p=some (.int .i64 (ns.getD i 0)):=by
 obtain⟨p,hp,hc⟩:=h.cellAt hi
 have hl:ns.length=n:=by simpa using h.rv.len
 rw [getD_map_lt (d:=0) (by omega)] at hc
 exact⟨p,hp,hc⟩
end
section
variable {P:Program}{w:World}{lb:Nat}{A:Option Addr}{n cap m:Nat}{ra:Nat→Option Addr}{rc:Nat→Nat}{ps:List Nat}{ns:List Int}{p:Addr}
theorem run_setRow (h:Own w lb 22 1 A n cap (ps.map (rwv ra rc m))){i:Nat}(hi:i<n) (hp:A.map (·.add (i*1))=some p) (x:Nat):
  ∃w',(storeVar 22 p (.slice (ra x) m (rc x))).run Try.prog w= .ok () w'∧Own w' lb 22 1 A n cap ((ps.set i x).map (rwv ra rc m))∧UpdO A w w':=by
 obtain⟨w',h1,h2,h3⟩:=run_setO (P:=Try.prog) h szInts hi hp (v:=rwv ra rc m x) rfl rfl
 rw [←List.map_set] at h2
 exact⟨w',h1,h2,h3⟩
theorem run_setNum (h:Own w lb 3 1 A n cap (ns.map I64)){i:Nat}(hi:i<n) (hp:A.map (·.add (i*1))=some p) (x:Int):
  ∃w',(storeVar 3 p (.int .i64 x)).run Try.prog w= .ok () w'∧Own w' lb 3 1 A n cap ((ns.set i x).map I64)∧UpdO A w w':=by
 obtain⟨w',h1,h2,h3⟩:=run_setO (P:=Try.prog) h szInt hi hp (v:=I64 x) rfl rfl
 rw [←List.map_set] at h2
 exact⟨w',h1,h2,h3⟩
end
def ent (Z:Mx) (r j:Nat) (x:Int):Mx:=fun a b=>if a=r∧b=j then x else Z a b
structure Rcs (K lb n m:Nat) (ra:Nat→Option Addr) (rc:Nat→Nat) (w:World) (Z:Mx):Prop where
 row:∀r,r<n→∃zs,Lz none K 0 w lb (ra r) m (rc r) zs∧∀j,j<m→zs.getD j 0=Z r j
 dis:∀r s,r<n→s<n→r≠s→∀p q,ra r=some p→ra s=some q→p.block≠q.block
section
variable {K lb n m:Nat}{ra:Nat→Option Addr}{rc:Nat→Nat}{w w':World}{Z:Mx}
theorem Rcs.ext (h:Rcs K lb n m ra rc w Z) (x:Ext w w'):Rcs K lb n m ra rc w' Z:=⟨fun r hr=>by obtain⟨zs,h1,h2⟩:=h.row r hr;exact⟨zs,h1.ext x,h2⟩,h.dis⟩
theorem Rcs.updT {g:Nat}{T:TypeId}{us:List Value}(h:Rcs K lb n m ra rc w Z) (hb:Bk w g T us) (x:Upd g w w') (hne:∀r,r<n→∀p,ra r=some p→p.block≠g) (hT:47≠T:=by decide):Rcs K lb n m ra rc w' Z:=
 ⟨fun r hr=>by obtain⟨zs,h1,h2⟩:=h.row r hr;exact⟨zs,h1.updT hb x (hne r hr) hT,h2⟩,h.dis⟩
theorem Lz.updQ {m:Option World}{K b lb:Nat}{w w':World}{A:Option Addr}{n cap:Nat}{zs:List Int}{B:Option Addr}{lb' c k s:Nat}{T:TypeId}{us:List Value}(h:Lz m K b w lb A n cap zs) (ho:Own w lb' T s B k c us) (x:UpdO B w w') (hne:∀p q,B=some p→A=some q→p.block≠q.block) (hT:47≠T:=by decide):Lz m K b w' lb A n cap zs:=by
 obtain⟨es,h1,h2,h3,h4⟩:=h
 exact⟨es,h1.updO x hne,h2,h3,fun i hi=>⟨(h4 i hi).1,(h4 i hi).2.updOT ho x hT⟩⟩
theorem Rcs.updQ {B:Option Addr}{lb' c k s:Nat}{T:TypeId}{us:List Value}(h:Rcs K lb n m ra rc w Z) (ho:Own w lb' T s B k c us) (x:UpdO B w w') (hne:∀r,r<n→∀p q,B=some p→ra r=some q→p.block≠q.block) (hT:47≠T:=by decide):Rcs K lb n m ra rc w' Z:=
 ⟨fun r hr=>by obtain⟨zs,h1,h2⟩:=h.row r hr;exact⟨zs,h1.updQ ho x (hne r hr) hT,h2⟩,h.dis⟩
theorem Rcs.lt (h:Rcs K lb n m ra rc w Z):∀r,r<n→∀p,ra r=some p→lb≤p.block∧p.block<w.heap.size:=fun r hr p hp=>by
 obtain⟨zs,h1,_⟩:=h.row r hr
 exact h1.block p hp
theorem Rcs.own (h:Rcs K lb n m ra rc w Z){r:Nat}(hr:r<n):∃us,Own w lb 34 2 (ra r) m (rc r) us:=by
 obtain⟨zs,h1,_⟩:=h.row r hr
 exact h1.own
theorem Rcs.at (h:Rcs K lb n m ra rc w Z){r j:Nat}(hr:r<n) (hj:j<m):
  ∃p s B k c,(ra r).map (·.add (j*2))=some p∧(∀w',Ext w w'→∀(P:Program) (T:TypeId),AggT P T 2→(loadVar T p).run P w'= .ok (.agg #[.bool s,.slice B k c]) w')∧k≤K∧Zr w 0 s B k c (Z r j):=by
 obtain⟨zs,h1,h2⟩:=h.row r hr
 obtain⟨p,s,B,k,c,hp,ld,hk,he⟩:=h1.at hj
 exact⟨p,s,B,k,c,hp,ld,hk,by rw [←h2 j hj];exact he.zr⟩
end
section
variable {Q:Exit→Act→World→Prop}{N:Nat}{l:Fr}{w:World}{ops:Array Oper}{rest:List Oper}{ty:TypeId}{pos:String}{af:Array Edge}{gd:Option (Nat×Bool)}
theorem wl_setR {K lb n m:Nat}{ra:Nat→Option Addr}{rc:Nat→Nat}{Z:Mx}{r j:Nat}{x y:Operand}{p:Addr}{e:ZC}{z:Int}(hw:guardB ops l gd=some true) (hx:evo l x=some (.pointer (some p))) (hy:evo l y=some (.agg #[.bool e.s,.slice e.A e.n e.c]))
  (h:Rcs K lb n m ra rc w Z) (hr:r<n) (hj:j<m) (hp:(ra r).map (·.add (j*2))=some p) (he:Zr w 0 e.s e.A e.n e.c z) (hK:e.n≤K)
  (k:∀w',Rcs K lb n m ra rc w' (ent Z r j z)→UpdO (ra r) w w'→wl Try.prog ops Q N rest l w'):
  wl Try.prog ops Q N (⟨none,.store 34 x y,ty,pos,af,gd⟩::rest) l w:=by
 obtain⟨zs,h1,h2⟩:=h.row r hr
 obtain⟨us,ho⟩:=h1.own
 refine wl_setI (e:=e) (z:=z) hw hx hy hp hj h1 (Or.inl he) hK fun w' h3 hu=>k w' ⟨fun s hs=>?_,h.dis⟩ hu
 by_cases e1:s=r
 ·subst e1
  refine⟨_,h3,fun b hb=>?_⟩
  rw [getD_set (by rw [h1.len];exact hj)]
  unfold ent
  by_cases e2:b=j
  ·rw [if_pos e2,if_pos ⟨rfl,e2⟩]
  ·rw [if_neg e2,if_neg (fun q=>e2 q.2)];exact h2 b hb
 ·obtain⟨ys,h4,h5⟩:=h.row s hs
  refine⟨ys,h4.updO ho hu (h.dis r s hr hs (fun q=>e1 q.symm)),fun b hb=>?_⟩
  unfold ent
  rw [if_neg (fun q=>e1 q.1)];exact h5 b hb
end
structure Apt (lb n g:Nat) (RA NA:Option Addr) (ra:Nat→Option Addr):Prop where
 lg:lb≤g
 Rg:∀p,RA=some p→p.block≠g
 Ng:∀p,NA=some p→p.block≠g
 rg:∀r,r<n→∀p,ra r=some p→p.block≠g
 RN:∀p q,RA=some p→NA=some q→p.block≠q.block
 Rr:∀r,r<n→∀p q,RA=some p→ra r=some q→p.block≠q.block
 Nr:∀r,r<n→∀p q,NA=some p→ra r=some q→p.block≠q.block
def Fld (lb n g:Nat) (RA NA:Option Addr) (rcap ncap:Nat) (ra:Nat→Option Addr) (rc:Nat→Nat) (ps:List Nat) (Z:Mx) (tu:Bool) (z:Int) (t:Nat) (w:World):Prop:=
 ∃sl Al nl cl,∃ns:List Int,Bk w g 73 [.slice RA n rcap,.slice NA n ncap,.bool tu,.bool sl,.slice Al nl cl,.int .i64 (t:Int)]∧Zr w 0 sl Al nl cl z∧
  Own w lb 22 1 RA n rcap (ps.map (rwv ra rc n))∧Own w lb 3 1 NA n ncap (ns.map I64)∧Rcs 17179869184 lb n n ra rc w Z
theorem ln_pm (i:Nat) (x:Int):ln (pm i*x)=ln x:=by
 induction i with
 | zero=>rw [pm,Int.one_mul]
 | succ i ih=>rw [pm,Int.neg_mul,ln_neg,ih]
theorem ln_dt {K:Nat}:∀(n:Nat) (A:Mx),(∀i j,i<n→j<n→ln (A i j)≤K)→ln (dt n A)≤1+n*(K+n)
 | 0,_,_=>Nat.le_trans (ln_w1 (x:=1) (by decide) (by decide)) (by omega)
 | n+1,A,h=>by
  have h1:ln (dt (n+1) A)≤K+(1+n*(K+n))+(n+1):=ln_sm fun i hi=>by
   rw [ln_pm]
   exact ln_mul (h i 0 hi (by omega)) (ln_dt n _ fun a b ha hb=>h _ _ (sk_lt ha) (by omega))
  have e:(n+1)*(K+(n+1))=n*(K+n)+n+(K+(n+1)):=by rw [Nat.succ_mul,←Nat.add_assoc K n 1,Nat.mul_add n (K+n) 1];omega
  omega
theorem ln_bm {n k i j:Nat}{A:Mx}(hn:n≤64) (h:∀i j,i<n→j<n→ln (A i j)≤1048576) (hk:k<n) (hi:i<n) (hj:j<n):ln (bm A k i j)≤134217728:=by
 have h1:=ln_dt (K:=1048576) (k+1) (bord A k i j) fun a b ha hb=>by
  unfold bord
  refine h _ _ ?_ ?_ <;> split <;> omega
 have h2:=Nat.mul_le_mul (show k+1≤64 by omega) (show 1048576+(k+1)≤1048640 by omega)
 show ln (dt (k+1) (bord A k i j))≤_
 omega
def pr (X:Mx) (ps:List Nat):Mx:=fun i j=>X (ps.getD i 0) j
structure Per (n:Nat) (ps:List Nat):Prop where
 len:ps.length=n
 lt:∀i,i<n→ps.getD i 0<n
 inj:∀i j,i<n→j<n→ps.getD i 0=ps.getD j 0→i=j
structure Inv (n:Nat) (X:Mx) (k:Nat) (ps:List Nat) (Z:Mx) (tu:Bool) (z:Int):Prop where
 per:Per n ps
 ent:∀i j,k≤i→i<n→k≤j→j<n→Z (ps.getD i 0) j=bm (pr X ps) k i j
 last:z=dt k (pr X ps)
 ne:z≠0
 sgn:dt n (pr X ps)=(if tu then-1 else 1)*dt n X
def swp (ps:List Nat) (p k:Nat):List Nat:=(ps.set p (ps.getD k 0)).set k (ps.getD p 0)
theorem swp_get {ps:List Nat}{n p k i:Nat}(hl:ps.length=n) (hp:p<n) (hk:k<n):(swp ps p k).getD i 0=if i=k then ps.getD p 0 else if i=p then ps.getD k 0 else ps.getD i 0:=by
 unfold swp
 rw [getD_set (by rw [List.length_set];omega)]
 by_cases h:i=k
 ·rw [if_pos h,if_pos h]
 ·rw [if_neg h,if_neg h,getD_set (by omega)]
theorem Per.swp {n:Nat}{ps:List Nat}(h:Per n ps){p k:Nat}(hp:p<n) (hk:k<n):Per n (swp ps p k):=by
 refine⟨by unfold Go.Proofs.Ytnpbbknemflpnaa.swp;rw [List.length_set,List.length_set];exact h.len,fun i hi=>?_,fun i j hi hj e=>?_⟩
 ·rw [swp_get h.len hp hk]
  split
  ·exact h.lt p hp
  ·split
   ·exact h.lt k hk
   ·exact h.lt i hi
 ·rw [swp_get h.len hp hk,swp_get h.len hp hk] at e
  by_cases h1:i=k
  ·rw [if_pos h1] at e
   by_cases h2:j=k
   ·omega
   ·rw [if_neg h2] at e
    by_cases h3:j=p
    ·rw [if_pos h3] at e;have:=h.inj _ _ hp hk e;omega
    ·rw [if_neg h3] at e;have:=h.inj _ _ hp hj e;omega
  ·rw [if_neg h1] at e
   by_cases h2:j=k
   ·rw [if_pos h2] at e
    by_cases h3:i=p
    ·rw [if_pos h3] at e;have:=h.inj _ _ hk hp e;omega
    ·rw [if_neg h3] at e;have:=h.inj _ _ hi hp e;omega
   ·rw [if_neg h2] at e
    by_cases h3:i=p
    ·rw [if_pos h3] at e
     by_cases h4:j=p
     ·omega
     ·rw [if_neg h4] at e;have:=h.inj _ _ hk hj e;omega
    ·rw [if_neg h3] at e
     by_cases h4:j=p
     ·rw [if_pos h4] at e;have:=h.inj _ _ hi hk e;omega
     ·rw [if_neg h4] at e;exact h.inj _ _ hi hj e
theorem Inv.swp {n k p:Nat}{X Z:Mx}{ps:List Nat}{tu:Bool}{z:Int}(h:Inv n X k ps Z tu z) (hk:k<n) (hkp:k≤p) (hp:p<n) (hne:p≠k):Inv n X k (swp ps p k) Z (!tu) z:=by
 have hg:=fun i=>swp_get (i:=i) h.per.len hp hk
 have e1:∀i j c,bm (pr X (Go.Proofs.Ytnpbbknemflpnaa.swp ps p k)) k i j=bm (pr X ps) k (if i=k then p else if i=p then k else i) j∨c=c+1:=fun i j c=>Or.inl (dt_congr fun a b ha hb=>by
  show X ((Go.Proofs.Ytnpbbknemflpnaa.swp ps p k).getD (if a<k then a else i) 0) _=X (ps.getD (if a<k then a else if i=k then p else if i=p then k else i) 0) _
  rw [hg]
  congr 1
  by_cases h1:a<k
  ·rw [if_pos h1,if_neg (by omega),if_neg (by omega),if_pos h1]
  ·rw [if_neg h1,if_neg h1]
   by_cases h2:i=k
   ·rw [if_pos h2,if_pos h2]
   ·rw [if_neg h2,if_neg h2]
    by_cases h3:i=p
    ·rw [if_pos h3,if_pos h3]
    ·rw [if_neg h3,if_neg h3])
 have e2:∀i j,bm (pr X (Go.Proofs.Ytnpbbknemflpnaa.swp ps p k)) k i j=bm (pr X ps) k (if i=k then p else if i=p then k else i) j:=fun i j=>(e1 i j 0).resolve_right (by omega)
 refine⟨h.per.swp hp hk,fun i j h1 h2 h3 h4=>?_,?_,h.ne,?_⟩
 ·rw [e2,hg]
  by_cases h5:i=k
  ·rw [if_pos h5,if_pos h5];exact h.ent p j hkp hp h3 h4
  ·rw [if_neg h5,if_neg h5]
   by_cases h6:i=p
   ·rw [if_pos h6,if_pos h6];exact h.ent k j (Nat.le_refl _) hk h3 h4
   ·rw [if_neg h6,if_neg h6];exact h.ent i j h1 h2 h3 h4
 ·rw [h.last]
  refine dt_congr fun a b ha hb=>?_
  show X (ps.getD a 0) b=X ((Go.Proofs.Ytnpbbknemflpnaa.swp ps p k).getD a 0) b
  rw [hg,if_neg (by omega),if_neg (by omega)]
 ·have h1:=(dt_alt n).swap (pr X ps) hp hk hne
  have e3:dt n (pr X (Go.Proofs.Ytnpbbknemflpnaa.swp ps p k))=dt n (srw (srw (pr X ps) p (pr X ps k)) k (pr X ps p)):=dt_congr fun a b ha hb=>by
   show X ((Go.Proofs.Ytnpbbknemflpnaa.swp ps p k).getD a 0) b=_
   rw [hg]
   unfold srw
   by_cases h2:a=k
   ·rw [if_pos h2,if_pos h2];rfl
   ·rw [if_neg h2,if_neg h2]
    by_cases h3:a=p
    ·rw [if_pos h3,if_pos h3];rfl
    ·rw [if_neg h3,if_neg h3];rfl
  rw [e3,h1,h.sgn]
  cases tu <;> simp
def Mid (n k:Nat) (P:Mx) (ps:List Nat) (Z:Mx) (i j:Nat):Prop:=∀a b,k≤a→a<n→k≤b→b<n→(b=k→i≤a∨a=k)→
 Z (ps.getD a 0) b=if k<a∧k<b∧(a<i∨a=i∧b<j) then bm P (k+1) a b else bm P k a b
theorem Mid.start {n k:Nat}{X Z:Mx}{ps:List Nat}{tu:Bool}{z:Int}(h:Inv n X k ps Z tu z):Mid n k (pr X ps) ps Z (k+1) (k+1):=fun a b h1 h2 h3 h4 _=>by
 rw [h.ent a b h1 h2 h3 h4,if_neg (by omega)]
theorem Mid.next {n k i j:Nat}{P Z:Mx}{ps:List Nat}(h:Mid n k P ps Z i j) (hp:Per n ps) (hi:k<i) (hin:i<n) (hj:k<j) (hjn:j<n){v:Int}(hv:v=bm P (k+1) i j):Mid n k P ps (ent Z (ps.getD i 0) j v) i (j+1):=fun a b h1 h2 h3 h4 h5=>by
 unfold ent
 by_cases e:a=i∧b=j
 ·obtain⟨rfl,rfl⟩:=e
  rw [if_pos ⟨rfl,rfl⟩,if_pos (by omega)];exact hv
 ·rw [if_neg (fun q=>e ⟨hp.inj a i h2 hin q.1,q.2⟩),h a b h1 h2 h3 h4 h5]
  by_cases c:k<a∧k<b∧(a<i∨a=i∧b<j)
  ·rw [if_pos c,if_pos (by omega)]
  ·rw [if_neg c,if_neg (by omega)]
theorem Mid.row {n k i:Nat}{P Z:Mx}{ps:List Nat}(h:Mid n k P ps Z i n) (hp:Per n ps) (hi:k<i) (hin:i<n) (v:Int):Mid n k P ps (ent Z (ps.getD i 0) k v) (i+1) (k+1):=fun a b h1 h2 h3 h4 h5=>by
 unfold ent
 by_cases e:a=i∧b=k
 ·obtain⟨rfl,rfl⟩:=e
  rcases h5 rfl with h6 | h6 <;> omega
 ·rw [if_neg (fun q=>e ⟨hp.inj a i h2 hin q.1,q.2⟩),h a b h1 h2 h3 h4 (fun q=>by rcases h5 q with h6 | h6 <;> omega)]
  by_cases c:k<a∧k<b∧(a<i∨a=i∧b<n)
  ·rw [if_pos c,if_pos (by omega)]
  ·rw [if_neg c,if_neg (by omega)]
theorem Mid.old {n k i j a b:Nat}{P Z:Mx}{ps:List Nat}(h:Mid n k P ps Z i j) (h1:k≤a) (h2:a<n) (h3:k≤b) (h4:b<n) (hc:a=k∨i<a∨a=i∧(b=k∨j≤b)):Z (ps.getD a 0) b=bm P k a b:=by
 rw [h a b h1 h2 h3 h4 (fun _=>by omega),if_neg (by omega)]
theorem Mid.quot {n k i j:Nat}{X Z:Mx}{ps:List Nat}{z:Int}(h:Mid n k (pr X ps) ps Z i j) (hz:z=dt k (pr X ps)) (hz0:z≠0) (hD:Z (ps.getD k 0) k≠0) (hi:k<i) (hin:i<n) (hj:k<j) (hjn:j<n){hd:Int}(hh:hd=bm (pr X ps) k i k):
  Z (ps.getD k 0) k*Z (ps.getD i 0) j-hd*Z (ps.getD k 0) j=z*bm (pr X ps) (k+1) i j∧(Z (ps.getD k 0) k*Z (ps.getD i 0) j-hd*Z (ps.getD k 0) j).tdiv z=bm (pr X ps) (k+1) i j:=by
 have e1:=h.old (a:=k) (b:=k) (Nat.le_refl _) (by omega) (Nat.le_refl _) (by omega) (Or.inl rfl)
 have e2:=h.old (a:=k) (b:=j) (Nat.le_refl _) (by omega) (by omega) hjn (Or.inl rfl)
 have e3:=h.old (a:=i) (b:=j) (by omega) hin (by omega) hjn (Or.inr (Or.inr ⟨rfl,Or.inr (Nat.le_refl _)⟩))
 rw [e1] at hD
 have e4:=bm_step (pr X ps) i j hD
 rw [e1,e2,e3,hh,e4,←hz]
 exact⟨rfl,Int.mul_tdiv_cancel_left _ hz0⟩
theorem Inv.next {n k:Nat}{X Z0 Z:Mx}{ps:List Nat}{tu:Bool}{z:Int}(h:Inv n X k ps Z0 tu z) (hk:k<n) (hM:Mid n k (pr X ps) ps Z n (k+1)) (hD:Z (ps.getD k 0) k≠0):Inv n X (k+1) ps Z tu (Z (ps.getD k 0) k):=by
 have e1:=hM.old (a:=k) (b:=k) (Nat.le_refl _) (by omega) (Nat.le_refl _) (by omega) (Or.inl rfl)
 refine⟨h.per,fun i j h1 h2 h3 h4=>?_,by rw [e1,bm_self],hD,h.sgn⟩
 rw [hM i j (by omega) h2 (by omega) h4 (fun e=>by omega),if_pos (by omega)]
theorem Inv.none {n k:Nat}{X Z:Mx}{ps:List Nat}{tu:Bool}{z:Int}(h:Inv n X k ps Z tu z) (hk:k<n) (h0:∀i,k≤i→i<n→Z (ps.getD i 0) k=0):dt n X=0:=by
 have h1:=bm_none (pr X ps) hk (by rw [←h.last];exact h.ne) (fun i h1 h2=>by rw [←h.ent i k h1 h2 (Nat.le_refl _) hk];exact h0 i h1 h2)
 rw [h.sgn] at h1
 cases tu
 ·simpa using h1
 ·have:(-1:Int)*dt n X=0:=by simpa using h1
  omega
theorem Inv.full {n:Nat}{X Z:Mx}{ps:List Nat}{tu:Bool}{z:Int}(h:Inv n X n ps Z tu z):dt n X=if tu then-z else z:=by
 have h1:=h.sgn
 rw [←h.last] at h1
 cases tu
 ·have:z=1*dt n X:=by simpa using h1
  rw [if_neg (by decide)];omega
 ·have:z=(-1:Int)*dt n X:=by simpa using h1
  rw [if_pos rfl];omega
theorem Inv.start {n:Nat}{X Z:Mx}(hZ:∀i j,i<n→j<n→Z i j=X i j):Inv n X 0 (List.range n) Z false 1:=by
 have hg:∀i,i<n→(List.range n).getD i 0=i:=fun i hi=>by simp [List.getD_eq_getElem?_getD,hi]
 refine⟨⟨List.length_range,fun i hi=>by rw [hg i hi];exact hi,fun i j hi hj e=>by rw [hg i hi,hg j hj] at e;exact e⟩,fun i j _ hi _ hj=>?_,rfl,by decide,?_⟩
 ·rw [hg i hi,hZ i j hi hj,bm_0]
  show _=X ((List.range n).getD i 0) j
  rw [hg i hi]
 ·rw [if_neg (by decide),Int.one_mul]
  exact dt_congr fun i j hi hj=>by show X ((List.range n).getD i 0) j=_;rw [hg i hi]
theorem pr_ln {n:Nat}{X:Mx}{ps:List Nat}(h:Per n ps){K:Nat}(hX:∀i j,i<n→j<n→ln (X i j)≤K):∀i j,i<n→j<n→ln (pr X ps i j)≤K:=fun i _ hi hj=>hX _ _ (h.lt i hi) hj
theorem ln_pwt {n K r k:Nat}{X:Mx}(hX:∀i j,i<n→j<n→ln (X i j)≤K) (hr:r≤k) (c:Nat):ln (pwt n X r c)≤1+k*(K+n):=by
 unfold pwt
 by_cases hc:c<n*n
 ·rw [if_pos hc]
  have hn:0<n:=Nat.pos_of_ne_zero fun e=>by subst e;omega
  exact Nat.le_trans (ln_mp hX r _ _ (Nat.div_lt_of_lt_mul hc) (Nat.mod_lt _ hn)) (Nat.add_le_add_left (Nat.mul_le_mul_right _ hr) 1)
 ·rw [if_neg hc]
  refine Nat.le_trans ?_ (Nat.le_add_right 1 _)
  split
  ·exact Nat.le_of_eq ln_one
  ·rw [ln_zero];exact Nat.zero_le _
def LvB (k:Nat):Nat:=1+(k+1)*(1+k*1048640+(k+1))
theorem LvB_le {k:Nat}(h:k≤64):LvB k≤8589934592:=(by decide:∀k,k<65→LvB k≤8589934592) k (by omega)
theorem LvB_div {n k:Nat}(h:k≤n) (hn:n≤64):134217728+(n+1-k)*(LvB k+1)≤68719476736:=
 Nat.le_trans (Nat.add_le_add_left (Nat.mul_le_mul_right _ (show n+1-k≤65-k by omega)) _) ((by decide:∀k,k<65→134217728+(65-k)*(LvB k+1)≤68719476736) k (by omega))
theorem Lv.ln {n:Nat}{X:Mx}{hs:List Nat}{j k:Nat}{v:Nat→Int}(hX:∀i j,i<n→j<n→ln (X i j)≤1048576) (hn:n≤64) (h:Lv n X hs j k v) (hj:j≤k){c:Nat}(hc:c<n*n+n+1):ln (v c)≤LvB k:=by
 obtain⟨t,h0,h1⟩:=h.pro
 have h2:Go.Proofs.Ytnpbbknemflpnaa.ln (v c)≤Go.Proofs.Ytnpbbknemflpnaa.ln (wh n X hs j k c):=ln_mono (by
  rw [h1 c hc,Int.natAbs_mul]
  exact Nat.le_mul_of_pos_left _ (Int.natAbs_pos.2 h0))
 refine Nat.le_trans h2 ?_
 have h3:=ln_dt (K:=1+k*1048640) (j+1) (bord (pwh n X hs) j k (65+c)) fun a b ha _=>by
  unfold bord
  have hr:(if a<j then a else k)≤k:=by split <;> omega
  generalize (if a<j then a else k)=r at hr
  generalize (if b<j then b else 65+c)=s
  unfold pwh
  have hK:1+k*(1048576+n)≤1+k*1048640:=Nat.add_le_add_left (Nat.mul_le_mul_left _ (by omega)) 1
  split
  ·exact Nat.le_trans (ln_pwt hX hr _) hK
  ·exact Nat.le_trans (ln_pwt hX hr _) hK
 refine Nat.le_trans h3 ?_
 unfold LvB
 exact Nat.add_le_add_left (Nat.mul_le_mul (by omega) (by omega)) 1
structure Lpo (n:Nat) (X:Mx) (k:Nat) (zs:List Int):Prop where
 le:k≤n
 one:zs.getD k 0=1
 rt:Rt n X (k+1) fun i=>zs.getD i 0
 len:zs.length=k+1
 ln:∀i,ln (zs.getD i 0)≤LvB k
 rest:∀(M:Nat) (c q r:Nat→Int),Rt n X (M+k) c→(∀i,r i=c i-sm M fun s=>q s*sh s (fun i=>zs.getD i 0) i)→(∀i,k≤i→i<M+k→r i=0)→∀i,i<k→r i=0
theorem getD_ge {zs:List Int}{i:Nat}(h:zs.length≤i):zs.getD i 0=0:=by
 rw [List.getD_eq_getElem?_getD,List.getElem?_eq_none h];rfl
theorem Seen.lpo {n:Nat}{X:Mx}{hs:List Nat}{k:Nat}{R:Nat→Nat→Int}{d v:Nat→Int}(hX:∀i j,i<n→j<n→Go.Proofs.Ytnpbbknemflpnaa.ln (X i j)≤1048576) (h:Seen n X hs k R) (hk:k≤n) (hn:n≤64) (hd:Chp n X d) (hv:Lv n X hs k k v) (h0:∀c,c<n*n→v c=0)
  {zs:List Int}(hl:zs.length=k+1) (hz:∀i,i≤k→zs.getD i 0*v (n*n+k)=v (n*n+i)):Lpo n X k zs:=by
 obtain⟨h1,h2⟩:=h.lead hk hn hd hv h0
 have h3:v (n*n+k)*v (n*n+k)=1:=by rcases h2 with e | e <;> rw [e] <;> rfl
 have h4:∀i,i≤k→zs.getD i 0=v (n*n+k)*v (n*n+i):=fun i hi=>by
  rw [←hz i hi,Int.mul_comm (zs.getD i 0),←Int.mul_assoc,h3,Int.one_mul]
 have hrt:Rt n X (k+1) fun i=>zs.getD i 0:=fun i j hi hj=>by
  have e:∀l,l<k+1→zs.getD l 0*mp n X l i j=v (n*n+k)*(v (n*n+l)*mp n X l i j):=fun l hl=>by rw [h4 l (by omega),Int.mul_assoc]
  simp only
  rw [sm_congr e,sm_mul,h1 i j hi hj,Int.mul_zero]
 refine⟨hk,by rw [h4 k (Nat.le_refl _),h3],hrt,hl,fun i=>?_,fun M c q r hc hr hr0=>h.rest (by omega) hc hrt (fun i hi=>getD_ge (by omega)) hr hr0⟩
 rcases Nat.lt_or_ge k i with hi | hi
 ·rw [getD_ge (by omega),ln_zero];exact Nat.zero_le _
 ·have:(zs.getD i 0).natAbs=(v (n*n+i)).natAbs:=by
   rw [h4 i hi,Int.natAbs_mul]
   rcases h2 with e | e <;> rw [e] <;> simp
  exact Nat.le_trans (ln_mono (Nat.le_of_eq this)) (hv.ln hX hn (Nat.le_refl _) (by omega))
def hon (n:Nat) (X:Mx) (p:Nat→Int) (s t:Nat):Mx:=fun i j=>sm (s-t) fun l=>p (t+l)*mp n X l i j
theorem hon_0 (n:Nat) (X:Mx) (p:Nat→Int) (s i j:Nat):hon n X p s s i j=0:=by unfold hon;rw [Nat.sub_self];rfl
theorem hon_s {n:Nat}(X:Mx) (p:Nat→Int){s t:Nat}(h:t<s){i j:Nat}:lf (mm n (hon n X p s (t+1)) X) (p t) n i j=if i<n then hon n X p s t i j else mm n (hon n X p s (t+1)) X i j:=by
 have e1:mm n (hon n X p s (t+1)) X i j=sm (s-(t+1)) fun l=>p (t+1+l)*mp n X (l+1) i j:=by
  have e2:∀k,k<n→hon n X p s (t+1) i k*X k j=sm (s-(t+1)) fun l=>p (t+1+l)*(mp n X l i k*X k j):=fun k _=>by
   unfold hon;rw [←sm_mulr];exact sm_congr fun l _=>Int.mul_assoc _ _ _
  rw [mm,sm_congr e2,sm_swap]
  exact sm_congr fun l _=>by rw [sm_mul];rfl
 have e3:hon n X p s t i j=p t*m1 i j+mm n (hon n X p s (t+1)) X i j:=by
  rw [e1];unfold hon
  rw [show s-t=s-(t+1)+1 by omega,sm_front]
  congr 1
  exact sm_congr fun l _=>by rw [show t+(l+1)=t+1+l by omega]
 unfold lf
 by_cases hi:i<n
 ·rw [if_pos hi,e3]
  by_cases hij:i=j
  ·rw [if_pos ⟨hij,hi⟩,m1,if_pos hij];omega
  ·rw [if_neg (fun h=>hij h.1),m1,if_neg hij];omega
 ·rw [if_neg hi,if_neg (fun h=>hi h.2)]
theorem ln_hon {n s t L:Nat}{X:Mx}{p:Nat→Int}(hn:n≤64) (hX:∀i j,i<n→j<n→ln (X i j)≤1048576) (hp:∀i,ln (p i)≤L) (hs:s≤65){i j:Nat}(hi:i<n) (hj:j<n):ln (hon n X p s t i j)≤L+134217728+65:=by
 unfold hon
 exact Nat.le_trans (ln_sm fun l hl=>ln_mul (hp (t+l)) (ln_mpB hn hX (show l≤64 by omega) i j hi hj)) (by omega)
structure Wd (F:Fence) (m:Nat) (P:Program):Prop where
 fn:∀f,F.fn f
 dep:F.depth=none
 call:∀f args w R,Calls P f args w R→CallsIn F (m-1) P f args w R
 row:∀s args w R,Rows P s args w R→RowsIn F (m-1) P s args w R
theorem Wd.wide (m:Nat) (P:Program):Wd Fence.wide m P:=⟨fun _=>trivial,rfl,fun _ _ _ _ h=>callsIn_wide.2 h,fun _ _ _ _ h c cs _=>by
 obtain⟨v,w',h1,h2⟩:=h c cs
 exact⟨v,w',h1,stepsIn_wide.2 h2⟩⟩
theorem Wd.round (l m:Nat) (P:Program):Wd (Fence.wide.inRound l) m P:=⟨fun _=>trivial,rfl,fun _ _ _ _ h=>CallsIn.inRound l (callsIn_wide.2 h),fun s args w R h=>(Wd.wide m P).row s args w R h⟩
def noDf (o:Oper):Bool:=match o.op with | .defer _=>false | _=>true
theorem noDf_ne {o:Oper}(h:noDf o=true):∀c,o.op≠ .defer c:=fun c e=>by unfold noDf at h;rw [e] at h;cases h
section
variable {F:Fence}{m:Nat}{P:Program}{ops:Array Oper}{Q Q':Exit→Act→World→Prop}
theorem oper_in (hW:Wd F m P){o:Oper}{a:Act}{w:World}{K K':Act→World→Prop}(hnd:noDf o=true) (hlo:¬LetsOut Q) (hp:∀c a w,Q (.panic c) a w→Q' (.panic c) a w) (hK:∀a w,K a w→K' a w) (h:o.wp P a w K Q∨(o.asks P a w∧LetsOut Q)):o.wpIn F m P a w K' Q':=by
 rcases h with h | h
 ·refine⟨fun _ _=>hW.fn _,?_⟩
  rw [Oper.semAt_eq _ _ _ (noDf_ne hnd)]
  unfold Oper.wp at h
  generalize (execOp a.eval o).run P w=r at h
  cases r with
  | ok x w'=>
   cases x with
   | value v=>exact hK _ _ h
   | skip=>exact hK _ _ h
   | defer d=>exact hK _ _ h
   | enter f args=>
    refine⟨fun hd=>(by rw [hW.dep] at hd;cases hd),(hW.call _ _ _ _ h).mono fun e w'' h2=>?_⟩
    cases e with
    | returned v=>exact hK _ _ h2
    | panicked c=>exact hp _ _ _ h2
    | outgrown=>exact absurd h2 hlo
   | row s args=>exact⟨fun hd=>(by rw [hW.dep] at hd;cases hd),(hW.row _ _ _ _ h).mono fun v w'' h2=>hK _ _ h2⟩
   | _=>exact h.elim
  | halt x w'=>
   cases x with
   | panic v=>exact hp _ _ _ h
   | _=>exact h.elim
 ·exact absurd h.2 hlo
theorem list_in (hW:Wd F m P) (hlo:¬LetsOut Q) (hp:∀c a w,Q (.panic c) a w→Q' (.panic c) a w) (rest:List Oper) (hq:∀a w,Q .normal a w→wpListIn F m P ops Q' rest a w):∀(pre:List Oper) (a:Act) (w:World),pre.all noDf=true→wpList P ops Q pre a w→wpListIn F m P ops Q' (pre++rest) a w
 | [],a,w,_,h=>hq a w h
 | o::pre,a,w,hn,h=>by
  simp only [List.all_cons,Bool.and_eq_true] at hn
  unfold wpList at h
  show wpListIn F m P ops Q' (o::(pre++rest)) a w
  unfold wpListIn
  split
  ·next hw=>
   rw [if_pos hw] at h
   exact oper_in hW hn.1 hlo hp (fun a w h=>list_in hW hlo hp rest hq pre a w hn.2 h) h
  ·next hw=>
   rw [if_neg hw] at h
   exact⟨fun _ _=>hW.fn _,list_in hW hlo hp rest hq pre _ w hn.2 h⟩
theorem any_in (hW:Wd F m P) (hlo:¬LetsOut Q){md:Region.Mode}(hnd:∀(i:Nat) (o:Oper),ops[i]?=some o→noDf o=true):∀(fuel:Nat) (listed:Array Bool) (a:Act) (w:World),wpAny P md ops Q fuel listed a w→wpAnyIn F m P md ops Q fuel listed a w
 | 0,_,_,_,h=>h
 | fuel+1,listed,a,w,h=>by
  refine⟨h.1,fun i hi=>?_⟩
  have h2:=h.2 i hi
  unfold wpOp at h2
  unfold wpOpIn
  cases ho:ops[i]? with
  | none=>simp only [ho] at h2⊢;exact any_in hW hlo hnd fuel _ _ _ h2
  | some o=>
   simp only [ho] at h2⊢
   split
   ·next hw=>
    rw [if_pos hw] at h2
    exact oper_in hW (hnd i o ho) hlo (fun _ _ _ h=>h) (fun a w h=>any_in hW hlo hnd fuel _ a w h) h2
   ·next hw=>
    rw [if_neg hw] at h2
    exact⟨fun _ _=>hW.fn _,any_in hW hlo hnd fuel _ _ w h2⟩
end
theorem np_lets {Q:Exit→Act→World→Prop}(h:¬LetsOut Q):¬LetsOut (NP Q):=fun⟨a,w,h2⟩=>h ⟨a,w,h2⟩
section
variable {F:Fence}{m:Nat}{P:Program}{Q:Exit→Act→World→Prop}{n:Nat}{l:Fr}{w:World}{ol:List Oper}
def ci (F:Fence) (m:Nat) (P:Program) (Q:Exit→Act→World→Prop) (n:Nat) (c:Code) (l:Fr) (w:World):Prop:=∀a,Rp n l a→c.wpIn F m P Q a w
theorem ci_seq {x y:Code}(h:ci F m P (Exit.then (fun a w=>y.wpIn F m P Q a w) Q) n x l w):ci F m P Q n (.seq x y) l w:=fun a ha=>wpIn_seq (h a ha)
theorem ci_block {i:Nat}{c:Code}(h:ci F m P (Exit.inBlock i Q) n c l w):ci F m P Q n (.block i c) l w:=fun a ha=>wpIn_block (h a ha)
theorem eo_thenI {y:Code}(h:ci F m P Q n y l w):eo (Exit.then (fun a w=>y.wpIn F m P Q a w) Q) .normal n l w:=h
theorem ci_region {id:Nat}(hW:Wd F m P) (hlo:¬LetsOut Q) (hnd:ol.all noDf=true) (h:wl P ol.toArray Q n ol l w):ci F m P Q n (.region id ol.toArray false) l w:=fun a ha=>
 wpIn_region_lit (by have:=list_in hW hlo (fun _ _ _ h=>h) [] (fun a w h=>h) ol a w hnd (h a ha);rwa [List.append_nil] at this)
theorem then_lets {K:Act→World→Prop}(h:¬LetsOut Q):¬LetsOut (Exit.then K Q):=fun⟨a,w,h2⟩=>h ⟨a,w,h2⟩
theorem block_lets {i:Nat}(h:¬LetsOut Q):¬LetsOut (Exit.inBlock i Q):=fun⟨a,w,h2⟩=>h ⟨a,w,h2⟩
def wlW (m:Nat) (P:Program) (ops:Array Oper) (Q:Exit→Act→World→Prop) (n:Nat) (rest:List Oper) (l:Fr) (w:World):Prop:=∀a,Rp n l a→wpListIn Fence.wide m P ops Q rest a w
theorem cw_regionW (m:Nat){id:Nat}(h:wlW m P ol.toArray Q n ol l w):cw P Q n (.region id ol.toArray false) l w:=fun a ha=>wpIn_wide.1 (wpIn_region_lit (h a ha))
theorem wlW_split {ops:Array Oper}(pre rest:List Oper) (hlo:¬LetsOut Q) (hnd:pre.all noDf=true) (h:wl P ops (Exit.then (fun a w=>wpListIn Fence.wide m P ops Q rest a w) Q) n pre l w):wlW m P ops Q n (pre++rest) l w:=fun a ha=>
 list_in (Q:=Exit.then (fun a w=>wpListIn Fence.wide m P ops Q rest a w) Q) (Q':=Q) (Wd.wide m P) (then_lets hlo) (fun _ _ _ h=>h) rest (fun _ _ h=>h) pre a w hnd (h a ha)
theorem eo_thenL {ops:Array Oper}{rest:List Oper}(h:wlW m P ops Q n rest l w):eo (Exit.then (fun a w=>wpListIn Fence.wide m P ops Q rest a w) Q) .normal n l w:=h
theorem wlW_wl {ops:Array Oper}{rest:List Oper}(hlo:¬LetsOut Q) (hnd:rest.all noDf=true) (h:wl P ops Q n rest l w):wlW m P ops Q n rest l w:=fun a ha=>by
 have:=list_in (Wd.wide m P) hlo (fun _ _ _ h=>h) [] (fun a w h=>h) rest a w hnd (h a ha)
 rwa [List.append_nil] at this
theorem wlW_yield {ops:Array Oper}{rest:List Oper}{d:Nat}{ty:TypeId}{pos:String}{af:Array Edge}{x:Operand}{xs:Array Operand}{ts:Array TypeId}{lp:Nat}(vs:List Value){R:Ending→World→Prop}(hx:evo l x=some (.func (.yield lp) #[] #[]))
  (hxs:xs.toList.map (evo l)=vs.map some) (hn:d<n) (hy:YieldAt Fence.wide (m-1) P lp vs.toArray w R) (h:∀e w',R e w'→Ret (fun v=>wlW m P ops Q n rest ((d,v)::l) w') e):
  wlW m P ops Q n (⟨some d,.call {callee:= .value x,args:=xs,argTypes:=ts},ty,pos,af,none⟩::rest) l w:=fun a ha=>by
 obtain⟨fn,tmps,assign,body,hr,hR⟩:=hy
 unfold wpListIn
 rw [if_pos (wanted_of (l:=l) (ops:=ops) rfl ha)]
 refine⟨fun _ _=>trivial,?_⟩
 have e1:xs.map a.eval=vs.toArray:=by
  apply Array.ext'
  rw [Array.toList_map]
  exact map_evo ha _ _ hxs
 have e2:(Oper.semAt Fence.wide.round a.eval ⟨some d,.call {callee:= .value x,args:=xs,argTypes:=ts},ty,pos,af,none⟩).run P w= .ok (.round lp fn tmps assign body) w:=by
  rw [Oper.semAt_eq _ _ _ (fun c e=>by cases e)]
  unfold execOp
  simp only [resolve,ha.ev hx,e1,Deferred.ofValue,Sem.run_bind,Sem.run_pure,Result.andThen_ok,invoke]
  simpa using hr
 rw [e2]
 refine⟨fun hd=>(by cases hd),hR.mono fun e w' h2=>?_⟩
 have h3:=h e w' h2
 cases e with
 | returned v=>exact h3 _ (ha.put hn v)
 | panicked c=>exact h3.elim
 | outgrown=>exact h3.elim
end
structure Nc (X Y:World):Prop where
 ex:∃row:Option Nat,X.grownBy Y row∧∀q,row=some q→∃o,X.heap[q]?=some o∧o.isCells=false
section
variable {X Y:World}
theorem Nc.heap (h:Nc X Y){g:Nat}{cs:Array Value}{t:TypeId}{z:Nat×Nat}(hb:X.heap[g]?=some (.cells cs t z)):Y.heap[g]?=some (.cells cs t z):=by
 obtain⟨row,h1,h2⟩:=h.ex
 refine (h1.block g (Array.getElem?_eq_some_iff.1 hb).1 (fun e=>?_)).trans hb
 obtain⟨o,ho,hc⟩:=h2 g e.symm
 rw [hb] at ho;cases ho;cases hc
theorem Bk.nc {g:Nat}{t:TypeId}{vs:List Value}(h:Bk X g t vs) (n:Nc X Y):Bk Y g t vs:=n.heap h
theorem Own.nc {b:Nat}{t:TypeId}{s:Nat}{A:Option Addr}{n cap:Nat}{vs:List Value}(h:Own X b t s A n cap vs) (c:Nc X Y):Own Y b t s A n cap vs:=by
 rcases h with h | ⟨g,cs,ha,hb,hk,r⟩
 ·exact Or.inl h
 ·exact Or.inr ⟨g,cs,ha,hb,hk.nc c,r⟩
theorem Zr.nc {b:Nat}{s:Bool}{A:Option Addr}{n cap:Nat}{z:Int}(h:Zr X b s A n cap z) (c:Nc X Y):Zr Y b s A n cap z:=⟨h.sgn,h.len,h.own.nc c⟩
theorem Lz.nc {K b lb:Nat}{A:Option Addr}{n cap:Nat}{zs:List Int}(h:Lz none K b X lb A n cap zs) (c:Nc X Y):Lz none K b Y lb A n cap zs:=by
 obtain⟨es,h1,h2,h3,h4⟩:=h
 exact⟨es,h1.nc c,h2,h3,fun i hi=>⟨(h4 i hi).1,Or.inl ((h4 i hi).2.zr.nc c)⟩⟩
theorem Rcs.nc {K lb n m:Nat}{ra:Nat→Option Addr}{rc:Nat→Nat}{Z:Mx}(h:Rcs K lb n m ra rc X Z) (c:Nc X Y):Rcs K lb n m ra rc Y Z:=⟨fun r hr=>by obtain⟨zs,h1,h2⟩:=h.row r hr;exact⟨zs,h1.nc c,h2⟩,h.dis⟩
theorem Nc.size (h:Nc X Y):X.heap.size≤Y.heap.size:=by obtain⟨row,h1,_⟩:=h.ex;exact h1.size
theorem Nc.put {l:Nat}{o:Obj}(o':Obj) (hl:X.heap[l]?=some o) (ho:o.isCells=false):Nc X (X.putObj l o'):=⟨some l,grownBy_putObj' X l o',fun q e=>by cases e;exact⟨o,hl,ho⟩⟩
end
theorem Zl.cut {w:World}{A:Option Addr}{n cap:Nat}{zs:List Int}{ms:List Nat}(h:Zl w A n cap zs ms){lo hi:Nat}(h1:lo≤hi) (h2:hi≤n):
  Zl w (if cap=lo then A else A.map (·.add (lo*2))) (hi-lo) (cap-lo) ((zs.take hi).drop lo) ((ms.take hi).drop lo):=by
 have hle:=h.le
 refine⟨by rw [List.length_drop,List.length_take,h.len];omega,by rw [List.length_drop,List.length_take,h.mlen];omega,by omega,Nat.le_trans (Nat.sub_le _ _) h.max,fun i hi'=>?_⟩
 obtain⟨a,s,B,c,ha,h3,h4,h5⟩:=h.get (lo+i) (by omega)
 have e1:∀{α:Type}(l:List α) (d:α),((l.take hi).drop lo).getD i d=l.getD (lo+i) d:=fun l d=>by
  simp only [List.getD_eq_getElem?_getD,List.getElem?_drop]
  rw [List.getElem?_take,if_pos (by omega)]
 rw [e1,e1,if_neg (by omega),ha]
 refine⟨a.add (lo*2),s,B,c,rfl,?_,?_,h5⟩
 ·rw [add_of_add,←Nat.add_mul];exact h3
 ·rw [add_of_add,←Nat.add_assoc,←Nat.add_mul];exact h4
theorem ZF.cut {w:World}{A:Option Addr}{n cap K:Nat}{zs:List Int}(h:ZF w A n cap K zs){lo hi:Nat}(h1:lo≤hi) (h2:hi≤n):ZF w (if cap=lo then A else A.map (·.add (lo*2))) (hi-lo) (cap-lo) K ((zs.take hi).drop lo):=by
 obtain⟨ms,h3,h4⟩:=h
 refine⟨_,h3.cut h1 h2,fun i=>?_⟩
 by_cases hi':i<hi-lo
 ·have e1:((ms.take hi).drop lo).getD i 0=ms.getD (lo+i) 0:=by
   simp only [List.getD_eq_getElem?_getD,List.getElem?_drop]
   rw [List.getElem?_take,if_pos (by omega)]
  rw [e1];exact h4 _
 ·rw [List.getD_eq_getElem?_getD,List.getElem?_eq_none (by rw [List.length_drop,List.length_take,h3.mlen];omega)];exact Nat.zero_le _
theorem sub_row (i c:Nat):(i+1)*c-i*c=c:=by rw [Nat.succ_mul];omega
def rowl (zs:List Int) (c i:Nat):List Int:=(zs.take ((i+1)*c)).drop (i*c)
theorem ZF.row {w:World}{A:Option Addr}{r c cap K:Nat}{zs:List Int}(h:ZF w A (r*c) cap K zs){i:Nat}(hi:i<r):ZF w (if cap=i*c then A else A.map (·.add (i*c*2))) c (cap-i*c) K (rowl zs c i):=by
 have h1:=h.cut (lo:=i*c) (hi:=(i+1)*c) (Nat.mul_le_mul_right c (by omega)) (Nat.mul_le_mul_right c (by omega))
 rw [sub_row] at h1
 exact h1
theorem rowl_get {r c i j:Nat}{zs:List Int}{X:Mx}(h:En r c X zs) (hi:i<r) (hj:j<c):(rowl zs c i).getD j 0=X i j:=by
 rw [←h i j hi hj]
 unfold rowl
 simp only [List.getD_eq_getElem?_getD,List.getElem?_drop]
 rw [List.getElem?_take,if_pos (by rw [Nat.succ_mul];omega)]
theorem wlW_at {m:Nat}{P:Program}{Q:Exit→Act→World→Prop}{n:Nat}{l:Fr}{w:World}{ol:List Oper}{ops:Array Oper}(k:Nat) (hlo:¬LetsOut Q) (hnd:(ol.take k).all noDf=true)
  (h:wl P ops (Exit.then (fun a w=>wpListIn Fence.wide m P ops Q (ol.drop k) a w) Q) n (ol.take k) l w):wlW m P ops Q n ol l w:=by
 have:=wlW_split (m:=m) (ol.take k) (ol.drop k) hlo hnd h
 rwa [List.take_append_drop] at this
set_option maxHeartbeats 4000000 in
set_option maxRecDepth 20000 in
theorem g_chp_square_ok {w:World}{R C:Int}{na capa:Nat}{Aa:Option Addr}(hs:Snd R C na) (hRC:R=C):
    Calls Try.prog 20 #[.agg #[.int .i64 R,.int .i64 C,.slice Aa na capa]] w (Gv w (Is (.int .i64 0))):=by
 refine sx_enter Try.func20 rfl (n:=14) rfl (bq rfl) (args:= [.agg #[.int .i64 R,.int .i64 C,.slice Aa na capa]]) (cw_keep [(0,.agg #[.int .i64 R,.int .i64 C,.slice Aa na capa])] ⟨rfl,trivial⟩ (sr (bx [.int .i64 R,.int .i64 C,.slice Aa na capa] (Ext.refl w) rfl rfl rfl fun g1 v2 hb4 ge5 e3 hw1=>(mv 1 rfl (ne_ (cw_seq (sr (lo aggMat hb4 [.int .i64 R,.int .i64 C,.slice Aa na capa] rfl rfl rfl (cl (vs:= [.agg #[.int .i64 R,.int .i64 C,.slice Aa na capa]]) hw1 (g_mat_Check_yes hs) rfl (by kernel_rfl) fun xr8 v6 r8 e7 hw2=>?_)))))))))
 obtain rfl:=r8
 refine mv 1 rfl (ne_ (sr (mv 1 rfl (wl_cmp rfl rfl rfl false (by decide) (by decide) (ne_ (cw_false rfl (cw_skip (eo_then (cw_seq (sr (pf g1 0 rfl (by kernel_rfl) (wl_load rfl rfl (load_cell cellInt (hb4.ext e7) rfl) (by decide) (pf g1 1 rfl (by kernel_rfl) ?_)))))))))))))
 refine wl_load rfl rfl (load_cell cellInt (hb4.ext e7) rfl) (by decide) (wl_cmp rfl rfl rfl false (ci_ne_f hRC) (by decide) (ne_ (cw_false rfl (cw_skip (eo_then (sr (mv 1 rfl (ne_ (cw_ret (eo_ret [I0] rfl ⟨rfl,trivial⟩ ?_))))))))))
 exact⟨_,rfl,rfl,hw2⟩
set_option maxHeartbeats 4000000 in
set_option maxRecDepth 20000 in
theorem g_chp_square_unfit {w:World}{R C:Int}{na capa:Nat}{Aa:Option Addr}(hs:Snd R C na) (hRC:R≠C):
    Calls Try.prog 20 #[.agg #[.int .i64 R,.int .i64 C,.slice Aa na capa]] w (Gv w (Is (.int .i64 2))):=by
 refine sx_enter Try.func20 rfl (n:=14) rfl (bq rfl) (args:= [.agg #[.int .i64 R,.int .i64 C,.slice Aa na capa]]) (cw_keep [(0,.agg #[.int .i64 R,.int .i64 C,.slice Aa na capa])] ⟨rfl,trivial⟩ (sr (bx [.int .i64 R,.int .i64 C,.slice Aa na capa] (Ext.refl w) rfl rfl rfl fun g1 v2 hb4 ge5 e3 hw1=>(mv 1 rfl (ne_ (cw_seq (sr (lo aggMat hb4 [.int .i64 R,.int .i64 C,.slice Aa na capa] rfl rfl rfl (cl (vs:= [.agg #[.int .i64 R,.int .i64 C,.slice Aa na capa]]) hw1 (g_mat_Check_yes hs) rfl (by kernel_rfl) fun xr8 v6 r8 e7 hw2=>?_)))))))))
 obtain rfl:=r8
 refine mv 1 rfl (ne_ (sr (mv 1 rfl (wl_cmp rfl rfl rfl false (by decide) (by decide) (ne_ (cw_false rfl (cw_skip (eo_then (cw_seq (sr (pf g1 0 rfl (by kernel_rfl) (wl_load rfl rfl (load_cell cellInt (hb4.ext e7) rfl) (by decide) (pf g1 1 rfl (by kernel_rfl) ?_)))))))))))))
 refine wl_load rfl rfl (load_cell cellInt (hb4.ext e7) rfl) (by decide) (wl_cmp rfl rfl rfl true (ci_ne_t hRC) (by decide) (ne_ (cw_true rfl (sr (mv 1 rfl (ne_ (cw_ret (eo_thenR (eo_ret [.int .i64 2] rfl ⟨rfl,trivial⟩ ?_)))))))))
 exact⟨_,rfl,rfl,hw2⟩
set_option maxHeartbeats 4000000 in
set_option maxRecDepth 20000 in
theorem g_chp_square_bad {w:World}{R C:Int}{na capa:Nat}{Aa:Option Addr}(hs:¬Snd R C na):
    Calls Try.prog 20 #[.agg #[.int .i64 R,.int .i64 C,.slice Aa na capa]] w (Gv w (Is (.int .i64 1))):=by
 refine sx_enter Try.func20 rfl (n:=14) rfl (bq rfl) (args:= [.agg #[.int .i64 R,.int .i64 C,.slice Aa na capa]]) (cw_keep [(0,.agg #[.int .i64 R,.int .i64 C,.slice Aa na capa])] ⟨rfl,trivial⟩ (sr (bx [.int .i64 R,.int .i64 C,.slice Aa na capa] (Ext.refl w) rfl rfl rfl fun g1 v2 hb4 ge5 e3 hw1=>(mv 1 rfl (ne_ (cw_seq (sr (lo aggMat hb4 [.int .i64 R,.int .i64 C,.slice Aa na capa] rfl rfl rfl (cl (vs:= [.agg #[.int .i64 R,.int .i64 C,.slice Aa na capa]]) hw1 (g_mat_Check_no hs) rfl (by kernel_rfl) fun xr8 v6 r8 e7 hw2=>?_)))))))))
 obtain rfl:=r8
 refine mv 1 rfl (ne_ (sr (mv 1 rfl (wl_cmp rfl rfl rfl true (by decide) (by decide) (ne_ (cw_true rfl (sr (mv 2 rfl (ne_ (cw_ret (eo_thenR (eo_ret [.int .i64 1] rfl ⟨rfl,trivial⟩ ?_))))))))))))
 exact⟨_,rfl,rfl,hw2⟩
set_option maxHeartbeats 4000000 in
theorem g_chp_lift {w:World}{lb n lc:Nat}{LA:Option Addr}{zs:List Int}{X:Mx}{x:Int}(hlz:Lz none 17179869184 0 w lb LA (n*n) lc zs) (hlb:lb≤w.heap.size) (hX:En n n X zs) (hn:n≤64) (hK:∀i,i<n→ln (X i i+x)≤17179869184){b_c:Nat}{sc:Bool}{Ac:Option Addr}{nc cc:Nat}(hc:Zr w b_c sc Ac nc cc x) (hcl:nc≤17179869184):
    Calls Try.prog 25 #[.agg #[.int .i64 ((n:Nat):Int),.int .i64 ((n:Nat):Int),.slice LA (n*n) lc],.agg #[.bool sc,.slice Ac nc cc]] w (fun e w'=>∃ys,e= .returned (.tuple #[])∧Lz none 17179869184 0 w' lb LA (n*n) lc ys∧En n n (lf X x n) ys∧UpdO LA w w'):=by
 have hLx:ln x≤17179869184:=hc.ln_le hcl
 refine sx_enter Try.func25 rfl (n:=32) rfl (bq rfl) (args:= [.agg #[.int .i64 ((n:Nat):Int),.int .i64 ((n:Nat):Int),.slice LA (n*n) lc],.agg #[.bool sc,.slice Ac nc cc]]) ?_
 have blk1:=hlz.block
 refine cw_keep [(0,.agg #[.int .i64 ((n:Nat):Int),.int .i64 ((n:Nat):Int),.slice LA (n*n) lc]),(1,.agg #[.bool sc,.slice Ac nc cc])] ⟨rfl,rfl,trivial⟩ (sr (wl_box rfl rfl (vs:= [.int .i64 ((n:Nat):Int),.int .i64 ((n:Nat):Int),.slice LA (n*n) lc]) rfl (by decide) fun g2 v3 nb=>?_))
 have hb5:=nb.bk
 have ge6:w.heap.size≤g2:=by rw [←nb.at_];exact (UO.refl LA w).size
 have ne7:∀p:Addr,LA=some p→p.block≠g2:=fun p hp=>by have:=(hlz).block p hp;have:=nb.at_;omega
 have e4:=nb.ext
 clear nb
 have hw1:UpdO LA w v3:=UO.ext (UO.refl LA w) e4
 refine wl_box rfl rfl (vs:= [.bool sc,.slice Ac nc cc]) rfl (by decide) fun g8 v9 nb=>?_
 have hb11:=nb.bk
 have ge12:w.heap.size≤g8:=by rw [←nb.at_];exact hw1.size
 have q13:g2<g8:=by rw [←nb.at_];exact hb5.lt
 have ne14:∀p:Addr,LA=some p→p.block≠g8:=fun p hp=>by have:=((hlz.ext e4)).block p hp;have:=nb.at_;omega
 have e10:=nb.ext
 clear nb
 have hw2:UpdO LA w v9:=UO.ext hw1 e10
 refine ne_ (sr (pf g2 0 rfl (by kernel_rfl) (wl_load rfl rfl (load_cell cellInt (hb5.ext e10) rfl) (by decide) (mv 1 rfl (ne_ (cw_block ?_))))))
 refine cw_loop (T:=World×Nat×List Int) (fun⟨wr,k,ys⟩=> [(0,.agg #[.int .i64 ((n:Nat):Int),.int .i64 ((n:Nat):Int),.slice LA (n*n) lc]),(1,.agg #[.bool sc,.slice Ac nc cc]),(2,.pointer (some ⟨g2,0,none⟩)),(3,.pointer (some ⟨g8,0,none⟩)),(5,.pointer (some ⟨g2,0,none⟩)),(6,.int .i64 ((n:Nat):Int)),(7,.int .i64 ((k:Nat):Int))]) (fun⟨wr,k,ys⟩=>wr) (fun⟨wr,k,ys⟩=>(UpdO LA w wr)∧(k≤n)∧(Bk wr g2 24 [.int .i64 ((n:Nat):Int),.int .i64 ((n:Nat):Int),.slice LA (n*n) lc])∧(Bk wr g8 34 [.bool sc,.slice Ac nc cc])∧(Zr wr b_c sc Ac nc cc (x))∧(lb≤wr.heap.size)∧(Lz none 17179869184 0 wr lb LA (n*n) lc ys)∧(∀p:Addr,LA=some p→p.block≠g2)∧(∀p:Addr,LA=some p→p.block≠g8)∧(En n n (lf X x k) ys)) (fun⟨wr,k,ys⟩=>n-k)
  (⟨v9,0,zs⟩:World×Nat×List Int) ⟨hw2,(by omega),(hb5.ext e10),hb11,(hc.ext (e4.trans e10)),(Nat.le_trans (Nat.le_trans hlb e4.size) e10.size),(hlz.ext (e4.trans e10)),ne7,ne14,(by rw [lf_0];exact hX)⟩ rfl ⟨rfl,rfl,rfl,rfl,rfl,rfl,rfl,trivial⟩ ?_
 rintro⟨wr,k,ys⟩ ⟨hw1,hi_k,b_g2,b_g8,z_g8,l_LAb,l_LA,l_LA_g2,l_LA_g8,hys⟩
 refine cw_re [(0,.agg #[.int .i64 ((n:Nat):Int),.int .i64 ((n:Nat):Int),.slice LA (n*n) lc]),(1,.agg #[.bool sc,.slice Ac nc cc]),(2,.pointer (some ⟨g2,0,none⟩)),(3,.pointer (some ⟨g8,0,none⟩)),(5,.pointer (some ⟨g2,0,none⟩)),(6,.int .i64 ((n:Nat):Int)),(7,.int .i64 ((k:Nat):Int))] wr rfl ⟨rfl,rfl,rfl,rfl,rfl,rfl,rfl,trivial⟩ ?_
 have blk15:=l_LA.block
 refine cw_seq ?_
 by_cases hkn:k<n
 · 
  refine cw_region (wl_cmp rfl rfl rfl true (cb_lt_t (a:=k) (b:=n) rfl rfl (by omega)) (by decide) (ne_ (cw_seq (cw_true rfl (cw_skip (eo_then (cw_seq (cw_block (sr (mv 2 rfl (ne_ ?_)))))))))))
  have hx1:=ix_lt hkn hkn
  have hx3:=ix_64 (show k≤64 by omega) hn
  obtain⟨pz16,sz16,Bz16,nz16,cz16,hpz16,ldz16,hKz16,ez16⟩:=(l_LA).at (i:=(k*n)+k) (by omega)
  have zz16:=ez16.zr
  have Lz16:ln (ys.getD ((k*n)+k) 0)≤17179869184:=zz16.ln_le hKz16
  have L17:ln ((ys.getD ((k*n)+k) 0)+x)≤17179869184:=by rw [show ys.getD (k*n+k) 0=X k k from (hys k k hkn hkn).trans (if_neg (by omega))];exact hK k hkn
  refine cw_draw mix 21 [] [Is (.pointer (some ⟨g2,2,none⟩)),Is (.slice LA (n*n) lc),Is (.int .i64 ((k:Nat):Int)),Is (.pointer (some ⟨g2,1,none⟩)),Is (.int .i64 ((n:Nat):Int)),Is (.int .i64 ((k*n:Nat):Int)),Is (.int .i64 ((k:Nat):Int)),Is (.int .i64 (((k*n)+k:Nat):Int)),Is (.pointer (some ⟨g2,2,none⟩)),Is (.slice LA (n*n) lc),Is (.int .i64 ((k:Nat):Int)),Is (.pointer (some ⟨g2,1,none⟩)),Is (.int .i64 ((n:Nat):Int)),Is (.int .i64 ((k*n:Nat):Int)),Is (.int .i64 ((k:Nat):Int)),Is (.int .i64 (((k*n)+k:Nat):Int)),Is (.pointer (some pz16)),Is (.agg #[.bool sz16,.slice Bz16 nz16 cz16]),Is (.agg #[.bool sc,.slice Ac nc cc]),ZR w.heap.size ((ys.getD ((k*n)+k) 0)+x),Is (.pointer (some pz16))] [[],[0],[],[],[3],[2,4],[],[5,6],[],[8],[],[],[11],[10,12],[],[13,14],[9,15],[16],[],[17,18],[1,7]] [[],[0],[],[],[3],[2,3,4],[],[2,3,4,5,6],[],[8],[],[],[11],[10,11,12],[],[10,11,12,13,14],[8,9,10,11,12,13,14,15],[8,9,10,11,12,13,14,15,16],[],[8,9,10,11,12,13,14,15,16,17,18],[0,1,2,3,4,5,6,7,8,9,10,11,12,13,14,15,16,17,18,19],[0,1,2,3,4,5,6,7,8,9,10,11,12,13,14,15,16,17,18,19,20]] rfl
   (obs_cons rfl rfl (hob rfl rfl ?_) (obs_cons rfl rfl (hob rfl rfl ?_) (obs_cons rfl rfl (hob rfl rfl ?_) (obs_cons rfl rfl (hob rfl rfl ?_) (obs_cons rfl rfl (hob rfl rfl ?_) (obs_cons rfl rfl (hob rfl rfl ?_) (obs_cons rfl rfl (hob rfl rfl ?_) (obs_cons rfl rfl (hob rfl rfl ?_) (obs_cons rfl rfl (hob rfl rfl ?_) (obs_cons rfl rfl (hob rfl rfl ?_) (obs_cons rfl rfl (hob rfl rfl ?_) (obs_cons rfl rfl (hob rfl rfl ?_) (obs_cons rfl rfl (hob rfl rfl ?_) (obs_cons rfl rfl (hob rfl rfl ?_) (obs_cons rfl rfl (hob rfl rfl ?_) (obs_cons rfl rfl (hob rfl rfl ?_) (obs_cons rfl rfl (hob rfl rfl ?_) (obs_cons rfl rfl (hob rfl rfl ?_) (obs_cons rfl rfl (hob rfl rfl ?_) (obs_cons rfl rfl (hob rfl rfl ?_) (obs_cons rfl rfl (hob rfl rfl ?_) obs_nil))))))))))))))))))))) ?_
  · 
   intro v19 e20
   have hw2:UpdO LA w v19:=UO.ext hw1 e20
   refine deps_nil (pf g2 2 rfl (by kernel_rfl) ?_)
   exact pi_done rfl (Ext.refl _) rfl
  · 
   intro v21 e22
   have hw2:UpdO LA w v21:=UO.ext hw1 e22
   refine dk rfl rfl (deps_nil (wl_load rfl rfl (load_cell cellInts (b_g2.ext e22) rfl) (by decide) ?_))
   exact pi_done rfl (Ext.refl _) rfl
  · 
   intro v28 e29
   have hw2:UpdO LA w v28:=UO.ext hw1 e29
   refine deps_nil (mv 1 rfl ?_)
   exact pi_done rfl (Ext.refl _) rfl
  · 
   intro v30 e31
   have hw2:UpdO LA w v30:=UO.ext hw1 e31
   refine deps_nil (pf g2 1 rfl (by kernel_rfl) ?_)
   exact pi_done rfl (Ext.refl _) rfl
  · 
   intro v32 e33
   have hw2:UpdO LA w v32:=UO.ext hw1 e33
   refine dk rfl rfl (deps_nil (wl_load rfl rfl (load_cell cellInt (b_g2.ext e33) rfl) (by decide) ?_))
   exact pi_done rfl (Ext.refl _) rfl
  · 
   intro v39 e40
   have hw2:UpdO LA w v39:=UO.ext hw1 e40
   refine dk rfl rfl (dk rfl rfl (deps_nil (wl_ar rfl rfl rfl ((k*n:Nat):Int) (ai_mul (a:=k) (b:=n) rfl rfl (by omega)) (by decide) ?_)))
   exact pi_done rfl (Ext.refl _) rfl
  · 
   intro v51 e52
   have hw2:UpdO LA w v51:=UO.ext hw1 e52
   refine deps_nil (mv 1 rfl ?_)
   exact pi_done rfl (Ext.refl _) rfl
  · 
   intro v53 e54
   have hw2:UpdO LA w v53:=UO.ext hw1 e54
   refine dk rfl rfl (dk rfl rfl (deps_nil (wl_ar rfl rfl rfl (((k*n)+k:Nat):Int) (ai_add (a:=k*n) (b:=k) rfl rfl (by omega)) (by decide) ?_)))
   exact pi_done rfl (Ext.refl _) rfl
  · 
   intro v65 e66
   have hw2:UpdO LA w v65:=UO.ext hw1 e66
   refine deps_nil (pf g2 2 rfl (by kernel_rfl) ?_)
   exact pi_done rfl (Ext.refl _) rfl
  · 
   intro v67 e68
   have hw2:UpdO LA w v67:=UO.ext hw1 e68
   refine dk rfl rfl (deps_nil (wl_load rfl rfl (load_cell cellInts (b_g2.ext e68) rfl) (by decide) ?_))
   exact pi_done rfl (Ext.refl _) rfl
  · 
   intro v74 e75
   have hw2:UpdO LA w v74:=UO.ext hw1 e75
   refine deps_nil (mv 1 rfl ?_)
   exact pi_done rfl (Ext.refl _) rfl
  · 
   intro v76 e77
   have hw2:UpdO LA w v76:=UO.ext hw1 e77
   refine deps_nil (pf g2 1 rfl (by kernel_rfl) ?_)
   exact pi_done rfl (Ext.refl _) rfl
  · 
   intro v78 e79
   have hw2:UpdO LA w v78:=UO.ext hw1 e79
   refine dk rfl rfl (deps_nil (wl_load rfl rfl (load_cell cellInt (b_g2.ext e79) rfl) (by decide) ?_))
   exact pi_done rfl (Ext.refl _) rfl
  · 
   intro v85 e86
   have hw2:UpdO LA w v85:=UO.ext hw1 e86
   refine dk rfl rfl (dk rfl rfl (deps_nil (wl_ar rfl rfl rfl ((k*n:Nat):Int) (ai_mul (a:=k) (b:=n) rfl rfl (by omega)) (by decide) ?_)))
   exact pi_done rfl (Ext.refl _) rfl
  · 
   intro v97 e98
   have hw2:UpdO LA w v97:=UO.ext hw1 e98
   refine deps_nil (mv 1 rfl ?_)
   exact pi_done rfl (Ext.refl _) rfl
  · 
   intro v99 e100
   have hw2:UpdO LA w v99:=UO.ext hw1 e100
   refine dk rfl rfl (dk rfl rfl (deps_nil (wl_ar rfl rfl rfl (((k*n)+k:Nat):Int) (ai_add (a:=k*n) (b:=k) rfl rfl (by omega)) (by decide) ?_)))
   exact pi_done rfl (Ext.refl _) rfl
  · 
   intro v111 e112
   have hw2:UpdO LA w v111:=UO.ext hw1 e112
   refine dk rfl rfl (dk rfl rfl (deps_nil (wl_idx rfl rfl rfl elemI aggInt.size ((k*n)+k) rfl (by omega) pz16 hpz16 (by decide) ?_)))
   exact pi_done rfl (Ext.refl _) rfl
  · 
   intro v123 e124
   have hw2:UpdO LA w v123:=UO.ext hw1 e124
   refine dk rfl rfl (deps_nil (wl_load rfl rfl (ldz16 _ e124 _ _ aggInt) (by decide) ?_))
   exact pi_done rfl (Ext.refl _) rfl
  · 
   intro v130 e131
   have hw2:UpdO LA w v130:=UO.ext hw1 e131
   refine deps_nil (lo aggInt (b_g8.ext e131) [.bool sc,.slice Ac nc cc] rfl rfl rfl ?_)
   exact pi_done rfl (Ext.refl _) rfl
  · 
   intro v132 e133
   have hw2:UpdO LA w v132:=UO.ext hw1 e133
   refine dk rfl rfl (dk rfl rfl (deps_nil ?_))
   have L144:ln ((ys.getD ((k*n)+k) 0)+x)≤17179869184:=by rw [show ys.getD (k*n+k) 0=X k k from (hys k k hkn hkn).trans (if_neg (by omega))];exact hK k hkn
   refine wl_call rfl rfl (vs:= [.agg #[.bool sz16,.slice Bz16 nz16 cz16],.agg #[.bool sc,.slice Ac nc cc]]) (by kernel_rfl) (by decide) (g_zint_Add hw2.size (zz16.ext e133).zi (zz16.le (lx_ Lz16 rfl)) (z_g8.ext e133).zi (z_g8.le (lx_ hLx rfl))) ?_
   rintro _ v145 ⟨xr147,rfl,r147,e146⟩
   refine ret_intro ?_
   have hw3:UpdO LA w v145:=UO.ext hw2 e146
   obtain⟨s148,A148,n148,c148,rfl,z148⟩:=r147
   exact pi_done rfl e146 ⟨_,_,_,_,rfl,z148⟩
  · 
   intro v149 e150
   have hw2:UpdO LA w v149:=UO.ext hw1 e150
   refine dk rfl rfl (dk rfl rfl (deps_nil (wl_idx rfl rfl rfl elemI aggInt.size ((k*n)+k) rfl (by omega) pz16 hpz16 (by decide) ?_)))
   exact pi_done rfl (Ext.refl _) rfl
  · 
   intro v161 e162
   have hw2:UpdO LA w v161:=UO.ext hw1 e162
   refine dk rfl rfl (dk rfl rfl (dk rfl rfl (dk rfl rfl (dk rfl rfl (dk rfl rfl (dk rfl rfl (dk rfl rfl (dk rfl rfl (dk rfl rfl (dk rfl rfl (dk rfl rfl (dk rfl rfl (dk rfl rfl ?_)))))))))))))
   refine dk rfl rfl (dk rfl rfl (dk rfl rfl (dk rfl rfl (dk rfl rfl (deps_cons rfl rfl fun x258 y259 h260 e261 f262=>?_)))))
   obtain⟨s263,A263,n263,c263,rfl,z263⟩:=h260
   have z263:=z263.ext f262
   refine dk rfl rfl (deps_nil ?_)
   have lt274:=(l_LA.ext e162)
   obtain⟨us272,own273⟩:=lt274.own
   refine wl_setI (e:=⟨s263,A263,n263,c263⟩) (z:=(ys.getD ((k*n)+k) 0)+x) rfl rfl rfl hpz16 (by omega) lt274 (Or.inl (z263.mono (Nat.zero_le _))) (z263.le (lx_ L17 rfl)) fun v269 lz270 uo271=>?_
   have hw3:UpdO LA w v269:=UO.trans hw2 uo271
   have hlblz270:lb≤v269.heap.size:=Nat.le_trans (Nat.le_trans l_LAb e162.size) uo271.size
   refine wl_nil (eo_np (eo_block_normal (eo_then (cw_region (wl_ar rfl rfl rfl ((k+1:Nat):Int) (ai_add (a:=k) (b:=1) rfl rfl (by omega)) (by decide) (mv 1 rfl (wl_nil (eo_round (⟨v269,k+1,ys.set ((k*n)+k) ((ys.getD ((k*n)+k) 0)+x)⟩:World×Nat×List Int) ⟨hw3,(by omega),((b_g2.ext e162).updO uo271 l_LA_g2),((b_g8.ext e162).updO uo271 l_LA_g8),((z_g8.ext e162).updOT own273 uo271),hlblz270,lz270,l_LA_g2,l_LA_g8,(lf_step hys hkn l_LA.len)⟩ (show n-(k+1)<n-k by omega) rfl ⟨rfl,rfl,rfl,rfl,rfl,rfl,rfl,trivial⟩))))))))
 · 
  refine cw_region (wl_cmp rfl rfl rfl false (cb_lt_f (a:=k) (b:=n) rfl rfl (by omega)) (by decide) (ne_ (cw_seq (cw_false rfl (cw_exit (eo_thenX (eo_loopX (eo_block_here (eo_end [] rfl trivial ?_)))))))))
  have hkn2:k=n:=by omega
  subst hkn2
  exact⟨ys,rfl,l_LA,hys,hw1⟩
set_option maxHeartbeats 4000000 in
set_option maxRecDepth 20000 in
theorem g_chp_Char {w:World}{b lb:Nat}(hb:b≤w.heap.size) (hlb:lb≤w.heap.size){n:Nat}{X:Mx}{d:Nat→Int}{Aa:Option Addr}{na capa:Nat}{xs:List Int}(hxa:ZF w Aa na capa 1048576 xs) (hna:na=n*n) (hn:n≤64) (hX:En n n X xs) (hd:Chp n X d):
    Calls Try.prog 5 #[.agg #[.int .i64 ((n:Nat):Int),.int .i64 ((n:Nat):Int),.slice Aa na capa]] w (Gv w (T2 (LQ none 17179869184 b lb (n+1) (Chl n d)) (Is (.int .i64 0)))):=by
 have hXl:∀i j,i<n→j<n→ln (X i j)≤1048576:=fun i j hi hj=>hX.ln hxa hi hj
 have hxa0:=hxa
 obtain⟨msa,hla,hma⟩:=hxa
 refine sx_enter Try.func5 rfl (n:=67) rfl (bq rfl) (args:= [.agg #[.int .i64 ((n:Nat):Int),.int .i64 ((n:Nat):Int),.slice Aa na capa]]) (cw_keep [(0,.agg #[.int .i64 ((n:Nat):Int),.int .i64 ((n:Nat):Int),.slice Aa na capa])] ⟨rfl,trivial⟩ (sr (bx [.int .i64 ((n:Nat):Int),.int .i64 ((n:Nat):Int),.slice Aa na capa] (Ext.refl w) rfl rfl rfl fun g1 v2 hb4 ge5 e3 hw1=>(mv 2 rfl (ne_ (cw_seq (sr (lo aggMat hb4 [.int .i64 ((n:Nat):Int),.int .i64 ((n:Nat):Int),.slice Aa na capa] rfl rfl rfl (cl (vs:= [.agg #[.int .i64 ((n:Nat):Int),.int .i64 ((n:Nat):Int),.slice Aa na capa]]) hw1 (g_chp_square_ok (snd_mk hn hn hna) rfl) rfl (by kernel_rfl) fun xr8 v6 r8 e7 hw2=>?_)))))))))
 obtain rfl:=r8
 refine mv 1 rfl (ne_ (sr (mv 1 rfl (wl_cmp rfl rfl rfl false (by decide) (by decide) (ne_ (cw_false rfl (cw_skip (eo_then (sr (pf g1 0 rfl (by kernel_rfl) (wl_load rfl rfl (load_cell cellInt (hb4.ext e7) rfl) (by decide) (mv 1 rfl (wl_nil ?_)))))))))))))
 refine eo_then (sr (mv 1 rfl (wl_ar rfl rfl rfl ((n+1:Nat):Int) (ai_add (a:=n) (b:=1) rfl rfl (by omega)) (by decide) (wl_makeL (k:=n+1) none 17179869184 w.heap.size rfl rfl rfl (by omega) (by decide) fun g9 v10 hg11 lz12 e13=>?_))))
 have q14:g1<g9:=by rw [←hg11];exact (hb4.ext e7).lt
 have hlbg9:g9≤v10.heap.size:=by have:=(lz12.block _ rfl).2;exact Nat.le_of_lt this
 have hglg9:w.heap.size≤g9:=by rw [←hg11];exact hw2.size
 clear hg11
 have hw3:=hw2.trans e13
 have blk15:=lz12.block
 refine mv 1 rfl (ne_ (sr (mv 2 rfl (cl (vs:= [.int .i64 1]) hw3 (g_zint_Of hw3.size (by decide) (by decide)) rfl (by kernel_rfl) fun xr18 v16 r18 e17 hw4=>?_))))
 obtain⟨s19,A19,n19,c19,rfl,z19⟩:=r18
 obtain⟨pz20,sz20,Bz20,nz20,cz20,hpz20,ldz20,hKz20,ez20⟩:=((lz12.ext e17)).at (i:=n) (by omega)
 have zz20:=ez20.zr
 have Lz20:ln ((List.replicate (n+1) 0).getD n 0)≤17179869184:=zz20.ln_le hKz20
 refine wl_idx rfl rfl rfl elemI aggInt.size n rfl (by omega) pz20 hpz20 (by decide) ?_
 have lt26:=(lz12.ext e17)
 obtain⟨us24,own25⟩:=lt26.own
 refine wl_setI (e:=⟨s19,A19,n19,c19⟩) (z:=1) rfl rfl rfl hpz20 (by omega) lt26 (Or.inl z19) (z19.le (Nat.le_trans (show ln (1)≤1 by decide+kernel) (by decide))) fun v21 lz22 uo23=>?_
 have hw5:=uo23.ext hw4 (fun p hp=>by have:=blk15 p hp;omega)
 have hlblz22:g9≤v21.heap.size:=Nat.le_trans (Nat.le_trans hlbg9 e17.size) uo23.size
 refine ne_ (sr (mv 1 rfl ?_))
 obtain⟨lb27,hlb27,hlelb27,hgl27,hq27_0⟩:∃lb,lb≤v21.heap.size∧v21.heap.size≤lb∧w.heap.size≤lb∧g1<lb:=⟨v21.heap.size,Nat.le_refl _,Nat.le_refl _,hw5.size,((hb4.ext (e7.trans (e13.trans e17))).updO uo23 (show∀p:Addr,(some ⟨g9,0,none⟩)=some p→p.block≠g1 from fun p hp=>by have:=blk15 p hp;omega)).lt⟩
 have hql28:∀p:Addr,(some ⟨g9,0,none⟩)=some p→p.block<lb27:=fun p hp=>Nat.lt_of_lt_of_le ((lz22).block p hp).2 hlelb27
 refine cl (vs:= [.int .i64 ((n:Nat):Int)]) hw5 ((g_mat_Unit (n:=n) hw5.size hlb27 (by omega)).mono (Gv.imp (T2.imp (MQ.imp (LQ.imp (K:=1) (K':=17179869184) (by decide) (Nat.le_refl _) (Nat.le_refl _) (fun _ h=>h))) Is.imp))) rfl (by kernel_rfl) fun xr31 v29 r31 e30 hw6=>?_
 obtain⟨_,_,rfl,⟨lv33,rfl,⟨LA34,lc34,zs34,rfl,lz34,hz34⟩⟩,r32_1⟩:=r31
 have blk35:=lz34.block
 obtain rfl:=r32_1
 refine mv 1 rfl (pu (v:= .agg #[.int .i64 ((n:Nat):Int),.int .i64 ((n:Nat):Int),.slice LA34 (n*n) lc34]) rfl (by kernel_rfl) (pu (v:= .int .i64 0) rfl (by kernel_rfl) (wl_alloc rfl (z:= .agg #[I0,I0,S0]) (vs:= [I0,I0,S0]) (fun _=>by kernel_rfl) rfl (by decide) fun g36 v37 nb=>?_)))
 have hb39:=nb.bk
 have ge40:w.heap.size≤g36:=by rw [←nb.at_];exact hw6.size
 have q41:g1<g36:=by rw [←nb.at_];exact (((hb4.ext (e7.trans (e13.trans e17))).updO uo23 (show∀p:Addr,(some ⟨g9,0,none⟩)=some p→p.block≠g1 from fun p hp=>by have:=blk15 p hp;omega)).ext e30).lt
 have ne42:∀p:Addr,(some ⟨g9,0,none⟩)=some p→p.block≠g36:=fun p hp=>by have:=((lz22.ext e30)).block p hp;have:=nb.at_;omega
 have ne43:∀p:Addr,LA34=some p→p.block≠g36:=fun p hp=>by have:=(lz34).block p hp;have:=nb.at_;omega
 have e38:=nb.ext
 clear nb
 have hw7:=hw6.trans e38
 refine so aggMat hb39 [.int .i64 ((n:Nat):Int),.int .i64 ((n:Nat):Int),.slice LA34 (n*n) lc34] hw7 ge40 rfl rfl rfl rfl fun v44 hb46 u47 hw8=>(mv 1 rfl (ne_ (cw_seq (sr (mv 1 rfl (ne_ (cw_block ?_)))))))
 have l049:=Lz.mono (b':=0) (lb':=w.heap.size) (((lz34.ext e38).updT hb39 u47 ne43)) (Nat.le_refl _) (Nat.zero_le _) hgl27
 refine cw_loop (T:=World×Nat×Option Addr×Nat×List Int×List Int) (fun⟨wr,k,LM,lm,ms,ps⟩=> [(0,.agg #[.int .i64 ((n:Nat):Int),.int .i64 ((n:Nat):Int),.slice Aa na capa]),(1,.pointer (some ⟨g1,0,none⟩)),(2,.slice none 0 0),(3,.int .i64 0),(4,.int .i64 0),(5,.int .i64 ((n:Nat):Int)),(6,.slice (some ⟨g9,0,none⟩) (n+1) (n+1)),(7,.pointer (some ⟨g36,0,none⟩)),(9,.int .i64 ((k:Nat):Int)),(14,.agg #[.int .i64 ((n:Nat):Int),.int .i64 ((n:Nat):Int),.slice Aa na capa]),(15,.int .i64 0),(16,.int .i64 0),(17,.bool false),(19,.pointer (some ⟨g1,0,none⟩)),(20,.int .i64 ((n:Nat):Int)),(21,.int .i64 ((n:Nat):Int)),(22,.int .i64 ((n+1:Nat):Int)),(23,.slice (some ⟨g9,0,none⟩) (n+1) (n+1)),(24,.slice (some ⟨g9,0,none⟩) (n+1) (n+1)),(25,.int .i64 ((n:Nat):Int)),(26,.agg #[.bool s19,.slice A19 n19 c19]),(27,.pointer (some pz20)),(28,.tuple #[.agg #[.int .i64 ((n:Nat):Int),.int .i64 ((n:Nat):Int),.slice LA34 (n*n) lc34],I0]),(29,.int .i64 ((n:Nat):Int)),(30,.tuple #[.agg #[.int .i64 ((n:Nat):Int),.int .i64 ((n:Nat):Int),.slice LA34 (n*n) lc34],I0]),(31,.agg #[.int .i64 ((n:Nat):Int),.int .i64 ((n:Nat):Int),.slice LA34 (n*n) lc34]),(32,.int .i64 0)]) (fun⟨wr,k,LM,lm,ms,ps⟩=>wr) (fun⟨wr,k,LM,lm,ms,ps⟩=>(Ext w wr)∧(k≤n+1)∧(Bk wr g1 24 [.int .i64 ((n:Nat):Int),.int .i64 ((n:Nat):Int),.slice Aa na capa])∧(Bk wr g36 24 [.int .i64 ((n:Nat):Int),.int .i64 ((n:Nat):Int),.slice LM (n*n) lm])∧(g9≤wr.heap.size)∧(Lz none 17179869184 w.heap.size wr g9 (some ⟨g9,0,none⟩) (n+1) (n+1) ps)∧(∀p:Addr,(some ⟨g9,0,none⟩)=some p→p.block≠g1)∧(∀p:Addr,(some ⟨g9,0,none⟩)=some p→p.block≠g36)∧(w.heap.size≤wr.heap.size)∧(Lz none 17179869184 0 wr w.heap.size LM (n*n) lm ms)∧(∀p:Addr,LM=some p→p.block≠g1)∧(∀p:Addr,LM=some p→p.block≠g36)∧(∀p q:Addr,LM=some p→(some ⟨g9,0,none⟩)=some q→p.block≠q.block)∧(1≤k)∧(∀j,j<k→ps.getD (n-j) 0=d j)∧(En n n (mk d n X (k-1)) ms)) (fun⟨wr,k,LM,lm,ms,ps⟩=>(n+1)-k)
  (⟨v44,1,LA34,lc34,zs34,(List.replicate (n+1) 0).set n 1⟩:World×Nat×Option Addr×Nat×List Int×List Int) ⟨hw8,(by omega),((((hb4.ext (e7.trans (e13.trans e17))).updO uo23 (show∀p:Addr,(some ⟨g9,0,none⟩)=some p→p.block≠g1 from fun p hp=>by have:=blk15 p hp;omega)).ext (e30.trans e38)).updN u47 (by omega)),hb46,(Nat.le_trans (Nat.le_trans (Nat.le_trans hlblz22 e30.size) e38.size) u47.by_.size),((lz22.ext (e30.trans e38)).updT hb39 u47 ne42),(show∀p:Addr,(some ⟨g9,0,none⟩)=some p→p.block≠g1 from fun p hp=>by have:=blk15 p hp;omega),ne42,hw8.size,l049,(show∀p:Addr,LA34=some p→p.block≠g1 from fun p hp=>by have:=blk35 p hp;omega),ne43,(show∀p q:Addr,LA34=some p→(some ⟨g9,0,none⟩)=some q→p.block≠q.block from fun p q hp hq=>by have:=blk35 p hp;have:=hql28 q hq;omega),(Nat.le_refl 1),(chl_0 hd.one),(En.cong (fun i j _ _=>(mk_0 hd.one n X i j).symm) _ hz34)⟩ rfl ⟨rfl,rfl,rfl,rfl,rfl,rfl,rfl,rfl,rfl,rfl,rfl,rfl,rfl,rfl,rfl,rfl,rfl,rfl,rfl,rfl,rfl,rfl,rfl,rfl,rfl,rfl,rfl,trivial⟩ ?_
 rintro⟨wr,k,LM,lm,ms,ps⟩ ⟨hw1,hi_k,b_g1,b_g36,l_someg90noneb,l_someg90none,l_someg90none_g1,l_someg90none_g36,l_LMb,l_LM,l_LM_g1,l_LM_g36,d_l_LM_l_someg90none,hk1,hps,hms⟩
 refine cw_re [(0,.agg #[.int .i64 ((n:Nat):Int),.int .i64 ((n:Nat):Int),.slice Aa na capa]),(1,.pointer (some ⟨g1,0,none⟩)),(2,.slice none 0 0),(3,.int .i64 0),(4,.int .i64 0),(5,.int .i64 ((n:Nat):Int)),(6,.slice (some ⟨g9,0,none⟩) (n+1) (n+1)),(7,.pointer (some ⟨g36,0,none⟩)),(9,.int .i64 ((k:Nat):Int)),(14,.agg #[.int .i64 ((n:Nat):Int),.int .i64 ((n:Nat):Int),.slice Aa na capa]),(15,.int .i64 0),(16,.int .i64 0),(17,.bool false),(19,.pointer (some ⟨g1,0,none⟩)),(20,.int .i64 ((n:Nat):Int)),(21,.int .i64 ((n:Nat):Int)),(22,.int .i64 ((n+1:Nat):Int)),(23,.slice (some ⟨g9,0,none⟩) (n+1) (n+1)),(24,.slice (some ⟨g9,0,none⟩) (n+1) (n+1)),(25,.int .i64 ((n:Nat):Int)),(26,.agg #[.bool s19,.slice A19 n19 c19]),(27,.pointer (some pz20)),(28,.tuple #[.agg #[.int .i64 ((n:Nat):Int),.int .i64 ((n:Nat):Int),.slice LA34 (n*n) lc34],I0]),(29,.int .i64 ((n:Nat):Int)),(30,.tuple #[.agg #[.int .i64 ((n:Nat):Int),.int .i64 ((n:Nat):Int),.slice LA34 (n*n) lc34],I0]),(31,.agg #[.int .i64 ((n:Nat):Int),.int .i64 ((n:Nat):Int),.slice LA34 (n*n) lc34]),(32,.int .i64 0)] wr rfl ⟨rfl,rfl,rfl,rfl,rfl,rfl,rfl,rfl,rfl,rfl,rfl,rfl,rfl,rfl,rfl,rfl,rfl,rfl,rfl,rfl,rfl,rfl,rfl,rfl,rfl,rfl,rfl,trivial⟩ ?_
 have blk50:=l_someg90none.block
 have blk51:=l_LM.block
 refine cw_seq (cw_seq ?_)
 by_cases hkn:k≤n
 · 
  refine cw_region (mv 2 rfl (wl_cmp rfl rfl rfl true (cb_le_t (a:=k) (b:=n) rfl rfl (by omega)) (by decide) (ne_ (cw_true rfl (cw_skip (eo_then (cw_seq (cw_block (cw_seq ?_)))))))))
  obtain⟨hB1,hB2,hB3⟩:=ln_mkB (t:=k-1) hd.one hd.nw hn hXl (by omega)
  refine cw_region (lo aggMat b_g1 [.int .i64 ((n:Nat):Int),.int .i64 ((n:Nat):Int),.slice Aa na capa] rfl rfl rfl (lo aggMat b_g36 [.int .i64 ((n:Nat):Int),.int .i64 ((n:Nat):Int),.slice LM (n*n) lm] rfl rfl rfl ?_))
  obtain⟨lb52,hlb52,hlelb52,hgl52,hq52_0,hq52_1⟩:∃lb,lb≤wr.heap.size∧wr.heap.size≤lb∧w.heap.size≤lb∧g1<lb∧g36<lb:=⟨wr.heap.size,Nat.le_refl _,Nat.le_refl _,hw1.size,b_g1.lt,b_g36.lt⟩
  have hql53:∀p:Addr,(some ⟨g9,0,none⟩)=some p→p.block<lb52:=fun p hp=>Nat.lt_of_lt_of_le ((l_someg90none).block p hp).2 hlelb52
  have hql54:∀p:Addr,LM=some p→p.block<lb52:=fun p hp=>Nat.lt_of_lt_of_le ((l_LM).block p hp).2 hlelb52
  refine cl (vs:= [.agg #[.int .i64 ((n:Nat):Int),.int .i64 ((n:Nat):Int),.slice Aa na capa],.agg #[.int .i64 ((n:Nat):Int),.int .i64 ((n:Nat):Int),.slice LM (n*n) lm]]) hw1 (g_mat_Mul (r:=n) (m:=n) (c:=n) (X:=X) (Y:=(mk d n X (k-1))) (K:=17179869184) hw1.size hlb52 (((show ZF w _ _ _ _ _ from⟨msa,hla,hma⟩).ext hw1).mono (by decide)) ((l_LM.zf0).mono (by decide)) hna rfl hn hn hn hX hms (fun i j hi hj=>Nat.le_trans (hB3 i j hi hj) (by decide))) rfl (by kernel_rfl) fun xr57 v55 r57 e56 hw2=>?_
  obtain⟨_,_,rfl,⟨lv59,rfl,⟨LA60,lc60,zs60,rfl,lz60,hz60⟩⟩,r58_1⟩:=r57
  have blk61:=lz60.block
  obtain rfl:=r58_1
  refine mv 1 rfl (pu (v:= .agg #[.int .i64 ((n:Nat):Int),.int .i64 ((n:Nat):Int),.slice LA60 (n*n) lc60]) rfl (by kernel_rfl) (pu (v:= .int .i64 0) rfl (by kernel_rfl) ?_))
  have hb63:=(b_g36.ext e56)
  refine so aggMat hb63 [.int .i64 ((n:Nat):Int),.int .i64 ((n:Nat):Int),.slice LA60 (n*n) lc60] hw2 ge40 rfl rfl rfl rfl fun v62 hb64 u65 hw3=>(ne_ (sr (lo aggMat hb64 [.int .i64 ((n:Nat):Int),.int .i64 ((n:Nat):Int),.slice LA60 (n*n) lc60] rfl rfl rfl ?_)))
  have Lt67:ln (tr n (mm n X (mk d n X (k-1))))≤134217792:=Nat.le_trans (ln_tr fun i hi=>hB3 i i hi hi) (by omega)
  refine cl (vs:= [.agg #[.int .i64 ((n:Nat):Int),.int .i64 ((n:Nat):Int),.slice LA60 (n*n) lc60]]) hw3 (g_mat_Trace (n:=n) (X:=mm n X (mk d n X (k-1))) hw3.size (((lz60.updT hb63 u65 (show∀p:Addr,LA60=some p→p.block≠g36 from fun p hp=>by have:=blk61 p hp;omega)).zf0).mono (by decide)) rfl hn hz60) rfl (by kernel_rfl) fun xr70 v68 r70 e69 hw4=>?_
  obtain⟨_,_,rfl,⟨s72,A72,n72,c72,rfl,z72⟩,rfl⟩:=r70
  refine mv 1 rfl (pu (v:= .agg #[.bool s72,.slice A72 n72 c72]) rfl (by kernel_rfl) (pu (v:= .int .i64 0) rfl (by kernel_rfl) (wl_alloc rfl (z:= .agg #[F0,S0]) (vs:= [F0,S0]) (fun _=>by kernel_rfl) rfl (by decide) fun g73 v74 nb=>?_)))
  have hb76:=nb.bk
  have ge77:w.heap.size≤g73:=by rw [←nb.at_];exact hw4.size
  have q78:g36<g73:=by rw [←nb.at_];exact (hb64.ext e69).lt
  have ne79:∀p:Addr,(some ⟨g9,0,none⟩)=some p→p.block≠g73:=fun p hp=>by have:=((((l_someg90none.ext e56).updT hb63 u65 l_someg90none_g36).ext e69)).block p hp;have:=nb.at_;omega
  have ne80:∀p:Addr,LM=some p→p.block≠g73:=fun p hp=>by have:=((((l_LM.ext e56).updT hb63 u65 l_LM_g36).ext e69)).block p hp;have:=nb.at_;omega
  have ne81:∀p:Addr,LA60=some p→p.block≠g73:=fun p hp=>by have:=(((lz60.updT hb63 u65 (show∀p:Addr,LA60=some p→p.block≠g36 from fun p hp=>by have:=blk61 p hp;omega)).ext e69)).block p hp;have:=nb.at_;omega
  have e75:=nb.ext
  clear nb
  have hw5:=hw4.trans e75
  refine so aggInt hb76 [.bool s72,.slice A72 n72 c72] hw5 ge77 rfl rfl rfl rfl fun v82 hb84 u85 hw6=>(mv 1 rfl (ne_ (cw_seq ?_)))
  have htr: -tr n (mm n X (mk d n X (k-1)))=((k:Nat):Int)*d k:=by rw [tr_mk hd.nw,show k-1+1=k by omega,Int.neg_neg]
  have hk0:((k:Nat):Int)≠0:=by omega
  have hdk:(-tr n (mm n X (mk d n X (k-1)))).tdiv ((k:Nat):Int)=d k:=by rw [htr,Int.mul_tdiv_cancel_left _ hk0]
  have hBk:=(ln_mkB (t:=k) hd.one hd.nw hn hXl hkn).1
  refine cw_region (lo aggInt hb84 [.bool s72,.slice A72 n72 c72] rfl rfl rfl ?_)
  have L87:ln (-(tr n (mm n X (mk d n X (k-1)))))≤134217792:=(by rw [ln_neg];exact Lt67)
  refine cl (vs:= [.agg #[.bool s72,.slice A72 n72 c72]]) hw6 (g_zint_Neg hw6.size ((z72.ext e75).updT hb76 u85).zi (z72.le (lx_ Lt67 rfl))) rfl (by kernel_rfl) fun xr90 v88 r90 e89 hw7=>?_
  obtain⟨s91,A91,n91,c91,rfl,z91⟩:=r90
  refine mv 1 rfl (cl (vs:= [.int .i64 ((k:Nat):Int)]) hw7 (g_zint_Of hw7.size (by omega) (by omega)) rfl (by kernel_rfl) fun xr94 v92 r94 e93 hw8=>?_)
  obtain⟨s95,A95,n95,c95,rfl,z95⟩:=r94
  have L96:ln ((-(tr n (mm n X (mk d n X (k-1))))).tdiv ((k:Nat):Int))≤134217728:=by rw [hdk];exact hBk
  refine cl (vs:= [.agg #[.bool s91,.slice A91 n91 c91],.agg #[.bool s95,.slice A95 n95 c95]]) hw8 (g_zint_Exact hw8.size (z91.ext e93).zi (z91.le (lx_ L87 rfl)) z95.zi (z95.le (Nat.le_trans (ln_w1 (by omega) (by omega)) (by decide))) hk0 ⟨d k,htr⟩) rfl (by kernel_rfl) fun xr99 v97 r99 e98 hw9=>?_
  obtain⟨_,_,rfl,⟨s101,A101,n101,c101,rfl,z101⟩,rfl⟩:=r99
  refine mv 1 rfl (pu (v:= .agg #[.bool s101,.slice A101 n101 c101]) rfl (by kernel_rfl) (pu (v:= .int .i64 0) rfl (by kernel_rfl) (wl_alloc rfl (z:= .agg #[F0,S0]) (vs:= [F0,S0]) (fun _=>by kernel_rfl) rfl (by decide) fun g102 v103 nb=>?_)))
  have hb105:=nb.bk
  have ge106:w.heap.size≤g102:=by rw [←nb.at_];exact hw9.size
  have q107:g73<g102:=by rw [←nb.at_];exact (hb84.ext (e89.trans (e93.trans e98))).lt
  have ne108:∀p:Addr,(some ⟨g9,0,none⟩)=some p→p.block≠g102:=fun p hp=>by have:=((((((l_someg90none.ext e56).updT hb63 u65 l_someg90none_g36).ext (e69.trans e75)).updT hb76 u85 ne79).ext (e89.trans (e93.trans e98)))).block p hp;have:=nb.at_;omega
  have ne109:∀p:Addr,LM=some p→p.block≠g102:=fun p hp=>by have:=((((((l_LM.ext e56).updT hb63 u65 l_LM_g36).ext (e69.trans e75)).updT hb76 u85 ne80).ext (e89.trans (e93.trans e98)))).block p hp;have:=nb.at_;omega
  have ne110:∀p:Addr,LA60=some p→p.block≠g102:=fun p hp=>by have:=(((((lz60.updT hb63 u65 (show∀p:Addr,LA60=some p→p.block≠g36 from fun p hp=>by have:=blk61 p hp;omega)).ext (e69.trans e75)).updT hb76 u85 ne81).ext (e89.trans (e93.trans e98)))).block p hp;have:=nb.at_;omega
  have e104:=nb.ext
  clear nb
  have hw10:=hw9.trans e104
  refine so aggInt hb105 [.bool s101,.slice A101 n101 c101] hw10 ge106 rfl rfl rfl rfl fun v111 hb113 u114 hw11=>(mv 1 rfl (ne_ (sr (mv 3 rfl (wl_ar rfl rfl rfl ((n-k:Nat):Int) (ai_sub (a:=n) (b:=k) rfl rfl (by omega) (by omega)) (by decide) (lo aggInt hb113 [.bool s101,.slice A101 n101 c101] rfl rfl rfl ?_))))))
  obtain⟨pz116,sz116,Bz116,nz116,cz116,hpz116,ldz116,hKz116,ez116⟩:=(((((((l_someg90none.ext e56).updT hb63 u65 l_someg90none_g36).ext (e69.trans e75)).updT hb76 u85 ne79).ext (e89.trans (e93.trans (e98.trans e104)))).updT hb105 u114 ne108)).at (i:=n-k) (by omega)
  have zz116:=ez116.zr
  have Lz116:ln (ps.getD (n-k) 0)≤17179869184:=zz116.ln_le hKz116
  refine wl_idx rfl rfl rfl elemI aggInt.size (n-k) rfl (by omega) pz116 hpz116 (by decide) ?_
  have lt122:=((((((l_someg90none.ext e56).updT hb63 u65 l_someg90none_g36).ext (e69.trans e75)).updT hb76 u85 ne79).ext (e89.trans (e93.trans (e98.trans e104)))).updT hb105 u114 ne108)
  obtain⟨us120,own121⟩:=lt122.own
  refine wl_setI (e:=⟨s101,A101,n101,c101⟩) (z:=(-(tr n (mm n X (mk d n X (k-1))))).tdiv ((k:Nat):Int)) rfl rfl rfl hpz116 (by omega) lt122 (Or.inl ((z101.ext e104).updT hb105 u114)) (z101.le (lx_ L96 rfl)) fun v117 lz118 uo119=>?_
  have hw12:=uo119.ext hw11 (fun p hp=>by have:=blk50 p hp;omega)
  have hlblz118:g9≤v117.heap.size:=Nat.le_trans (Nat.le_trans (Nat.le_trans (Nat.le_trans (Nat.le_trans (Nat.le_trans (Nat.le_trans (Nat.le_trans (Nat.le_trans (Nat.le_trans (Nat.le_trans l_someg90noneb e56.size) u65.by_.size) e69.size) e75.size) u85.by_.size) e89.size) e93.size) e98.size) e104.size) u114.by_.size) uo119.size
  refine ne_ (cw_region (lo aggMat (((((hb64.ext (e69.trans e75)).updN u85 (by omega)).ext (e89.trans (e93.trans (e98.trans e104)))).updN u114 (by omega)).updO uo119 l_someg90none_g36) [.int .i64 ((n:Nat):Int),.int .i64 ((n:Nat):Int),.slice LA60 (n*n) lc60] rfl rfl rfl (lo aggInt (hb113.updO uo119 ne108) [.bool s101,.slice A101 n101 c101] rfl rfl rfl ?_)))
  have zc123:=((((z101.ext e104).updT hb105 u114).updOT own121 uo119)).cast hdk
  have lt131:=Lz.mono (b':=0) (((((((lz60.updT hb63 u65 (show∀p:Addr,LA60=some p→p.block≠g36 from fun p hp=>by have:=blk61 p hp;omega)).ext (e69.trans e75)).updT hb76 u85 ne81).ext (e89.trans (e93.trans (e98.trans e104)))).updT hb105 u114 ne110).updO own121 uo119 (fun p q hp hq e=>(show∀p q:Addr,LA60=some p→(some ⟨g9,0,none⟩)=some q→p.block≠q.block from fun p q hp hq=>by have:=blk61 p hp;have:=hql53 q hq;omega) q p hq hp e.symm))) (Nat.le_refl _) (Nat.zero_le _) (Nat.le_refl _)
  obtain⟨us129,own130⟩:=lt131.own
  refine wl_call rfl rfl (vs:= [.agg #[.int .i64 ((n:Nat):Int),.int .i64 ((n:Nat):Int),.slice LA60 (n*n) lc60],.agg #[.bool s101,.slice A101 n101 c101]]) (by kernel_rfl) (by decide) (g_chp_lift (X:=mm n X (mk d n X (k-1))) lt131 (Nat.le_trans (Nat.le_trans (Nat.le_trans (Nat.le_trans (Nat.le_trans (Nat.le_trans (Nat.le_trans (Nat.le_trans (Nat.le_trans (Nat.le_trans (Nat.le_trans hlb52 e56.size) u65.by_.size) e69.size) e75.size) u85.by_.size) e89.size) e93.size) e98.size) e104.size) u114.by_.size) uo119.size) hz60 hn (fun i hi=>Nat.le_trans (ln_add (hB3 i i hi hi) hBk) (by decide)) zc123 (zc123.le (lx_ hBk rfl))) ?_
  rintro _ v124 ⟨ys125,rfl,lz126,hX127,uo128⟩
  refine ret_intro ?_
  have hw13:=uo128.ext hw12 (fun p hp=>by have:=blk61 p hp;omega)
  have hlblz126:lb52≤v124.heap.size:=Nat.le_trans (Nat.le_trans (Nat.le_trans (Nat.le_trans (Nat.le_trans (Nat.le_trans (Nat.le_trans (Nat.le_trans (Nat.le_trans (Nat.le_trans (Nat.le_trans (Nat.le_trans hlb52 e56.size) u65.by_.size) e69.size) e75.size) u85.by_.size) e89.size) e93.size) e98.size) e104.size) u114.by_.size) uo119.size) uo128.size
  refine wl_nil (eo_block_normal (eo_then (cw_region (mv 1 rfl (wl_ar rfl rfl rfl ((k+1:Nat):Int) (ai_add (a:=k) (b:=1) rfl rfl (by omega)) (by decide) (mv 1 rfl (wl_nil ?_)))))))
  have l0132:=Lz.mono (b':=0) (lb':=w.heap.size) (lz126) (Nat.le_refl _) (Nat.zero_le _) hgl52
  refine eo_round (⟨v124,k+1,LA60,lc60,ys125,ps.set (n-k) ((-(tr n (mm n X (mk d n X (k-1))))).tdiv ((k:Nat):Int))⟩:World×Nat×Option Addr×Nat×List Int×List Int) ⟨hw13,(by omega),((((((((b_g1.ext e56).updN u65 (by omega)).ext (e69.trans e75)).updN u85 (by omega)).ext (e89.trans (e93.trans (e98.trans e104)))).updN u114 (by omega)).updO uo119 l_someg90none_g1).updO uo128 (show∀p:Addr,LA60=some p→p.block≠g1 from fun p hp=>by have:=blk61 p hp;omega)),((((((hb64.ext (e69.trans e75)).updN u85 (by omega)).ext (e89.trans (e93.trans (e98.trans e104)))).updN u114 (by omega)).updO uo119 l_someg90none_g36).updO uo128 (show∀p:Addr,LA60=some p→p.block≠g36 from fun p hp=>by have:=blk61 p hp;omega)),(Nat.le_trans hlblz118 uo128.size),(lz118.updO own130 uo128 (show∀p q:Addr,LA60=some p→(some ⟨g9,0,none⟩)=some q→p.block≠q.block from fun p q hp hq=>by have:=blk61 p hp;have:=hql53 q hq;omega)),l_someg90none_g1,l_someg90none_g36,hw13.size,l0132,(show∀p:Addr,LA60=some p→p.block≠g1 from fun p hp=>by have:=blk61 p hp;omega),(show∀p:Addr,LA60=some p→p.block≠g36 from fun p hp=>by have:=blk61 p hp;omega),(show∀p q:Addr,LA60=some p→(some ⟨g9,0,none⟩)=some q→p.block≠q.block from fun p q hp hq=>by have:=blk61 p hp;have:=hql53 q hq;omega),(by omega),(chl_s hps l_someg90none.len hkn hdk),(En.cong (fun i j hi hj=>mk_lf1 d X hk1 hi hj) _ hX127)⟩ (show (n+1)-(k+1)<(n+1)-k by omega) rfl ⟨rfl,rfl,rfl,rfl,rfl,rfl,rfl,rfl,rfl,rfl,rfl,rfl,rfl,rfl,rfl,rfl,rfl,rfl,rfl,rfl,rfl,rfl,rfl,rfl,rfl,rfl,rfl,trivial⟩
 · 
  refine cw_region (mv 2 rfl (wl_cmp rfl rfl rfl false (cb_le_f (a:=k) (b:=n) rfl rfl (by omega)) (by decide) (ne_ (cw_false rfl (cw_exit (eo_thenX (eo_loopX (eo_block_here (eo_then (sr (mv 3 rfl (ne_ (cw_ret ?_)))))))))))))
  refine eo_ret [.slice (some ⟨g9,0,none⟩) (n+1) (n+1),I0] rfl ⟨rfl,rfl,trivial⟩ ?_
  exact⟨_,rfl,⟨_,_,rfl,⟨_,_,_,rfl,(l_someg90none).mono (Nat.le_refl _) hb (Nat.le_trans hlb hglg9),(fun j hj=>hps j (by omega))⟩,rfl⟩,hw1⟩
set_option maxHeartbeats 4000000 in
theorem g_mat_Lines1 {w:World}{r c cap K gm lp:Nat}{A:Option Addr}{xs:List Int}{X:Mx}(J:Nat→World→Prop) (hJm:∀k W,J k W→Bk W gm 24 [.int .i64 ((r:Nat):Int),.int .i64 ((c:Nat):Int),.slice A (r*c) cap]∧ZF W A (r*c) cap K xs) (hr:r≤64) (hc:c≤64) (hKB:K≤17179869184) (hX:En r c X xs) (hY:∀(k:Nat) W0 W1 LA lc zs,k<r→J k W0→Ext W0 W1→Lz none K 0 W1 W0.heap.size LA c lc zs→(∀j,j<c→zs.getD j 0=X k j)→YieldAt Fence.wide 8 Try.prog lp #[.int .i64 (k:Int),.slice LA c lc] W1 (fun e W'=>e= .returned (.bool true)∧J (k+1) W')) (h0:J 0 w):
    Calls Try.prog 73 #[.func (.yield lp) #[] #[],.pointer (some ⟨gm,0,none⟩)] w (fun e w'=>(∃v,e= .returned v)∧J r w'):=by
 obtain⟨hbm0,hzf0⟩:=hJm 0 w h0
 have hrc:=ix_64 hr hc
 refine sx_enter Try.func73 rfl (n:=27) rfl (bq rfl) (args:= [.func (.yield lp) #[] #[],.pointer (some ⟨gm,0,none⟩)]) ?_
 have hlt_gm:=hbm0.lt
 refine cw_keep [(0,.func (.yield lp) #[] #[]),(1,.pointer (some ⟨gm,0,none⟩))] ⟨rfl,rfl,trivial⟩ (sr (pf gm 0 rfl (by kernel_rfl) (wl_load rfl rfl (load_cell cellInt hbm0 rfl) (by decide) (mv 1 rfl (ne_ (cw_block ?_))))))
 refine cw_loop (T:=World×Nat) (fun⟨wr,i⟩=> [(0,.func (.yield lp) #[] #[]),(1,.pointer (some ⟨gm,0,none⟩)),(4,.pointer (some ⟨gm,0,none⟩)),(5,.int .i64 ((r:Nat):Int)),(6,.int .i64 ((i:Nat):Int))]) (fun⟨wr,i⟩=>wr) (fun⟨wr,i⟩=>(True)∧(i≤r)∧(J i wr)) (fun⟨wr,i⟩=>r-i)
  (⟨w,0⟩:World×Nat) ⟨trivial,(by omega),h0⟩ rfl ⟨rfl,rfl,rfl,rfl,rfl,trivial⟩ ?_
 rintro⟨wr,i⟩ ⟨hw1,hi_i,hJ⟩
 refine cw_re [(0,.func (.yield lp) #[] #[]),(1,.pointer (some ⟨gm,0,none⟩)),(4,.pointer (some ⟨gm,0,none⟩)),(5,.int .i64 ((r:Nat):Int)),(6,.int .i64 ((i:Nat):Int))] wr rfl ⟨rfl,rfl,rfl,rfl,rfl,trivial⟩ ?_
 obtain⟨hbm,hzf⟩:=hJm i wr hJ
 refine cw_seq ?_
 by_cases hir:i<r
 · 
  refine cw_region (wl_cmp rfl rfl rfl true (cb_lt_t (a:=i) (b:=r) rfl rfl (by omega)) (by decide) (ne_ (cw_seq (cw_true rfl (cw_skip (eo_then (cw_seq (cw_block (sr (mv 2 rfl (ne_ (cw_seq ?_))))))))))))
  have hx1:=ix_64 (show i≤64 by omega) hc
  have hx2:=ix_64 (show i+1≤64 by omega) hc
  have hx3:=Nat.mul_le_mul_right c (show i+1≤r by omega)
  have hx4:i*c≤(i+1)*c:=Nat.mul_le_mul_right c (by omega)
  obtain⟨ms9,hl9,hm9⟩:=hzf
  have hcap:=hl9.le
  have hzf:ZF wr A (r*c) cap K xs:=⟨ms9,hl9,hm9⟩
  refine cw_regionW 9 (wlW_at 15 (fun⟨_,_,h⟩=>by obtain⟨⟨_,hv⟩,_⟩:=h;cases hv) rfl (mv 2 rfl (pf gm 2 rfl (by kernel_rfl) (wl_load rfl rfl (load_cell cellInts hbm rfl) (by decide) (mv 1 rfl (pf gm 1 rfl (by kernel_rfl) (wl_load rfl rfl (load_cell cellInt hbm rfl) (by decide) (wl_ar rfl rfl rfl ((i*c:Nat):Int) (ai_mul (a:=i) (b:=c) rfl rfl (by omega)) (by decide) (mv 1 rfl (wl_ar rfl rfl rfl ((i+1:Nat):Int) (ai_add (a:=i) (b:=1) rfl rfl (by omega)) (by decide) (pf gm 1 rfl (by kernel_rfl) (wl_load rfl rfl (load_cell cellInt hbm rfl) (by decide) (wl_ar rfl rfl rfl (((i+1)*c:Nat):Int) (ai_mul (a:=i+1) (b:=c) rfl rfl (by omega)) (by decide) ?_)))))))))))))
  refine wl_slice rfl rfl elemI aggInt.size (lo:=i*c) (hi:=(i+1)*c) rfl rfl (by omega) (by omega) (v:= .slice (if cap=i*c then A else A.map (·.add (i*c*2))) c (cap-i*c)) (by rw [sub_row]) (by decide) (wl_call rfl rfl (vs:= [.slice (if cap=i*c then A else A.map (·.add (i*c*2))) c (cap-i*c),.func (.func 39) #[] #[]]) (by kernel_rfl) (by decide) (g_mat_each (b:=0) (lb:=wr.heap.size) (Nat.zero_le _) (Nat.le_refl _) (hzf.row hir) (by omega) hKB) ?_)
  rintro _ v1 ⟨x1,rfl,⟨LA,lc,rfl,lz⟩,e1⟩
  refine ret_intro (wl_nil (eo_thenL (wlW_yield [.int .i64 ((i:Nat):Int),.slice LA c lc] rfl rfl (by decide) (hY i wr v1 LA lc _ hir hJ e1 lz (fun j hj=>rowl_get hX hir hj)) ?_)))
  rintro _ v2 ⟨rfl,hJ2⟩
  refine ret_intro (wlW_wl (fun⟨_,_,h⟩=>by obtain⟨⟨_,hv⟩,_⟩:=h;cases hv) rfl (pu (v:= .bool false) rfl (by kernel_rfl) (ne_ (cw_false rfl (cw_skip (eo_block_normal (eo_then (cw_region (wl_ar rfl rfl rfl ((i+1:Nat):Int) (ai_add (a:=i) (b:=1) rfl rfl (by omega)) (by decide) (mv 1 rfl (wl_nil (eo_round (⟨v2,i+1⟩:World×Nat) ⟨trivial,(by omega),hJ2⟩ (show r-(i+1)<r-i by omega) rfl ⟨rfl,rfl,rfl,rfl,rfl,trivial⟩))))))))))))
 · 
  refine cw_region (wl_cmp rfl rfl rfl false (cb_lt_f (a:=i) (b:=r) rfl rfl (by omega)) (by decide) (ne_ (cw_seq (cw_false rfl (cw_exit (eo_thenX (eo_loopX (eo_block_here (eo_end [] rfl trivial ?_)))))))))
  exact⟨⟨_,rfl⟩,(show i=r by omega)▸hJ⟩
set_option maxHeartbeats 4000000 in
theorem g_mat_Lines {w:World}{r c K:Nat}{Aa:Option Addr}{na capa:Nat}{xs:List Int}(hxa:ZF w Aa na capa K xs) (hr:r≤64) (hc:c≤64) (hna:na=r*c) (hKB:K≤17179869184):
    Calls Try.prog 61 #[.agg #[.int .i64 ((r:Nat):Int),.int .i64 ((c:Nat):Int),.slice Aa na capa]] w (Gv w (fun v w'=>∃gm A cap,v= .func (.func 73) #[] #[.pointer (some ⟨gm,0,none⟩)]∧w.heap.size≤gm∧Bk w' gm 24 [.int .i64 (r:Int),.int .i64 (c:Int),.slice A na cap]∧Lz none K 0 w' w.heap.size A na cap xs)):=by
 have hlb:w.heap.size≤w.heap.size:=Nat.le_refl _
 have hxa0:=hxa
 obtain⟨msa,hla,hma⟩:=hxa
 refine sx_enter Try.func61 rfl (n:=11) rfl (bq rfl) (args:= [.agg #[.int .i64 ((r:Nat):Int),.int .i64 ((c:Nat):Int),.slice Aa na capa]]) (cw_keep [(0,.agg #[.int .i64 ((r:Nat):Int),.int .i64 ((c:Nat):Int),.slice Aa na capa])] ⟨rfl,trivial⟩ (sr (bx [.int .i64 ((r:Nat):Int),.int .i64 ((c:Nat):Int),.slice Aa na capa] (Ext.refl w) rfl rfl rfl fun g1 v2 hb4 ge5 e3 hw1=>(mv 1 rfl (ne_ (sr (lo aggMat hb4 [.int .i64 ((r:Nat):Int),.int .i64 ((c:Nat):Int),.slice Aa na capa] rfl rfl rfl ?_)))))))
 obtain⟨lb6,hlb6,hlelb6,hgl6,hq6_0⟩:∃lb,lb≤v2.heap.size∧v2.heap.size≤lb∧w.heap.size≤lb∧g1<lb:=⟨v2.heap.size,Nat.le_refl _,Nat.le_refl _,hw1.size,hb4.lt⟩
 refine cl (vs:= [.agg #[.int .i64 ((r:Nat):Int),.int .i64 ((c:Nat):Int),.slice Aa na capa]]) hw1 (g_mat_Least hw1.size hlb6 (hxa0.ext hw1) hr hc hna hKB) rfl (by kernel_rfl) fun xr9 v7 r9 e8 hw2=>?_
 obtain⟨_,_,rfl,⟨lv11,rfl,⟨LA12,lc12,rfl,lz12⟩⟩,r10_1⟩:=r9
 have blk13:=lz12.block
 obtain rfl:=r10_1
 refine mv 1 rfl (pu (v:= .agg #[.int .i64 ((r:Nat):Int),.int .i64 ((c:Nat):Int),.slice LA12 na lc12]) rfl (by kernel_rfl) (pu (v:= .int .i64 0) rfl (by kernel_rfl) (wl_alloc rfl (z:= .agg #[I0,I0,S0]) (vs:= [I0,I0,S0]) (fun _=>by kernel_rfl) rfl (by decide) fun g14 v15 nb=>?_)))
 have hb17:=nb.bk
 have ge18:w.heap.size≤g14:=by rw [←nb.at_];exact hw2.size
 have q19:g1<g14:=by rw [←nb.at_];exact (hb4.ext e8).lt
 have ne20:∀p:Addr,LA12=some p→p.block≠g14:=fun p hp=>by have:=(lz12).block p hp;have:=nb.at_;omega
 have e16:=nb.ext
 clear nb
 have hw3:=hw2.trans e16
 refine so aggMat hb17 [.int .i64 ((r:Nat):Int),.int .i64 ((c:Nat):Int),.slice LA12 na lc12] hw3 ge18 rfl rfl rfl rfl fun v21 hb23 u24 hw4=>(mv 1 rfl (ne_ (sr (pu (v:= .func (.func 73) #[] #[.pointer (some ⟨g14,0,none⟩)]) rfl (by kernel_rfl) (mv 1 rfl (ne_ (cw_ret (eo_ret [.func (.func 73) #[] #[.pointer (some ⟨g14,0,none⟩)]] rfl ⟨rfl,trivial⟩ ?_))))))))
 exact⟨_,rfl,⟨g14,LA12,lc12,rfl,ge18,hb23,(((lz12.ext e16).updT hb17 u24 ne20)).mono (Nat.le_refl _) (Nat.zero_le _) hgl6⟩,hw4⟩
theorem below_put {m l:Nat}(h:m≤l) (W:World) (hl:l<W.heap.size) (o:Obj):Below m W (W.putObj l o):=(Below.refl m W).grown (grownBy_putObj' W l o) (by omega) (fun k e=>by cases e;exact h)
section
variable {Q:Exit→Act→World→Prop}{n:Nat}{l:Fr}{w:World}
theorem cw_lines {g:Operand}{ps:Array Tmp}{assign body:Code}{r c cap K gm p0 p1:Nat}{A:Option Addr}{xs:List Int}{X:Mx}
  (hg:evo l g=some (.func (.func 73) #[] #[.pointer (some ⟨gm,0,none⟩)])) (hps:ps= #[p0,p1]) (hp0:p0<n) (hp1:p1<n) (hr:r≤64) (hc:c≤64) (hKB:K≤17179869184) (hX:En r c X xs)
  (I:Nat→Nat→World→Prop) (hIm:∀k b W,I k b W→Bk W gm 24 [.int .i64 (r:Int),.int .i64 (c:Int),.slice A (r*c) cap]∧ZF W A (r*c) cap K xs)
  (hIx:∀k b V W,I k b V→Ext V W→I k b W) (hIb:∀k b W,I k b W→I k W.heap.size W) (hIn:∀k b V W,I k b V→Nc V W→Below w.heap.size V W→I k b W) (h0:I 0 w.heap.size w) (l2:Value→Value→Fr)
  (hassign:∀(lp:Nat) (v0 v1:Value) (Kp:Act→World→Prop) (W:World),(∀a,Rp n (l2 v0 v1) a→Kp a W)→ci (Fence.wide.inRound lp) 8 Try.prog (Exit.then Kp (fun _ _ _=>False)) n assign ((p1,v1)::(p0,v0)::l) W)
  (hbody:∀(lp k b:Nat) (W:World) (LA:Option Addr) (lc:Nat) (zs:List Int) (Q':Exit→Act→World→Prop),k<r→I k b W→b≤W.heap.size→Lz none K 0 W b LA c lc zs→(∀j,j<c→zs.getD j 0=X k j)→¬LetsOut Q'→
   (∀a W',KeepsFrom w.heap.size W W'→I (k+1) W'.heap.size W'→Q' .normal a W')→ci (Fence.wide.inRound lp) 8 Try.prog Q' n body (l2 (.int .i64 (k:Int)) (.slice LA c lc)) W)
  (hdone:∀(D b:Nat) (W:World),w.heap.size≤D→I r b W→W.heap[D]?=some (.deferred (some []))→∀a,Rp n l a→Q .normal {a with defers:= [{target:= .collected D,args:= #[]}]} W):
  cw Try.prog Q n (.rangeFunc g ps assign body) l w:=by
 subst hps
 intro a ha
 refine (wpIn_wide (n:=9)).1 (wpIn_rangeFunc (fun fn hfn=>?_))
 obtain⟨rec,hrec⟩:∃rec:LoopState→Option Code→Loop,rec=fun st pe=>{state:=st,pending:=pe,fn,tmps:=a.tmps,params:= #[p0,p1],assign,body,defers:=w.heap.size}:=⟨_,rfl⟩
 obtain⟨W1,hW1⟩:∃W1,(w.alloc (.deferred (some []))).alloc (.loop (rec .ready none))=W1:=⟨_,rfl⟩
 have hL1:W1.heap[w.heap.size+1]?=some (.loop (rec .ready none)):=by
  rw [←hW1];have:=World.alloc_heap_new (w.alloc (.deferred (some []))) (.loop (rec .ready none));rwa [World.size_alloc] at this
 have hK1:W1.heap[w.heap.size]?=some (.deferred (some [])):=by
  rw [←hW1];exact (Below.heap_alloc _ _ _ (by simp)).trans (World.alloc_heap_new w _)
 have hE1:Ext w W1:=by rw [←hW1];exact ((Ext.refl w).alloc _).alloc _
 refine⟨w.heap.size+1,[{target:= .collected w.heap.size,args:= #[]}],W1,{target:= .fn (.func 73) #[.pointer (some ⟨gm,0,none⟩)],args:= #[.func (.yield (w.heap.size+1)) #[] #[]]},W1,73,
  #[.func (.yield (w.heap.size+1)) #[] #[],.pointer (some ⟨gm,0,none⟩)],W1,?_,?_,fun _ _=>trivial,?_,fun h=>(by cases h),?_⟩
 ·rw [←hW1,hrec];exact run_enterLoop_outer _ _ _ _ _
 ·simp only [resolve,ha.ev hg]
  simp [go_sem]
 ·have:=enters_of Try.func73 (by kernel_rfl) rfl #[.func (.yield (w.heap.size+1)) #[] #[],.pointer (some ⟨gm,0,none⟩)] W1
  simp [invoke,this]
 ·refine callsIn_wide.2 ((g_mat_Lines1 (w:=W1) (fun k W=>(∃b,I k b W)∧W.heap[w.heap.size+1]?=some (.loop (rec .ready none))∧W.heap[w.heap.size]?=some (.deferred (some []))) (fun k W hJ=>by obtain⟨⟨b,h⟩,_⟩:=hJ;exact hIm k b W h) hr hc hKB hX ?_ ⟨⟨_,hIx _ _ _ _ h0 hE1⟩,hL1,hK1⟩).mono ?_)
  ·intro k W0 W2 LA lc zs hk hJ e hz hent
   obtain⟨⟨b,hI⟩,hl,hd⟩:=hJ
   have hl2:=e.heap hl
   have hd2:=e.heap hd
   have hlt:w.heap.size+1<W2.heap.size:=(Array.getElem?_eq_some_iff.1 hl2).1
   have hy:=run_yield (P:=Try.prog) (args:= #[.int .i64 (k:Int),.slice LA c lc]) hl2 (by rw [hrec];rfl)
   rw [hrec] at hy
   refine⟨fn,_,assign,body,hy,roundIn_of_wpIn hfn ?_⟩
   have hact:({tmps:=((#[p0,p1]:Array Tmp).zip #[.int .i64 (k:Int),.slice LA c lc]).foldl (fun tmps (t,a)=>tmps.setIfInBounds t a) a.tmps,defers:= []}:Act)=(a.put (some p0) (.int .i64 (k:Int))).put (some p1) (.slice LA c lc):=by
    simp [Act.put,ha.nod]
   rw [hact]
   refine hassign (w.heap.size+1) _ _ _ W2 (fun a1 ha1=>?_) _ ((ha.put hp0 _).put hp1 _)
   have hlk:W2.heap[w.heap.size+1]?=some (.loop (rec .ready none)):=hl2
   refine⟨_,run_beginRound hlk (by rw [hrec]),?_⟩
   have hl3:(W2.putObj (w.heap.size+1) (.loop {rec .ready none with state:= .busy})).heap[w.heap.size+1]?=some (.loop {rec .ready none with state:= .busy}):=World.putObj_heap_same hlt
   have hd3:(W2.putObj (w.heap.size+1) (.loop {rec .ready none with state:= .busy})).heap[w.heap.size]?=some (.deferred (some [])):=(World.putObj_heap_other (by omega)).trans hd2
   have hnc:Nc W2 (W2.putObj (w.heap.size+1) (.loop {rec .ready none with state:= .busy})):=Nc.put _ hl2 rfl
   refine hbody (w.heap.size+1) k W0.heap.size _ LA lc zs _ hk (hIn _ _ _ _ (hIx _ _ _ _ (hIb _ _ _ hI) e) hnc (below_put (by omega) _ hlt _)) (Nat.le_trans e.size hnc.size) (hz.nc hnc) hent (fun⟨_,_,h⟩=>h) (fun a3 W3 hkf hI3=>?_) _ ha1
   have hl4:=hkf.same _ _ (by omega) hl3 rfl
   have hd4:=hkf.same _ _ (Nat.le_refl _) hd3 rfl
   have hr4:=run_endRound (P:=Try.prog) none hl4
   refine⟨_,_,hr4,rfl,⟨_,hIn _ _ _ _ hI3 (Nc.put _ hl4 rfl) (below_put (by omega) _ (Array.getElem?_eq_some_iff.1 hl4).1 _)⟩,?_,(World.putObj_heap_other (by omega)).trans hd4⟩
   rw [World.putObj_heap_same (Array.getElem?_eq_some_iff.1 hl4).1,hrec];rfl
  ·rintro e W2 ⟨⟨v,rfl⟩,⟨b,hI⟩,hl,hd⟩
   have hr2:=run_endLoop (P:=Try.prog) hl (by rw [hrec];simp)
   have hr3:(Instr.endLoop (w.heap.size+1)).run Try.prog W2= .ok none (W2.putObj (w.heap.size+1) (.loop {rec .ready none with state:= .exhausted})):=by
    rw [hr2,hrec]
   refine⟨none,_,hr3,?_⟩
   have:=hdone w.heap.size b _ (Nat.le_refl _) (hIn _ _ _ _ hI (Nc.put (.loop {rec .ready none with state:= .exhausted}) hl rfl) (below_put (by omega) _ (Array.getElem?_eq_some_iff.1 hl).1 _)) ((World.putObj_heap_other (by omega)).trans hd) a ha
   show Q .normal {a with defers:= [{target:= .collected w.heap.size,args:= #[]}]++a.defers} _
   rw [ha.nod]
   rw [hrec] at this⊢
   exact this
end
theorem sx_enterM {n:Nat}{w:World}{f:FuncId}{fn:Func}{c:Code}{args:List Value}{R:Ending→World→Prop}(hf:Try.prog.funcs[f]?=some fn) (hb:fn.body=some c) (hn:fn.ntmps=n) (hle:args.length≤n)
  (h:cw Try.prog (bodyPostM Fence.wide 9 Try.prog fn R) n c (argFr args 0) w):Calls Try.prog f args.toArray w R:=by
 refine (callsIn_wide (n:=9)).1 (callsIn_of_wp_marks hf hb trivial (wpIn_wide.2 (h _ ⟨?_,rfl,fun i v hi=>?_⟩)))
 ·simp [hn];omega
 ·obtain⟨_,h2⟩:=look_argFr args 0 i v hi
  rw [Nat.sub_zero] at h2
  have hlt:i<args.length:=(List.getElem?_eq_some_iff.1 h2).1
  simp only [Array.getD_eq_getD_getElem?]
  rw [Array.getElem?_append_left (by simpa using hlt)]
  simp [h2]
structure DR (E:World→World→Prop):Prop where
 refl:∀w,E w w
 trans:∀{a b c},E a b→E b c→E a c
 drew:∀w,E w w.drew
section
variable (E:World→World→Prop)
def DepE (ol:List Oper) (Rs:List (Value→World→Prop)) (w0 w1:World) (k:Fr→Prop):List Nat→Fr→Prop
 | [],acc=>k acc
 | j::ds,acc=>∀v wj,Rat Rs j v wj→E w0 wj→E wj w1→DepE ol Rs w0 w1 k ds (putl (dstOf ol j) v acc)
def PiE (w1:World) (d:Option Tmp) (R:Value→World→Prop):Exit→Act→World→Prop
 | .normal,a,w=>E w1 w∧R (slotv a d) w∧a.defers= []
 | _,_,_=>False
def HObE (P:Program) (n:Nat) (ol:List Oper) (Rs:List (Value→World→Prop)) (l:Fr) (w0:World) (i:Nat) (o:Oper) (ds:List Nat):Prop:=
 ∀w1,E w0 w1→DepE E ol Rs w0 w1 (fun acc=>wl P ol.toArray (PiE E w1 o.dst (Rat Rs i)) n [o] acc w1) ds l
def ObsE (P:Program) (n:Nat) (ol:List Oper) (Rs:List (Value→World→Prop)) (l:Fr) (w0:World):List (List Nat)→Nat→Prop
 | [],_=>True
 | ds::dss,i=>(match ol[i]? with | some o=>HObE E P n ol Rs l w0 i o ds | none=>True)∧ObsE P n ol Rs l w0 dss (i+1)
def FactE (ol:List Oper) (Rs:List (Value→World→Prop)) (w0:World) (i:Nat) (a:Act) (w:World):Prop:=∃w1,E w0 w1∧E w1 w∧Rat Rs i (slotv a (dstOf ol i)) w1
end
section
variable {E:World→World→Prop}{F:Fence}{mm:Nat}{P:Program}{Q:Exit→Act→World→Prop}{n:Nat}{ol:List Oper}{m:Nat}{Rs:List (Value→World→Prop)}{l:Fr}{w0:World}{dss rl:List (List Nat)}
theorem depe_nil {w1:World}{k:Fr→Prop}{acc:Fr}(h:k acc):DepE E ol Rs w0 w1 k [] acc:=h
theorem depe_cons {w1:World}{k:Fr→Prop}{acc:Fr}{j:Nat}{ds:List Nat}{R:Value→World→Prop}{d:Nat}
  (hR:Rs[j]?=some R) (hd:dstOf ol j=some d) (h:∀v wj,R v wj→E w0 wj→E wj w1→DepE E ol Rs w0 w1 k ds ((d,v)::acc)):DepE E ol Rs w0 w1 k (j::ds) acc:=by
 intro v wj hr e e'
 have e1:Rat Rs j=R:=by unfold Rat;rw [hR];rfl
 have e2:putl (dstOf ol j) v acc=(d,v)::acc:=by rw [hd];rfl
 rw [e1] at hr
 rw [e2]
 exact h v wj hr e e'
theorem pie_done {ops:Array Oper}{d:Nat}{w1 w:World}{R:Value→World→Prop}{v:Value}(hv:look l d=some v) (hx:E w1 w) (hR:R v w):wl P ops (PiE E w1 (some d) R) n [] l w:=
 wl_nil fun a ha=>⟨hx,by show R (a.tmps.getD d undef) w;rw [ha.val d v hv];exact hR,ha.nod⟩
theorem hobe {k:Nat}{o:Oper}{ds:List Nat}{R:Value→World→Prop}(hR:Rs[k]?=some R) (h:∀w1,E w0 w1→DepE E ol Rs w0 w1 (fun acc=>wl P ol.toArray (PiE E w1 o.dst R) n [o] acc w1) ds l):HObE E P n ol Rs l w0 k o ds:=by
 have e:Rat Rs k=R:=by unfold Rat;rw [hR];rfl
 intro w1 hw
 rw [e]
 exact h w1 hw
theorem obse_nil {k:Nat}:ObsE E P n ol Rs l w0 [] k:=trivial
theorem obse_cons {k:Nat}{ds:List Nat}{dss:List (List Nat)}{o:Oper}(ho:ol[k]?=some o) (h:HObE E P n ol Rs l w0 k o ds) (h':ObsE E P n ol Rs l w0 dss (k+1)):ObsE E P n ol Rs l w0 (ds::dss) k:=
 ⟨by rw [ho];exact h,h'⟩
theorem DepE.apply {w1:World}{k:Fr→Prop}{a:Act}:∀(ds:List Nat) (acc:Fr),(∀j∈ds,FactE E ol Rs w0 j a w1)→DepE E ol Rs w0 w1 k ds acc→Rp n acc a→∃acc',Rp n acc' a∧k acc'
 | [],acc,_,h,hr=>⟨acc,hr,h⟩
 | j::ds,acc,hf,h,hr=>by
  obtain⟨wj,e1,e2,hR⟩:=hf j (by simp)
  refine DepE.apply ds _ (fun i hi=>hf i (by simp [hi])) (h _ wj hR e1 e2) ?_
  cases hd:dstOf ol j with
  | none=>exact hr
  | some d=>exact hr.cons rfl
theorem obse_get:∀{dss:List (List Nat)}{k:Nat},ObsE E P n ol Rs l w0 dss k→∀(i:Nat) (o:Oper),ol[k+i]?=some o→i<dss.length→HObE E P n ol Rs l w0 (k+i) o ((dss[i]?).getD [])
 | [],_,_,i,_,_,hi=>by simp at hi
 | ds::dss,k,h,0,o,ho,_=>by
  have:=h.1
  rw [show ol[k]?=some o from ho] at this
  simpa using this
 | ds::dss,k,h,i+1,o,ho,hi=>by
  have e:k+(i+1)=k+1+i:=by omega
  have:=obse_get h.2 i o (by rw [←e];exact ho) (by simpa using hi)
  rw [e]
  simpa using this
theorem step_factsE (hE:DR E) (hk:DrawOk n ol m [] l dss rl){listed:Array Bool}{a:Act}{w w':World}{i:Nat}{o:Oper}(ho:ol[i]?=some o) (him:i<m)
  (hm:∀i,m≤i→i<ol.length→listed.getD i false=false) (hr:Rp n l a) (hfact:∀i,i<ol.length→listed.getD i false=true→FactE E ol Rs w0 i a w)
  (hx:E w0 w) (e:E w w'){v:Value}(hR:Rat Rs i v w'):
  Rp n l (a.put o.dst v)∧∀j,j<ol.length→(listed.setIfInBounds i true).getD j false=true→FactE E ol Rs w0 j (a.put o.dst v) w':=by
 obtain⟨d,hd,hdn,hfar,hother⟩:=hk.dst i o ho him
 rw [hd]
 refine⟨hr.put_far hfar v,fun j hj hlj=>?_⟩
 by_cases hij:i=j
 ·subst hij
  refine⟨w',hE.trans hx e,hE.refl _,?_⟩
  have e1:dstOf ol i=some d:=by unfold dstOf;rw [ho];exact hd
  rw [e1,slotv_put hr.size hdn]
  exact hR
 ·rw [_root_.Go.getD_set_ne false hij] at hlj
  have hjm:j<m:=by
   rcases Nat.lt_or_ge j m with h | h
   ·exact h
   ·rw [hm j h hj] at hlj;cases hlj
  obtain⟨w1,e1,e2,h1⟩:=hfact j hj hlj
  refine⟨w1,e1,hE.trans e2 e,?_⟩
  rw [slotv_far]
  ·exact h1
  ·obtain⟨oj,hoj⟩:∃oj,ol[j]?=some oj:=⟨_,List.getElem?_eq_getElem hj⟩
   unfold dstOf
   rw [hoj]
   exact hother j oj hoj (Ne.symm hij) hjm
theorem head_anyE (hE:DR E) (hk:DrawOk n ol m [] l dss rl) (ho:ObsE E P n ol Rs l w0 dss 0)
  (hfin:∀w1,E w0 w1→DepE E ol Rs w0 w1 (fun acc=>wl P ol.toArray (NP Q) n (ol.drop m) acc w1) (List.range m) l):
  ∀(fuel:Nat) (listed:Array Bool) (a:Act) (w:World),unl ol.length listed≤fuel→listed.size=ol.length→Closed ol listed→(∀i,m≤i→i<ol.length→listed.getD i false=false)→Rp n l a→E w0 w→
   (∀i,i<ol.length→listed.getD i false=true→FactE E ol Rs w0 i a w)→wpAny P .any ol.toArray (NP Q) fuel listed a w:=by
 intro fuel
 induction fuel with
 | zero=>
  intro listed a w hf hs hcl hm hr hx hfact
  have hall:∀i,i<ol.length→listed.getD i false=true:=by
   intro i hi
   cases h:listed.getD i false with
   | true=>rfl
   | false=>have:=unl_set hi hs h;omega
  have hml:m=ol.length:=by
   rcases Nat.lt_or_ge m ol.length with h | h
   ·have h1:=hm m (Nat.le_refl _) h
    rw [hall m h] at h1;cases h1
   ·have:=hk.mle;omega
  obtain⟨acc,hacc,hwl⟩:=DepE.apply (n:=n) (List.range m) l (fun j hj=>hfact j (by have:=List.mem_range.1 hj;omega) (hall j (by have:=List.mem_range.1 hj;omega))) (hfin w hx) hr
  exact tail_any hk 0 m listed a w (Nat.le_refl _) (by omega) hf hs hcl (fun i hi=>by rw [hall i hi];simp;omega) (hwl a hacc)
 | succ fuel ih=>
  intro listed a w hf hs hcl hm hr hx hfact
  by_cases hdone:∀i,i<m→listed.getD i false=true
  ·obtain⟨acc,hacc,hwl⟩:=DepE.apply (n:=n) (List.range m) l (fun j hj=>hfact j (by have:=List.mem_range.1 hj;have:=hk.mle;omega) (hdone j (List.mem_range.1 hj))) (hfin w hx) hr
   exact tail_any hk (fuel+1) m listed a w (Nat.le_refl _) hk.mle hf hs hcl (fun i hi=>by
    rcases Nat.lt_or_ge i m with h | h
    ·rw [hdone i h];simpa using h
    ·rw [hm i h hi];simp;omega) (hwl a hacc)
  ·obtain⟨j,hjm,hjl,hleast⟩:∃j,j<m∧listed.getD j false=false∧∀i,i<j→listed.getD i false=true:=by
    have key:∀k,(∃j,j<m∧j<k∧listed.getD j false=false)→∃j,j<m∧listed.getD j false=false∧∀i,i<j→listed.getD i false=true:=by
     intro k
     induction k with
     | zero=>rintro⟨j,_,h,_⟩;omega
     | succ k ihk=>
      rintro⟨j,h1,h2,h3⟩
      by_cases hs':∃j,j<m∧j<k∧listed.getD j false=false
      ·exact ihk hs'
      ·refine⟨j,h1,h3,fun i hi=>?_⟩
       cases hb:listed.getD i false with
       | true=>rfl
       | false=>exact absurd ⟨i,by omega,by omega,hb⟩ hs'
    refine key m (Classical.byContradiction fun hno=>hdone fun i hi=>?_)
    cases hb:listed.getD i false with
    | true=>rfl
    | false=>exact absurd ⟨i,hi,hi,hb⟩ hno
   have hml:=hk.mle
   obtain⟨oj,hoj⟩:∃oj,ol[j]?=some oj:=⟨_,List.getElem?_eq_getElem (by omega)⟩
   have hjr:j∈Region.ready .any ol.toArray listed:=ready_iff.2 ⟨by rw [getD_tf (by omega)];exact hjl,oj,hoj,fun e he hb=>hleast _ (hk.back j oj hoj e he hb)⟩
   have facts_of:∀(i:Nat) (o:Oper),ol[i]?=some o→i<m→i∈Region.ready .any ol.toArray listed→∀k∈(dss[i]?).getD [],FactE E ol Rs w0 k a w:=by
    intro i o hoi him hir k hkd
    have h1:=hk.deps i o hoi him k hkd
    obtain⟨_,o',ho',hall⟩:=ready_iff.1 hir
    rw [hoi] at ho'
    cases ho'
    have h2:=hcl.reach hk i o hoi hall k h1
    have h3:k<listed.size:=by
     rcases Nat.lt_or_ge k listed.size with h' | h'
     ·exact h'
     ·simp [Array.getElem?_eq_none h'] at h2
    exact hfact k (by omega) h2
   refine⟨fun h0=>(by rw [h0] at hjr;cases hjr),fun i hir=>?_⟩
   obtain⟨hun,o,hoi,hall⟩:=ready_iff.1 hir
   have hil:i<ol.length:=(List.getElem?_eq_some_iff.1 hoi).1
   have him:i<m:=by
    rcases Nat.lt_or_ge i m with h | h
    ·exact h
    ·rcases hk.tail i o hoi h j (by omega) with h1 | h1
     ·cases h1
     ·have:=hcl.reach hk i o hoi hall j h1
      rw [hjl] at this;cases this
   have hun':listed.getD i false=false:=by rw [←getD_tf (by omega)];exact hun
   have hob:=obse_get (k:=0) ho i o (by simpa using hoi) (by rw [hk.dlen];exact him)
   rw [Nat.zero_add] at hob
   obtain⟨acc,hacc,hwl⟩:=DepE.apply (n:=n) _ l (facts_of i o hoi him hir) (hob w hx) hr
   have hl:=hwl a hacc
   have next:∀v w',PiE E w o.dst (Rat Rs i) .normal (a.put o.dst v) w'→wpAny P .any ol.toArray (NP Q) fuel (listed.setIfInBounds i true) (a.put o.dst v) w':=by
    intro v w' hpi
    obtain⟨e,hR,_⟩:=hpi
    have hv:Rat Rs i v w':=by
     obtain⟨d,hd,hdn,_⟩:=hk.dst i o hoi him
     rw [hd,slotv_put hr.size hdn] at hR
     exact hR
    obtain⟨h1,h2⟩:=step_factsE hE hk hoi him hm hr hfact hx e hv
    refine ih _ _ w' (by have:=unl_set hil hs hun';omega) (by simpa using hs) (hcl.set hoi hall) (fun k hmk hk'=>?_) h1 (hE.trans hx e) h2
    rw [_root_.Go.getD_set_ne false (by omega)];exact hm k hmk hk'
   have nolets:¬LetsOut (PiE E w o.dst (Rat Rs i)):=fun⟨_,_,h⟩=>h
   unfold wpOp
   rw [arr_get,hoi]
   unfold wpList at hl
   simp only at hl⊢
   split at hl
   ·rename_i hw
    rw [if_pos hw]
    rcases hl with hl | hl
    ·exact Or.inl (wp_conv hl (fun _ _ _ h=>h) nolets (fun a w h=>h.2.2) (fun v w' h=>next v w' h))
    ·exact absurd hl.2 nolets
   ·rename_i hw
    rw [if_neg hw]
    exact next _ _ hl
theorem draw_anyE (hE:DR E){w:World}(hk:drawOk n ol m [] l dss rl=true) (ho:ObsE E P n ol Rs l w dss 0)
  (hfin:∀w1,E w w1→DepE E ol Rs w w1 (fun acc=>wl P ol.toArray (NP Q) n (ol.drop m) acc w1) (List.range m) l) (a:Act) (ha:Rp n l a):
  wpAny P .any ol.toArray (NP Q) ol.toArray.size (Array.replicate ol.toArray.size false) a {w with drawn:=w.drawn+1}:=by
 have hsz:(Array.replicate ol.toArray.size false).size=ol.length:=by simp
 have hfalse:∀i,(Array.replicate ol.toArray.size false).getD i false=false:=by
  intro i
  simp only [Array.getD_eq_getD_getElem?,Array.getElem?_replicate]
  split <;> rfl
 refine head_anyE hE (drawOk_spec hk) ho hfin ol.toArray.size _ a _ ?_ hsz (fun i o ho h=>by rw [hfalse i] at h;cases h) (fun i _ hi=>hfalse i) ha (hE.drew w) (fun i hi h=>by rw [hfalse i] at h;cases h)
 refine Nat.le_trans List.countP_le_length ?_
 simp
theorem ci_drawE {id:Nat}(hE:DR E){w:World}(hW:Wd F mm P) (hlo:¬LetsOut Q) (hnd:ol.all noDf=true) (hmix:P.follows .mixedOrders=true) (m:Nat) (Rs:List (Value→World→Prop)) (dss:List (List Nat)) (rl:List (List Nat)) (hk:drawOk n ol m [] l dss rl=true)
  (ho:ObsE E P n ol Rs l w dss 0) (hfin:∀w1,E w w1→DepE E ol Rs w w1 (fun acc=>wl P ol.toArray (NP Q) n (ol.drop m) acc w1) (List.range m) l):ci F mm P Q n (.region id ol.toArray true) l w:=fun a ha=>
 wpIn_mono (wpIn_region_any hmix (any_in hW (np_lets hlo) (fun i o h=>by
  rw [List.all_eq_true] at hnd
  refine hnd o ?_
  rw [List.getElem?_toArray] at h
  exact List.mem_of_getElem? h) _ _ _ _ (draw_anyE hE hk ho hfin a ha))) NP.imp
end
section
variable {B:Nat}{w w':World}
theorem Kf.of {row:Option Nat}(hg:w.grownBy w' row) (h:∀j,row=some j→∃o,w.heap[j]?=some o∧o.isCells=true):KeepsFrom B w w':=
 ⟨hg.size,fun k o _ hk ho=>(hg.block k (Array.getElem?_eq_some_iff.1 hk).1 (fun e=>by
  obtain⟨o',h1,h2⟩:=h k e.symm
  rw [hk] at h1;cases h1;rw [ho] at h2;cases h2)).trans hk⟩
theorem Upd.kf {g:Nat}{t:TypeId}{vs:List Value}(u:Upd g w w') (hb:Bk w g t vs):KeepsFrom B w w':=Kf.of u.by_ (fun j e=>by cases e;exact⟨_,hb,rfl⟩)
theorem UpdO.kf {A:Option Addr}{lb:Nat}{t:TypeId}{s n c:Nat}{vs:List Value}(u:UpdO A w w') (ho:Own w lb t s A n c vs):KeepsFrom B w w':=Kf.of u.by_ (fun j e=>by
 rcases ho with⟨h,_⟩ | ⟨g,cs,rfl,_,hk,_⟩
 ·rw [h] at e;cases e
 ·cases e;exact⟨_,hk,rfl⟩)
end
def dfd (d:List Deferred) (a:Act):Act:={a with defers:=a.defers++d}
theorem dfd_put (d:List Deferred) (a:Act) (t:Option Tmp) (v:Value):dfd d (a.put t v)=(dfd d a).put t v:=by cases t <;> rfl
theorem dfd_eval (d:List Deferred) (a:Act):(dfd d a).eval=a.eval:=by funext x;cases x <;> rfl
section
variable {F:Fence}{m:Nat}{P:Program}{Q:Exit→Act→World→Prop}
theorem oper_df (d:List Deferred){o:Oper}{a:Act}{w:World}{K K':Act→World→Prop}(hK:∀a w,K a w→K' (dfd d a) w) (h:o.wpIn F m P a w K (fun e a w=>Q e (dfd d a) w)):o.wpIn F m P (dfd d a) w K' Q:=by
 obtain⟨h1,h2⟩:=h
 refine⟨by rw [dfd_eval];exact h1,?_⟩
 rw [dfd_eval]
 have hp:∀v,K' ((dfd d a).put o.dst v)=K' (dfd d (a.put o.dst v)):=fun v=>by rw [dfd_put]
 generalize (o.semAt F.round a.eval).run P w=r at h2
 cases r with
 | ok x w'=>
  cases x with
  | value v=>show K' _ _;rw [hp];exact hK _ _ h2
  | skip=>show K' _ _;rw [hp];exact hK _ _ h2
  | defer e=>
   have h3:K' (dfd d ({a with defers:=e::a.defers}.put o.dst undef)) w':=hK _ _ h2
   rw [dfd_put] at h3
   exact h3
  | enter f args=>
   refine⟨h2.1,h2.2.mono fun e w'' h3=>?_⟩
   cases e with
   | returned v=>show K' _ _;rw [hp];exact hK _ _ h3
   | panicked c=>exact h3
   | outgrown=>obtain⟨a',w3,h4⟩:=h3;exact⟨_,_,h4⟩
  | row s args=>exact⟨h2.1,RowsIn.mono h2.2 fun v w'' h3=>by show K' _ _;rw [hp];exact hK _ _ h3⟩
  | round lp f t asg bd=>
   refine⟨h2.1,h2.2.mono fun e w'' h3=>?_⟩
   cases e with
   | returned v=>show K' _ _;rw [hp];exact hK _ _ h3
   | panicked c=>exact h3
   | outgrown=>obtain⟨a',w3,h4⟩:=h3;exact⟨_,_,h4⟩
  | _=>exact h2
 | halt x w'=>
  cases x with
  | panic v=>exact h2
  | _=>exact h2
theorem list_df (d:List Deferred){ops:Array Oper}:∀(rest:List Oper) (a:Act) (w:World),wpListIn F m P ops (fun e a w=>Q e (dfd d a) w) rest a w→wpListIn F m P ops Q rest (dfd d a) w
 | [],a,w,h=>h
 | o::rest,a,w,h=>by
  unfold wpListIn at h⊢
  have e1:yielded ops (dfd d a).tmps=yielded ops a.tmps:=rfl
  rw [e1]
  split
  ·next hw=>
   rw [if_pos hw] at h
   exact oper_df d (fun a w h=>list_df d rest a w h) h
  ·next hw=>
   rw [if_neg hw] at h
   refine⟨by rw [dfd_eval];exact h.1,?_⟩
   have:=list_df d rest _ w h.2
   rw [dfd_put] at this
   exact this
end
section
variable {P:Program}
theorem run_appC {t ty e:TypeId}{z:Value}{s bytes:Nat}(ht:P.underlying t=some (.slice e)) (hinfo:(P.info? e).map (fun i=>(i.zero,i.size,i.bytes))=some (some z,s,bytes)) (hzs:z.cells.size=s) (hsz:0<s) (hby:bytes≤64)
  {w:World}{base:Nat}{A:Option Addr}{n cap:Nat}{xs:List Value}(hown:Own w base e s A n cap xs) (hb:base≤w.heap.size){a:Addr}{m c:Nat}{news:List Value}(hl:news.length=m*s) (hnews:∀j u,news[j]?=some u→w.cell? (a.add j)=some u)
  (h1:news.all (·.oneCell')=true) (hm:n+m≤1099511627776):
  ∃A' cap' w',(Builtin.append_ #[t,t] ty #[.slice A n cap,.slice (some a) m c]).run P w= .ok (.slice A' (n+m) cap') w'∧Own w' base e s A' (n+m) cap' (xs++news)∧((A'=A∧cap'=cap∧UpdO A w w')∨(Ext w w'∧∀a',A'=some a'→w.heap.size≤a'.block)):=by
 obtain⟨i,hi,hz,hz1,hz2⟩:=info_parts hinfo
 have h1':∀u∈news,u.oneCell'=true:=by simpa [List.all_eq_true] using h1
 have h63:n+m≤maxLen:=by rw [len_maxLen];omega
 have hbytes:(n+m)*bytes≤140737488355328:=by
  have:(n+m)*bytes≤1099511627776*64:=Nat.mul_le_mul hm hby
  omega
 rcases hown with⟨rfl,rfl,rfl,rfl⟩ | ⟨g,cs,rfl,hg,hk,hn,hcm,hcl,hv⟩
 ·obtain⟨v',w',hr,h2,h3,_⟩:=run_append_own (P:=P) w w.heap.size t ty e i z s bytes ht hi hz hz1 hz2 hzs hsz (.slice none 0 0) 0 [] (World.ownsRow_nil w _ e s) a m c news hl hnews h1' h63 hbytes (Nat.le_refl _)
  obtain⟨A',cap',rfl,ho⟩:=Own.of_row h2
  exact⟨A',cap',w',hr,ho.mono hb,Or.inr ⟨Ext.of_grown h3,fun a' ha=>(ho.block a' ha).1⟩⟩
 ·by_cases hroom:n+m≤cap
  ·have hfit:n*s+news.length≤cs.length:=by rw [hl,hcl,←Nat.add_mul];exact Nat.mul_le_mul_right s hroom
   obtain⟨w',hst,hb2,hu,hs⟩:=store_cells (P:=P) news 0 (n*s) w cs hk (by omega) h1'
   rw [Nat.add_zero] at hb2
   have hfc:=run_firstCells_some (P:=P) w i.size m a m c news (by rw [hz1];exact hl) hnews
   rw [hz1] at hfc
   refine⟨some ⟨g,0,none⟩,cap,w',?_,Or.inr ⟨g,_,rfl,hg,hb2,hroom,hcm,?_,?_⟩,Or.inl ⟨rfl,rfl,hu.updO⟩⟩
   ·simp [Builtin.append_,run_underlying ht,sizeOf,typeInfo,hi,Builtin.lenOf,hroom,hfc,Addr.add_lit,hz1,hst]
   ·unfold overl
    simp only [List.length_append,List.length_take,List.length_drop]
    omega
   ·rw [Nat.add_mul,←hl]
    exact overl_take hv (by omega)
  ·have hx:=hv
   obtain⟨v',w',hr,h2,h3⟩:=run_append_arg_grows (P:=P) w t ty e i z s bytes ht hi hz hz1 hz2 hzs hsz ⟨g,0,none⟩ n cap xs
    (by rw [←hv,List.length_take];have:=Nat.mul_le_mul_right s hn;omega)
    (fun j u hj=>by
     have hjl:=(List.getElem?_eq_some_iff.1 hj).1
     rw [add_lit0,Nat.zero_add,hk.cell (by rw [←hv,List.length_take] at hjl;omega)]
     rw [←hv,List.getElem?_take] at hj
     split at hj
     ·rw [List.getD_eq_getElem?_getD,hj];rfl
     ·cases hj) a m c news hl hnews (by omega) h63 hbytes
   obtain⟨A',cap',rfl,ho⟩:=Own.of_row h2
   exact⟨A',cap',w',hr,ho.mono hb,Or.inr ⟨Ext.of_grown h3,fun a' ha=>(ho.block a' ha).1⟩⟩
variable {Q:Exit→Act→World→Prop}{n:Nat}{l:Fr}{w:World}{ops:Array Oper}{rest:List Oper}{d:Nat}{ty:TypeId}{pos:String}{af:Array Edge}{gd:Option (Nat×Bool)}
theorem wl_appC {x y:Operand}{t e:TypeId}{z:Value}{s bytes k m c cap base:Nat}{A:Option Addr}{a:Addr}{xs:List Value}(hw:guardB ops l gd=some true) (hx:evo l x=some (.slice A k cap)) (hy:evo l y=some (.slice (some a) m c))
  (ht:P.underlying t=some (.slice e)) (hinfo:(P.info? e).map (fun i=>(i.zero,i.size,i.bytes))=some (some z,s,bytes)) (hzs:z.cells.size=s) (hsz:0<s) (hby:bytes≤64)
  (hown:Own w base e s A k cap xs) (hb:base≤w.heap.size) (news:List Value) (hl:news.length=m*s) (hnews:∀j u,news[j]?=some u→w.cell? (a.add j)=some u)
  (h1:news.all (·.oneCell')=true) (hm:k+m≤1099511627776) (hn:d<n)
  (h:∀A' cap' w',Own w' base e s A' (k+m) cap' (xs++news)→((A'=A∧cap'=cap∧UpdO A w w')∨(Ext w w'∧∀a',A'=some a'→w.heap.size≤a'.block))→wl P ops Q n rest ((d,.slice A' (k+m) cap')::l) w'):
  wl P ops Q n (⟨some d,.call {callee:= .builtin .append,args:= #[x,y],argTypes:= #[t,t]},ty,pos,af,gd⟩::rest) l w:=by
 obtain⟨A',cap',w',hr,h2,h3⟩:=run_appC (P:=P) (ty:=ty) ht hinfo hzs hsz hby hown hb hl hnews h1 hm
 refine wl_val hw hn (fun a' ha=>?_) (h A' cap' w' h2 h3)
 unfold execOp
 simp only [resolve,invoke,builtin,Sem.run_bind,Sem.run_pure,Result.andThen_ok,List.map_toArray,List.map_cons,List.map_nil,ha.ev hx,ha.ev hy]
 rw [hr]
 rfl
end
structure EA (L:Nat) (T:TypeId) (A:Option Addr) (k cap:Nat) (xs:List Value) (v:Value) (a b:World):Prop where
 u:UpdO A a b
 o1:Own a L T 1 A k cap xs→Own b L T 1 A k cap xs
 o2:Own a L T 1 A (k+1) cap (xs++ [v])→Own b L T 1 A (k+1) cap (xs++ [v])
def ApR (L:Nat) (T:TypeId) (A:Option Addr) (k cap:Nat) (xs:List Value) (v:Value) (B:Nat):Value→World→Prop:=fun r w=>
 ∃A' cap',r= .slice A' (k+1) cap'∧Own w L T 1 A' (k+1) cap' (xs++ [v])∧((A'=A∧cap'=cap)∨∀p,A'=some p→B≤p.block)
def BsR (T:TypeId) (v:Value) (B:Nat):Value→World→Prop:=fun r w=>∃g,r= .slice (some ⟨g,0,none⟩) 1 1∧B≤g∧Bk w g T [v]
section
variable {L:Nat}{T:TypeId}{A:Option Addr}{k cap:Nat}{xs:List Value}{v:Value}{a b:World}
theorem EA.of_ext (e:Ext a b):EA L T A k cap xs v a b:=⟨UO.ext (UO.refl _ _) e,(·.ext e),(·.ext e)⟩
theorem EA.dr:DR (EA L T A k cap xs v):=⟨fun w=>EA.of_ext (Ext.refl w),fun h k=>⟨UO.trans h.u k.u,fun x=>k.o1 (h.o1 x),fun x=>k.o2 (h.o2 x)⟩,fun w=>EA.of_ext (Ext.refl w).drew⟩
theorem EA.app {A':Option Addr}{cap':Nat}(ho:Own a L T 1 A k cap xs) (h:Own b L T 1 A' (k+1) cap' (xs++ [v])) (hc:(A'=A∧cap'=cap∧UpdO A a b)∨(Ext a b∧∀p,A'=some p→a.heap.size≤p.block)):EA L T A k cap xs v a b:=by
 rcases hc with⟨rfl,rfl,u⟩ | ⟨e,_⟩
 ·refine⟨u,fun _=>?_,fun _=>h⟩
  have hl:xs.length=k:=by have:=ho.rv.len;omega
  rcases h with⟨_,h0,_⟩ | ⟨g,cs,h1,h2,h3,h4,h5,h6,h7⟩
  ·omega
  ·refine Or.inr ⟨g,cs,h1,h2,h3,by omega,h5,h6,?_⟩
   have e:(cs.take ((k+1)*1)).take k=cs.take (k*1):=by rw [List.take_take];congr 1;omega
   rw [←e,h7,List.take_left' hl]
 ·exact EA.of_ext e
theorem ApR.lift {B:Nat}{r:Value}(h:ApR L T A k cap xs v B r a) (e:EA L T A k cap xs v a b) (hA:∀p,A=some p→p.block<B):ApR L T A k cap xs v B r b:=by
 obtain⟨A',cap',rfl,h1,h2⟩:=h
 rcases h2 with⟨rfl,rfl⟩ | h2
 ·exact⟨_,_,rfl,e.o2 h1,Or.inl ⟨rfl,rfl⟩⟩
 ·exact⟨_,_,rfl,h1.updO e.u (fun p q hp hq=>by have:=hA p hp;have:=h2 q hq;omega),Or.inr h2⟩
theorem BsR.lift {T':TypeId}{B:Nat}{r u:Value}(h:BsR T' u B r a) (e:EA L T A k cap xs v a b) (hA:∀p,A=some p→p.block<B):BsR T' u B r b:=by
 obtain⟨g,rfl,h1,h2⟩:=h
 exact⟨g,rfl,h1,h2.updO e.u (fun p hp=>by have:=hA p hp;omega)⟩
end
end Go.Proofs.Ytnpbbknemflpnaa
