/- Parts St2, St3, St4, St5, joined. -/
import Derived.Test.YtgekkehpljbklaaM3

namespace Go.Proofs.Ytgekkehpljbklaa
open Go.RowKit
set_option maxHeartbeats 4000000 in
theorem g_stp_Check {w:World}{n:Nat}(hn:n≤64){As:Option Addr}{m caps:Nat}{ss:List Stp}{ms:List Nat}(hS:Sl w As m ss ms) (hM:∀i,ms.getD i 0≤1048576) (hm:m≤1048576):
    Calls Try.prog 49 #[.int .i64 ((n:Nat):Int),.slice As m caps] w (Gv w (fun v _=>∃k e:Int,v= .tuple #[.int .i64 k,.int .i64 e]∧((e=0∧k= -1∧∀i,i<m→(ss.getD i Stp.z).fit n)∨(e=3∧∃i,i<m∧¬(ss.getD i Stp.z).fit n)))):=by
 refine sx_enter Try.func49 rfl (n:=28) rfl (bq rfl) (args:= [.int .i64 ((n:Nat):Int),.slice As m caps]) (cw_keep [(0,.int .i64 ((n:Nat):Int)),(1,.slice As m caps)] ⟨rfl,rfl,trivial⟩ (sr (mv 2 rfl (ne_ (cw_seq (sr (mv 1 rfl (wl_cmp rfl rfl rfl false (cb_lt_f (a:=n) (b:=0) rfl rfl (by omega)) (by decide) (mv 2 rfl (wl_cmp rfl rfl rfl false (cb_gt_f (a:=n) (b:=64) rfl rfl (by omega)) (by decide) (pu (v:= .bool false) rfl (by kernel_rfl) (ne_ (cw_false rfl ?_)))))))))))))
 refine cw_skip (eo_then (cw_seq (sr (mv 1 rfl (pu (v:= .int .i64 ((m:Nat):Int)) rfl (by kernel_rfl) (mv 1 rfl (ne_ (cw_block ?_))))))))
 refine cw_loop (T:=World×Nat) (fun⟨wr,i⟩=> [(0,.int .i64 ((n:Nat):Int)),(1,.slice As m caps),(4,.int .i64 0),(5,.int .i64 0),(8,.int .i64 ((n:Nat):Int)),(9,.bool false),(10,.bool false),(11,.int .i64 ((n:Nat):Int)),(12,.bool false),(13,.bool false),(14,.slice As m caps),(15,.int .i64 ((m:Nat):Int)),(16,.int .i64 ((i:Nat):Int))]) (fun⟨wr,i⟩=>wr) (fun⟨wr,i⟩=>(Ext w wr)∧(i≤m)∧(∀j,j<i→(ss.getD j Stp.z).fit n)) (fun⟨wr,i⟩=>m-i)
  (⟨w,0⟩:World×Nat) ⟨(Ext.refl w),(by omega),(fun j hj=>by omega)⟩ rfl ⟨rfl,rfl,rfl,rfl,rfl,rfl,rfl,rfl,rfl,rfl,rfl,rfl,rfl,trivial⟩ ?_
 rintro⟨wr,i⟩ ⟨hw1,hi_i,hall⟩
 refine cw_re [(0,.int .i64 ((n:Nat):Int)),(1,.slice As m caps),(4,.int .i64 0),(5,.int .i64 0),(8,.int .i64 ((n:Nat):Int)),(9,.bool false),(10,.bool false),(11,.int .i64 ((n:Nat):Int)),(12,.bool false),(13,.bool false),(14,.slice As m caps),(15,.int .i64 ((m:Nat):Int)),(16,.int .i64 ((i:Nat):Int))] wr rfl ⟨rfl,rfl,rfl,rfl,rfl,rfl,rfl,rfl,rfl,rfl,rfl,rfl,rfl,trivial⟩ (cw_seq ?_)
 by_cases him:i<m
 · 
  refine cw_region (wl_cmp rfl rfl rfl true (cb_lt_t (a:=i) (b:=m) rfl rfl (by omega)) (by decide) (ne_ (cw_seq (cw_true rfl (cw_skip (eo_then (cw_seq (cw_block (sr (mv 1 rfl ?_))))))))))
  obtain⟨ps1,sf1,Bf1,cf1,hps1,lds1,ef1⟩:=hS.at (i:=i) (by omega)
  refine wl_idx rfl rfl rfl Try.underlying38 aggStep.size i rfl (by omega) ps1 hps1 (by decide) (wl_load rfl rfl (lds1 _ hw1) (by decide) (al [I0,I0,I0,F0,S0] hw1 (fun _=>by kernel_rfl) rfl fun g2 v3 hb5 ge6 e4 hw2=>(mv 1 rfl (so aggStep hb5 [.int .i64 ((ss.getD i Stp.z).k),.int .i64 ((ss.getD i Stp.z).i),.int .i64 ((ss.getD i Stp.z).j),.bool sf1,.slice Bf1 (ms.getD i 0) cf1] hw2 ge6 rfl rfl rfl rfl fun v7 hb9 u10 hw3=>(ne_ (cw_seq ?_))))))
  by_cases hfit:(ss.getD i Stp.z).fit n
  · 
   refine cw_region (lo aggStep hb9 [.int .i64 ((ss.getD i Stp.z).k),.int .i64 ((ss.getD i Stp.z).i),.int .i64 ((ss.getD i Stp.z).j),.bool sf1,.slice Bf1 (ms.getD i 0) cf1] rfl rfl rfl (cl (vs:= [.agg #[.int .i64 ((ss.getD i Stp.z).k),.int .i64 ((ss.getD i Stp.z).i),.int .i64 ((ss.getD i Stp.z).j),.bool sf1,.slice Bf1 (ms.getD i 0) cf1]]) hw3 (g_stp_read hw3.size (ef1.ext hw3) (Nat.le_trans (hM i) (by decide))) rfl (by kernel_rfl) fun xr14 v12 r14 e13 hw4=>(mv 1 rfl (wl_fits rfl rfl rfl r14 (by decide) fun v15 e16=>?_))))
   have hw5:=hw4.trans e16
   rw [decide_eq_true hfit]
   refine pu (v:= .bool false) rfl (by kernel_rfl) (ne_ (cw_false rfl (cw_skip (eo_block_normal (eo_then (cw_region (wl_ar rfl rfl rfl ((i+1:Nat):Int) (ai_add (a:=i) (b:=1) rfl rfl (by omega)) (by decide) (mv 1 rfl (wl_nil (eo_round (⟨v15,i+1⟩:World×Nat) ⟨hw5,(by omega),(fun j hj=>(Nat.lt_or_ge j i).elim (hall j) (fun h=>(show i=j by omega)▸hfit))⟩ (show m-(i+1)<m-i by omega) rfl ⟨rfl,rfl,rfl,rfl,rfl,rfl,rfl,rfl,rfl,rfl,rfl,rfl,rfl,trivial⟩))))))))))
  · 
   refine cw_region (lo aggStep hb9 [.int .i64 ((ss.getD i Stp.z).k),.int .i64 ((ss.getD i Stp.z).i),.int .i64 ((ss.getD i Stp.z).j),.bool sf1,.slice Bf1 (ms.getD i 0) cf1] rfl rfl rfl (cl (vs:= [.agg #[.int .i64 ((ss.getD i Stp.z).k),.int .i64 ((ss.getD i Stp.z).i),.int .i64 ((ss.getD i Stp.z).j),.bool sf1,.slice Bf1 (ms.getD i 0) cf1]]) hw3 (g_stp_read hw3.size (ef1.ext hw3) (Nat.le_trans (hM i) (by decide))) rfl (by kernel_rfl) fun xr19 v17 r19 e18 hw4=>(mv 1 rfl (wl_fits rfl rfl rfl r19 (by decide) fun v20 e21=>?_))))
   have hw5:=hw4.trans e21
   rw [decide_eq_false hfit]
   refine pu (v:= .bool true) rfl (by kernel_rfl) (ne_ (cw_true rfl (sr (mv 3 rfl (ne_ (cw_ret (eo_block_ret (eo_thenR (eo_loopR (eo_block_ret (eo_thenR (eo_ret [.int .i64 ((i:Nat):Int),.int .i64 3] rfl ⟨rfl,rfl,trivial⟩ ?_))))))))))))
   exact⟨_,rfl,⟨_,_,rfl,Or.inr ⟨rfl,_,him,hfit⟩⟩,hw5⟩
 · 
  refine cw_region (wl_cmp rfl rfl rfl false (cb_lt_f (a:=i) (b:=m) rfl rfl (by omega)) (by decide) (ne_ (cw_seq (cw_false rfl (cw_exit (eo_thenX (eo_loopX (eo_block_here (eo_then (sr (mv 2 rfl (ne_ (cw_ret ?_)))))))))))))
  refine eo_ret [.int .i64 (-1),I0] rfl ⟨rfl,rfl,trivial⟩ ?_
  exact⟨_,rfl,⟨_,_,rfl,Or.inl ⟨rfl,rfl,fun j hj=>hall j (by omega)⟩⟩,hw1⟩
theorem g_stp_Check_ok {w:World}{n:Nat}(hn:n≤64){As:Option Addr}{m caps:Nat}{ss:List Stp}{ms:List Nat}(hS:Sl w As m ss ms) (hM:∀i,ms.getD i 0≤1048576) (hm:m≤1048576) (h:∀i,i<m→(ss.getD i Stp.z).fit n):Calls Try.prog 49 #[.int .i64 (n:Int),.slice As m caps] w (Gv w (T2 (Is (.int .i64 (-1))) (Is (.int .i64 0)))):=by
 refine (g_stp_Check hn hS hM hm).mono (Gv.imp (fun v w' hv=>?_))
 obtain⟨k,e,rfl,⟨rfl,rfl,_⟩ | ⟨_,i,h1,h2⟩⟩:=hv
 ·exact⟨_,_,rfl,rfl,rfl⟩
 ·exact absurd (h i h1) h2
theorem g_stp_Check_no {w:World}{n:Nat}(hn:n≤64){As:Option Addr}{m caps:Nat}{ss:List Stp}{ms:List Nat}(hS:Sl w As m ss ms) (hM:∀i,ms.getD i 0≤1048576) (hm:m≤1048576) (h:¬(∀i,i<m→(ss.getD i Stp.z).fit n)):Calls Try.prog 49 #[.int .i64 (n:Int),.slice As m caps] w (Gv w (T2 (fun v _=>∃q,v=Value.int .i64 q) (Is (.int .i64 3)))):=by
 refine (g_stp_Check hn hS hM hm).mono (Gv.imp (fun v w' hv=>?_))
 obtain⟨k,e,rfl,⟨_,_,h1⟩ | ⟨rfl,i,h1,h2⟩⟩:=hv
 ·exact absurd h1 h
 ·exact⟨_,_,rfl,⟨_,rfl⟩,rfl⟩
set_option maxHeartbeats 4000000 in
theorem g_stp_Sign_ok {w:World}{n:Nat}(hn:n≤64){As:Option Addr}{m caps:Nat}{ss:List Stp}{ms:List Nat}(hS:Sl w As m ss ms) (hM:∀i,ms.getD i 0≤1048576) (hm:m≤1048576) (hall:∀i,i<m→(ss.getD i Stp.z).fit n):
    Calls Try.prog 18 #[.int .i64 ((n:Nat):Int),.slice As m caps] w (Gv w (T2 (Is (.int .i64 (sgl ss))) (Is (.int .i64 0)))):=by
 refine sx_enter Try.func18 rfl (n:=45) rfl (bq rfl) (args:= [.int .i64 ((n:Nat):Int),.slice As m caps]) (cw_keep [(0,.int .i64 ((n:Nat):Int)),(1,.slice As m caps)] ⟨rfl,rfl,trivial⟩ (sr (mv 2 rfl (ne_ (cw_seq (sr (mv 2 rfl (cl (vs:= [.int .i64 ((n:Nat):Int),.slice As m caps]) (Ext.refl w) (g_stp_Check_ok hn (hS.ext (Ext.refl w)) hM hm hall) rfl (by kernel_rfl) fun xr3 v1 r3 e2 hw1=>?_))))))))
 obtain⟨_,_,rfl,rfl,rfl⟩:=r3
 refine mv 1 rfl (pu (v:= .int .i64 (-1)) rfl (by kernel_rfl) (pu (v:= .int .i64 0) rfl (by kernel_rfl) (mv 2 rfl (ne_ (sr (mv 1 rfl (wl_cmp rfl rfl rfl false (by decide) (by decide) (ne_ (cw_false rfl (cw_skip (eo_then (sr (mv 1 rfl ?_)))))))))))))
 refine ne_ (cw_seq (sr (mv 1 rfl (pu (v:= .int .i64 ((m:Nat):Int)) rfl (by kernel_rfl) (mv 1 rfl (ne_ (cw_block ?_)))))))
 refine cw_loop (T:=World×Nat×Int) (fun⟨wr,i,x⟩=> [(0,.int .i64 ((n:Nat):Int)),(1,.slice As m caps),(4,.int .i64 0),(5,.int .i64 0),(7,.int .i64 0),(8,.int .i64 x),(11,.tuple #[.int .i64 (-1),I0]),(12,.int .i64 ((n:Nat):Int)),(13,.slice As m caps),(14,.tuple #[.int .i64 (-1),I0]),(15,.int .i64 (-1)),(16,.int .i64 0),(17,.int .i64 0),(18,.bool false),(20,.slice As m caps),(21,.int .i64 ((m:Nat):Int)),(22,.int .i64 ((i:Nat):Int))]) (fun⟨wr,i,x⟩=>wr) (fun⟨wr,i,x⟩=>(Ext w wr)∧(i≤m)∧(x=sgl (ss.take i))∧(x=1∨x= -1)) (fun⟨wr,i,x⟩=>m-i)
  (⟨v1,0,1⟩:World×Nat×Int) ⟨hw1,(by omega),rfl,(Or.inl rfl)⟩ rfl ⟨rfl,rfl,rfl,rfl,rfl,rfl,rfl,rfl,rfl,rfl,rfl,rfl,rfl,rfl,rfl,rfl,rfl,trivial⟩ ?_
 rintro⟨wr,i,x⟩ ⟨hw1,hi_i,hx,hx1⟩
 refine cw_re [(0,.int .i64 ((n:Nat):Int)),(1,.slice As m caps),(4,.int .i64 0),(5,.int .i64 0),(7,.int .i64 0),(8,.int .i64 x),(11,.tuple #[.int .i64 (-1),I0]),(12,.int .i64 ((n:Nat):Int)),(13,.slice As m caps),(14,.tuple #[.int .i64 (-1),I0]),(15,.int .i64 (-1)),(16,.int .i64 0),(17,.int .i64 0),(18,.bool false),(20,.slice As m caps),(21,.int .i64 ((m:Nat):Int)),(22,.int .i64 ((i:Nat):Int))] wr rfl ⟨rfl,rfl,rfl,rfl,rfl,rfl,rfl,rfl,rfl,rfl,rfl,rfl,rfl,rfl,rfl,rfl,rfl,trivial⟩ (cw_seq ?_)
 by_cases him:i<m
 · 
  refine cw_region (wl_cmp rfl rfl rfl true (cb_lt_t (a:=i) (b:=m) rfl rfl (by omega)) (by decide) (ne_ (cw_seq (cw_true rfl (cw_skip (eo_then (cw_seq (cw_block (cw_seq ?_)))))))))
  rcases hx1 with rfl | rfl
  · 
   refine cw_region ?_
   obtain⟨ps5,sf5,Bf5,cf5,hps5,lds5,ef5⟩:=hS.at (i:=i) (by omega)
   refine wl_idx rfl rfl rfl Try.underlying38 aggStep.size i rfl (by omega) ps5 hps5 (by decide) (wl_load rfl rfl (lds5 _ hw1) (by decide) (al [I0,I0,I0,F0,S0] hw1 (fun _=>by kernel_rfl) rfl fun g6 v7 hb9 ge10 e8 hw2=>(so aggStep hb9 [.int .i64 ((ss.getD i Stp.z).k),.int .i64 ((ss.getD i Stp.z).i),.int .i64 ((ss.getD i Stp.z).j),.bool sf5,.slice Bf5 (ms.getD i 0) cf5] hw2 ge10 rfl rfl rfl rfl fun v11 hb13 u14 hw3=>(ne_ (cw_seq ?_)))))
   by_cases hk2:(ss.getD i Stp.z).k=2
   · 
    refine cw_region (pf g6 0 rfl (by kernel_rfl) (wl_load rfl rfl (load_cell cellInt hb13 rfl) (by decide) (wl_cmp rfl rfl rfl true (ci_eq_t hk2) (by decide) (mv 11 rfl (pu (v:= .bool true) rfl (by kernel_rfl) (ne_ (cw_true rfl (cw_region (mv 1 rfl (pu (v:= .int .i64 (-1)) rfl (by kernel_rfl) (mv 1 rfl (wl_nil (eo_block_normal ?_)))))))))))))
    refine eo_then (cw_region (wl_ar rfl rfl rfl ((i+1:Nat):Int) (ai_add (a:=i) (b:=1) rfl rfl (by omega)) (by decide) (mv 1 rfl (wl_nil (eo_round (⟨v11,i+1,(-1)⟩:World×Nat×Int) ⟨hw3,(by omega),(by rw [sgl_succ (by rw [hS.len];exact him),←hx,sgs_2 hk2];rfl),(by decide)⟩ (show m-(i+1)<m-i by omega) rfl ⟨rfl,rfl,rfl,rfl,rfl,rfl,rfl,rfl,rfl,rfl,rfl,rfl,rfl,rfl,rfl,rfl,rfl,trivial⟩)))))
   · 
    by_cases hk1:(ss.getD i Stp.z).k=1
    · 
     by_cases hij:(ss.getD i Stp.z).i≠(ss.getD i Stp.z).j
     · 
      refine cw_region (pf g6 0 rfl (by kernel_rfl) (wl_load rfl rfl (load_cell cellInt hb13 rfl) (by decide) (wl_cmp rfl rfl rfl false (ci_eq_f hk2) (by decide) (mv 1 rfl (pf g6 0 rfl (by kernel_rfl) (wl_load rfl rfl (load_cell cellInt hb13 rfl) (by decide) (wl_cmp rfl rfl rfl true (ci_eq_t hk1) (by decide) (mv 1 rfl (pf g6 1 rfl (by kernel_rfl) (wl_load rfl rfl (load_cell cellInt hb13 rfl) (by decide) (pf g6 2 rfl (by kernel_rfl) (wl_load rfl rfl (load_cell cellInt hb13 rfl) (by decide) (wl_cmp rfl rfl rfl true (ci_ne_t hij) (by decide) ?_)))))))))))))
      refine pu (v:= .bool true) rfl (by kernel_rfl) (pu (v:= .bool true) rfl (by kernel_rfl) (ne_ (cw_true rfl (cw_region (mv 1 rfl (pu (v:= .int .i64 (-1)) rfl (by kernel_rfl) (mv 1 rfl (wl_nil (eo_block_normal (eo_then (cw_region (wl_ar rfl rfl rfl ((i+1:Nat):Int) (ai_add (a:=i) (b:=1) rfl rfl (by omega)) (by decide) (mv 1 rfl ?_)))))))))))))
      refine wl_nil (eo_round (⟨v11,i+1,(-1)⟩:World×Nat×Int) ⟨hw3,(by omega),(by rw [sgl_succ (by rw [hS.len];exact him),←hx,sgs_1 hk1 hij];rfl),(by decide)⟩ (show m-(i+1)<m-i by omega) rfl ⟨rfl,rfl,rfl,rfl,rfl,rfl,rfl,rfl,rfl,rfl,rfl,rfl,rfl,rfl,rfl,rfl,rfl,trivial⟩)
     · 
      refine cw_region (pf g6 0 rfl (by kernel_rfl) (wl_load rfl rfl (load_cell cellInt hb13 rfl) (by decide) (wl_cmp rfl rfl rfl false (ci_eq_f hk2) (by decide) (mv 1 rfl (pf g6 0 rfl (by kernel_rfl) (wl_load rfl rfl (load_cell cellInt hb13 rfl) (by decide) (wl_cmp rfl rfl rfl true (ci_eq_t hk1) (by decide) (mv 1 rfl (pf g6 1 rfl (by kernel_rfl) (wl_load rfl rfl (load_cell cellInt hb13 rfl) (by decide) (pf g6 2 rfl (by kernel_rfl) (wl_load rfl rfl (load_cell cellInt hb13 rfl) (by decide) (wl_cmp rfl rfl rfl false (ci_ne_f (Decidable.not_not.1 hij)) (by decide) ?_)))))))))))))
      refine pu (v:= .bool false) rfl (by kernel_rfl) (pu (v:= .bool false) rfl (by kernel_rfl) (ne_ (cw_false rfl (cw_skip (eo_block_normal (eo_then (cw_region (wl_ar rfl rfl rfl ((i+1:Nat):Int) (ai_add (a:=i) (b:=1) rfl rfl (by omega)) (by decide) (mv 1 rfl (wl_nil (eo_round (⟨v11,i+1,1⟩:World×Nat×Int) ⟨hw3,(by omega),(by rw [sgl_succ (by rw [hS.len];exact him),←hx,sgs_e hk2 (Or.inr (Decidable.not_not.1 hij))];rfl),(by decide)⟩ (show m-(i+1)<m-i by omega) rfl ⟨rfl,rfl,rfl,rfl,rfl,rfl,rfl,rfl,rfl,rfl,rfl,rfl,rfl,rfl,rfl,rfl,rfl,trivial⟩)))))))))))
    · 
     refine cw_region (pf g6 0 rfl (by kernel_rfl) (wl_load rfl rfl (load_cell cellInt hb13 rfl) (by decide) (wl_cmp rfl rfl rfl false (ci_eq_f hk2) (by decide) (mv 1 rfl (pf g6 0 rfl (by kernel_rfl) (wl_load rfl rfl (load_cell cellInt hb13 rfl) (by decide) (wl_cmp rfl rfl rfl false (ci_eq_f hk1) (by decide) (mv 6 rfl (pu (v:= .bool false) rfl (by kernel_rfl) (pu (v:= .bool false) rfl (by kernel_rfl) (ne_ (cw_false rfl (cw_skip ?_)))))))))))))
     refine eo_block_normal (eo_then (cw_region (wl_ar rfl rfl rfl ((i+1:Nat):Int) (ai_add (a:=i) (b:=1) rfl rfl (by omega)) (by decide) (mv 1 rfl (wl_nil (eo_round (⟨v11,i+1,1⟩:World×Nat×Int) ⟨hw3,(by omega),(by rw [sgl_succ (by rw [hS.len];exact him),←hx,sgs_e hk2 (Or.inl hk1)];rfl),(by decide)⟩ (show m-(i+1)<m-i by omega) rfl ⟨rfl,rfl,rfl,rfl,rfl,rfl,rfl,rfl,rfl,rfl,rfl,rfl,rfl,rfl,rfl,rfl,rfl,trivial⟩))))))
  · 
   refine cw_region ?_
   obtain⟨ps16,sf16,Bf16,cf16,hps16,lds16,ef16⟩:=hS.at (i:=i) (by omega)
   refine wl_idx rfl rfl rfl Try.underlying38 aggStep.size i rfl (by omega) ps16 hps16 (by decide) (wl_load rfl rfl (lds16 _ hw1) (by decide) (al [I0,I0,I0,F0,S0] hw1 (fun _=>by kernel_rfl) rfl fun g17 v18 hb20 ge21 e19 hw2=>(so aggStep hb20 [.int .i64 ((ss.getD i Stp.z).k),.int .i64 ((ss.getD i Stp.z).i),.int .i64 ((ss.getD i Stp.z).j),.bool sf16,.slice Bf16 (ms.getD i 0) cf16] hw2 ge21 rfl rfl rfl rfl fun v22 hb24 u25 hw3=>(ne_ (cw_seq ?_)))))
   by_cases hk2:(ss.getD i Stp.z).k=2
   · 
    refine cw_region (pf g17 0 rfl (by kernel_rfl) (wl_load rfl rfl (load_cell cellInt hb24 rfl) (by decide) (wl_cmp rfl rfl rfl true (ci_eq_t hk2) (by decide) (mv 11 rfl (pu (v:= .bool true) rfl (by kernel_rfl) (ne_ (cw_true rfl (cw_region (mv 1 rfl (pu (v:= .int .i64 1) rfl (by kernel_rfl) (mv 1 rfl (wl_nil (eo_block_normal ?_)))))))))))))
    refine eo_then (cw_region (wl_ar rfl rfl rfl ((i+1:Nat):Int) (ai_add (a:=i) (b:=1) rfl rfl (by omega)) (by decide) (mv 1 rfl (wl_nil (eo_round (⟨v22,i+1,1⟩:World×Nat×Int) ⟨hw3,(by omega),(by rw [sgl_succ (by rw [hS.len];exact him),←hx,sgs_2 hk2];rfl),(by decide)⟩ (show m-(i+1)<m-i by omega) rfl ⟨rfl,rfl,rfl,rfl,rfl,rfl,rfl,rfl,rfl,rfl,rfl,rfl,rfl,rfl,rfl,rfl,rfl,trivial⟩)))))
   · 
    by_cases hk1:(ss.getD i Stp.z).k=1
    · 
     by_cases hij:(ss.getD i Stp.z).i≠(ss.getD i Stp.z).j
     · 
      refine cw_region (pf g17 0 rfl (by kernel_rfl) (wl_load rfl rfl (load_cell cellInt hb24 rfl) (by decide) (wl_cmp rfl rfl rfl false (ci_eq_f hk2) (by decide) (mv 1 rfl (pf g17 0 rfl (by kernel_rfl) (wl_load rfl rfl (load_cell cellInt hb24 rfl) (by decide) (wl_cmp rfl rfl rfl true (ci_eq_t hk1) (by decide) (mv 1 rfl (pf g17 1 rfl (by kernel_rfl) (wl_load rfl rfl (load_cell cellInt hb24 rfl) (by decide) (pf g17 2 rfl (by kernel_rfl) (wl_load rfl rfl (load_cell cellInt hb24 rfl) (by decide) (wl_cmp rfl rfl rfl true (ci_ne_t hij) (by decide) ?_)))))))))))))
      refine pu (v:= .bool true) rfl (by kernel_rfl) (pu (v:= .bool true) rfl (by kernel_rfl) (ne_ (cw_true rfl (cw_region (mv 1 rfl (pu (v:= .int .i64 1) rfl (by kernel_rfl) (mv 1 rfl (wl_nil (eo_block_normal (eo_then (cw_region (wl_ar rfl rfl rfl ((i+1:Nat):Int) (ai_add (a:=i) (b:=1) rfl rfl (by omega)) (by decide) (mv 1 rfl ?_)))))))))))))
      refine wl_nil (eo_round (⟨v22,i+1,1⟩:World×Nat×Int) ⟨hw3,(by omega),(by rw [sgl_succ (by rw [hS.len];exact him),←hx,sgs_1 hk1 hij];rfl),(by decide)⟩ (show m-(i+1)<m-i by omega) rfl ⟨rfl,rfl,rfl,rfl,rfl,rfl,rfl,rfl,rfl,rfl,rfl,rfl,rfl,rfl,rfl,rfl,rfl,trivial⟩)
     · 
      refine cw_region (pf g17 0 rfl (by kernel_rfl) (wl_load rfl rfl (load_cell cellInt hb24 rfl) (by decide) (wl_cmp rfl rfl rfl false (ci_eq_f hk2) (by decide) (mv 1 rfl (pf g17 0 rfl (by kernel_rfl) (wl_load rfl rfl (load_cell cellInt hb24 rfl) (by decide) (wl_cmp rfl rfl rfl true (ci_eq_t hk1) (by decide) (mv 1 rfl (pf g17 1 rfl (by kernel_rfl) (wl_load rfl rfl (load_cell cellInt hb24 rfl) (by decide) (pf g17 2 rfl (by kernel_rfl) (wl_load rfl rfl (load_cell cellInt hb24 rfl) (by decide) (wl_cmp rfl rfl rfl false (ci_ne_f (Decidable.not_not.1 hij)) (by decide) ?_)))))))))))))
      refine pu (v:= .bool false) rfl (by kernel_rfl) (pu (v:= .bool false) rfl (by kernel_rfl) (ne_ (cw_false rfl (cw_skip (eo_block_normal (eo_then (cw_region (wl_ar rfl rfl rfl ((i+1:Nat):Int) (ai_add (a:=i) (b:=1) rfl rfl (by omega)) (by decide) (mv 1 rfl (wl_nil (eo_round (⟨v22,i+1,(-1)⟩:World×Nat×Int) ⟨hw3,(by omega),(by rw [sgl_succ (by rw [hS.len];exact him),←hx,sgs_e hk2 (Or.inr (Decidable.not_not.1 hij))];rfl),(by decide)⟩ (show m-(i+1)<m-i by omega) rfl ⟨rfl,rfl,rfl,rfl,rfl,rfl,rfl,rfl,rfl,rfl,rfl,rfl,rfl,rfl,rfl,rfl,rfl,trivial⟩)))))))))))
    · 
     refine cw_region (pf g17 0 rfl (by kernel_rfl) (wl_load rfl rfl (load_cell cellInt hb24 rfl) (by decide) (wl_cmp rfl rfl rfl false (ci_eq_f hk2) (by decide) (mv 1 rfl (pf g17 0 rfl (by kernel_rfl) (wl_load rfl rfl (load_cell cellInt hb24 rfl) (by decide) (wl_cmp rfl rfl rfl false (ci_eq_f hk1) (by decide) (mv 6 rfl (pu (v:= .bool false) rfl (by kernel_rfl) (pu (v:= .bool false) rfl (by kernel_rfl) (ne_ (cw_false rfl (cw_skip ?_)))))))))))))
     refine eo_block_normal (eo_then (cw_region (wl_ar rfl rfl rfl ((i+1:Nat):Int) (ai_add (a:=i) (b:=1) rfl rfl (by omega)) (by decide) (mv 1 rfl (wl_nil (eo_round (⟨v22,i+1,(-1)⟩:World×Nat×Int) ⟨hw3,(by omega),(by rw [sgl_succ (by rw [hS.len];exact him),←hx,sgs_e hk2 (Or.inl hk1)];rfl),(by decide)⟩ (show m-(i+1)<m-i by omega) rfl ⟨rfl,rfl,rfl,rfl,rfl,rfl,rfl,rfl,rfl,rfl,rfl,rfl,rfl,rfl,rfl,rfl,rfl,trivial⟩))))))
 · 
  refine cw_region (wl_cmp rfl rfl rfl false (cb_lt_f (a:=i) (b:=m) rfl rfl (by omega)) (by decide) (ne_ (cw_seq (cw_false rfl (cw_exit (eo_thenX (eo_loopX (eo_block_here (eo_then (sr (mv 3 rfl (ne_ (cw_ret ?_)))))))))))))
  refine eo_ret [.int .i64 x,I0] rfl ⟨rfl,rfl,trivial⟩ ?_
  exact⟨_,rfl,⟨_,_,rfl,(by rw [hx,List.take_of_length_le (by rw [hS.len];omega)];rfl),rfl⟩,hw1⟩
set_option maxHeartbeats 4000000 in
theorem g_stp_Sign_no {w:World}{n:Nat}(hn:n≤64){As:Option Addr}{m caps:Nat}{ss:List Stp}{ms:List Nat}(hS:Sl w As m ss ms) (hM:∀i,ms.getD i 0≤1048576) (hm:m≤1048576) (hall:¬(∀i,i<m→(ss.getD i Stp.z).fit n)):
    Calls Try.prog 18 #[.int .i64 ((n:Nat):Int),.slice As m caps] w (Gv w (T2 (fun v _=>∃q,v=Value.int .i64 q) (Is (.int .i64 3)))):=by
 refine sx_enter Try.func18 rfl (n:=45) rfl (bq rfl) (args:= [.int .i64 ((n:Nat):Int),.slice As m caps]) (cw_keep [(0,.int .i64 ((n:Nat):Int)),(1,.slice As m caps)] ⟨rfl,rfl,trivial⟩ (sr (mv 2 rfl (ne_ (cw_seq (sr (mv 2 rfl (cl (vs:= [.int .i64 ((n:Nat):Int),.slice As m caps]) (Ext.refl w) (g_stp_Check_no hn (hS.ext (Ext.refl w)) hM hm hall) rfl (by kernel_rfl) fun xr3 v1 r3 e2 hw1=>?_))))))))
 obtain⟨_,_,rfl,⟨q5,rfl⟩,rfl⟩:=r3
 refine mv 1 rfl (pu (v:= .int .i64 q5) rfl (by kernel_rfl) (pu (v:= .int .i64 3) rfl (by kernel_rfl) (mv 2 rfl (ne_ (sr (mv 1 rfl (wl_cmp rfl rfl rfl true (by decide) (by decide) (ne_ (cw_true rfl (sr (mv 3 rfl (ne_ (cw_ret ?_)))))))))))))
 refine eo_thenR (eo_ret [I0,.int .i64 3] rfl ⟨rfl,rfl,trivial⟩ ?_)
 exact⟨_,rfl,⟨_,_,rfl,⟨_,rfl⟩,rfl⟩,hw1⟩
structure Ap2 (n:Nat) (RA:Option Addr) (ra:Nat→Option Addr):Prop where
 Rr:∀r,r<n→∀p q,RA=some p→ra r=some q→p.block≠q.block
structure Lns (lb n:Nat) (RA:Option Addr) (rcap:Nat) (ra:Nat→Option Addr) (rc:Nat→Nat) (ps:List Nat) (Z:Mx) (w:World):Prop where
 R:Own w lb 22 1 RA n rcap (ps.map (rwv ra rc n))
 C:Rcs 17179869184 lb n n ra rc w Z
 per:Per n ps
set_option maxHeartbeats 4000000 in
theorem g_stp_on_swap {w:World}{lb n:Nat}{RA:Option Addr}{rcap:Nat}{ra:Nat→Option Addr}{rc:Nat→Nat}{ps:List Nat}{Z:Mx}(hlb:lb≤w.heap.size) (hA:Ap2 n RA ra) (hR:Own w lb 22 1 RA n rcap (ps.map (rwv ra rc n))) (hC:Rcs 17179869184 lb n n ra rc w Z) (_hn:n≤64) (hPer:Per n ps) (_hZ:∀a b,a<n→b<n→ln (pr Z ps a b)≤1048576){s:Stp}(hk:s.k=1){i j:Nat}(hi:s.i=i) (hj:s.j=j) (hi2:i<n) (hj2:j<n):
    Calls Try.prog 121 #[.agg #[.int .i64 ((i:Nat):Int),.int .i64 ((j:Nat):Int)],.slice RA n rcap] w (fun e w'=>e= .returned (.tuple #[])∧Bl lb w w'∧∃ps' Z',Lns lb n RA rcap ra rc ps' Z' w'∧∀a b,a<n→b<n→pr Z' ps' a b=stp s (pr Z ps) a b):=by
 have hcap:=hR.rv.le
 refine sx_enter Try.func121 rfl (n:=22) rfl (bq rfl) (args:= [.agg #[.int .i64 ((i:Nat):Int),.int .i64 ((j:Nat):Int)],.slice RA n rcap]) (cw_keep [(0,.agg #[.int .i64 ((i:Nat):Int),.int .i64 ((j:Nat):Int)]),(1,.slice RA n rcap)] ⟨rfl,rfl,trivial⟩ (sr (wl_box rfl rfl (vs:= [.int .i64 ((i:Nat):Int),.int .i64 ((j:Nat):Int)]) rfl (by decide) fun g1 v2 nb=>?_)))
 have hb4:=nb.bk
 have ge5:w.heap.size≤g1:=by rw [←nb.at_];exact (Bl.refl hlb).size
 have ne6:∀p:Addr,RA=some p→p.block≠g1:=fun p hp=>by have:=((hR).block p hp).2;have:=nb.at_;omega
 have nr7:∀r,r<n→∀p:Addr,ra r=some p→p.block≠g1:=fun r hr p hp=>by have:=((hC).lt r hr p hp).2;have:=nb.at_;omega
 have e3:=nb.ext
 clear nb
 have hw1:Bl lb w v2:=(Bl.refl hlb).ext e3
 refine ne_ (cw_keep [(1,.slice RA n rcap),(2,.pointer (some ⟨g1,0,none⟩))] ⟨rfl,rfl,trivial⟩ ?_)
 obtain⟨v8,hv,e9⟩:∃v,v=v2.drew∧Ext v2 v:=⟨_,rfl,(Ext.refl _).drew⟩
 have hw2:Bl lb w v8:=hw1.ext e9
 obtain⟨pz10,hpz10,hcz10⟩:=((hR.ext (e3.trans e9))).rowAt (i:=j) (by omega)
 obtain⟨pz11,hpz11,hcz11⟩:=((hR.ext (e3.trans e9))).rowAt (i:=i) (by omega)
 have lt12:=(hR.ext (e3.trans e9))
 obtain⟨v13,hr14,own15,uo16⟩:=run_setRow lt12 (by omega) hpz11 (ps.getD j 0)
 have hw3:Bl lb w v13:=hw2.updO uo16 (fun p hp=>(lt12.block p hp).1)
 obtain⟨pz17,hpz17,hcz17⟩:=(own15).rowAt (i:=j) (by omega)
 have lt18:=own15
 obtain⟨v19,hr20,own21,uo22⟩:=run_setRow lt18 (by omega) hpz17 (ps.getD i 0)
 have hw4:Bl lb w v19:=hw3.updO uo22 (fun p hp=>(lt18.block p hp).1)
 refine cw_det mix (w:=v8) [.slice RA n rcap,.pointer (some ⟨g1,0,none⟩),.int .i64 ((i:Nat):Int),.slice RA n rcap,.pointer (some ⟨g1,1,none⟩),.int .i64 ((j:Nat):Int),.slice RA n rcap,.pointer (some ⟨g1,1,none⟩),.int .i64 ((j:Nat):Int),.pointer (some pz10),.slice (ra (ps.getD j 0)) n (rc (ps.getD j 0)),.slice RA n rcap,.pointer (some ⟨g1,0,none⟩),.int .i64 ((i:Nat):Int),.pointer (some pz11),.slice (ra (ps.getD i 0)) n (rc (ps.getD i 0)),.pointer (some pz11),undef,.pointer (some pz17),undef] [v8,v13,v19] [17,19] [[],[],[1],[],[],[4],[],[],[7],[6,8],[9],[],[],[12],[11,13],[14],[0,2],[10,16],[3,5],[15,18]] [[],[],[1],[],[],[4],[],[],[7],[6,7,8],[6,7,8,9],[],[],[12],[11,12,13],[11,12,13,14],[0,1,2,6,7,8,9,10,11,12,13,14,15],[0,1,2,6,7,8,9,10,11,12,13,14,15,16],[0,1,2,3,4,5,6,7,8,9,10,11,12,13,14,15,16,17],[0,1,2,3,4,5,6,7,8,9,10,11,12,13,14,15,16,17,18]] [(0,0),(1,0),(2,0),(3,0),(3,1),(4,0),(4,1),(5,0),(5,1),(6,0),(7,0),(8,0),(9,0),(10,0),(11,0),(12,0),(13,0),(14,0),(15,0),(16,0),(17,0),(18,1),(19,1)] rfl hv ?_ ?_
 · 
  refine dobs_val _ rfl rfl rfl rfl rfl (rd_move rfl) (dobs_val _ rfl rfl rfl rfl rfl (rd_pure rfl (by kernel_rfl)) (dobs_val _ rfl rfl rfl rfl rfl (rd_load rfl (load_cell cellInt (hb4.ext e9) rfl)) (dobs_val _ rfl rfl rfl rfl rfl (rd_move rfl) (dobs_val _ rfl rfl rfl rfl rfl (rd_move rfl) (dobs_val _ rfl rfl rfl rfl rfl (rd_pure rfl (by kernel_rfl)) (dobs_val _ rfl rfl rfl rfl rfl (rd_pure rfl (by kernel_rfl)) (dobs_val _ rfl rfl rfl rfl rfl (rd_load rfl (load_cell cellInt (hb4.ext e9) rfl)) (dobs_val _ rfl rfl rfl rfl rfl (rd_load rfl (load_cell cellInt ((hb4.ext e9).updO uo16 ne6) rfl)) (dobs_val _ rfl rfl rfl rfl rfl (rd_move rfl) (dobs_val _ rfl rfl rfl rfl rfl (rd_pure rfl (by kernel_rfl)) (dobs_val _ rfl rfl rfl rfl rfl (rd_load rfl (load_cell cellInt (hb4.ext e9) rfl)) (dobs_val _ rfl rfl rfl rfl rfl (rd_idx rfl rfl Try.underlying80 szInts j rfl (by omega) pz10 hpz10) (dobs_val _ rfl rfl rfl rfl rfl (rd_load rfl (load_cell1 cellInts hcz10)) ?_)))))))))))))
  refine dobs_val _ rfl rfl rfl rfl rfl (rd_move rfl) (dobs_val _ rfl rfl rfl rfl rfl (rd_pure rfl (by kernel_rfl)) (dobs_val _ rfl rfl rfl rfl rfl (rd_load rfl (load_cell cellInt (hb4.ext e9) rfl)) (dobs_val _ rfl rfl rfl rfl rfl (rd_idx rfl rfl Try.underlying80 szInts i rfl (by omega) pz11 hpz11) (dobs_val _ rfl rfl rfl rfl rfl (rd_load rfl (load_cell1 cellInts hcz11)) (dobs_val _ rfl rfl rfl rfl rfl (rd_idx rfl rfl Try.underlying80 szInts i rfl (by omega) pz11 hpz11) (dobs_sto _ rfl rfl rfl rfl rfl (rd_store rfl rfl hr14) (dobs_val _ rfl rfl rfl rfl rfl (rd_idx rfl rfl Try.underlying80 szInts j rfl (by omega) pz17 hpz17) (dobs_sto _ rfl rfl rfl rfl rfl (rd_store rfl rfl hr20) ?_))))))))
  exact dobs_nil
 clear hv
 refine eo_keep [] trivial (eo_end [] rfl trivial ?_)
 exact⟨rfl,hw4,swp ps i j,Z,⟨own21,(((hC.ext (e3.trans e9)).updQ lt12 uo16 hA.Rr).updQ lt18 uo22 hA.Rr),hPer.swp hi2 hj2⟩,(fun a b _ _=>pr_swap hPer hk hi hj hi2 hj2 a b)⟩
set_option maxHeartbeats 4000000 in
theorem g_stp_on_negate {w:World}{lb n:Nat}{RA:Option Addr}{rcap:Nat}{ra:Nat→Option Addr}{rc:Nat→Nat}{ps:List Nat}{Z:Mx}(hlb:lb≤w.heap.size) (hA:Ap2 n RA ra) (hR:Own w lb 22 1 RA n rcap (ps.map (rwv ra rc n))) (hC:Rcs 17179869184 lb n n ra rc w Z) (hn:n≤64) (hPer:Per n ps) (_hZ:∀a b,a<n→b<n→ln (pr Z ps a b)≤1048576){s:Stp}(hk:s.k=2){i:Nat}(hi:s.i=i) (hi2:i<n):
    Calls Try.prog 125 #[.agg #[.int .i64 ((i:Nat):Int)],.slice RA n rcap] w (fun e w'=>e= .returned (.tuple #[])∧Bl lb w w'∧∃ps' Z',Lns lb n RA rcap ra rc ps' Z' w'∧∀a b,a<n→b<n→pr Z' ps' a b=stp s (pr Z ps) a b):=by
 have hcap:=hR.rv.le
 refine sx_enter Try.func125 rfl (n:=27) rfl (bq rfl) (args:= [.agg #[.int .i64 ((i:Nat):Int)],.slice RA n rcap]) (cw_keep [(0,.agg #[.int .i64 ((i:Nat):Int)]),(1,.slice RA n rcap)] ⟨rfl,rfl,trivial⟩ (sr (wl_box rfl rfl (vs:= [.int .i64 ((i:Nat):Int)]) rfl (by decide) fun g1 v2 nb=>?_)))
 have hb4:=nb.bk
 have ge5:w.heap.size≤g1:=by rw [←nb.at_];exact (Bl.refl hlb).size
 have ne6:∀p:Addr,RA=some p→p.block≠g1:=fun p hp=>by have:=((hR).block p hp).2;have:=nb.at_;omega
 have nr7:∀r,r<n→∀p:Addr,ra r=some p→p.block≠g1:=fun r hr p hp=>by have:=((hC).lt r hr p hp).2;have:=nb.at_;omega
 have e3:=nb.ext
 clear nb
 have hw1:Bl lb w v2:=(Bl.refl hlb).ext e3
 refine ne_ (sr (mv 1 rfl (pf g1 0 rfl (by kernel_rfl) (wl_load rfl rfl (load_cell cellInt hb4 rfl) (by decide) ?_))))
 obtain⟨pz8,hpz8,hcz8⟩:=((hR.ext e3)).rowAt (i:=i) (by omega)
 refine wl_idx rfl rfl rfl Try.underlying80 szInts i rfl (by omega) pz8 hpz8 (by decide) (wl_load rfl rfl (load_cell1 cellInts hcz8) (by decide) (pu (v:= .int .i64 ((n:Nat):Int)) rfl (by kernel_rfl) (mv 1 rfl (ne_ (cw_block ?_)))))
 refine cw_loop (T:=World×Nat×Mx) (fun⟨wr,c,Y⟩=> [(0,.agg #[.int .i64 ((i:Nat):Int)]),(1,.slice RA n rcap),(2,.pointer (some ⟨g1,0,none⟩)),(6,.slice RA n rcap),(7,.pointer (some ⟨g1,0,none⟩)),(8,.int .i64 ((i:Nat):Int)),(9,.pointer (some pz8)),(10,.slice (ra (ps.getD i 0)) n (rc (ps.getD i 0))),(11,.int .i64 ((n:Nat):Int)),(12,.int .i64 ((c:Nat):Int))]) (fun⟨wr,c,Y⟩=>wr) (fun⟨wr,c,Y⟩=>(Bl lb w wr)∧(c≤n)∧(Bk wr g1 107 [.int .i64 ((i:Nat):Int)])∧(Own wr lb 22 1 RA n rcap (ps.map (rwv ra rc n)))∧(Rcs 17179869184 lb n n ra rc wr Y)∧(∀a b,a<n→b<n→Y (ps.getD a 0) b=if a=i∧b<c then-Z (ps.getD i 0) b else Z (ps.getD a 0) b)) (fun⟨wr,c,Y⟩=>n-c)
  (⟨v2,0,Z⟩:World×Nat×Mx) ⟨hw1,(by omega),hb4,(hR.ext e3),(hC.ext e3),(fun a b _ _=>by rw [if_neg (by omega)])⟩ rfl ⟨rfl,rfl,rfl,rfl,rfl,rfl,rfl,rfl,rfl,rfl,trivial⟩ ?_
 rintro⟨wr,c,Y⟩ ⟨hw1,hi_c,b_g1,o_RAwr,rc_wr,hY⟩
 refine cw_re [(0,.agg #[.int .i64 ((i:Nat):Int)]),(1,.slice RA n rcap),(2,.pointer (some ⟨g1,0,none⟩)),(6,.slice RA n rcap),(7,.pointer (some ⟨g1,0,none⟩)),(8,.int .i64 ((i:Nat):Int)),(9,.pointer (some pz8)),(10,.slice (ra (ps.getD i 0)) n (rc (ps.getD i 0))),(11,.int .i64 ((n:Nat):Int)),(12,.int .i64 ((c:Nat):Int))] wr rfl ⟨rfl,rfl,rfl,rfl,rfl,rfl,rfl,rfl,rfl,rfl,trivial⟩ (cw_seq ?_)
 by_cases hcn:c<n
 · 
  refine cw_region (wl_cmp rfl rfl rfl true (cb_lt_t (a:=c) (b:=n) rfl rfl (by omega)) (by decide) (ne_ (cw_seq (cw_true rfl (cw_skip (eo_then (cw_seq (cw_block (sr (mv 1 rfl ?_))))))))))
  obtain⟨pz9,sz9,Bz9,nz9,cz9,hpz9,ldz9,hKz9,zz9⟩:=(rc_wr).at (hPer.lt i (by omega)) (show c<n by omega)
  refine wl_idx rfl rfl rfl elemI aggInt.size c rfl (by omega) pz9 hpz9 (by decide) (wl_load rfl rfl (ldz9 _ (Ext.refl _) _ _ aggInt) (by decide) (wl_alloc rfl (z:= .agg #[F0,S0]) (vs:= [F0,S0]) (fun _=>by kernel_rfl) rfl (by decide) fun g10 v11 nb=>?_))
  have hb13:=nb.bk
  have ge14:w.heap.size≤g10:=by rw [←nb.at_];exact hw1.size
  have q15:g1<g10:=by rw [←nb.at_];exact b_g1.lt
  have ne16:∀p:Addr,RA=some p→p.block≠g10:=fun p hp=>by have:=((o_RAwr).block p hp).2;have:=nb.at_;omega
  have nr17:∀r,r<n→∀p:Addr,ra r=some p→p.block≠g10:=fun r hr p hp=>by have:=((rc_wr).lt r hr p hp).2;have:=nb.at_;omega
  have e12:=nb.ext
  clear nb
  have hw2:Bl lb w v11:=hw1.ext e12
  refine mv 1 rfl (wl_stored rfl rfl rfl aggInt rfl hb13 (bq rfl) rfl [.bool sz9,.slice Bz9 nz9 cz9] rfl fun v18 hb20 u21 hs22=>?_)
  have hw3:Bl lb w v18:=hw2.upd u21 (Nat.le_trans hlb ge14)
  refine ne_ ?_
  obtain⟨pz23,hpz23,hcz23⟩:=(((o_RAwr.ext e12).upd u21 ne16)).rowAt (i:=i) (by omega)
  have L24:ln (-(Y (ps.getD i 0) c))≤17179869184:=(by rw [ln_neg];exact (zz9.ln_le hKz9))
  obtain⟨pz26,sz26,Bz26,nz26,cz26,hpz26,ldz26,hKz26,zz26⟩:=(((rc_wr.ext e12).updT hb13 u21 nr17)).at (hPer.lt i (by omega)) (show c<n by omega)
  refine cw_draw mix 9 [] [Is (.slice RA n rcap),Is (.pointer (some ⟨g1,0,none⟩)),Is (.int .i64 ((i:Nat):Int)),Is (.pointer (some pz23)),Is (.slice (ra (ps.getD i 0)) n (rc (ps.getD i 0))),Is (.int .i64 ((c:Nat):Int)),Is (.agg #[.bool sz9,.slice Bz9 nz9 cz9]),ZR w.heap.size (-(Y (ps.getD i 0) c)),Is (.pointer (some pz26))] [[],[],[1],[0,2],[3],[],[],[6],[4,5]] [[],[],[1],[0,1,2],[0,1,2,3],[],[],[6],[0,1,2,3,4,5,6,7],[0,1,2,3,4,5,6,7,8]] rfl
   (obs_cons rfl rfl (hob rfl rfl ?_) (obs_cons rfl rfl (hob rfl rfl ?_) (obs_cons rfl rfl (hob rfl rfl ?_) (obs_cons rfl rfl (hob rfl rfl ?_) (obs_cons rfl rfl (hob rfl rfl ?_) (obs_cons rfl rfl (hob rfl rfl ?_) (obs_cons rfl rfl (hob rfl rfl ?_) (obs_cons rfl rfl (hob rfl rfl ?_) (obs_cons rfl rfl (hob rfl rfl ?_) obs_nil))))))))) ?_
  · 
   intro v27 e28
   have hw4:Bl lb w v27:=hw3.ext e28
   refine deps_nil (mv 1 rfl ?_)
   exact pi_done rfl (Ext.refl _) rfl
  · 
   intro v29 e30
   have hw4:Bl lb w v29:=hw3.ext e30
   refine deps_nil (pf g1 0 rfl (by kernel_rfl) ?_)
   exact pi_done rfl (Ext.refl _) rfl
  · 
   intro v31 e32
   have hw4:Bl lb w v31:=hw3.ext e32
   refine dk rfl rfl (deps_nil (wl_load rfl rfl (load_cell cellInt (((b_g1.ext e12).updN u21 (by omega)).ext e32) rfl) (by decide) ?_))
   exact pi_done rfl (Ext.refl _) rfl
  · 
   intro v38 e39
   have hw4:Bl lb w v38:=hw3.ext e39
   refine dk rfl rfl (dk rfl rfl (deps_nil (wl_idx rfl rfl rfl Try.underlying80 szInts i rfl (by omega) pz23 hpz23 (by decide) ?_)))
   exact pi_done rfl (Ext.refl _) rfl
  · 
   intro v50 e51
   have hw4:Bl lb w v50:=hw3.ext e51
   refine dk rfl rfl (deps_nil (wl_load rfl rfl (load_cell1 cellInts (e51.cell hcz23)) (by decide) ?_))
   exact pi_done rfl (Ext.refl _) rfl
  · 
   intro v57 e58
   have hw4:Bl lb w v57:=hw3.ext e58
   refine deps_nil (mv 1 rfl ?_)
   exact pi_done rfl (Ext.refl _) rfl
  · 
   intro v59 e60
   have hw4:Bl lb w v59:=hw3.ext e60
   refine deps_nil (lo aggInt (hb20.ext e60) [.bool sz9,.slice Bz9 nz9 cz9] rfl rfl rfl ?_)
   exact pi_done rfl (Ext.refl _) rfl
  · 
   intro v61 e62
   have hw4:Bl lb w v61:=hw3.ext e62
   refine dk rfl rfl (deps_nil ?_)
   have L68:ln (-(Y (ps.getD i 0) c))≤17179869184:=(by rw [ln_neg];exact (zz9.ln_le hKz9))
   refine wl_call rfl rfl (vs:= [.agg #[.bool sz9,.slice Bz9 nz9 cz9]]) (by kernel_rfl) (by decide) (g_zint_Neg hw4.size (((zz9.ext e12).updT hb13 u21).ext e62).zi (zz9.le (Nat.le_trans (zz9.ln_le hKz9) (by decide)))) ?_
   rintro _ v69 ⟨xr71,rfl,r71,e70⟩
   refine ret_intro ?_
   have hw5:Bl lb w v69:=hw4.ext e70
   obtain⟨s72,A72,n72,c72,rfl,z72⟩:=r71
   exact pi_done rfl e70 ⟨_,_,_,_,rfl,z72⟩
  · 
   intro v73 e74
   have hw4:Bl lb w v73:=hw3.ext e74
   refine dk rfl rfl (dk rfl rfl (deps_nil (wl_idx rfl rfl rfl elemI aggInt.size c rfl (by omega) pz26 hpz26 (by decide) ?_)))
   exact pi_done rfl (Ext.refl _) rfl
  · 
   intro v85 e86
   have hw4:Bl lb w v85:=hw3.ext e86
   refine dk rfl rfl (dk rfl rfl (dk rfl rfl (dk rfl rfl (dk rfl rfl (dk rfl rfl (dk rfl rfl (deps_cons rfl rfl fun x122 y123 h124 e125 f126=>?_)))))))
   obtain⟨s127,A127,n127,c127,rfl,z127⟩:=h124
   have z127:=z127.ext f126
   refine dk rfl rfl (deps_nil ?_)
   have rt133:=(((rc_wr.ext e12).updT hb13 u21 nr17).ext e86)
   obtain⟨us135,own136⟩:=rt133.own (hPer.lt i (by omega))
   refine wl_setR (e:=⟨s127,A127,n127,c127⟩) (z:= -(Y (ps.getD i 0) c)) rfl rfl rfl rt133 (hPer.lt i (by omega)) (show c<n by omega) hpz26 (Zr.mono z127 (Nat.zero_le _)) (z127.le (lx_ L24 rfl)) fun v134 rc137 uo138=>?_
   have hw5:Bl lb w v134:=hw4.updO uo138 (fun p hp=>(own136.block p hp).1)
   refine wl_nil (eo_np (eo_block_normal (eo_then (cw_region (wl_ar rfl rfl rfl ((c+1:Nat):Int) (ai_add (a:=c) (b:=1) rfl rfl (by omega)) (by decide) (mv 1 rfl (wl_nil (eo_round (⟨v134,c+1,ent Y (ps.getD i 0) c (-(Y (ps.getD i 0) c))⟩:World×Nat×Mx) ⟨hw5,(by omega),((((b_g1.ext e12).updN u21 (by omega)).ext e86).updO uo138 (nr7 (ps.getD i 0) (hPer.lt i (by omega)))),((((o_RAwr.ext e12).upd u21 ne16).ext e86).updO uo138 (fun p q hp hq e=>hA.Rr (ps.getD i 0) (hPer.lt i (by omega)) q p hq hp e.symm)),rc137,(ent_row hPer hi2 hY (by rw [hY i c hi2 hcn,if_neg (by omega)]))⟩ (show n-(c+1)<n-c by omega) rfl ⟨rfl,rfl,rfl,rfl,rfl,rfl,rfl,rfl,rfl,rfl,trivial⟩))))))))
 · 
  refine cw_region (wl_cmp rfl rfl rfl false (cb_lt_f (a:=c) (b:=n) rfl rfl (by omega)) (by decide) (ne_ (cw_seq (cw_false rfl (cw_exit (eo_thenX (eo_loopX (eo_block_here (eo_end [] rfl trivial ?_)))))))))
  exact⟨rfl,hw1,ps,Y,⟨o_RAwr,rc_wr,hPer⟩,(fun a b ha hb=>pr_neg hk hi ((show c=n by omega)▸hY) a b ha hb)⟩
set_option maxHeartbeats 4000000 in
theorem g_stp_on_add {w:World}{lb n:Nat}{RA:Option Addr}{rcap:Nat}{ra:Nat→Option Addr}{rc:Nat→Nat}{ps:List Nat}{Z:Mx}(hlb:lb≤w.heap.size) (hA:Ap2 n RA ra) (hR:Own w lb 22 1 RA n rcap (ps.map (rwv ra rc n))) (hC:Rcs 17179869184 lb n n ra rc w Z) (hn:n≤64) (hPer:Per n ps) (hZ:∀a b,a<n→b<n→ln (pr Z ps a b)≤1048576){s:Stp}(hk:s.k=3){i j:Nat}(hi:s.i=i) (hj:s.j=j) (hi2:i<n) (hj2:j<n) (_hij:i≠j){b_f:Nat}{sf:Bool}{Af:Option Addr}{nf cf:Nat}(hf:Zr w b_f sf Af nf cf s.f) (lf:ln s.f≤1048576):
    Calls Try.prog 128 #[.agg #[.int .i64 ((i:Nat):Int),.int .i64 ((j:Nat):Int),.bool sf,.slice Af nf cf],.slice RA n rcap] w (fun e w'=>e= .returned (.tuple #[])∧Bl lb w w'∧∃ps' Z',Lns lb n RA rcap ra rc ps' Z' w'∧∀a b,a<n→b<n→pr Z' ps' a b=stp s (pr Z ps) a b):=by
 have hcap:=hR.rv.le
 refine sx_enter Try.func128 rfl (n:=37) rfl (bq rfl) (args:= [.agg #[.int .i64 ((i:Nat):Int),.int .i64 ((j:Nat):Int),.bool sf,.slice Af nf cf],.slice RA n rcap]) (cw_keep [(0,.agg #[.int .i64 ((i:Nat):Int),.int .i64 ((j:Nat):Int),.bool sf,.slice Af nf cf]),(1,.slice RA n rcap)] ⟨rfl,rfl,trivial⟩ (sr (wl_box rfl rfl (vs:= [.int .i64 ((i:Nat):Int),.int .i64 ((j:Nat):Int),.bool sf,.slice Af nf cf]) rfl (by decide) fun g1 v2 nb=>?_)))
 have hb4:=nb.bk
 have ge5:w.heap.size≤g1:=by rw [←nb.at_];exact (Bl.refl hlb).size
 have ne6:∀p:Addr,RA=some p→p.block≠g1:=fun p hp=>by have:=((hR).block p hp).2;have:=nb.at_;omega
 have nr7:∀r,r<n→∀p:Addr,ra r=some p→p.block≠g1:=fun r hr p hp=>by have:=((hC).lt r hr p hp).2;have:=nb.at_;omega
 have e3:=nb.ext
 clear nb
 have hw1:Bl lb w v2:=(Bl.refl hlb).ext e3
 refine ne_ (sr (mv 1 rfl (pf g1 1 rfl (by kernel_rfl) (wl_load rfl rfl (load_cell cellInt hb4 rfl) (by decide) ?_))))
 obtain⟨pz8,hpz8,hcz8⟩:=((hR.ext e3)).rowAt (i:=j) (by omega)
 refine wl_idx rfl rfl rfl Try.underlying80 szInts j rfl (by omega) pz8 hpz8 (by decide) (wl_load rfl rfl (load_cell1 cellInts hcz8) (by decide) (pu (v:= .int .i64 ((n:Nat):Int)) rfl (by kernel_rfl) (mv 1 rfl (ne_ (cw_block ?_)))))
 refine cw_loop (T:=World×Nat×Mx) (fun⟨wr,c,Y⟩=> [(0,.agg #[.int .i64 ((i:Nat):Int),.int .i64 ((j:Nat):Int),.bool sf,.slice Af nf cf]),(1,.slice RA n rcap),(2,.pointer (some ⟨g1,0,none⟩)),(6,.slice RA n rcap),(7,.pointer (some ⟨g1,1,none⟩)),(8,.int .i64 ((j:Nat):Int)),(9,.pointer (some pz8)),(10,.slice (ra (ps.getD j 0)) n (rc (ps.getD j 0))),(11,.int .i64 ((n:Nat):Int)),(12,.int .i64 ((c:Nat):Int))]) (fun⟨wr,c,Y⟩=>wr) (fun⟨wr,c,Y⟩=>(Bl lb w wr)∧(c≤n)∧(Bk wr g1 109 [.int .i64 ((i:Nat):Int),.int .i64 ((j:Nat):Int),.bool sf,.slice Af nf cf])∧(Zr wr b_f sf Af nf cf (s.f))∧(Own wr lb 22 1 RA n rcap (ps.map (rwv ra rc n)))∧(Rcs 17179869184 lb n n ra rc wr Y)∧(∀a b,a<n→b<n→Y (ps.getD a 0) b=if a=i∧b<c then s.f*Z (ps.getD j 0) b+Z (ps.getD i 0) b else Z (ps.getD a 0) b)) (fun⟨wr,c,Y⟩=>n-c)
  (⟨v2,0,Z⟩:World×Nat×Mx) ⟨hw1,(by omega),hb4,(hf.ext e3),(hR.ext e3),(hC.ext e3),(fun a b _ _=>by rw [if_neg (by omega)])⟩ rfl ⟨rfl,rfl,rfl,rfl,rfl,rfl,rfl,rfl,rfl,rfl,trivial⟩ ?_
 rintro⟨wr,c,Y⟩ ⟨hw1,hi_c,b_g1,z_g1_1,o_RAwr,rc_wr,hY⟩
 refine cw_re [(0,.agg #[.int .i64 ((i:Nat):Int),.int .i64 ((j:Nat):Int),.bool sf,.slice Af nf cf]),(1,.slice RA n rcap),(2,.pointer (some ⟨g1,0,none⟩)),(6,.slice RA n rcap),(7,.pointer (some ⟨g1,1,none⟩)),(8,.int .i64 ((j:Nat):Int)),(9,.pointer (some pz8)),(10,.slice (ra (ps.getD j 0)) n (rc (ps.getD j 0))),(11,.int .i64 ((n:Nat):Int)),(12,.int .i64 ((c:Nat):Int))] wr rfl ⟨rfl,rfl,rfl,rfl,rfl,rfl,rfl,rfl,rfl,rfl,trivial⟩ (cw_seq ?_)
 by_cases hcn:c<n
 · 
  refine cw_region (wl_cmp rfl rfl rfl true (cb_lt_t (a:=c) (b:=n) rfl rfl (by omega)) (by decide) (ne_ (cw_seq (cw_true rfl (cw_skip (eo_then (cw_seq (cw_block (cw_seq ?_)))))))))
  have hYi:Y (ps.getD i 0) c=Z (ps.getD i 0) c:=by rw [hY i c hi2 hcn,if_neg (by omega)]
  have hYj:Y (ps.getD j 0) c=Z (ps.getD j 0) c:=by rw [hY j c hj2 hcn,if_neg (by omega)]
  have hLi:ln (Y (ps.getD i 0) c)≤1048576:=by rw [hYi];exact hZ i c hi2 hcn
  have hLj:ln (Y (ps.getD j 0) c)≤1048576:=by rw [hYj];exact hZ j c hj2 hcn
  refine cw_region (mv 1 rfl ?_)
  obtain⟨pz9,sz9,Bz9,nz9,cz9,hpz9,ldz9,hKz9,zz9⟩:=(rc_wr).at (hPer.lt j (by omega)) (show c<n by omega)
  refine wl_idx rfl rfl rfl elemI aggInt.size c rfl (by omega) pz9 hpz9 (by decide) (wl_load rfl rfl (ldz9 _ (Ext.refl _) _ _ aggInt) (by decide) (wl_alloc rfl (z:= .agg #[F0,S0]) (vs:= [F0,S0]) (fun _=>by kernel_rfl) rfl (by decide) fun g10 v11 nb=>?_))
  have hb13:=nb.bk
  have ge14:w.heap.size≤g10:=by rw [←nb.at_];exact hw1.size
  have q15:g1<g10:=by rw [←nb.at_];exact b_g1.lt
  have ne16:∀p:Addr,RA=some p→p.block≠g10:=fun p hp=>by have:=((o_RAwr).block p hp).2;have:=nb.at_;omega
  have nr17:∀r,r<n→∀p:Addr,ra r=some p→p.block≠g10:=fun r hr p hp=>by have:=((rc_wr).lt r hr p hp).2;have:=nb.at_;omega
  have e12:=nb.ext
  clear nb
  have hw2:Bl lb w v11:=hw1.ext e12
  refine mv 1 rfl (wl_stored rfl rfl rfl aggInt rfl hb13 (bq rfl) rfl [.bool sz9,.slice Bz9 nz9 cz9] rfl fun v18 hb20 u21 hs22=>?_)
  have hw3:Bl lb w v18:=hw2.upd u21 (Nat.le_trans hlb ge14)
  refine ne_ ?_
  obtain⟨pz23,hpz23,hcz23⟩:=(((o_RAwr.ext e12).upd u21 ne16)).rowAt (i:=i) (by omega)
  obtain⟨pz24,sz24,Bz24,nz24,cz24,hpz24,ldz24,hKz24,zz24⟩:=(((rc_wr.ext e12).updT hb13 u21 nr17)).at (hPer.lt i (by omega)) (show c<n by omega)
  have L25:ln (s.f*(Y (ps.getD j 0) c)+(Y (ps.getD i 0) c))≤2097153:=Nat.le_trans (ln_add (ln_mul lf hLj) hLi) (by decide)
  refine cw_draw mix 19 [] [Is (.slice RA n rcap),Is (.pointer (some ⟨g1,0,none⟩)),Is (.int .i64 ((i:Nat):Int)),Is (.pointer (some pz23)),Is (.slice (ra (ps.getD i 0)) n (rc (ps.getD i 0))),Is (.int .i64 ((c:Nat):Int)),Is (.pointer (some ⟨g1,2,none⟩)),Is (.agg #[.bool sf,.slice Af nf cf]),Is (.agg #[.bool sz9,.slice Bz9 nz9 cz9]),Is (.slice RA n rcap),Is (.pointer (some ⟨g1,0,none⟩)),Is (.int .i64 ((i:Nat):Int)),Is (.pointer (some pz23)),Is (.slice (ra (ps.getD i 0)) n (rc (ps.getD i 0))),Is (.int .i64 ((c:Nat):Int)),Is (.pointer (some pz24)),Is (.agg #[.bool sz24,.slice Bz24 nz24 cz24]),ZR w.heap.size (s.f*(Y (ps.getD j 0) c)+(Y (ps.getD i 0) c)),Is (.pointer (some pz24))] [[],[],[1],[0,2],[3],[],[],[6],[],[],[],[10],[9,11],[12],[],[13,14],[15],[7,8,16],[4,5]] [[],[],[1],[0,1,2],[0,1,2,3],[],[],[6],[],[],[],[10],[9,10,11],[9,10,11,12],[],[9,10,11,12,13,14],[9,10,11,12,13,14,15],[6,7,8,9,10,11,12,13,14,15,16],[0,1,2,3,4,5,6,7,8,9,10,11,12,13,14,15,16,17],[0,1,2,3,4,5,6,7,8,9,10,11,12,13,14,15,16,17,18]] rfl
   (obs_cons rfl rfl (hob rfl rfl ?_) (obs_cons rfl rfl (hob rfl rfl ?_) (obs_cons rfl rfl (hob rfl rfl ?_) (obs_cons rfl rfl (hob rfl rfl ?_) (obs_cons rfl rfl (hob rfl rfl ?_) (obs_cons rfl rfl (hob rfl rfl ?_) (obs_cons rfl rfl (hob rfl rfl ?_) (obs_cons rfl rfl (hob rfl rfl ?_) (obs_cons rfl rfl (hob rfl rfl ?_) (obs_cons rfl rfl (hob rfl rfl ?_) (obs_cons rfl rfl (hob rfl rfl ?_) (obs_cons rfl rfl (hob rfl rfl ?_) (obs_cons rfl rfl (hob rfl rfl ?_) (obs_cons rfl rfl (hob rfl rfl ?_) (obs_cons rfl rfl (hob rfl rfl ?_) (obs_cons rfl rfl (hob rfl rfl ?_) (obs_cons rfl rfl (hob rfl rfl ?_) (obs_cons rfl rfl (hob rfl rfl ?_) (obs_cons rfl rfl (hob rfl rfl ?_) obs_nil))))))))))))))))))) ?_
  · 
   intro v27 e28
   have hw4:Bl lb w v27:=hw3.ext e28
   refine deps_nil (mv 1 rfl ?_)
   exact pi_done rfl (Ext.refl _) rfl
  · 
   intro v29 e30
   have hw4:Bl lb w v29:=hw3.ext e30
   refine deps_nil (pf g1 0 rfl (by kernel_rfl) ?_)
   exact pi_done rfl (Ext.refl _) rfl
  · 
   intro v31 e32
   have hw4:Bl lb w v31:=hw3.ext e32
   refine dk rfl rfl (deps_nil (wl_load rfl rfl (load_cell cellInt (((b_g1.ext e12).updN u21 (by omega)).ext e32) rfl) (by decide) ?_))
   exact pi_done rfl (Ext.refl _) rfl
  · 
   intro v38 e39
   have hw4:Bl lb w v38:=hw3.ext e39
   refine dk rfl rfl (dk rfl rfl (deps_nil (wl_idx rfl rfl rfl Try.underlying80 szInts i rfl (by omega) pz23 hpz23 (by decide) ?_)))
   exact pi_done rfl (Ext.refl _) rfl
  · 
   intro v50 e51
   have hw4:Bl lb w v50:=hw3.ext e51
   refine dk rfl rfl (deps_nil (wl_load rfl rfl (load_cell1 cellInts (e51.cell hcz23)) (by decide) ?_))
   exact pi_done rfl (Ext.refl _) rfl
  · 
   intro v57 e58
   have hw4:Bl lb w v57:=hw3.ext e58
   refine deps_nil (mv 1 rfl ?_)
   exact pi_done rfl (Ext.refl _) rfl
  · 
   intro v59 e60
   have hw4:Bl lb w v59:=hw3.ext e60
   refine deps_nil (pf g1 2 rfl (by kernel_rfl) ?_)
   exact pi_done rfl (Ext.refl _) rfl
  · 
   intro v61 e62
   have hw4:Bl lb w v61:=hw3.ext e62
   refine dk rfl rfl (deps_nil (lo aggInt (((b_g1.ext e12).updN u21 (by omega)).ext e62) [.bool sf,.slice Af nf cf] rfl rfl rfl ?_))
   exact pi_done rfl (Ext.refl _) rfl
  · 
   intro v68 e69
   have hw4:Bl lb w v68:=hw3.ext e69
   refine deps_nil (lo aggInt (hb20.ext e69) [.bool sz9,.slice Bz9 nz9 cz9] rfl rfl rfl ?_)
   exact pi_done rfl (Ext.refl _) rfl
  · 
   intro v70 e71
   have hw4:Bl lb w v70:=hw3.ext e71
   refine deps_nil (mv 1 rfl ?_)
   exact pi_done rfl (Ext.refl _) rfl
  · 
   intro v72 e73
   have hw4:Bl lb w v72:=hw3.ext e73
   refine deps_nil (pf g1 0 rfl (by kernel_rfl) ?_)
   exact pi_done rfl (Ext.refl _) rfl
  · 
   intro v74 e75
   have hw4:Bl lb w v74:=hw3.ext e75
   refine dk rfl rfl (deps_nil (wl_load rfl rfl (load_cell cellInt (((b_g1.ext e12).updN u21 (by omega)).ext e75) rfl) (by decide) ?_))
   exact pi_done rfl (Ext.refl _) rfl
  · 
   intro v81 e82
   have hw4:Bl lb w v81:=hw3.ext e82
   refine dk rfl rfl (dk rfl rfl (deps_nil (wl_idx rfl rfl rfl Try.underlying80 szInts i rfl (by omega) pz23 hpz23 (by decide) ?_)))
   exact pi_done rfl (Ext.refl _) rfl
  · 
   intro v93 e94
   have hw4:Bl lb w v93:=hw3.ext e94
   refine dk rfl rfl (deps_nil (wl_load rfl rfl (load_cell1 cellInts (e94.cell hcz23)) (by decide) ?_))
   exact pi_done rfl (Ext.refl _) rfl
  · 
   intro v100 e101
   have hw4:Bl lb w v100:=hw3.ext e101
   refine deps_nil (mv 1 rfl ?_)
   exact pi_done rfl (Ext.refl _) rfl
  · 
   intro v102 e103
   have hw4:Bl lb w v102:=hw3.ext e103
   refine dk rfl rfl (dk rfl rfl (deps_nil (wl_idx rfl rfl rfl elemI aggInt.size c rfl (by omega) pz24 hpz24 (by decide) ?_)))
   exact pi_done rfl (Ext.refl _) rfl
  · 
   intro v114 e115
   have hw4:Bl lb w v114:=hw3.ext e115
   refine dk rfl rfl (deps_nil (wl_load rfl rfl (ldz24 _ e115 _ _ aggInt) (by decide) ?_))
   exact pi_done rfl (Ext.refl _) rfl
  · 
   intro v121 e122
   have hw4:Bl lb w v121:=hw3.ext e122
   refine dk rfl rfl (dk rfl rfl (dk rfl rfl (deps_nil ?_)))
   have L138:ln (s.f*(Y (ps.getD j 0) c)+(Y (ps.getD i 0) c))≤2097153:=Nat.le_trans (ln_add (ln_mul lf hLj) hLi) (by decide)
   refine wl_call rfl rfl (vs:= [.agg #[.bool sf,.slice Af nf cf],.agg #[.bool sz9,.slice Bz9 nz9 cz9],.agg #[.bool sz24,.slice Bz24 nz24 cz24]]) (by kernel_rfl) (by decide) (g_zint_MulAdd hw4.size (((z_g1_1.ext e12).updT hb13 u21).ext e122).zi (z_g1_1.le (lx_ lf rfl)) (((zz9.ext e12).updT hb13 u21).ext e122).zi (zz9.le (lx_ hLj rfl)) (zz24.ext e122).zi (zz24.le (lx_ hLi rfl))) ?_
   rintro _ v139 ⟨xr141,rfl,r141,e140⟩
   refine ret_intro ?_
   have hw5:Bl lb w v139:=hw4.ext e140
   obtain⟨s142,A142,n142,c142,rfl,z142⟩:=r141
   exact pi_done rfl e140 ⟨_,_,_,_,rfl,z142⟩
  · 
   intro v143 e144
   have hw4:Bl lb w v143:=hw3.ext e144
   refine dk rfl rfl (dk rfl rfl (deps_nil (wl_idx rfl rfl rfl elemI aggInt.size c rfl (by omega) pz24 hpz24 (by decide) ?_)))
   exact pi_done rfl (Ext.refl _) rfl
  · 
   intro v155 e156
   have hw4:Bl lb w v155:=hw3.ext e156
   refine dk rfl rfl (dk rfl rfl (dk rfl rfl (dk rfl rfl (dk rfl rfl (dk rfl rfl (dk rfl rfl (dk rfl rfl (dk rfl rfl (dk rfl rfl (dk rfl rfl (dk rfl rfl (dk rfl rfl (dk rfl rfl ?_)))))))))))))
   refine dk rfl rfl (dk rfl rfl (dk rfl rfl (deps_cons rfl rfl fun x242 y243 h244 e245 f246=>?_)))
   obtain⟨s247,A247,n247,c247,rfl,z247⟩:=h244
   have z247:=z247.ext f246
   refine dk rfl rfl (deps_nil ?_)
   have rt253:=(((rc_wr.ext e12).updT hb13 u21 nr17).ext e156)
   obtain⟨us255,own256⟩:=rt253.own (hPer.lt i (by omega))
   refine wl_setR (e:=⟨s247,A247,n247,c247⟩) (z:=s.f*(Y (ps.getD j 0) c)+(Y (ps.getD i 0) c)) rfl rfl rfl rt253 (hPer.lt i (by omega)) (show c<n by omega) hpz24 (Zr.mono z247 (Nat.zero_le _)) (z247.le (lx_ L25 rfl)) fun v254 rc257 uo258=>?_
   have hw5:Bl lb w v254:=hw4.updO uo258 (fun p hp=>(own256.block p hp).1)
   refine wl_nil (eo_np (eo_block_normal (eo_then (cw_region (wl_ar rfl rfl rfl ((c+1:Nat):Int) (ai_add (a:=c) (b:=1) rfl rfl (by omega)) (by decide) (mv 1 rfl (wl_nil (eo_round (⟨v254,c+1,ent Y (ps.getD i 0) c (s.f*(Y (ps.getD j 0) c)+(Y (ps.getD i 0) c))⟩:World×Nat×Mx) ⟨hw5,(by omega),((((b_g1.ext e12).updN u21 (by omega)).ext e156).updO uo258 (nr7 (ps.getD i 0) (hPer.lt i (by omega)))),((((z_g1_1.ext e12).updT hb13 u21).ext e156).updOT own256 uo258),((((o_RAwr.ext e12).upd u21 ne16).ext e156).updO uo258 (fun p q hp hq e=>hA.Rr (ps.getD i 0) (hPer.lt i (by omega)) q p hq hp e.symm)),rc257,(ent_row hPer hi2 hY (by rw [hYi,hYj]))⟩ (show n-(c+1)<n-c by omega) rfl ⟨rfl,rfl,rfl,rfl,rfl,rfl,rfl,rfl,rfl,rfl,trivial⟩))))))))
 · 
  refine cw_region (wl_cmp rfl rfl rfl false (cb_lt_f (a:=c) (b:=n) rfl rfl (by omega)) (by decide) (ne_ (cw_seq (cw_false rfl (cw_exit (eo_thenX (eo_loopX (eo_block_here (eo_end [] rfl trivial ?_)))))))))
  exact⟨rfl,hw1,ps,Y,⟨o_RAwr,rc_wr,hPer⟩,(fun a b ha hb=>pr_add hk hi hj ((show c=n by omega)▸hY) a b ha hb)⟩
theorem cellLns:∀w,(isAgg 80).run Try.prog w= .ok false w:=fun _=>by kernel_rfl
theorem szLns:∀w,(sizeOf 80).run Try.prog w= .ok 1 w:=fun _=>by kernel_rfl
theorem infoL:(Try.prog.info? 22).map (fun i=>(i.zero,i.size,i.bytes))=some (some (.slice none 0 0),1,24):=by kernel_rfl
section
variable {Q:Exit→Act→World→Prop}{N:Nat}{l:Fr}{w:World}{ops:Array Oper}{rest:List Oper}{d:Nat}{ty:TypeId}{pos:String}{af:Array Edge}{gd:Option (Nat×Bool)}
theorem wl_on {x y:Operand}{ts:Array TypeId}{b:Nat}{s:Stp}{v:Value}{lb n:Nat}{RA:Option Addr}{rcap:Nat}{ra:Nat→Option Addr}{rc:Nat→Nat}{ps:List Nat}{Z:Mx}(hw:guardB ops l gd=some true) (hx:evo l x=some v) (hy:evo l y=some (.slice RA n rcap)) (hv:Mv b s v w) (hfit:s.fit n)
  (hlb:lb≤w.heap.size) (hA:Ap2 n RA ra) (hL:Lns lb n RA rcap ra rc ps Z w) (hn:n≤64) (hZ:∀a b,a<n→b<n→ln (pr Z ps a b)≤1048576) (lf:ln s.f≤1048576) (hd:d<N)
  (h:∀w' ps' Z',Bl lb w w'→Lns lb n RA rcap ra rc ps' Z' w'→(∀a b,a<n→b<n→pr Z' ps' a b=stp s (pr Z ps) a b)→wl Try.prog ops Q N rest ((d,.tuple #[])::l) w'):
  wl Try.prog ops Q N (⟨some d,.call {callee:= .invoke x "trellis/steps.on",args:= #[y],argTypes:=ts},ty,pos,af,gd⟩::rest) l w:=by
 have hys:(#[y]:Array Operand).toList.map (evo l)= [Value.slice RA n rcap].map some:=by simp [hy]
 have fin:∀{e:Ending}{w':World},(e= .returned (.tuple #[])∧Bl lb w w'∧∃ps' Z',Lns lb n RA rcap ra rc ps' Z' w'∧∀a b,a<n→b<n→pr Z' ps' a b=stp s (pr Z ps) a b)→Ret (fun v=>wl Try.prog ops Q N rest ((d,v)::l) w') e:=by
  rintro e w' ⟨rfl,hb,ps',Z',hL',hp⟩
  exact ret_intro (h w' ps' Z' hb hL' hp)
 rcases hv with⟨hk,rfl⟩ | ⟨hk,rfl⟩ | ⟨hk,t,B,m,c,rfl,hz⟩ | ⟨h1,h2,h3,rfl⟩
 ·rcases hfit with⟨_,h4,h5⟩ | ⟨h4,_⟩ | ⟨h4,_⟩ <;> try omega
  obtain⟨i,hi,hi2⟩:=insd_nat h4
  obtain⟨j,hj,hj2⟩:=insd_nat h5
  rw [hi,hj] at hx
  exact wl_callI [.slice RA n rcap] hw hx hys (fun _=>by kernel_rfl) hd (g_stp_on_swap hlb hA hL.R hL.C hn hL.per hZ hk hi hj hi2 hj2) fun e w' he=>fin he
 ·rcases hfit with⟨h4,_⟩ | ⟨_,h4⟩ | ⟨h4,_⟩ <;> try omega
  obtain⟨i,hi,hi2⟩:=insd_nat h4
  rw [hi] at hx
  exact wl_callI [.slice RA n rcap] hw hx hys (fun _=>by kernel_rfl) hd (g_stp_on_negate hlb hA hL.R hL.C hn hL.per hZ hk hi hi2) fun e w' he=>fin he
 ·rcases hfit with⟨h4,_⟩ | ⟨h4,_⟩ | ⟨_,h4,h5,h6⟩ <;> try omega
  obtain⟨i,hi,hi2⟩:=insd_nat h4
  obtain⟨j,hj,hj2⟩:=insd_nat h5
  rw [hi,hj] at hx
  exact wl_callI [.slice RA n rcap] hw hx hys (fun _=>by kernel_rfl) hd (g_stp_on_add hlb hA hL.R hL.C hn hL.per hZ hk hi hj hi2 hj2 (fun e=>h6 (by rw [hi,hj,e])) hz lf) fun e w' he=>fin he
 ·rcases hfit with⟨h4,_⟩ | ⟨h4,_⟩ | ⟨h4,_⟩
  ·exact absurd h4 h1
  ·exact absurd h4 h2
  ·exact absurd h4 h3
theorem wl_makeR {x y:Operand}{k:Nat}(hw:guardB ops l gd=some true) (hx:evo l x=some (.int .i64 0)) (hy:evo l y=some (.int .i64 (k:Int))) (hk:k≤1099511627776) (hd:d<N)
  (h:∀g w',w.heap.size=g→Own w' g 22 1 (some ⟨g,0,none⟩) 0 k []→Ext w w'→wl Try.prog ops Q N rest ((d,.slice (some ⟨g,0,none⟩) 0 k)::l) w'):wl Try.prog ops Q N (⟨some d,.makeSlice 80 x y,ty,pos,af,gd⟩::rest) l w:=by
 obtain⟨i,hi,hz0,hz1,hz2⟩:=info_parts infoL
 have hr:=run_make (P:=Try.prog) w 80 22 i _ Try.underlying80 hi hz0 .i64 .i64 0 (k:Int) (by omega) (by omega) (by rw [hz2];omega) (by omega)
 rw [Int.toNat_natCast,show (0:Int).toNat=0 from rfl,hz1] at hr
 obtain⟨cs,hcs,hcl⟩:∃cs:List Value,madeCells (Value.slice none 0 0).cells (k*1)=cs.toArray∧cs.length=k*1:=⟨(madeCells (Value.slice none 0 0).cells (k*1)).toList,Array.toArray_toList.symm,by rw [Array.length_toList,size_madeCells]⟩
 rw [hcs] at hr
 refine wl_val hw hd (fun a' ha=>?_) (h _ (w.alloc (.cells cs.toArray 22)) rfl (Or.inr ⟨w.heap.size,cs,rfl,Nat.le_refl _,Bk.new _ _ _,Nat.zero_le _,by rw [len_maxLen];omega,hcl,rfl⟩) ((Ext.refl w).alloc _))
 have e':(Instr.makeSlice 80 (a'.eval x) (a'.eval y)).run Try.prog w= .ok (.slice (some ⟨w.heap.size,0,none⟩) 0 k) (w.alloc (.cells cs.toArray 22)):=by rw [ha.ev hx,ha.ev hy];exact hr
 show ((Instr.makeSlice 80 (a'.eval x) (a'.eval y)>>=fun r=>pure (Next.value r):Sem Next)).run Try.prog w=_
 rw [Sem.run_bind,e'];rfl
end
structure LiC (B L M gl gm:Nat) (Am:Option Addr):Prop where
 bf:B≤gl
 fm:gm≠gl
 fM:gl<M
 fL:gl<L
 mL:gm<L
 am:∀p,Am=some p→p.block<L
 BL:B≤L
structure LiS (w0:World) (n K L M gm:Nat) (Am:Option Addr) (capm:Nat) (xs:List Int) (W:World):Prop where
 ext:Ext w0 W
 sz:L≤W.heap.size
 m:Bk W gm 24 [.int .i64 (n:Int),.int .i64 (n:Int),.slice Am (n*n) capm]
 l:Lz none K 0 W M Am (n*n) capm xs
section
variable {w0:World}{n K L M gl gm lr:Nat}{Am:Option Addr}{capm:Nat}{xs:List Int}{W W':World}
theorem LiS.ex (s:LiS w0 n K L M gm Am capm xs W) (e:Ext W W'):LiS w0 n K L M gm Am capm xs W':=⟨s.ext.trans e,Nat.le_trans s.sz e.size,s.m.ext e,s.l.ext e⟩
theorem LiS.nc (s:LiS w0 n K L M gm Am capm xs W) (c:Nc W W') (b:Below L W W') (hB:w0.heap.size≤L):LiS w0 n K L M gm Am capm xs W':=⟨⟨s.ext.below.trans (b.mono hB)⟩,Nat.le_trans s.sz c.size,s.m.nc c,s.l.nc c⟩
theorem LiS.updR {A:Option Addr}{T:TypeId}{k c:Nat}{us:List Value}(s:LiS w0 n K L M gm Am capm xs W) (hr:w0.heap.size≤lr) (ho:Own W lr T 1 A k c us) (hgm:∀p,A=some p→p.block≠gm) (ham:∀p q,A=some p→Am=some q→p.block≠q.block) (u:UpdO A W W') (hT:57≠T:=by decide):LiS w0 n K L M gm Am capm xs W':=
 ⟨u.ext s.ext (fun p hp=>Nat.le_trans hr (ho.block p hp).1),Nat.le_trans s.sz u.size,s.m.updO u hgm,s.l.updQ ho u ham hT⟩
theorem LiS.updF {us:List Value}(s:LiS w0 n K L M gm Am capm xs W) (C:LiC w0.heap.size L M gl gm Am) (hb:Bk W gl 80 us) (u:Upd gl W W'):LiS w0 n K L M gm Am capm xs W':=
 ⟨u.ext s.ext C.bf,Nat.le_trans s.sz u.size,s.m.updN u C.fm,s.l.updT hb u (fun p hp e=>by have:=(s.l.block p hp).1;have:=C.fM;omega)⟩
end
structure LiM (n L lr gl gm:Nat) (Am:Option Addr) (X:Mx) (k b:Nat) (RA:Option Addr) (rcap:Nat) (ra:Nat→Option Addr) (rc:Nat→Nat) (W:World):Prop where
 f:Bk W gl 80 [.slice RA k rcap]
 R:Own W lr 22 1 RA k rcap ((List.range k).map (rwv ra rc n))
 C:Rcs 17179869184 L k n ra rc W X
 Rr:∀r,r<k→∀p q,RA=some p→ra r=some q→p.block≠q.block
 Rb:∀p,RA=some p→p.block<b
 rb:∀r,r<k→∀p,ra r=some p→p.block<b
 Rl:∀p,RA=some p→p.block≠gl
 Rm:∀p,RA=some p→p.block≠gm
 Ra:∀p q,RA=some p→Am=some q→p.block≠q.block
def LiI (w0:World) (n K L M lr gl gm:Nat) (Am:Option Addr) (capm:Nat) (xs:List Int) (X:Mx) (k b:Nat) (W:World):Prop:=
 L≤b∧LiS w0 n K L M gm Am capm xs W∧∃RA rcap ra rc,LiM n L lr gl gm Am X k b RA rcap ra rc W
set_option maxHeartbeats 4000000 in
theorem g_stp_linesOf {w:World}{n K:Nat}{Aa:Option Addr}{na capa:Nat}{xs:List Int}(hxa:ZF w Aa na capa K xs) (hn:n≤64) (hna:na=n*n){X:Mx}(hX:En n n X xs) (hKB:K≤17179869184):
  Calls Try.prog 50 #[.agg #[.int .i64 ((n:Nat):Int),.int .i64 ((n:Nat):Int),.slice Aa na capa]] w (Gv w (fun v w'=>∃RA rcap ra rc,v= .slice RA n rcap∧Ap2 n RA ra∧Lns w.heap.size n RA rcap ra rc (List.range n) X w')):=by
 have hlb:w.heap.size≤w.heap.size:=Nat.le_refl _
 have hxa0:=hxa
 obtain⟨msa,hla,hma⟩:=hxa
 refine sx_enterM Try.func50 rfl (n:=18) rfl (bq rfl) (args:= [.agg #[.int .i64 ((n:Nat):Int),.int .i64 ((n:Nat):Int),.slice Aa na capa]]) (cw_keep [(0,.agg #[.int .i64 ((n:Nat):Int),.int .i64 ((n:Nat):Int),.slice Aa na capa])] ⟨rfl,trivial⟩ (sr (bx [.int .i64 ((n:Nat):Int),.int .i64 ((n:Nat):Int),.slice Aa na capa] (Ext.refl w) rfl rfl rfl fun g1 v2 hb4 ge5 e3 hw1=>(mv 1 rfl (ne_ (sr (pf g1 0 rfl (by kernel_rfl) (wl_load rfl rfl (load_cell cellInt hb4 rfl) (by decide) (wl_makeR rfl rfl rfl (by omega) (by decide) fun g6 v7 hg8 ow9 e10=>?_)))))))))
 have hgeg6:w.heap.size≤g6:=by rw [←hg8];exact hw1.size
 have hqg1g6:g1<g6:=by rw [←hg8];exact hb4.lt
 clear hg8
 have hw2:=hw1.trans e10
 have hrlg6:=(ow9.block _ rfl).2
 refine wl_alloc rfl (z:= .slice none 0 0) (vs:= [S0]) (fun _=>by kernel_rfl) rfl (by decide) fun g11 v12 nb=>?_
 have hrgg11:g6<g11:=by rw [←nb.at_];exact hrlg6
 have hb14:=nb.bk
 have ge15:w.heap.size≤g11:=by rw [←nb.at_];exact hw2.size
 have q16:g1<g11:=by rw [←nb.at_];exact (hb4.ext e10).lt
 have e13:=nb.ext
 clear nb
 have hw3:=hw2.trans e13
 refine wl_stored1 rfl rfl rfl szLns rfl hb14 (bq rfl) rfl [.slice (some ⟨g6,0,none⟩) 0 n] rfl fun v17 hb19 u20 hs21=>?_
 have hw4:=u20.ext hw3 ge15
 refine ne_ (cw_seq (sr (lo aggMat ((hb4.ext (e10.trans e13)).updN u20 (by omega)) [.int .i64 ((n:Nat):Int),.int .i64 ((n:Nat):Int),.slice Aa na capa] rfl rfl rfl ?_)))
 have hb_gl0:=hb19
 refine cl (vs:= [.agg #[.int .i64 ((n:Nat):Int),.int .i64 ((n:Nat):Int),.slice Aa na capa]]) hw4 (g_mat_Lines (hxa0.ext hw4) hn hn hna hKB) rfl (by kernel_rfl) fun xr24 v22 r24 e23 hw5=>?_
 obtain⟨gm,Am,capm,rfl,hgm,hbm,hzm⟩:=r24
 refine ne_ (cw_block ?_)
 have hf1:=(hb19.ext e23)
 have hr1:=((((ow9.ext e13).upd u20 (fun a ha=>by have e9:=congrArg Addr.block (Option.some.inj ha);simp only at e9;omega)).ext e23)).mono (base':=w.heap.size) (by omega)
 have hgl:g11<v17.heap.size:=(by have:=hb_gl0.lt;omega)
 have C:LiC w.heap.size v22.heap.size v17.heap.size g11 gm Am:=⟨by omega,by omega,hgl,hf1.lt,hbm.lt,fun p hp=>(hzm.block p hp).2,hw5.size⟩
 have S0:LiS w n K v22.heap.size v17.heap.size gm Am capm xs v22:=⟨hw5,Nat.le_refl _,by rw [←hna];exact hbm,by rw [←hna];exact hzm⟩
 refine cw_keep [(3,.pointer (some ⟨g11,0,none⟩)),(10,.func (.func 86) #[] #[.pointer (some ⟨gm,0,none⟩)])] ⟨rfl,rfl,trivial⟩ ?_
 refine cw_lines (A:=Am) (cap:=capm) (gm:=gm) (xs:=xs) (X:=X) (K:=K) (r:=n) (c:=n) (p0:=11) (p1:=12) rfl rfl (by decide) (by decide) hn hn hKB hX (LiI w n K v22.heap.size v17.heap.size w.heap.size g11 gm Am capm xs X) ?_ ?_ ?_ ?_ ?_
  (fun v0 v1=>(5,v1)::(12,v1)::(11,v0):: [(3,.pointer (some ⟨g11,0,none⟩)),(10,.func (.func 86) #[] #[.pointer (some ⟨gm,0,none⟩)])]) ?_ ?_ ?_
 ·rintro k b W ⟨_,S,_⟩
  exact⟨S.m,S.l.zf0⟩
 ·rintro k b V W ⟨hb,S,RA,rcap,ra,rc,R⟩ x
  exact⟨hb,S.ex x,RA,rcap,ra,rc,R.f.ext x,R.R.ext x,R.C.ext x,R.Rr,R.Rb,R.rb,R.Rl,R.Rm,R.Ra⟩
 ·rintro k b W ⟨hb,S,RA,rcap,ra,rc,R⟩
  exact⟨S.sz,S,RA,rcap,ra,rc,R.f,R.R,R.C,R.Rr,fun p hp=>(R.R.block p hp).2,fun r hr p hp=>(R.C.lt r hr p hp).2,R.Rl,R.Rm,R.Ra⟩
 ·rintro k b V W ⟨hb,S,RA,rcap,ra,rc,R⟩ x hbl
  exact⟨hb,S.nc x hbl C.BL,RA,rcap,ra,rc,R.f.nc x,R.R.nc x,R.C.nc x,R.Rr,R.Rb,R.rb,R.Rl,R.Rm,R.Ra⟩
 ·exact⟨Nat.le_refl _,S0,some ⟨g6,0,none⟩,n,fun _=>none,fun _=>0,hf1,hr1,⟨fun r hr=>(by omega),fun r s hr=>(by omega)⟩,fun r hr=>(by omega),fun p hp=>(hr1.block p hp).2,fun r hr=>(by omega),fun p hp=>(by have e9:=congrArg Addr.block (Option.some.inj hp);simp only at e9;omega),fun p hp=>(by have e9:=congrArg Addr.block (Option.some.inj hp);simp only at e9;omega),fun p q hp hq=>(by have e9:=congrArg Addr.block (Option.some.inj hp);simp only at e9;have:=(hzm.block q hq).1;omega)⟩
 ·intro lp v0 v1 Kp W hk
  refine ci_region (Wd.round _ _ _) (then_lets (fun⟨_,_,h⟩=>h)) rfl (mv 1 rfl (wl_nil ?_))
  exact hk
 ·rintro lp k b W LA lc zs Q9 hk ⟨hLb,S,RA,rcap,ra,rc,R⟩ hb hz hze hNL hQ
  refine ci_block (ci_region (Wd.round _ _ _) (block_lets hNL) rfl (wl_load rfl rfl (load_cell cellLns R.f rfl) (by decide) (mv 1 rfl (wl_bslice rfl rfl (by decide) (k:=1) (e:=22) [.slice LA n lc] (fun _=>by kernel_rfl) fun g w1 nb=>?_))))
  have e1:=nb.ext
  have ho:=R.R.ext e1
  have hlr:w.heap.size≤w1.heap.size:=Nat.le_trans C.BL (Nat.le_trans S.sz e1.size)
  refine wl_appC (z:= .slice none 0 0) (s:=1) (bytes:=24) (e:=22) rfl rfl rfl Try.underlying80 infoL rfl (by decide) (by decide) ho hlr [.slice LA n lc] rfl (one_news3 _ nb.bk) rfl (by omega) (by decide) fun A1 c1 w2 ho1 hc1=>?_
  have hu:UpdO RA w1 w2:=hc1.elim (fun h=>h.2.2) (fun h=>UO.ext (UO.refl _ _) h.1)
  have hf2:=(R.f.ext e1).updO hu R.Rl
  refine wl_stored1 rfl rfl rfl szLns rfl hf2 (bq rfl) rfl [.slice A1 (k+1) c1] rfl fun w3 hf3 u3 hs3=>(wl_nil (eo_block_normal ?_))
  have S3:=((S.ex e1).updR (Nat.le_refl _) ho R.Rm R.Ra hu).updF C hf2 u3
  have hz3:=((hz.ext e1).updQ ho hu (fun p q hp hq e=>by have:=R.Rb p hp;have:=(hz.block q hq).1;omega)).updT hf2 u3 (fun p hp e=>by have:=(hz.block p hp).1;have:=C.fL;omega)
  have hc1':(A1=RA∧c1=rcap)∨∀p,A1=some p→W.heap.size≤p.block:=hc1.imp (fun h=>⟨h.1,h.2.1⟩) (fun h p hp=>Nat.le_trans e1.size (h.2 p hp))
  have hl1:∀p,A1=some p→p.block≠g11:=ApR.kept hc1' R.f.lt R.Rl
  have hm1:∀p,A1=some p→p.block≠gm:=ApR.kept hc1' S.m.lt R.Rm
  have hR3:=ho1.updT hf2 (by decide) u3
  have hC3:=((R.C.ext e1).updQ ho hu R.Rr).updT hf2 u3 (fun r hr p hp e=>by have:=(R.C.lt r hr p hp).1;have:=C.fL;omega)
  rw [rows_succ] at hR3
  refine fun a ha=>hQ _ _ (e1.kf.trans ((hu.kf ho).trans (u3.kf hf2))) ⟨S3.sz,S3,_,_,_,_,hf3,hR3,⟨fun r hr=>?_,fun r s hr hs hrs p q hp hq=>?_⟩,fun r hr p q hp hq=>?_,fun p hp=>(hR3.block p hp).2,fun r hr p hp=>?_,hl1,hm1,fun p q hp hq=>?_⟩
  ·by_cases e:r=k
   ·subst e
    simp only
    exact⟨zs,hz3.mono hKB (Nat.le_refl _) hLb,hze⟩
   ·simp only [if_neg e]
    exact hC3.row r (by omega)
  ·split at hp
   ·split at hq
    ·omega
    ·have:=(hz.block p hp).1;have:=R.rb s (by omega) q hq;omega
   ·split at hq
    ·have:=(hz.block q hq).1;have:=R.rb r (by omega) p hp;omega
    ·exact R.C.dis r s (by omega) (by omega) hrs p q hp hq
  ·rcases hc1' with⟨rfl,rfl⟩ | h
   ·split at hq
    ·have:=R.Rb p hp;have:=(hz.block q hq).1;omega
    ·exact R.Rr r (by omega) p q hp hq
   ·split at hq
    ·have:=h p hp;have:=(hz.block q hq).2;omega
    ·have:=h p hp;have:=(R.C.lt r (by omega) q hq).2;omega
  ·split at hp
   ·exact (hz3.block p hp).2
   ·exact (hC3.lt r (by omega) p hp).2
  ·rcases hc1' with⟨rfl,rfl⟩ | h
   ·exact R.Ra p q hp hq
   ·have:=h p hp;have:=C.am q hq;have:=S.sz;omega
 ·rintro D b W hD ⟨hb,S,RA,rcap,ra,rc,R⟩ hK a ha
  have hm:w.heap.size≤v22.heap.size:=C.BL
  have hnc:=Nc.put (.deferred none) hK rfl
  have hbl:=below_put hD W (Array.getElem?_eq_some_iff.1 hK).1 (.deferred none)
  have S9:=S.nc hnc hbl hm
  have R9:=R.R.nc hnc
  have C9:=(R.C.nc hnc).low hm
  show Code.wp _ (Code.seq _ _) _ _ _
  refine wp_seq ((wpIn_wide (n:=9)).1 (wpIn_region_lit ?_))
  have ea:({a with defers:= [{target:= .collected D,args:= #[]}]}:Act)=dfd [{target:= .collected D,args:= #[]}] a:=by
   unfold dfd;rw [ha.nod];rfl
  rw [ea]
  refine list_df _ _ _ _ (wlW_wl (n:=18) (l:= [(3,.pointer (some ⟨g11,0,none⟩)),(10,.func (.func 86) #[] #[.pointer (some ⟨gm,0,none⟩)])]) ?_ rfl ?_ a ha)
  ·rintro⟨_,_,h⟩
   obtain⟨_,h,_⟩:=h
   cases h
  refine wl_load rfl rfl (load_cell cellLns R.f rfl) (by decide) (mv 1 rfl (wl_nil ?_))
  intro a2 ha2
  show Code.wp _ .ret _ _ _
  refine wp_ret ?_
  show LeavesInM _ _ _ _ _ _ (a2.defers++ [{target:= .collected D,args:= #[]}]) _ _
  rw [ha2.nod]
  show LeavesInM _ _ _ _ _ _ [{target:= .collected D,args:= #[]}] _ _
  unfold LeavesInM LeavesInM
  refine⟨by simp,.inl ⟨_,_,rfl,run_takeDeferred hK,_,results_tmp rfl _ _ _,?_⟩⟩
  refine⟨_,congrArg _ (ha2.val 2 _ rfl),?_,S9.ext⟩
  exact⟨RA,rcap,ra,rc,rfl,⟨R.Rr⟩,R9,C9,(Inv.start (n:=n) (X:=X) (Z:=X) (fun _ _ _ _=>rfl)).per⟩
set_option maxHeartbeats 4000000 in
theorem g_stp_matrix {w:World}{b lb lr n:Nat}(hb:b≤w.heap.size) (hlb:lb≤w.heap.size){RA:Option Addr}{rcap:Nat}{ra:Nat→Option Addr}{rc:Nat→Nat}{ps:List Nat}{Z:Mx}(hL:Lns lr n RA rcap ra rc ps Z w) (hn:n≤64) (hZ:∀a b,a<n→b<n→ln (pr Z ps a b)≤1048576):
    Calls Try.prog 52 #[.slice RA n rcap,.int .i64 ((n:Nat):Int)] w (Gv w (MQ (n:Int) (n:Int) (LQ none 1048576 b lb (n*n) (En n n (pr Z ps))))):=by
 have hrc:=ix_64 hn hn
 have hcap:=hL.R.rv.le
 refine sx_enter Try.func52 rfl (n:=41) rfl (bq rfl) (args:= [.slice RA n rcap,.int .i64 ((n:Nat):Int)]) (cw_keep [(0,.slice RA n rcap),(1,.int .i64 ((n:Nat):Int))] ⟨rfl,rfl,trivial⟩ (sr (al [I0,I0,S0] (Ext.refl w) (fun _=>by kernel_rfl) rfl fun g1 v2 hb4 ge5 e3 hw1=>(ne_ (sr (mv 1 rfl (pu (v:= .int .i64 ((n:Nat):Int)) rfl (by kernel_rfl) (mv 2 rfl (pu (v:= .int .i64 ((n:Nat):Int)) rfl (by kernel_rfl) (mv 1 rfl (wl_ar rfl rfl rfl ((n*n:Nat):Int) (ai_mul (a:=n) (b:=n) rfl rfl (by omega)) (by decide) (wl_makeI (k:=n*n) none 1048576 w.heap.size rfl rfl rfl (by omega) (by decide) fun g6 v7 hg8 lz9 e10=>?_))))))))))))
 have q11:g1<g6:=by rw [←hg8];exact hb4.lt
 have hlbg6:g6≤v7.heap.size:=by have:=(lz9.block _ rfl).2;exact Nat.le_of_lt this
 have hglg6:w.heap.size≤g6:=by rw [←hg8];exact hw1.size
 clear hg8
 have hw2:=hw1.trans e10
 have blk12:=lz9.block
 refine pu (v:= .agg #[.int .i64 ((n:Nat):Int),.int .i64 ((n:Nat):Int),.slice (some ⟨g6,0,none⟩) 0 (n*n)]) rfl (by kernel_rfl) (wl_alloc rfl (z:= .agg #[I0,I0,S0]) (vs:= [I0,I0,S0]) (fun _=>by kernel_rfl) rfl (by decide) fun g13 v14 nb=>?_)
 have hb16:=nb.bk
 have ge17:w.heap.size≤g13:=by rw [←nb.at_];exact hw2.size
 have q18:g1<g13:=by rw [←nb.at_];exact (hb4.ext e10).lt
 have ne19:∀p:Addr,(some ⟨g6,0,none⟩)=some p→p.block≠g13:=fun p hp=>by have:=(lz9).block p hp;have:=nb.at_;omega
 have e15:=nb.ext
 clear nb
 have hw3:=hw2.trans e15
 refine so aggMat hb16 [.int .i64 ((n:Nat):Int),.int .i64 ((n:Nat):Int),.slice (some ⟨g6,0,none⟩) 0 (n*n)] hw3 ge17 rfl rfl rfl rfl fun v20 hb22 u23 hw4=>(ne_ (cw_seq (sr (mv 1 rfl (pu (v:= .int .i64 ((n:Nat):Int)) rfl (by kernel_rfl) (mv 1 rfl (ne_ (cw_block ?_))))))))
 refine cw_loop (T:=World×Nat×Nat×Option Addr×Nat×List Int) (fun⟨wr,i,q,LA,lc,zs⟩=> [(0,.slice RA n rcap),(1,.int .i64 ((n:Nat):Int)),(4,.pointer (some ⟨g1,0,none⟩)),(5,.pointer (some ⟨g13,0,none⟩)),(10,.slice RA n rcap),(11,.int .i64 ((n:Nat):Int)),(12,.int .i64 ((n:Nat):Int)),(13,.slice RA n rcap),(14,.int .i64 ((n:Nat):Int)),(15,.int .i64 ((n:Nat):Int)),(16,.int .i64 ((n*n:Nat):Int)),(17,.slice (some ⟨g6,0,none⟩) 0 (n*n)),(18,.agg #[.int .i64 ((n:Nat):Int),.int .i64 ((n:Nat):Int),.slice (some ⟨g6,0,none⟩) 0 (n*n)]),(19,.slice RA n rcap),(20,.int .i64 ((n:Nat):Int)),(21,.int .i64 ((i:Nat):Int))]) (fun⟨wr,i,q,LA,lc,zs⟩=>wr) (fun⟨wr,i,q,LA,lc,zs⟩=>(Ext w wr)∧(i≤n)∧(Bk wr g1 24 [I0,I0,S0])∧(Bk wr g13 24 [.int .i64 ((n:Nat):Int),.int .i64 ((n:Nat):Int),.slice LA q lc])∧(g6≤wr.heap.size)∧(Lz none 1048576 w.heap.size wr g6 LA q lc zs)∧(∀p:Addr,LA=some p→p.block≠g1)∧(∀p:Addr,LA=some p→p.block≠g13)∧(q=i*n)∧(Bld n q (pr Z ps) zs)) (fun⟨wr,i,q,LA,lc,zs⟩=>n-i)
  (⟨v20,0,0,(some ⟨g6,0,none⟩),(n*n),[]⟩:World×Nat×Nat×Option Addr×Nat×List Int) ⟨hw4,(by omega),((hb4.ext (e10.trans e15)).updN u23 (by omega)),hb22,(Nat.le_trans (Nat.le_trans hlbg6 e15.size) u23.by_.size),((lz9.ext e15).updT hb16 u23 ne19),(show∀p:Addr,(some ⟨g6,0,none⟩)=some p→p.block≠g1 from fun p hp=>by have:=blk12 p hp;omega),ne19,(Nat.zero_mul n).symm,(fun k h=>absurd h (Nat.not_lt_zero k))⟩ rfl ⟨rfl,rfl,rfl,rfl,rfl,rfl,rfl,rfl,rfl,rfl,rfl,rfl,rfl,rfl,rfl,rfl,trivial⟩ ?_
 rintro⟨wr,i,q,LA,lc,zs⟩ ⟨hw1,hi_i,b_g1,b_g13,l_LAb,l_LA,l_LA_g1,l_LA_g13,hq,hz⟩
 refine cw_re [(0,.slice RA n rcap),(1,.int .i64 ((n:Nat):Int)),(4,.pointer (some ⟨g1,0,none⟩)),(5,.pointer (some ⟨g13,0,none⟩)),(10,.slice RA n rcap),(11,.int .i64 ((n:Nat):Int)),(12,.int .i64 ((n:Nat):Int)),(13,.slice RA n rcap),(14,.int .i64 ((n:Nat):Int)),(15,.int .i64 ((n:Nat):Int)),(16,.int .i64 ((n*n:Nat):Int)),(17,.slice (some ⟨g6,0,none⟩) 0 (n*n)),(18,.agg #[.int .i64 ((n:Nat):Int),.int .i64 ((n:Nat):Int),.slice (some ⟨g6,0,none⟩) 0 (n*n)]),(19,.slice RA n rcap),(20,.int .i64 ((n:Nat):Int)),(21,.int .i64 ((i:Nat):Int))] wr rfl ⟨rfl,rfl,rfl,rfl,rfl,rfl,rfl,rfl,rfl,rfl,rfl,rfl,rfl,rfl,rfl,rfl,trivial⟩ ?_
 have blk25:=l_LA.block
 refine cw_seq ?_
 by_cases hir:i<n
 · 
  refine cw_region (wl_cmp rfl rfl rfl true (cb_lt_t (a:=i) (b:=n) rfl rfl (by omega)) (by decide) (ne_ (cw_seq (cw_true rfl (cw_skip (eo_then (cw_seq (cw_block (sr ?_)))))))))
  obtain⟨pz26,hpz26,hcz26⟩:=hL.R.rowAt (i:=i) (by omega)
  refine wl_idx rfl rfl rfl Try.underlying80 szInts i rfl (by omega) pz26 hpz26 (by decide) (wl_load rfl rfl (load_cell1 cellInts (hw1.cell hcz26)) (by decide) (mv 1 rfl (ne_ (sr (mv 1 rfl (pu (v:= .int .i64 ((n:Nat):Int)) rfl (by kernel_rfl) (mv 1 rfl (ne_ (cw_block ?_)))))))))
  refine cw_loop (T:=World×Nat×Nat×Option Addr×Nat×List Int) (fun⟨wi,j,p,LB,ld,ys⟩=> [(0,.slice RA n rcap),(1,.int .i64 ((n:Nat):Int)),(4,.pointer (some ⟨g1,0,none⟩)),(5,.pointer (some ⟨g13,0,none⟩)),(7,.slice (ra (ps.getD i 0)) n (rc (ps.getD i 0))),(10,.slice RA n rcap),(11,.int .i64 ((n:Nat):Int)),(12,.int .i64 ((n:Nat):Int)),(13,.slice RA n rcap),(14,.int .i64 ((n:Nat):Int)),(15,.int .i64 ((n:Nat):Int)),(16,.int .i64 ((n*n:Nat):Int)),(17,.slice (some ⟨g6,0,none⟩) 0 (n*n)),(18,.agg #[.int .i64 ((n:Nat):Int),.int .i64 ((n:Nat):Int),.slice (some ⟨g6,0,none⟩) 0 (n*n)]),(19,.slice RA n rcap),(20,.int .i64 ((n:Nat):Int)),(21,.int .i64 ((i:Nat):Int)),(22,.bool true),(23,.pointer (some pz26)),(24,.slice (ra (ps.getD i 0)) n (rc (ps.getD i 0))),(25,.slice (ra (ps.getD i 0)) n (rc (ps.getD i 0))),(26,.int .i64 ((n:Nat):Int)),(27,.int .i64 ((j:Nat):Int))]) (fun⟨wi,j,p,LB,ld,ys⟩=>wi) (fun⟨wi,j,p,LB,ld,ys⟩=>(Ext w wi)∧(j≤n)∧(Bk wi g1 24 [I0,I0,S0])∧(Bk wi g13 24 [.int .i64 ((n:Nat):Int),.int .i64 ((n:Nat):Int),.slice LB p ld])∧(g6≤wi.heap.size)∧(Lz none 1048576 w.heap.size wi g6 LB p ld ys)∧(∀p:Addr,LB=some p→p.block≠g1)∧(∀p:Addr,LB=some p→p.block≠g13)∧(p=i*n+j)∧(Bld n p (pr Z ps) ys)) (fun⟨wi,j,p,LB,ld,ys⟩=>n-j)
   (⟨wr,0,q,LA,lc,zs⟩:World×Nat×Nat×Option Addr×Nat×List Int) ⟨hw1,(by omega),b_g1,b_g13,l_LAb,l_LA,l_LA_g1,l_LA_g13,(by omega),hz⟩ rfl ⟨rfl,rfl,rfl,rfl,rfl,rfl,rfl,rfl,rfl,rfl,rfl,rfl,rfl,rfl,rfl,rfl,rfl,rfl,rfl,rfl,rfl,rfl,rfl,trivial⟩ ?_
  rintro⟨wi,j,p,LB,ld,ys⟩ ⟨hw1,hi_j,b_g1,b_g13,l_LBb,l_LB,l_LB_g1,l_LB_g13,hq_,hz_⟩
  refine cw_re [(0,.slice RA n rcap),(1,.int .i64 ((n:Nat):Int)),(4,.pointer (some ⟨g1,0,none⟩)),(5,.pointer (some ⟨g13,0,none⟩)),(7,.slice (ra (ps.getD i 0)) n (rc (ps.getD i 0))),(10,.slice RA n rcap),(11,.int .i64 ((n:Nat):Int)),(12,.int .i64 ((n:Nat):Int)),(13,.slice RA n rcap),(14,.int .i64 ((n:Nat):Int)),(15,.int .i64 ((n:Nat):Int)),(16,.int .i64 ((n*n:Nat):Int)),(17,.slice (some ⟨g6,0,none⟩) 0 (n*n)),(18,.agg #[.int .i64 ((n:Nat):Int),.int .i64 ((n:Nat):Int),.slice (some ⟨g6,0,none⟩) 0 (n*n)]),(19,.slice RA n rcap),(20,.int .i64 ((n:Nat):Int)),(21,.int .i64 ((i:Nat):Int)),(22,.bool true),(23,.pointer (some pz26)),(24,.slice (ra (ps.getD i 0)) n (rc (ps.getD i 0))),(25,.slice (ra (ps.getD i 0)) n (rc (ps.getD i 0))),(26,.int .i64 ((n:Nat):Int)),(27,.int .i64 ((j:Nat):Int))] wi rfl ⟨rfl,rfl,rfl,rfl,rfl,rfl,rfl,rfl,rfl,rfl,rfl,rfl,rfl,rfl,rfl,rfl,rfl,rfl,rfl,rfl,rfl,rfl,rfl,trivial⟩ ?_
  have blk27:=l_LB.block
  refine cw_seq ?_
  have hic:=ix_64 (show i≤64 by omega) hn
  by_cases hjc:j<n
  · 
   refine cw_region (wl_cmp rfl rfl rfl true (cb_lt_t (a:=j) (b:=n) rfl rfl (by omega)) (by decide) (ne_ (cw_seq (cw_true rfl (cw_skip (eo_then (cw_seq (cw_block (sr ?_)))))))))
   obtain⟨pz28,sz28,Bz28,nz28,cz28,hpz28,ldz28,hKz28,zz28⟩:=hL.C.at (hL.per.lt i (by omega)) (show j<n by omega)
   refine wl_idx rfl rfl rfl elemI aggInt.size j rfl (by omega) pz28 hpz28 (by decide) (wl_load rfl rfl (ldz28 _ hw1 _ _ aggInt) (by decide) (wl_alloc rfl (z:= .agg #[F0,S0]) (vs:= [F0,S0]) (fun _=>by kernel_rfl) rfl (by decide) fun g29 v30 nb=>?_))
   have hb32:=nb.bk
   have ge33:w.heap.size≤g29:=by rw [←nb.at_];exact hw1.size
   have q34:g13<g29:=by rw [←nb.at_];exact b_g13.lt
   have ne35:∀p:Addr,LB=some p→p.block≠g29:=fun p hp=>by have:=(l_LB).block p hp;have:=nb.at_;omega
   have e31:=nb.ext
   clear nb
   have hw2:=hw1.trans e31
   refine so aggInt hb32 [.bool sz28,.slice Bz28 nz28 cz28] hw2 ge33 rfl rfl rfl rfl fun v36 hb38 u39 hw3=>(ne_ ?_)
   refine cw_draw mix 5 [] [Is (.pointer (some ⟨g13,2,none⟩)),Is (.slice LB p ld),Is (.agg #[.bool sz28,.slice Bz28 nz28 cz28]),ZR w.heap.size ((pr Z ps i j)),B1 w.heap.size (pr Z ps i j)] [[],[0],[],[2],[3]] [[],[0],[],[2],[2,3],[0,1,2,3,4],[0,1,2,3,4,5],[0,1,2,3,4,5,6]] rfl
    (obs_cons rfl rfl (hob rfl rfl ?_) (obs_cons rfl rfl (hob rfl rfl ?_) (obs_cons rfl rfl (hob rfl rfl ?_) (obs_cons rfl rfl (hob rfl rfl ?_) (obs_cons rfl rfl (hob rfl rfl ?_) obs_nil))))) ?_
   · 
    exact fun _ _=>deps_nil (pf g13 2 rfl (by kernel_rfl) (pi_done rfl (Ext.refl _) rfl))
   · 
    exact fun _ e46=>dk rfl rfl (deps_nil (wl_load rfl rfl (load_cell cellInts (((b_g13.ext e31).updN u39 (by omega)).ext e46) rfl) (by decide) (pi_done rfl (Ext.refl _) rfl)))
   · 
    exact fun _ e53=>deps_nil (lo aggInt (hb38.ext e53) [.bool sz28,.slice Bz28 nz28 cz28] rfl rfl rfl (pi_done rfl (Ext.refl _) rfl))
   · 
    intro v54 e55
    have hw4:=hw3.trans e55
    refine dk rfl rfl (deps_nil (cl (vs:= [.agg #[.bool sz28,.slice Bz28 nz28 cz28]]) hw4 (g_zint_Least hw4.size (((zz28.ext (hw1.trans e31)).updT hb32 u39).ext e55).zi (zz28.le (Nat.le_trans (hZ i j (by omega) (by omega)) (by decide)))) rfl (by kernel_rfl) fun xr63 v61 r63 e62 hw5=>?_))
    obtain⟨s64,A64,n64,c64,rfl,z64⟩:=r63
    exact pi_done rfl e62 ⟨_,_,_,_,rfl,z64⟩
   · 
    intro v65 e66
    have hw4:=hw3.trans e66
    refine deps_cons rfl rfl fun x67 y68 h69 e70 f71=>?_
    obtain⟨s72,A72,n72,c72,rfl,z72⟩:=h69
    have z72:=z72.ext f71
    refine deps_nil (wl_bslice rfl rfl (by decide) (k:=1) (e:=34) [.bool s72,.slice A72 n72 c72] (fun _=>by kernel_rfl) fun g73 v74 nb=>?_)
    have hb76:=nb.bk
    have ge77:w.heap.size≤g73:=by rw [←nb.at_];exact hw4.size
    have q78:g29<g73:=by rw [←nb.at_];exact (hb38.ext e66).lt
    have ne79:∀p:Addr,LB=some p→p.block≠g73:=fun p hp=>by have:=((((l_LB.ext e31).updT hb32 u39 ne35).ext e66)).block p hp;have:=nb.at_;omega
    have e75:=nb.ext
    clear nb
    have hw5:=hw4.trans e75
    exact pi_done rfl e75 ⟨_,_,_,_,_,rfl,hb76,(z72.ext e75)⟩
   · 
    intro v80 e81
    have hw4:=hw3.trans e81
    refine dk rfl rfl (dk rfl rfl (dk rfl rfl (deps_cons rfl rfl fun x97 y98 h99 e100 f101=>?_)))
    obtain⟨s102,A102,n102,c102,rfl,z102⟩:=h99
    have z102:=z102.ext f101
    refine deps_cons rfl rfl fun x103 y104 h105 e106 f107=>?_
    obtain⟨gb108,s108,A108,n108,c108,rfl,hbs108,z108⟩:=h105
    have hbs108:=hbs108.ext f107
    have z108:=z108.ext f107
    refine deps_nil ?_
    have lt114:=(((l_LB.ext e31).updT hb32 u39 ne35).ext e81)
    obtain⟨us112,own113⟩:=lt114.own
    refine wl_appI (e:=⟨s108,A108,n108,c108⟩) (z:=(pr Z ps i j)) rfl rfl rfl lt114 (Nat.le_trans (Nat.le_trans (Nat.le_trans l_LBb e31.size) u39.by_.size) e81.size) hbs108 (Or.inl z108) (z108.le (Nat.le_trans (hZ i j (by omega) (by omega)) (by decide))) (by omega) (by decide) fun A115 c116 v109 lz110 uo111 kp117=>?_
    have hw5:=uo111.ext hw4 (fun p hp=>by have:=blk27 p hp;omega)
    have hlblz110:g6≤v109.heap.size:=Nat.le_trans (Nat.le_trans (Nat.le_trans (Nat.le_trans l_LBb e31.size) u39.by_.size) e81.size) uo111.size
    have ne118:=kept_ne kp117 (((b_g1.ext e31).updN u39 (by omega)).ext e81).lt l_LB_g1
    have ne119:=kept_ne kp117 (((b_g13.ext e31).updN u39 (by omega)).ext e81).lt l_LB_g13
    have ne120:=kept_ne kp117 (hb38.ext e81).lt ne35
    have blk121:=lz110.block
    refine pf g13 2 rfl (by kernel_rfl) ?_
    have hb123:=((((b_g13.ext e31).updN u39 (by omega)).ext e81).updO uo111 l_LB_g13)
    refine wl_stored1 rfl rfl rfl szInts rfl hb123 (bq rfl) rfl [.int .i64 ((n:Nat):Int),.int .i64 ((n:Nat):Int),.slice A115 (p+1) c116] rfl fun v122 hb124 u125 hs126=>?_
    have hw6:=u125.ext hw5 ge17
    refine wl_nil (eo_np (eo_block_normal (eo_then (cw_region (wl_ar rfl rfl rfl ((j+1:Nat):Int) (ai_add (a:=j) (b:=1) rfl rfl (by omega)) (by decide) (mv 1 rfl (wl_nil (eo_round (⟨v122,j+1,p+1,A115,c116,ys++ [(pr Z ps i j)]⟩:World×Nat×Nat×Option Addr×Nat×List Int) ⟨hw6,(by omega),(((((b_g1.ext e31).updN u39 (by omega)).ext e81).updO uo111 l_LB_g1).updN u125 (by omega)),hb124,(Nat.le_trans hlblz110 u125.by_.size),(lz110.updT hb123 u125 ne119),ne118,ne119,(by omega),(hz_.step hq_ hjc l_LB.len)⟩ (show n-(j+1)<n-j by omega) rfl ⟨rfl,rfl,rfl,rfl,rfl,rfl,rfl,rfl,rfl,rfl,rfl,rfl,rfl,rfl,rfl,rfl,rfl,rfl,rfl,rfl,rfl,rfl,rfl,trivial⟩))))))))
  · 
   refine cw_region (wl_cmp rfl rfl rfl false (cb_lt_f (a:=j) (b:=n) rfl rfl (by omega)) (by decide) (ne_ (cw_seq (cw_false rfl (cw_exit (eo_thenX (eo_loopX (eo_block_here (eo_block_normal (eo_then (cw_region (wl_ar rfl rfl rfl ((i+1:Nat):Int) (ai_add (a:=i) (b:=1) rfl rfl (by omega)) (by decide) (mv 1 rfl ?_)))))))))))))
   refine wl_nil (eo_round (⟨wi,i+1,p,LB,ld,ys⟩:World×Nat×Nat×Option Addr×Nat×List Int) ⟨hw1,(by omega),b_g1,b_g13,l_LBb,l_LB,l_LB_g1,l_LB_g13,(show p=(i+1)*n by rw [Nat.succ_mul];omega),hz_⟩ (show n-(i+1)<n-i by omega) rfl ⟨rfl,rfl,rfl,rfl,rfl,rfl,rfl,rfl,rfl,rfl,rfl,rfl,rfl,rfl,rfl,rfl,trivial⟩)
 · 
  refine cw_region (wl_cmp rfl rfl rfl false (cb_lt_f (a:=i) (b:=n) rfl rfl (by omega)) (by decide) (ne_ (cw_seq (cw_false rfl (cw_exit (eo_thenX (eo_loopX (eo_block_here (eo_then (sr (lo aggMat b_g13 [.int .i64 ((n:Nat):Int),.int .i64 ((n:Nat):Int),.slice LA q lc] rfl rfl rfl ?_)))))))))))
  have hb128:=b_g1
  refine so aggMat hb128 [.int .i64 ((n:Nat):Int),.int .i64 ((n:Nat):Int),.slice LA q lc] hw1 ge5 rfl rfl rfl rfl fun v127 hb129 u130 hw2=>(ne_ (cw_ret (eo_ret [.agg #[.int .i64 ((n:Nat):Int),.int .i64 ((n:Nat):Int),.slice LA q lc]] rfl ⟨⟨_,rfl,load_agg aggMat hb129 [.int .i64 ((n:Nat):Int),.int .i64 ((n:Nat):Int),.slice LA q lc] rfl (bq rfl) rfl⟩,trivial⟩ ?_)))
  have hqr:q=n*n:=by rw [hq,show i=n by omega]
  subst hqr
  exact⟨_,rfl,⟨_,rfl,_,_,_,rfl,((l_LA.updT hb128 u130 l_LA_g1)).mono (Nat.le_refl _) hb (Nat.le_trans hlb hglg6),hz.en rfl⟩,hw2⟩
theorem Lns.ext {lb n:Nat}{RA:Option Addr}{rcap:Nat}{ra:Nat→Option Addr}{rc:Nat→Nat}{ps:List Nat}{Z:Mx}{w w':World}(h:Lns lb n RA rcap ra rc ps Z w) (e:Ext w w'):Lns lb n RA rcap ra rc ps Z w':=⟨h.R.ext e,h.C.ext e,h.per⟩
theorem Lns.updT {lb n:Nat}{RA:Option Addr}{rcap:Nat}{ra:Nat→Option Addr}{rc:Nat→Nat}{ps:List Nat}{Z:Mx}{w w':World}{g:Nat}{us:List Value}(h:Lns lb n RA rcap ra rc ps Z w) (hb:Bk w g 79 us) (e:Upd g w w') (h1:∀p:Addr,RA=some p→p.block≠g) (h2:∀r,r<n→∀p:Addr,ra r=some p→p.block≠g):Lns lb n RA rcap ra rc ps Z w':=⟨h.R.upd e h1,h.C.updT hb e h2,h.per⟩
set_option maxHeartbeats 4000000 in
set_option maxRecDepth 20000 in
theorem g_stp_Rows {w:World}{b lb:Nat}(hb:b≤w.heap.size) (hlb:lb≤w.heap.size){n Ka:Nat}{X:Mx}{Aa:Option Addr}{na capa:Nat}{xs:List Int}(hxa:ZF w Aa na capa 1048576 xs) (hna:na=n*n) (hn:n≤64) (hX:En n n X xs){As:Option Addr}{m caps:Nat}{ss:List Stp}{ms:List Nat}(hS:Sl w As m ss ms) (hM:∀i,ms.getD i 0≤1048576) (hm:m≤1048576) (hall:∀i,i<m→(ss.getD i Stp.z).fit n) (hXa:∀a b,a<n→b<n→ln (X a b)≤Ka) (hKa:Ka+(m+ms.sum)≤1048576):
    Calls Try.prog 19 #[.agg #[.int .i64 ((n:Nat):Int),.int .i64 ((n:Nat):Int),.slice Aa na capa],.slice As m caps] w (Gv w (T2 (MQ ((n:Nat):Int) ((n:Nat):Int) (LQ none 1048576 b lb (n*n) (En n n (stps ss X)))) (Is (.int .i64 0)))):=by
 have hxa0:=hxa
 obtain⟨msa,hla,hma⟩:=hxa
 have hmi:∀i,i<m→ln (ss.getD i Stp.z).f≤ms.getD i 0:=fun i hi=>by obtain⟨_,_,_,_,_,_,hz⟩:=hS.get i hi;exact hz.ln
 refine sx_enter Try.func19 rfl (n:=46) rfl (bq rfl) (args:= [.agg #[.int .i64 ((n:Nat):Int),.int .i64 ((n:Nat):Int),.slice Aa na capa],.slice As m caps]) (cw_keep [(0,.agg #[.int .i64 ((n:Nat):Int),.int .i64 ((n:Nat):Int),.slice Aa na capa]),(1,.slice As m caps)] ⟨rfl,rfl,trivial⟩ (sr (bx [.int .i64 ((n:Nat):Int),.int .i64 ((n:Nat):Int),.slice Aa na capa] (Ext.refl w) rfl rfl rfl fun g1 v2 hb4 ge5 e3 hw1=>(alq [I0,I0,S0] hw1 hb4.lt (fun _=>by kernel_rfl) rfl fun g6 v7 hb9 ge10 q11 e8 hw2=>(mv 1 rfl (ne_ (cw_seq (sr (lo aggMat (hb4.ext e8) [.int .i64 ((n:Nat):Int),.int .i64 ((n:Nat):Int),.slice Aa na capa] rfl rfl rfl (cl (vs:= [.agg #[.int .i64 ((n:Nat):Int),.int .i64 ((n:Nat):Int),.slice Aa na capa]]) hw2 (g_mat_Check_yes (snd_mk hn hn hna)) rfl (by kernel_rfl) fun xr14 v12 r14 e13 hw3=>?_))))))))))
 obtain rfl:=r14
 refine mv 1 rfl (ne_ (sr (mv 1 rfl (wl_cmp rfl rfl rfl false (by decide) (by decide) (ne_ (cw_false rfl (cw_skip (eo_then (cw_seq (sr (pf g1 0 rfl (by kernel_rfl) (wl_load rfl rfl (load_cell cellInt (hb4.ext (e8.trans e13)) rfl) (by decide) (mv 1 rfl ?_)))))))))))))
 refine cl (vs:= [.int .i64 ((n:Nat):Int),.slice As m caps]) hw3 (g_stp_Check_ok hn (hS.ext hw3) hM hm hall) rfl (by kernel_rfl) fun xr17 v15 r17 e16 hw4=>?_
 obtain⟨_,_,rfl,rfl,rfl⟩:=r17
 refine mv 1 rfl (pu (v:= .int .i64 (-1)) rfl (by kernel_rfl) (pu (v:= .int .i64 0) rfl (by kernel_rfl) (mv 2 rfl (ne_ (sr (mv 1 rfl (wl_cmp rfl rfl rfl false (by decide) (by decide) (ne_ (cw_false rfl (cw_skip (eo_then (sr (lo aggMat (hb4.ext (e8.trans (e13.trans e16))) [.int .i64 ((n:Nat):Int),.int .i64 ((n:Nat):Int),.slice Aa na capa] rfl rfl rfl ?_)))))))))))))
 obtain⟨lb9,hlb9⟩:∃l,l=v15.heap.size:=⟨_,rfl⟩
 have hlow:w.heap.size≤lb9:=by rw [hlb9];exact hw4.size
 have hlo_g1:g1<lb9:=by rw [hlb9];exact ((hb4.ext (e8.trans (e13.trans e16)))).lt
 have hlo_g6:g6<lb9:=by rw [hlb9];exact ((hb9.ext (e13.trans e16))).lt
 refine wl_call rfl rfl (vs:= [.agg #[.int .i64 ((n:Nat):Int),.int .i64 ((n:Nat):Int),.slice Aa na capa]]) (by kernel_rfl) (by decide) (g_stp_linesOf (K:=1048576) ((show ZF w _ _ _ _ _ from⟨msa,hla,hma⟩).ext hw4) hn hna hX (by decide)) ?_
 rintro _ wli ⟨_,rfl,⟨RA,rcap,ra,rc,rfl,hA,hL0⟩,eli⟩
 refine ret_intro ?_
 rw [←hlb9] at hL0
 have hlb0:lb9≤wli.heap.size:=by rw [hlb9];exact eli.size
 have hw5:=hw4.trans eli
 refine mv 1 rfl (ne_ (cw_seq (sr (mv 1 rfl (pu (v:= .int .i64 ((m:Nat):Int)) rfl (by kernel_rfl) (mv 1 rfl (ne_ (cw_block ?_))))))))
 refine cw_loop (T:=World×Nat×List Nat×Mx) (fun⟨wr,i,ps,Z⟩=> [(0,.agg #[.int .i64 ((n:Nat):Int),.int .i64 ((n:Nat):Int),.slice Aa na capa]),(1,.slice As m caps),(2,.pointer (some ⟨g1,0,none⟩)),(4,.pointer (some ⟨g6,0,none⟩)),(5,.int .i64 0),(6,.int .i64 0),(8,.int .i64 0),(9,.slice RA n rcap),(12,.agg #[.int .i64 ((n:Nat):Int),.int .i64 ((n:Nat):Int),.slice Aa na capa]),(13,.int .i64 0),(14,.int .i64 0),(15,.bool false),(18,.tuple #[.int .i64 (-1),I0]),(19,.pointer (some ⟨g1,0,none⟩)),(20,.int .i64 ((n:Nat):Int)),(21,.slice As m caps),(22,.tuple #[.int .i64 (-1),I0]),(23,.int .i64 (-1)),(24,.int .i64 0),(25,.int .i64 0),(26,.bool false),(29,.agg #[.int .i64 ((n:Nat):Int),.int .i64 ((n:Nat):Int),.slice Aa na capa]),(30,.slice RA n rcap),(31,.slice As m caps),(32,.int .i64 ((m:Nat):Int)),(33,.int .i64 ((i:Nat):Int))]) (fun⟨wr,i,ps,Z⟩=>wr) (fun⟨wr,i,ps,Z⟩=>(Ext w wr)∧(i≤m)∧(Bk wr g1 24 [.int .i64 ((n:Nat):Int),.int .i64 ((n:Nat):Int),.slice Aa na capa])∧(Bk wr g6 24 [I0,I0,S0])∧(lb9≤wr.heap.size)∧(Lns lb9 n RA rcap ra rc ps Z wr)∧(∀a b,a<n→b<n→pr Z ps a b=stps (ss.take i) X a b)) (fun⟨wr,i,ps,Z⟩=>m-i)
  (⟨wli,0,(List.range n),X⟩:World×Nat×List Nat×Mx) ⟨hw5,(by omega),(hb4.ext (e8.trans (e13.trans (e16.trans eli)))),(hb9.ext (e13.trans (e16.trans eli))),hlb0,hL0,(fun a b ha _=>pr_range X a b ha)⟩ rfl ⟨rfl,rfl,rfl,rfl,rfl,rfl,rfl,rfl,rfl,rfl,rfl,rfl,rfl,rfl,rfl,rfl,rfl,rfl,rfl,rfl,rfl,rfl,rfl,rfl,rfl,rfl,trivial⟩ ?_
 rintro⟨wr,i,ps,Z⟩ ⟨hw1,hi_i,b_g1,b_g6,hlbw,hL,hpr⟩
 refine cw_re [(0,.agg #[.int .i64 ((n:Nat):Int),.int .i64 ((n:Nat):Int),.slice Aa na capa]),(1,.slice As m caps),(2,.pointer (some ⟨g1,0,none⟩)),(4,.pointer (some ⟨g6,0,none⟩)),(5,.int .i64 0),(6,.int .i64 0),(8,.int .i64 0),(9,.slice RA n rcap),(12,.agg #[.int .i64 ((n:Nat):Int),.int .i64 ((n:Nat):Int),.slice Aa na capa]),(13,.int .i64 0),(14,.int .i64 0),(15,.bool false),(18,.tuple #[.int .i64 (-1),I0]),(19,.pointer (some ⟨g1,0,none⟩)),(20,.int .i64 ((n:Nat):Int)),(21,.slice As m caps),(22,.tuple #[.int .i64 (-1),I0]),(23,.int .i64 (-1)),(24,.int .i64 0),(25,.int .i64 0),(26,.bool false),(29,.agg #[.int .i64 ((n:Nat):Int),.int .i64 ((n:Nat):Int),.slice Aa na capa]),(30,.slice RA n rcap),(31,.slice As m caps),(32,.int .i64 ((m:Nat):Int)),(33,.int .i64 ((i:Nat):Int))] wr rfl ⟨rfl,rfl,rfl,rfl,rfl,rfl,rfl,rfl,rfl,rfl,rfl,rfl,rfl,rfl,rfl,rfl,rfl,rfl,rfl,rfl,rfl,rfl,rfl,rfl,rfl,rfl,trivial⟩ (cw_seq ?_)
 have hZi:∀a b,a<n→b<n→ln (pr Z ps a b)≤1048576:=fun a b ha hb=>by rw [hpr a b ha hb];exact Nat.le_trans (stps_ln hXa (by rw [hS.mlen,hS.len]) (by rw [hS.len];exact hall) (by rw [hS.len];exact hmi) i (by rw [hS.len];omega) a b ha hb) (by have:=take_sum_le ms i;omega)
 by_cases him:i<m
 · 
  refine cw_region (wl_cmp rfl rfl rfl true (cb_lt_t (a:=i) (b:=m) rfl rfl (by omega)) (by decide) (ne_ (cw_seq (cw_true rfl (cw_skip (eo_then (cw_seq (cw_block (sr ?_)))))))))
  obtain⟨ps19,sf19,Bf19,cf19,hps19,lds19,ef19⟩:=hS.at (i:=i) (by omega)
  refine wl_idx rfl rfl rfl Try.underlying38 aggStep.size i rfl (by omega) ps19 hps19 (by decide) (wl_load rfl rfl (lds19 _ hw1) (by decide) (wl_alloc rfl (z:= .agg #[I0,I0,I0,F0,S0]) (vs:= [I0,I0,I0,F0,S0]) (fun _=>by kernel_rfl) rfl (by decide) fun g20 v21 nb=>?_))
  have hb23:=nb.bk
  have ge24:w.heap.size≤g20:=by rw [←nb.at_];exact hw1.size
  have q25:g6<g20:=by rw [←nb.at_];exact b_g6.lt
  have ne26:∀p:Addr,RA=some p→p.block≠g20:=fun p hp=>by have:=((hL).R.block p hp).2;have:=nb.at_;omega
  have nr27:∀r,r<n→∀p:Addr,ra r=some p→p.block≠g20:=fun r hr p hp=>by have:=((hL).C.lt r hr p hp).2;have:=nb.at_;omega
  have e22:=nb.ext
  clear nb
  have hw2:=hw1.trans e22
  refine so aggStep hb23 [.int .i64 ((ss.getD i Stp.z).k),.int .i64 ((ss.getD i Stp.z).i),.int .i64 ((ss.getD i Stp.z).j),.bool sf19,.slice Bf19 (ms.getD i 0) cf19] hw2 ge24 rfl rfl rfl rfl fun v28 hb30 u31 hw3=>(ne_ (cw_region (lo aggStep hb30 [.int .i64 ((ss.getD i Stp.z).k),.int .i64 ((ss.getD i Stp.z).i),.int .i64 ((ss.getD i Stp.z).j),.bool sf19,.slice Bf19 (ms.getD i 0) cf19] rfl rfl rfl (cl (vs:= [.agg #[.int .i64 ((ss.getD i Stp.z).k),.int .i64 ((ss.getD i Stp.z).i),.int .i64 ((ss.getD i Stp.z).j),.bool sf19,.slice Bf19 (ms.getD i 0) cf19]]) hw3 (g_stp_read hw3.size (ef19.ext hw3) (Nat.le_trans (hM i) (by decide))) rfl (by kernel_rfl) fun xr35 v33 r35 e34 hw4=>(mv 1 rfl (wl_on rfl rfl rfl r35 (hall i him) (Nat.le_trans (Nat.le_trans (Nat.le_trans hlbw e22.size) u31.by_.size) e34.size) hA (((hL.ext e22).updT hb23 u31 ne26 nr27).ext e34) hn hZi (Nat.le_trans (hmi i him) (hM i)) (by decide) fun wst ps2 Z2 hbl hL2 hpr2=>?_))))))
  have hw5:=hbl.toExt hw4 hlow
  refine wl_nil (eo_block_normal (eo_then (cw_region (wl_ar rfl rfl rfl ((i+1:Nat):Int) (ai_add (a:=i) (b:=1) rfl rfl (by omega)) (by decide) (mv 1 rfl (wl_nil (eo_round (⟨wst,i+1,ps2,Z2⟩:World×Nat×List Nat×Mx) ⟨hw5,(by omega),((((b_g1.ext e22).updN u31 (by omega)).ext e34).bl hbl hlo_g1),((((b_g6.ext e22).updN u31 (by omega)).ext e34).bl hbl hlo_g6),(Nat.le_trans (Nat.le_trans (Nat.le_trans (Nat.le_trans hlbw e22.size) u31.by_.size) e34.size) hbl.size),hL2,(fun a b ha hb=>by rw [hpr2 a b ha hb,stps_succ _ (by rw [hS.len];exact him)];exact stp_congr (hall i him) hpr a b ha hb)⟩ (show m-(i+1)<m-i by omega) rfl ⟨rfl,rfl,rfl,rfl,rfl,rfl,rfl,rfl,rfl,rfl,rfl,rfl,rfl,rfl,rfl,rfl,rfl,rfl,rfl,rfl,rfl,rfl,rfl,rfl,rfl,rfl,trivial⟩)))))))
 · 
  refine cw_region (wl_cmp rfl rfl rfl false (cb_lt_f (a:=i) (b:=m) rfl rfl (by omega)) (by decide) (ne_ (cw_seq (cw_false rfl (cw_exit (eo_thenX (eo_loopX (eo_block_here (eo_then (sr (mv 1 rfl (pf g1 1 rfl (by kernel_rfl) (wl_load rfl rfl (load_cell cellInt b_g1 rfl) (by decide) ?_)))))))))))))
  obtain⟨lb36,hlb36,hlelb36,hgl36,hq36_0,hq36_1⟩:∃lb,lb≤wr.heap.size∧wr.heap.size≤lb∧w.heap.size≤lb∧g1<lb∧g6<lb:=⟨wr.heap.size,Nat.le_refl _,Nat.le_refl _,hw1.size,b_g1.lt,b_g6.lt⟩
  refine cl (vs:= [.slice RA n rcap,.int .i64 ((n:Nat):Int)]) hw1 (g_stp_matrix hw1.size hlb36 hL hn hZi) rfl (by kernel_rfl) fun xr39 v37 r39 e38 hw2=>?_
  obtain⟨lv40,rfl,⟨LA41,lc41,zs41,rfl,lz41,hz41⟩⟩:=r39
  have blk42:=lz41.block
  have hb44:=(b_g6.ext e38)
  refine so aggMat hb44 [.int .i64 ((n:Nat):Int),.int .i64 ((n:Nat):Int),.slice LA41 (n*n) lc41] hw2 ge10 rfl rfl rfl rfl fun v43 hb45 u46 hw3=>(mv 1 rfl (ne_ (cw_ret (eo_ret [.agg #[.int .i64 ((n:Nat):Int),.int .i64 ((n:Nat):Int),.slice LA41 (n*n) lc41],I0] rfl ⟨⟨_,rfl,load_agg aggMat hb45 [.int .i64 ((n:Nat):Int),.int .i64 ((n:Nat):Int),.slice LA41 (n*n) lc41] rfl (bq rfl) rfl⟩,rfl,trivial⟩ ?_))))
  exact⟨_,rfl,⟨_,_,rfl,⟨_,rfl,⟨_,_,_,rfl,((lz41.updT hb44 u46 (show∀p:Addr,LA41=some p→p.block≠g6 from fun p hp=>by have:=blk42 p hp;omega))).mono (Nat.le_refl _) hb (Nat.le_trans hlb hgl36),(En.cong (fun a b ha hb=>(hpr a b ha hb).trans (by rw [List.take_of_length_le (by rw [hS.len];omega)])) _ hz41)⟩⟩,rfl⟩,hw3⟩
set_option maxHeartbeats 4000000 in
set_option maxRecDepth 20000 in
theorem g_mat_Turn1 {w:World}{b:Nat}(hb:b≤w.heap.size){r c K:Nat}{X:Mx}{Aa:Option Addr}{na capa:Nat}{xs:List Int}(hxa:ZF w Aa na capa K xs) (hna:na=r*c) (hr:r≤64) (hc:c≤64) (hX:En r c X xs){i j ga:Nat}(hi:i<c) (hj:j<r) (ha:Bk w ga 24 [.int .i64 ((r:Nat):Int),.int .i64 ((c:Nat):Int),.slice Aa na capa]) (hKB:K≤17179869184):
    Calls Try.prog 47 #[.int .i64 ((i:Nat):Int),.int .i64 ((j:Nat):Int),.pointer (some ⟨ga,0,none⟩)] w (Gv w (ZR b (tq X i j))):=by
 have hxa0:=hxa
 obtain⟨msa,hla,hma⟩:=hxa
 refine sx_enter Try.func47 rfl (n:=17) rfl (bq rfl) (args:= [.int .i64 ((i:Nat):Int),.int .i64 ((j:Nat):Int),.pointer (some ⟨ga,0,none⟩)]) ?_
 have hlt_ga:=ha.lt
 refine cw_keep [(0,.int .i64 ((i:Nat):Int)),(1,.int .i64 ((j:Nat):Int)),(2,.pointer (some ⟨ga,0,none⟩))] ⟨rfl,rfl,rfl,trivial⟩ (sr (alq [F0,S0] (Ext.refl w) ha.lt (fun _=>by kernel_rfl) rfl fun g1 v2 hb4 ge5 q6 e3 hw1=>(ne_ (cw_seq ?_))))
 have hx1:=ix_lt hj hi
 have hx2:=ix_64 (show j≤64 by omega) hc
 refine cw_region (pf ga 2 rfl (by kernel_rfl) (wl_load rfl rfl (load_cell cellInts (ha.ext e3) rfl) (by decide) (mv 1 rfl (pf ga 1 rfl (by kernel_rfl) (wl_load rfl rfl (load_cell cellInt (ha.ext e3) rfl) (by decide) (wl_ar rfl rfl rfl ((j*c:Nat):Int) (ai_mul (a:=j) (b:=c) rfl rfl (by omega)) (by decide) (mv 1 rfl (wl_ar rfl rfl rfl (((j*c)+i:Nat):Int) (ai_add (a:=j*c) (b:=i) rfl rfl (by omega)) (by decide) ?_))))))))
 obtain⟨pz7,sz7,Bz7,cz7,hpz7,ldz7,ez7⟩:=hla.at (i:=(j*c)+i) (by omega)
 refine wl_idx rfl rfl rfl elemI aggInt.size ((j*c)+i) rfl (by omega) pz7 hpz7 (by decide) (wl_load rfl rfl (ldz7 _ hw1 _ _ aggInt) (by decide) (cl (vs:= [.agg #[.bool sz7,.slice Bz7 (msa.getD ((j*c)+i) 0) cz7]]) hw1 (g_zint_Least hw1.size (ez7.ext hw1) (Nat.le_trans (hma ((j*c)+i)) (lx_ hKB rfl))) rfl (by kernel_rfl) fun xr10 v8 r10 e9 hw2=>?_))
 obtain⟨s11,A11,n11,c11,rfl,z11⟩:=r10
 have hb13:=(hb4.ext e9)
 refine so aggInt hb13 [.bool s11,.slice A11 n11 c11] hw2 ge5 rfl rfl rfl rfl fun v12 hb14 u15 hw3=>(ne_ (cw_ret (eo_ret [.agg #[.bool s11,.slice A11 n11 c11]] rfl ⟨⟨_,rfl,load_agg aggInt hb14 [.bool s11,.slice A11 n11 c11] rfl (bq rfl) rfl⟩,trivial⟩ ?_)))
 exact⟨_,rfl,⟨_,_,_,_,rfl,(((z11.updT hb13 u15)).cast (hX j i hj hi)).mono hb⟩,hw3⟩
set_option maxHeartbeats 4000000 in
set_option maxRecDepth 20000 in
theorem g_mat_Turn {w:World}{b lb:Nat}(hb:b≤w.heap.size) (hlb:lb≤w.heap.size){r c K:Nat}{X:Mx}{Aa:Option Addr}{na capa:Nat}{xs:List Int}(hxa:ZF w Aa na capa K xs) (hna:na=r*c) (hr:r≤64) (hc:c≤64) (hX:En r c X xs) (hKB:K≤17179869184):
    Calls Try.prog 16 #[.agg #[.int .i64 ((r:Nat):Int),.int .i64 ((c:Nat):Int),.slice Aa na capa]] w (Gv w (T2 (MQ ((c:Nat):Int) ((r:Nat):Int) (LQ none K b lb (c*r) (En c r (tq X)))) (Is (.int .i64 0)))):=by
 have hxa0:=hxa
 obtain⟨msa,hla,hma⟩:=hxa
 refine sx_enter Try.func16 rfl (n:=17) rfl (bq rfl) (args:= [.agg #[.int .i64 ((r:Nat):Int),.int .i64 ((c:Nat):Int),.slice Aa na capa]]) (cw_keep [(0,.agg #[.int .i64 ((r:Nat):Int),.int .i64 ((c:Nat):Int),.slice Aa na capa])] ⟨rfl,trivial⟩ (sr (bx [.int .i64 ((r:Nat):Int),.int .i64 ((c:Nat):Int),.slice Aa na capa] (Ext.refl w) rfl rfl rfl fun g1 v2 hb4 ge5 e3 hw1=>(alq [I0,I0,S0] hw1 hb4.lt (fun _=>by kernel_rfl) rfl fun g6 v7 hb9 ge10 q11 e8 hw2=>(mv 1 rfl (ne_ (cw_seq (sr (lo aggMat (hb4.ext e8) [.int .i64 ((r:Nat):Int),.int .i64 ((c:Nat):Int),.slice Aa na capa] rfl rfl rfl (cl (vs:= [.agg #[.int .i64 ((r:Nat):Int),.int .i64 ((c:Nat):Int),.slice Aa na capa]]) hw2 (g_mat_Check_yes (snd_mk hr hc hna)) rfl (by kernel_rfl) fun xr14 v12 r14 e13 hw3=>?_))))))))))
 obtain rfl:=r14
 refine mv 1 rfl (ne_ (sr (mv 1 rfl (wl_cmp rfl rfl rfl false (by decide) (by decide) (ne_ (cw_false rfl (cw_skip (eo_then (sr (pf g1 1 rfl (by kernel_rfl) (wl_load rfl rfl (load_cell cellInt (hb4.ext (e8.trans e13)) rfl) (by decide) (pf g1 0 rfl (by kernel_rfl) (wl_load rfl rfl (load_cell cellInt (hb4.ext (e8.trans e13)) rfl) (by decide) ?_)))))))))))))
 refine pu (v:= .func (.func 47) #[] #[.pointer (some ⟨g1,0,none⟩)]) rfl (by kernel_rfl) ?_
 obtain⟨lb15,hlb15,hlelb15,hgl15,hq15_0,hq15_1⟩:∃lb,lb≤v12.heap.size∧v12.heap.size≤lb∧w.heap.size≤lb∧g1<lb∧g6<lb:=⟨v12.heap.size,Nat.le_refl _,Nat.le_refl _,hw3.size,(hb4.ext (e8.trans e13)).lt,(hb9.ext e13).lt⟩
 refine cl (vs:= [.int .i64 ((c:Nat):Int),.int .i64 ((r:Nat):Int),.func (.func 47) #[] #[.pointer (some ⟨g1,0,none⟩)]]) hw3 (g_mat_build (f:=tq X) (cs:= [.pointer (some ⟨g1,0,none⟩)]) (K:=K) hw3.size hlb15 hc hr (enters_of Try.func47 (by kernel_rfl) rfl) (fun i j hi hj=>hX.ln hxa0 hj hi) (fun i j w' hi hj x=>(g_mat_Turn1 (Nat.le_trans (Ext.refl _).size x.size) ((hxa0.ext hw3).ext x) hna hr hc hX hi hj ((hb4.ext (e8.trans e13)).ext x) hKB))) rfl (by kernel_rfl) fun xr18 v16 r18 e17 hw4=>?_
 obtain⟨lv19,rfl,⟨LA20,lc20,zs20,rfl,lz20,hz20⟩⟩:=r18
 have blk21:=lz20.block
 have hb23:=(hb9.ext (e13.trans e17))
 refine so aggMat hb23 [.int .i64 ((c:Nat):Int),.int .i64 ((r:Nat):Int),.slice LA20 (c*r) lc20] hw4 ge10 rfl rfl rfl rfl fun v22 hb24 u25 hw5=>(mv 1 rfl (ne_ (cw_ret (eo_ret [.agg #[.int .i64 ((c:Nat):Int),.int .i64 ((r:Nat):Int),.slice LA20 (c*r) lc20],I0] rfl ⟨⟨_,rfl,load_agg aggMat hb24 [.int .i64 ((c:Nat):Int),.int .i64 ((r:Nat):Int),.slice LA20 (c*r) lc20] rfl (bq rfl) rfl⟩,rfl,trivial⟩ ?_))))
 exact⟨_,rfl,⟨_,_,rfl,⟨_,rfl,⟨_,_,_,rfl,((lz20.updT hb23 u25 (show∀p:Addr,LA20=some p→p.block≠g6 from fun p hp=>by have:=blk21 p hp;omega))).mono (Nat.le_refl _) hb (Nat.le_trans hlb hgl15),hz20⟩⟩,rfl⟩,hw5⟩
end Go.Proofs.Ytgekkehpljbklaa
