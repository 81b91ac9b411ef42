/- Parts Lw7s, joined. -/
import Derived.Test.YtgilhcdglaneiaaS2

namespace Go.Proofs.Ytgilhcdglaneiaa
open Go.RowKit
theorem gv_bool7s {w:World}{b:Bool}:∀e w',Gv w (Is (.bool b)) e w'→BoolP b w e w':=by
 rintro e w' ⟨v,rfl,rfl,hx⟩
 exact⟨rfl,hx⟩
set_option maxHeartbeats 16000000 in
set_option maxRecDepth 20000 in
theorem law_ApproxSumsP {w:World}{A B C:Option Addr}{n c m c' l c2 x:Nat}{xs:List Nat}{ps zs:List Int}(hx:Rd w A n c xs) (hn:n≤1048576) (hp:Rk .i64 w B m c' ps) (hm:m≤1048576) (hxb:x≤18446744073709551615) (hz:Rk .i32 w C l c2 zs) (hl0:l≤1048576) (haX:allF xs=true):
    Calls Try.prog 4 #[.agg #[.slice A n c,.slice B m c',.int .u64 ((x:Nat):Int),.slice C l c2]] w (Gv w (Is (.bool true))):=by
 have hlx:=hx.len
 have hzl:=hz.len
 have hzb:∀i,i<zs.length→(zs.getD i 0).natAbs≤2147483648:=fun i hi=>by obtain⟨_,_,_,h1⟩:=hz.get i (by omega);rw [i32_min,i32_max] at h1;omega
 obtain⟨tb,htb⟩:∃t,totS (sumF xs)=t:=⟨_,rfl⟩
 replace htb:=Lib.hid htb
 obtain⟨tn,htn⟩:∃t,nrB zs.sum=t:=⟨_,rfl⟩
 replace htn:=Lib.hid htn
 refine sx_enter Try.func4 rfl (n:=190) rfl (bq rfl) (args:= [.agg #[.slice A n c,.slice B m c',.int .u64 ((x:Nat):Int),.slice C l c2]]) (cw_keep [(0,.agg #[.slice A n c,.slice B m c',.int .u64 ((x:Nat):Int),.slice C l c2])] ⟨rfl,trivial⟩ (sr (bx [.slice A n c,.slice B m c',.int .u64 ((x:Nat):Int),.slice C l c2] (Ext.refl w) rfl rfl rfl fun g1 v2 hb4 ge5 e3 hw1=>(mv 1 rfl (ne_ (cw_seq (sr (wl_call rfl rfl (vs:= []) (by kernel_rfl) (by decide) g_awake7 ?_))))))))
 rintro _ v6 ⟨xr8,rfl,r8,e7⟩
 refine ret_intro ?_
 have hw2:=hw1.trans e7
 obtain rfl:=r8
 refine pu (v:= .bool false) rfl (by kernel_rfl) (ne_ (cw_false rfl (cw_skip (eo_then (cw_seq (cw_keep [(0,.agg #[.slice A n c,.slice B m c',.int .u64 ((x:Nat):Int),.slice C l c2]),(1,.pointer (some ⟨g1,0,none⟩)),(2,.bool false),(21,.bool true),(22,.bool false)] ⟨rfl,rfl,rfl,rfl,rfl,trivial⟩ ?_))))))
 obtain⟨v9,hv,e10⟩:∃v,v=v6.drew∧Ext v6 v:=⟨_,rfl,(Ext.refl _).drew⟩
 have hw3:=hw2.trans e10
 refine cw_det mix (w:=v9) [.pointer (some ⟨g1,1,none⟩),.slice B m c',.pointer (some ⟨g1,3,none⟩),.slice C l c2,.slice B m c',.slice C l c2] [v9] [] [[],[0],[],[2],[1],[3]] [[],[0],[],[2],[0,1],[0,1,2,3,4]] [(0,0),(1,0),(2,0),(3,0),(4,0),(5,0)] rfl hv ?_ ?_
 · 
  refine dobs_val _ rfl rfl rfl rfl rfl (rd_pure rfl (by kernel_rfl)) (dobs_val _ rfl rfl rfl rfl rfl (rd_load rfl (load_cell (fun _=>by kernel_rfl) (hb4.ext (e7.trans e10)) rfl)) (dobs_val _ rfl rfl rfl rfl rfl (rd_pure rfl (by kernel_rfl)) (dobs_val _ rfl rfl rfl rfl rfl (rd_load rfl (load_cell (fun _=>by kernel_rfl) (hb4.ext (e7.trans e10)) rfl)) (dobs_val _ rfl rfl rfl rfl rfl (rd_assign rfl) (dobs_val _ rfl rfl rfl rfl rfl (rd_assign rfl) ?_)))))
  exact dobs_nil
 clear hv
 refine eo_keep [(0,.agg #[.slice A n c,.slice B m c',.int .u64 ((x:Nat):Int),.slice C l c2]),(1,.pointer (some ⟨g1,0,none⟩)),(2,.bool false),(21,.bool true),(22,.bool false),(23,.pointer (some ⟨g1,1,none⟩)),(24,.slice B m c'),(25,.pointer (some ⟨g1,3,none⟩)),(26,.slice C l c2),(3,.slice B m c'),(4,.slice C l c2)] ⟨rfl,rfl,rfl,rfl,rfl,rfl,rfl,rfl,rfl,rfl,rfl,trivial⟩ (eo_then (sr (pf g1 0 rfl (by kernel_rfl) (wl_load rfl rfl (load_cell (fun _=>by kernel_rfl) (hb4.ext (e7.trans e10)) rfl) (by decide) (cl (vs:= [.slice A n c]) hw3 (g_floats (Nat.le_refl v9.heap.size) (hx.ext (e3.trans (e7.trans e10))) hn) rfl (by kernel_rfl) fun xr13 v11 r13 e12 hw4=>?_)))))
 obtain⟨g14,rfl,gb14,hb14⟩:=r13
 have ge15:w.heap.size≤g14:=Nat.le_trans hw3.size gb14
 have q16:g1<g14:=Nat.lt_of_lt_of_le (hb4.ext (e7.trans e10)).lt gb14
 have ne17:0<c'→∀a,B=some a→a.block≠g14:=fun hc a ha=>by have:=((hp.ext (e3.trans (e7.trans e10)))).rv.blk a ha hc;omega
 have ne18:0<c2→∀a,C=some a→a.block≠g14:=fun hc a ha=>by have:=((hz.ext (e3.trans (e7.trans e10)))).rv.blk a ha hc;omega
 have ne19:0<c→∀a,A=some a→a.block≠g14:=fun hc a ha=>by have:=((hx.ext (e3.trans (e7.trans e10)))).rv.blk a ha hc;omega
 refine mv 1 rfl (ne_ (sr (mv 1 rfl (cl (vs:= [.slice (some ⟨g14,0,none⟩) n n]) hw4 (g_Total_e ((hb14).rf0 (wf64 hx.wf) hlx (by omega)) (by omega) haX htb.out) rfl (by kernel_rfl) fun xr22 v20 r22 e21 hw5=>?_))))
 obtain⟨_,_,rfl,rfl,rfl⟩:=r22
 refine mv 1 rfl (pu (v:= .float .f64 tb) rfl (by kernel_rfl) (pu (v:= .int .i64 0) rfl (by kernel_rfl) (mv 2 rfl (ne_ (sr (mv 1 rfl (ne_ (cw_seq (sr (mv 1 rfl (ne_ (cw_block ?_))))))))))))
 refine cw_loop (T:=World×Nat)
  (fun⟨wr,i⟩=> [(1,.pointer (some ⟨g1,0,none⟩)),(3,.slice B m c'),(4,.slice C l c2),(5,.slice (some ⟨g14,0,none⟩) n n),(6,.float .f64 tb),(7,.int .i64 0),(8,.bool true),(9,.int .i64 ((i:Nat):Int))])
  (fun⟨wr,i⟩=>wr)
  (fun⟨wr,i⟩=>(Ext w wr)∧(i≤n)∧(Bk wr g1 32 [.slice A n c,.slice B m c',.int .u64 ((x:Nat):Int),.slice C l c2])∧(Bk wr g14 35 (xs.map F64))∧(xs.length=n)∧(Rk .i64 wr B m c' ps)∧(Rk .i32 wr C l c2 zs))
  (fun⟨wr,i⟩=>n-i)
  (⟨v20,0⟩:World×Nat) ⟨hw5,(Nat.zero_le _),(hb4.ext (e7.trans (e10.trans (e12.trans e21)))),(hb14.ext e21),hlx,(hp.ext (e3.trans (e7.trans (e10.trans (e12.trans e21))))),(hz.ext (e3.trans (e7.trans (e10.trans (e12.trans e21)))))⟩ rfl ⟨rfl,rfl,rfl,rfl,rfl,rfl,rfl,rfl,trivial⟩ ?_
 rintro⟨wr,i⟩ ⟨hw1,hi,hB1,hb,hl,rl3,rl4⟩
 refine cw_re [(1,.pointer (some ⟨g1,0,none⟩)),(3,.slice B m c'),(4,.slice C l c2),(5,.slice (some ⟨g14,0,none⟩) n n),(6,.float .f64 tb),(7,.int .i64 0),(8,.bool true),(9,.int .i64 ((i:Nat):Int))] wr rfl ⟨rfl,rfl,rfl,rfl,rfl,rfl,rfl,rfl,trivial⟩ (cw_seq (cw_seq ?_))
 by_cases hin:i<n
 · 
  refine cw_region (mv 2 rfl (pu (v:= .int .i64 ((n:Nat):Int)) rfl (by kernel_rfl) (wl_cmp rfl rfl rfl true (cb_lt_t (a:=i) (b:=n) rfl rfl (by omega)) (by decide) (ne_ (cw_true rfl (cw_skip (eo_then (cw_seq (cw_block ?_)))))))))
  have hfi:=allF_get haX (i:=i) (by omega)
  refine cw_region (mv 4 rfl (wl_idx rfl rfl rfl un_f64 sz_f64 i rfl (by omega) ⟨g14,i,none⟩ (arr_at _ _) (by decide) (wl_load rfl rfl (load_flt ag_f64 hb (by rw [hl];omega)) (by decide) (cl (vs:= [.float .f64 (xs.getD i 0)]) hw1 (g_finite hfi) rfl (by kernel_rfl) fun xr26 v24 r26 e25 hw2=>?_))))
  obtain rfl:=r26
  refine pu (v:= .bool true) rfl (by kernel_rfl) (mv 1 rfl (wl_nil (eo_block_normal (eo_then (cw_region (mv 1 rfl (wl_ar rfl rfl rfl ((i+1:Nat):Int) (ai_add (a:=i) (b:=1) rfl rfl (by omega)) (by decide) (mv 1 rfl (wl_nil (eo_round (⟨v24,i+1⟩:World×Nat) ⟨hw2,(by omega),(hB1.ext e25),(hb.ext e25),hl,(rl3.ext e25),(rl4.ext e25)⟩ (show n-(i+1)<n-i by omega) rfl ⟨rfl,rfl,rfl,rfl,rfl,rfl,rfl,rfl,trivial⟩))))))))))
 · 
  refine cw_region (mv 2 rfl (pu (v:= .int .i64 ((n:Nat):Int)) rfl (by kernel_rfl) (wl_cmp rfl rfl rfl false (cb_lt_f (a:=i) (b:=n) rfl rfl (by omega)) (by decide) (ne_ (cw_false rfl (cw_exit (eo_thenX (eo_loopX (eo_block_here (eo_then (cw_seq (sr (mv 1 rfl ?_)))))))))))))
  refine pu (v:= .bool false) rfl (by kernel_rfl) (ne_ (cw_false rfl (cw_skip (eo_then (cw_seq (cw_seq ?_))))))
  have htop:=totS_top (sumF xs)
  rw [htb.out] at htop
  have htop1:=htop.1
  refine cw_region (mv 1 rfl (wl_cmp rfl rfl rfl false (by decide) (by decide) (mv 2 rfl (pu (v:= .int .u64 ((tb:Nat):Int)) rfl (by kernel_rfl) (wl_cmp rfl rfl rfl false (cb_eq_f (a:=tb) (b:=9223372036854775808) rfl rfl (by omega)) (by decide) (pu (v:= .bool false) rfl (by kernel_rfl) (ne_ (cw_false rfl (cw_skip (eo_then (cw_seq (sr (mv 1 rfl ?_)))))))))))))
  refine ne_ (cw_block ?_)
  refine cw_loop (T:=World×Nat×List Nat)
   (fun⟨wr,i,l7⟩=> [(1,.pointer (some ⟨g1,0,none⟩)),(3,.slice B m c'),(4,.slice C l c2),(5,.slice (some ⟨g14,0,none⟩) n n),(6,.float .f64 tb),(10,.int .i64 ((i:Nat):Int))])
   (fun⟨wr,i,l7⟩=>wr)
   (fun⟨wr,i,l7⟩=>(Ext w wr)∧(i≤m+1)∧(Bk wr g1 32 [.slice A n c,.slice B m c',.int .u64 ((x:Nat):Int),.slice C l c2])∧(Bk wr g14 35 (l7.map F64))∧(l7.length=n)∧(∀y,y∈l7→y<18446744073709551616)∧(allF l7=true)∧(sumF l7=sumF xs)∧(Rk .i64 wr B m c' ps)∧(Rk .i32 wr C l c2 zs))
   (fun⟨wr,i,l7⟩=>m+1-i)
   (⟨wr,0,_⟩:World×Nat×List Nat) ⟨hw1,(Nat.zero_le _),hB1,hb,hlx,(wf64 hx.wf),haX,rfl,rl3,rl4⟩ rfl ⟨rfl,rfl,rfl,rfl,rfl,rfl,trivial⟩ ?_
  rintro⟨wr,i,l7⟩ ⟨hw1,hi,hB1,hb,hl,hwf,hall,hsm,rl3,rl4⟩
  refine cw_re [(1,.pointer (some ⟨g1,0,none⟩)),(3,.slice B m c'),(4,.slice C l c2),(5,.slice (some ⟨g14,0,none⟩) n n),(6,.float .f64 tb),(10,.int .i64 ((i:Nat):Int))] wr rfl ⟨rfl,rfl,rfl,rfl,rfl,rfl,trivial⟩ (cw_seq (cw_seq ?_))
  by_cases him:i+1<m
  · 
   refine cw_region (mv 1 rfl (wl_ar rfl rfl rfl ((i+1:Nat):Int) (ai_add (a:=i) (b:=1) rfl rfl (by omega)) (by decide) (mv 1 rfl (pu (v:= .int .i64 ((m:Nat):Int)) rfl (by kernel_rfl) (wl_cmp rfl rfl rfl true (cb_lt_t (a:=i+1) (b:=m) rfl rfl (by omega)) (by decide) (ne_ (cw_true rfl (cw_skip (eo_then (cw_seq (cw_block (cw_seq (cw_keep [(1,.pointer (some ⟨g1,0,none⟩)),(3,.slice B m c'),(4,.slice C l c2),(5,.slice (some ⟨g14,0,none⟩) n n),(6,.float .f64 tb),(10,.int .i64 ((i:Nat):Int)),(65,.int .i64 ((i:Nat):Int)),(66,.int .i64 ((i+1:Nat):Int)),(67,.slice B m c'),(68,.int .i64 ((m:Nat):Int)),(69,.bool true)] ⟨rfl,rfl,rfl,rfl,rfl,rfl,rfl,rfl,rfl,rfl,rfl,trivial⟩ ?_)))))))))))))
   obtain⟨v27,hv,e28⟩:∃v,v=wr.drew∧Ext wr v:=⟨_,rfl,(Ext.refl _).drew⟩
   have hw2:=hw1.trans e28
   obtain⟨p29,hp29,hc29,hv29⟩:=((rl3.ext e28)).at (i:=i) (by omega)
   rw [i64_min7,i64_max7] at hv29
   obtain⟨p30,hp30,hc30,hv30⟩:=((rl3.ext e28)).at (i:=i+1) (by omega)
   rw [i64_min7,i64_max7] at hv30
   refine cw_det mix (w:=v27) [.slice B m c',.int .i64 ((i:Nat):Int),.pointer (some p29),.int .i64 (ps.getD i 0),.slice B m c',.int .i64 ((i:Nat):Int),.int .i64 ((i+1:Nat):Int),.pointer (some p30),.int .i64 (ps.getD (i+1) 0),.int .i64 (ps.getD i 0),.int .i64 (ps.getD (i+1) 0)] [v27] [] [[],[],[0,1],[2],[],[],[5],[4,6],[7],[3],[8]] [[],[],[0,1],[0,1,2],[],[],[5],[4,5,6],[4,5,6,7],[0,1,2,3],[0,1,2,3,4,5,6,7,8,9]] [(0,0),(1,0),(2,0),(3,0),(4,0),(5,0),(6,0),(7,0),(8,0),(9,0),(10,0)] rfl hv ?_ ?_
   · 
    refine dobs_val _ rfl rfl rfl rfl rfl (rd_move rfl) (dobs_val _ rfl rfl rfl rfl rfl (rd_move rfl) (dobs_val _ rfl rfl rfl rfl rfl (rd_idx rfl rfl Try.underlying29 (fun _=>by kernel_rfl) i rfl (by omega) p29 hp29) (dobs_val _ rfl rfl rfl rfl rfl (rd_load rfl (load_cell1 (fun _=>by kernel_rfl) hc29)) (dobs_val _ rfl rfl rfl rfl rfl (rd_move rfl) (dobs_val _ rfl rfl rfl rfl rfl (rd_move rfl) (dobs_val _ rfl rfl rfl rfl rfl (rd_ar rfl rfl ((i+1:Nat):Int) (ai_add (a:=i) (b:=1) rfl rfl (by omega))) (dobs_val _ rfl rfl rfl rfl rfl (rd_idx rfl rfl Try.underlying29 (fun _=>by kernel_rfl) (i+1) rfl (by omega) p30 hp30) (dobs_val _ rfl rfl rfl rfl rfl (rd_load rfl (load_cell1 (fun _=>by kernel_rfl) hc30)) (dobs_val _ rfl rfl rfl rfl rfl (rd_assign rfl) (dobs_val _ rfl rfl rfl rfl rfl (rd_assign rfl) ?_))))))))))
    exact dobs_nil
   clear hv
   refine eo_keep [(1,.pointer (some ⟨g1,0,none⟩)),(3,.slice B m c'),(4,.slice C l c2),(5,.slice (some ⟨g14,0,none⟩) n n),(6,.float .f64 tb),(10,.int .i64 ((i:Nat):Int)),(65,.int .i64 ((i:Nat):Int)),(66,.int .i64 ((i+1:Nat):Int)),(67,.slice B m c'),(68,.int .i64 ((m:Nat):Int)),(69,.bool true),(72,.slice B m c'),(73,.int .i64 ((i:Nat):Int)),(74,.pointer (some p29)),(75,.int .i64 (ps.getD i 0)),(76,.slice B m c'),(77,.int .i64 ((i:Nat):Int)),(78,.int .i64 ((i+1:Nat):Int)),(79,.pointer (some p30)),(80,.int .i64 (ps.getD (i+1) 0)),(11,.int .i64 (ps.getD i 0)),(12,.int .i64 (ps.getD (i+1) 0))] ⟨rfl,rfl,rfl,rfl,rfl,rfl,rfl,rfl,rfl,rfl,rfl,rfl,rfl,rfl,rfl,rfl,rfl,rfl,rfl,rfl,rfl,rfl,trivial⟩ (eo_then (cw_seq ?_))
   by_cases hp0:0≤ps.getD i 0
   · 
    by_cases hpn:ps.getD i 0<((n:Nat):Int)
    · 
     by_cases hq0:0≤ps.getD (i+1) 0
     · 
      by_cases hqn:ps.getD (i+1) 0<((n:Nat):Int)
      · 
       obtain⟨p,hpp⟩:∃p:Nat,ps.getD i 0=(p:Int):=⟨(ps.getD i 0).toNat,by omega⟩
       obtain⟨q,hqq⟩:∃q:Nat,ps.getD (i+1) 0=(q:Int):=⟨(ps.getD (i+1) 0).toNat,by omega⟩
       rw [hpp,hqq]
       have hpn:p<n:=by omega
       have hqn:q<n:=by omega
       refine cw_region (mv 1 rfl (wl_cmp rfl rfl rfl true (cb_ge_t (a:=p) (b:=0) rfl rfl (by omega)) (by decide) (mv 3 rfl (pu (v:= .int .i64 ((n:Nat):Int)) rfl (by kernel_rfl) (wl_cmp rfl rfl rfl true (cb_lt_t (a:=p) (b:=n) rfl rfl (by omega)) (by decide) (pu (v:= .bool true) rfl (by kernel_rfl) (mv 2 rfl (wl_cmp rfl rfl rfl true (cb_ge_t (a:=q) (b:=0) rfl rfl (by omega)) (by decide) (pu (v:= .bool true) rfl (by kernel_rfl) (mv 3 rfl (pu (v:= .int .i64 ((n:Nat):Int)) rfl (by kernel_rfl) (wl_cmp rfl rfl rfl true (cb_lt_t (a:=q) (b:=n) rfl rfl (by omega)) (by decide) (pu (v:= .bool true) rfl (by kernel_rfl) ?_)))))))))))))
       refine ne_ (cw_true rfl (cw_keep [(1,.pointer (some ⟨g1,0,none⟩)),(3,.slice B m c'),(4,.slice C l c2),(5,.slice (some ⟨g14,0,none⟩) n n),(6,.float .f64 tb),(10,.int .i64 ((i:Nat):Int)),(65,.int .i64 ((i:Nat):Int)),(66,.int .i64 ((i+1:Nat):Int)),(67,.slice B m c'),(68,.int .i64 ((m:Nat):Int)),(69,.bool true),(72,.slice B m c'),(73,.int .i64 ((i:Nat):Int)),(74,.pointer (some p29)),(75,.int .i64 ((p:Nat):Int)),(76,.slice B m c'),(77,.int .i64 ((i:Nat):Int)),(78,.int .i64 ((i+1:Nat):Int)),(79,.pointer (some p30)),(80,.int .i64 ((q:Nat):Int)),(11,.int .i64 ((p:Nat):Int)),(12,.int .i64 ((q:Nat):Int)),(81,.int .i64 ((p:Nat):Int)),(82,.bool true),(83,.bool true),(84,.int .i64 ((p:Nat):Int)),(85,.slice (some ⟨g14,0,none⟩) n n),(86,.int .i64 ((n:Nat):Int)),(87,.bool true),(88,.bool true),(89,.bool true),(90,.int .i64 ((q:Nat):Int)),(91,.bool true),(92,.bool true),(93,.bool true),(94,.int .i64 ((q:Nat):Int)),(95,.slice (some ⟨g14,0,none⟩) n n),(96,.int .i64 ((n:Nat):Int)),(97,.bool true),(98,.bool true)] ⟨rfl,rfl,rfl,rfl,rfl,rfl,rfl,rfl,rfl,rfl,rfl,rfl,rfl,rfl,rfl,rfl,rfl,rfl,rfl,rfl,rfl,rfl,rfl,rfl,rfl,rfl,rfl,rfl,rfl,rfl,rfl,rfl,rfl,rfl,rfl,rfl,rfl,rfl,rfl,rfl,trivial⟩ ?_))
       obtain⟨v31,hv,e32⟩:∃v,v=v27.drew∧Ext v27 v:=⟨_,rfl,(Ext.refl _).drew⟩
       have hw3:=hw2.trans e32
       have hb34:=(hb.ext (e28.trans e32))
       obtain⟨v33,hr38,hb35,u36,hs37⟩:=run_store1v (P:=Try.prog) (v:= .float .f64 (l7.getD q 0)) (off:=p) sz_f64 rfl hb34 (len_map (by rw [hl];omega)) rfl ((l7.set p (l7.getD q 0)).map F64) (map_F64_set _ _ _)
       have hw4:=u36.ext hw3 ge15
       obtain⟨v39,hr44,hb41,u42,hs43⟩:=run_store1v (P:=Try.prog) (v:= .float .f64 (l7.getD p 0)) (off:=q) sz_f64 rfl hb35 (len_map (by rw [(len_set (l:=l7) (hl))];omega)) rfl (((l7.set p (l7.getD q 0)).set q (l7.getD p 0)).map F64) (map_F64_set _ _ _)
       have hw5:=u42.ext hw4 ge15
       refine cw_det mix (w:=v31) [.slice (some ⟨g14,0,none⟩) n n,.int .i64 ((p:Nat):Int),.slice (some ⟨g14,0,none⟩) n n,.int .i64 ((q:Nat):Int),.slice (some ⟨g14,0,none⟩) n n,.int .i64 ((q:Nat):Int),.pointer (some (⟨g14,q,none⟩)),.float .f64 (l7.getD q 0),.slice (some ⟨g14,0,none⟩) n n,.int .i64 ((p:Nat):Int),.pointer (some (⟨g14,p,none⟩)),.float .f64 (l7.getD p 0),.pointer (some (⟨g14,p,none⟩)),undef,.pointer (some (⟨g14,q,none⟩)),undef] [v31,v33,v39] [13,15] [[],[],[],[],[],[],[4,5],[6],[],[],[8,9],[10],[0,1],[7,12],[2,3],[11,14]] [[],[],[],[],[],[],[4,5],[4,5,6],[],[],[8,9],[8,9,10],[0,1,4,5,6,7,8,9,10,11],[0,1,4,5,6,7,8,9,10,11,12],[0,1,2,3,4,5,6,7,8,9,10,11,12,13],[0,1,2,3,4,5,6,7,8,9,10,11,12,13,14]] [(0,0),(1,0),(2,0),(2,1),(3,0),(3,1),(4,0),(5,0),(6,0),(7,0),(8,0),(9,0),(10,0),(11,0),(12,0),(13,0),(14,1),(15,1)] rfl hv ?_ ?_
       · 
        refine dobs_val _ rfl rfl rfl rfl rfl (rd_move rfl) (dobs_val _ rfl rfl rfl rfl rfl (rd_move rfl) (dobs_val _ rfl rfl rfl rfl rfl (rd_move rfl) (dobs_val _ rfl rfl rfl rfl rfl (rd_move rfl) (dobs_val _ rfl rfl rfl rfl rfl (rd_move rfl) (dobs_val _ rfl rfl rfl rfl rfl (rd_move rfl) (dobs_val _ rfl rfl rfl rfl rfl (rd_move rfl) (dobs_val _ rfl rfl rfl rfl rfl (rd_move rfl) (dobs_val _ rfl rfl rfl rfl rfl (rd_idx rfl rfl un_f64 sz_f64 q rfl (by omega) ⟨g14,q,none⟩ (arr_at _ _)) (dobs_val _ rfl rfl rfl rfl rfl (rd_load rfl (load_flt ag_f64 (hb.ext (e28.trans e32)) (by rw [hl];omega))) (dobs_val _ rfl rfl rfl rfl rfl (rd_move rfl) (dobs_val _ rfl rfl rfl rfl rfl (rd_move rfl) (dobs_val _ rfl rfl rfl rfl rfl (rd_idx rfl rfl un_f64 sz_f64 p rfl (by omega) ⟨g14,p,none⟩ (arr_at _ _)) (dobs_val _ rfl rfl rfl rfl rfl (rd_load rfl (load_flt ag_f64 (hb.ext (e28.trans e32)) (by rw [hl];omega))) ?_)))))))))))))
        refine dobs_val _ rfl rfl rfl rfl rfl (rd_idx rfl rfl un_f64 sz_f64 p rfl (by omega) ⟨g14,p,none⟩ (arr_at _ _)) (dobs_sto _ rfl rfl rfl rfl rfl (rd_store rfl rfl hr38) (dobs_val _ rfl rfl rfl rfl rfl (rd_idx rfl rfl un_f64 sz_f64 q rfl (by omega) ⟨g14,q,none⟩ (arr_at _ _)) (dobs_sto _ rfl rfl rfl rfl rfl (rd_store rfl rfl hr44) ?_)))
        exact dobs_nil
       clear hv
       refine eo_keep [(1,.pointer (some ⟨g1,0,none⟩)),(3,.slice B m c'),(4,.slice C l c2),(5,.slice (some ⟨g14,0,none⟩) n n),(6,.float .f64 tb),(10,.int .i64 ((i:Nat):Int)),(65,.int .i64 ((i:Nat):Int)),(66,.int .i64 ((i+1:Nat):Int)),(67,.slice B m c'),(68,.int .i64 ((m:Nat):Int)),(69,.bool true),(72,.slice B m c'),(73,.int .i64 ((i:Nat):Int)),(74,.pointer (some p29)),(75,.int .i64 ((p:Nat):Int)),(76,.slice B m c'),(77,.int .i64 ((i:Nat):Int)),(78,.int .i64 ((i+1:Nat):Int)),(79,.pointer (some p30)),(80,.int .i64 ((q:Nat):Int)),(11,.int .i64 ((p:Nat):Int)),(12,.int .i64 ((q:Nat):Int)),(81,.int .i64 ((p:Nat):Int)),(82,.bool true),(83,.bool true),(84,.int .i64 ((p:Nat):Int)),(85,.slice (some ⟨g14,0,none⟩) n n),(86,.int .i64 ((n:Nat):Int)),(87,.bool true),(88,.bool true),(89,.bool true),(90,.int .i64 ((q:Nat):Int)),(91,.bool true),(92,.bool true),(93,.bool true),(94,.int .i64 ((q:Nat):Int)),(95,.slice (some ⟨g14,0,none⟩) n n),(96,.int .i64 ((n:Nat):Int)),(97,.bool true),(98,.bool true),(99,.slice (some ⟨g14,0,none⟩) n n),(100,.int .i64 ((p:Nat):Int)),(101,.slice (some ⟨g14,0,none⟩) n n),(102,.int .i64 ((q:Nat):Int)),(103,.slice (some ⟨g14,0,none⟩) n n),(104,.int .i64 ((q:Nat):Int)),(105,.pointer (some (⟨g14,q,none⟩))),(106,.float .f64 (l7.getD q 0)),(107,.slice (some ⟨g14,0,none⟩) n n),(108,.int .i64 ((p:Nat):Int)),(109,.pointer (some (⟨g14,p,none⟩))),(110,.float .f64 (l7.getD p 0)),(111,.pointer (some (⟨g14,p,none⟩))),(112,.pointer (some (⟨g14,q,none⟩)))] ⟨rfl,rfl,rfl,rfl,rfl,rfl,rfl,rfl,rfl,rfl,rfl,rfl,rfl,rfl,rfl,rfl,rfl,rfl,rfl,rfl,rfl,rfl,rfl,rfl,rfl,rfl,rfl,rfl,rfl,rfl,rfl,rfl,rfl,rfl,rfl,rfl,rfl,rfl,rfl,rfl,rfl,rfl,rfl,rfl,rfl,rfl,rfl,rfl,rfl,rfl,rfl,rfl,rfl,rfl,trivial⟩ (eo_block_normal (eo_then (cw_region (mv 1 rfl (wl_ar rfl rfl rfl ((i+2:Nat):Int) (ai_add (a:=i) (b:=2) rfl rfl (by omega)) (by decide) (mv 1 rfl (wl_nil (eo_round (⟨v39,i+2,swp l7 p q⟩:World×Nat×List Nat) ⟨hw5,(by omega),(((hB1.ext (e28.trans e32)).updN u36 (by omega)).updN u42 (by omega)),(by have h:=hb41;exact h),((swp_len _ _ _).trans hl),(fun y hy=>hwf y (swp_mem (by omega) (by omega) hy)),(allF_mem.2 fun y hy=>allF_mem.1 hall y (swp_mem (by omega) (by omega) hy)),((swp_sum (by omega) (by omega)).trans hsm),(Rk.updL (Rk.updL (rl3.ext (e28.trans e32)) u36 ne17) u42 ne17),(Rk.updL (Rk.updL (rl4.ext (e28.trans e32)) u36 ne18) u42 ne18)⟩ (show m+1-(i+2)<m+1-i by omega) rfl ⟨rfl,rfl,rfl,rfl,rfl,rfl,trivial⟩))))))))
      · 
       refine cw_region (mv 1 rfl (wl_cmp rfl rfl rfl true (ge_t hp0) (by decide) (mv 3 rfl (pu (v:= .int .i64 ((n:Nat):Int)) rfl (by kernel_rfl) (wl_cmp rfl rfl rfl true (lt_t hpn) (by decide) (pu (v:= .bool true) rfl (by kernel_rfl) (mv 2 rfl (wl_cmp rfl rfl rfl true (ge_t hq0) (by decide) (pu (v:= .bool true) rfl (by kernel_rfl) (mv 3 rfl (pu (v:= .int .i64 ((n:Nat):Int)) rfl (by kernel_rfl) (wl_cmp rfl rfl rfl false (lt_f (by omega)) (by decide) (pu (v:= .bool false) rfl (by kernel_rfl) ?_)))))))))))))
       refine ne_ (cw_false rfl (cw_skip (eo_block_normal (eo_then (cw_region (mv 1 rfl (wl_ar rfl rfl rfl ((i+2:Nat):Int) (ai_add (a:=i) (b:=2) rfl rfl (by omega)) (by decide) (mv 1 rfl (wl_nil (eo_round (⟨v27,i+2,l7⟩:World×Nat×List Nat) ⟨hw2,(by omega),(hB1.ext e28),(hb.ext e28),hl,hwf,hall,hsm,(rl3.ext e28),(rl4.ext e28)⟩ (show m+1-(i+2)<m+1-i by omega) rfl ⟨rfl,rfl,rfl,rfl,rfl,rfl,trivial⟩))))))))))
     · 
      refine cw_region (mv 1 rfl (wl_cmp rfl rfl rfl true (ge_t hp0) (by decide) (mv 3 rfl (pu (v:= .int .i64 ((n:Nat):Int)) rfl (by kernel_rfl) (wl_cmp rfl rfl rfl true (lt_t hpn) (by decide) (pu (v:= .bool true) rfl (by kernel_rfl) (mv 2 rfl (wl_cmp rfl rfl rfl false (ge_f (by omega)) (by decide) (pu (v:= .bool false) rfl (by kernel_rfl) (mv 5 rfl (pu (v:= .bool false) rfl (by kernel_rfl) (ne_ (cw_false rfl ?_)))))))))))))
      refine cw_skip (eo_block_normal (eo_then (cw_region (mv 1 rfl (wl_ar rfl rfl rfl ((i+2:Nat):Int) (ai_add (a:=i) (b:=2) rfl rfl (by omega)) (by decide) (mv 1 rfl (wl_nil (eo_round (⟨v27,i+2,l7⟩:World×Nat×List Nat) ⟨hw2,(by omega),(hB1.ext e28),(hb.ext e28),hl,hwf,hall,hsm,(rl3.ext e28),(rl4.ext e28)⟩ (show m+1-(i+2)<m+1-i by omega) rfl ⟨rfl,rfl,rfl,rfl,rfl,rfl,trivial⟩))))))))
    · 
     refine cw_region (mv 1 rfl (wl_cmp rfl rfl rfl true (ge_t hp0) (by decide) (mv 3 rfl (pu (v:= .int .i64 ((n:Nat):Int)) rfl (by kernel_rfl) (wl_cmp rfl rfl rfl false (lt_f (by omega)) (by decide) (pu (v:= .bool false) rfl (by kernel_rfl) (mv 3 rfl (pu (v:= .bool false) rfl (by kernel_rfl) (mv 5 rfl (pu (v:= .bool false) rfl (by kernel_rfl) (ne_ (cw_false rfl (cw_skip ?_)))))))))))))
     refine eo_block_normal (eo_then (cw_region (mv 1 rfl (wl_ar rfl rfl rfl ((i+2:Nat):Int) (ai_add (a:=i) (b:=2) rfl rfl (by omega)) (by decide) (mv 1 rfl (wl_nil (eo_round (⟨v27,i+2,l7⟩:World×Nat×List Nat) ⟨hw2,(by omega),(hB1.ext e28),(hb.ext e28),hl,hwf,hall,hsm,(rl3.ext e28),(rl4.ext e28)⟩ (show m+1-(i+2)<m+1-i by omega) rfl ⟨rfl,rfl,rfl,rfl,rfl,rfl,trivial⟩)))))))
   · 
    refine cw_region (mv 1 rfl (wl_cmp rfl rfl rfl false (ge_f (by omega)) (by decide) (mv 5 rfl (pu (v:= .bool false) rfl (by kernel_rfl) (mv 3 rfl (pu (v:= .bool false) rfl (by kernel_rfl) (mv 5 rfl (pu (v:= .bool false) rfl (by kernel_rfl) (ne_ (cw_false rfl (cw_skip (eo_block_normal (eo_then ?_)))))))))))))
    refine cw_region (mv 1 rfl (wl_ar rfl rfl rfl ((i+2:Nat):Int) (ai_add (a:=i) (b:=2) rfl rfl (by omega)) (by decide) (mv 1 rfl (wl_nil (eo_round (⟨v27,i+2,l7⟩:World×Nat×List Nat) ⟨hw2,(by omega),(hB1.ext e28),(hb.ext e28),hl,hwf,hall,hsm,(rl3.ext e28),(rl4.ext e28)⟩ (show m+1-(i+2)<m+1-i by omega) rfl ⟨rfl,rfl,rfl,rfl,rfl,rfl,trivial⟩)))))
  · 
   refine cw_region (mv 1 rfl (wl_ar rfl rfl rfl ((i+1:Nat):Int) (ai_add (a:=i) (b:=1) rfl rfl (by omega)) (by decide) (mv 1 rfl (pu (v:= .int .i64 ((m:Nat):Int)) rfl (by kernel_rfl) (wl_cmp rfl rfl rfl false (cb_lt_f (a:=i+1) (b:=m) rfl rfl (by omega)) (by decide) (ne_ (cw_false rfl (cw_exit (eo_thenX (eo_loopX (eo_block_here (eo_then (cw_seq ?_)))))))))))))
   refine cw_region (mv 1 rfl (cl (vs:= [.slice (some ⟨g14,0,none⟩) n n]) hw1 (g_Total_e ((hb).rf0 hwf hl (by omega)) (by omega) hall (show totS (sumF _)=tb from by rw [hsm];exact htb.out)) rfl (by kernel_rfl) fun xr47 v45 r47 e46 hw2=>?_))
   obtain⟨_,_,rfl,rfl,rfl⟩:=r47
   refine mv 1 rfl (pu (v:= .float .f64 tb) rfl (by kernel_rfl) (pu (v:= .int .i64 0) rfl (by kernel_rfl) (mv 2 rfl (ne_ (cw_seq (sr (mv 1 rfl (wl_cmp rfl rfl rfl false (by decide) (by decide) (mv 2 rfl (wl_call rfl rfl (vs:= [.float .f64 tb]) (by kernel_rfl) (by decide) g_bits7 ?_))))))))))
   rintro _ v49 ⟨xr51,rfl,r51,e50⟩
   refine ret_intro ?_
   have hw3:=hw2.trans e50
   obtain rfl:=r51
   refine mv 1 rfl (wl_call rfl rfl (vs:= [.float .f64 tb]) (by kernel_rfl) (by decide) g_bits7 ?_)
   rintro _ v52 ⟨xr54,rfl,r54,e53⟩
   refine ret_intro ?_
   have hw4:=hw3.trans e53
   obtain rfl:=r54
   refine wl_cmp rfl rfl rfl false (cb_ne_f (a:=btB tb) (b:=btB tb) rfl rfl (by omega)) (by decide) (pu (v:= .bool false) rfl (by kernel_rfl) (ne_ (cw_false rfl (cw_skip (eo_then (sr (pf g1 2 rfl (by kernel_rfl) (wl_load rfl rfl (load_cell (fun _=>by kernel_rfl) (hB1.ext (e46.trans (e50.trans e53))) rfl) (by decide) (pu (v:= .float .f64 x) rfl (by kernel_rfl) (mv 1 rfl (ne_ (cw_seq (cw_seq ?_)))))))))))))
   by_cases hfx:fin x
   · 
    have hmo:=more_ok (by omega) hfx hwf hall (n:=n)
    refine cw_region (mv 1 rfl (cl (vs:= [.float .f64 x]) hw4 (g_finite hfx) rfl (by kernel_rfl) fun xr57 v55 r57 e56 hw5=>?_))
    obtain rfl:=r57
    refine ne_ (cw_true rfl (sr (mv 1 rfl (wl_bslice rfl rfl (by decide) (k:=1) (e:=35) [.float .f64 x] (fun _=>by kernel_rfl) fun g58 v59 nb=>?_))))
    have ne63:0<c'→∀a,B=some a→a.block≠g58:=fun hc a ha=>by have:=((rl3.ext (e46.trans (e50.trans (e53.trans e56))))).rv.blk a ha hc;have:=nb.at_;omega
    have ne64:0<c2→∀a,C=some a→a.block≠g58:=fun hc a ha=>by have:=((rl4.ext (e46.trans (e50.trans (e53.trans e56))))).rv.blk a ha hc;have:=nb.at_;omega
    have hb60:=nb.bk
    have e61:=nb.ext
    have ge62:w.heap.size≤g58:=by rw [←nb.at_];exact hw5.size
    have q65:g14<g58:=by rw [←nb.at_];exact ((hb.ext (e46.trans (e50.trans (e53.trans e56))))).lt
    have q66:g1<g58:=by rw [←nb.at_];exact ((hB1.ext (e46.trans (e50.trans (e53.trans e56))))).lt
    have ltCg58:0<c2→∀a,C=some a→a.block<g58:=fun hc a ha=>by have:=((rl4.ext (e46.trans (e50.trans (e53.trans e56))))).rv.blk a ha hc;have:=nb.at_;omega
    clear nb
    have hw6:=hw5.trans e61
    refine mv 1 rfl ?_
    have lt73:Own v59 g58 35 1 (some ⟨g58,0,none⟩) 1 1 (([x]).map F64):=Own.mk_ (Nat.le_refl _) hb60 (Nat.le_refl _) (by rw [len_maxLen];omega) rfl rfl
    refine wl_app rfl rfl rfl un_f64 infoF64 rfl (by decide) (by decide) lt73 (Nat.le_of_lt hb60.lt) ((l7).map F64) (by rw [List.length_map,Nat.mul_one];exact hl) (bk_news (hb.ext (e46.trans (e50.trans (e53.trans (e56.trans e61)))))) (allc_F _) (by omega) (by decide) fun A67 c68 v69 ho70 uo71 kp72=>?_
    have u75:=UpdO.upd0 uo71
    have hw7:=u75.ext hw6 ge62
    rw [←List.map_append] at ho70
    have no76:∀p a,A67=some p→C=some a→0<c2→a.block≠p.block:=fun p a hp ha hc=>by have:=(ho70.block p hp).1;have:=ltCg58 hc a ha;omega
    refine mv 1 rfl (ne_ (sr (mv 2 rfl (pu (v:= .float .f64 (x^^^9223372036854775808)) rfl (by kernel_rfl) (wl_bslice rfl rfl (by decide) (k:=1) (e:=35) [.float .f64 (x^^^9223372036854775808)] (fun _=>by kernel_rfl) fun g77 v78 nb=>?_)))))
    have ne82:0<c'→∀a,B=some a→a.block≠g77:=fun hc a ha=>by have:=((Rk.updL (rl3.ext (e46.trans (e50.trans (e53.trans (e56.trans e61))))) u75 ne63)).rv.blk a ha hc;have:=nb.at_;omega
    have ne83:0<c2→∀a,C=some a→a.block≠g77:=fun hc a ha=>by have:=((Rk.updL (rl4.ext (e46.trans (e50.trans (e53.trans (e56.trans e61))))) u75 ne64)).rv.blk a ha hc;have:=nb.at_;omega
    have ne84:∀p,A67=some p→p.block≠g77:=fun p hp=>by have:=(ho70).block p hp;have:=nb.at_;omega
    have hb79:=nb.bk
    have e80:=nb.ext
    have ge81:w.heap.size≤g77:=by rw [←nb.at_];exact hw7.size
    have q85:g14<g77:=by rw [←nb.at_];exact (((hb.ext (e46.trans (e50.trans (e53.trans (e56.trans e61))))).updN u75 (by omega))).lt
    have q86:g1<g77:=by rw [←nb.at_];exact (((hB1.ext (e46.trans (e50.trans (e53.trans (e56.trans e61))))).updN u75 (by omega))).lt
    have ltCg77:0<c2→∀a,C=some a→a.block<g77:=fun hc a ha=>by have:=((Rk.updL (rl4.ext (e46.trans (e50.trans (e53.trans (e56.trans e61))))) u75 ne64)).rv.blk a ha hc;have:=nb.at_;omega
    clear nb
    have hw8:=hw7.trans e80
    have lt93:=(ho70.ext e80)
    refine wl_app rfl rfl rfl un_f64 infoF64 rfl (by decide) (by decide) lt93 (Nat.le_trans (Nat.le_of_lt hb60.lt) (Nat.le_trans u75.size e80.size)) (([x^^^9223372036854775808]).map F64) (by rw [List.length_map,Nat.mul_one];exact rfl) (bk_news hb79) (allc_F _) (by omega) (by decide) fun A87 c88 v89 ho90 uo91 kp92=>?_
    rw [←List.map_append] at ho90
    have hw9:=uo91.ext hw8 (fun p hp=>by have:=(lt93.block p hp).1;omega)
    refine mv 1 rfl (ne_ (sr (mv 1 rfl (cl (vs:= [.slice A87 ((1+n)+1) c88]) hw9 (g_Total_e ⟨(ho90).rv,hmo.1⟩ (by omega) hmo.2.1 (show totS (sumF _)=tb from by rw [hmo.2.2,hsm];exact htb.out)) rfl (by kernel_rfl) fun xr97 v95 r97 e96 hw10=>?_))))
    obtain⟨_,_,rfl,rfl,rfl⟩:=r97
    refine mv 1 rfl (pu (v:= .float .f64 tb) rfl (by kernel_rfl) (pu (v:= .int .i64 0) rfl (by kernel_rfl) (mv 2 rfl (ne_ (sr (mv 1 rfl (wl_cmp rfl rfl rfl false (by decide) (by decide) (mv 2 rfl (wl_call rfl rfl (vs:= [.float .f64 tb]) (by kernel_rfl) (by decide) g_bits7 ?_)))))))))
    rintro _ v99 ⟨xr101,rfl,r101,e100⟩
    refine ret_intro ?_
    have hw11:=hw10.trans e100
    obtain rfl:=r101
    refine mv 1 rfl (wl_call rfl rfl (vs:= [.float .f64 tb]) (by kernel_rfl) (by decide) g_bits7 ?_)
    rintro _ v102 ⟨xr104,rfl,r104,e103⟩
    refine ret_intro ?_
    have hw12:=hw11.trans e103
    obtain rfl:=r104
    refine wl_cmp rfl rfl rfl false (cb_ne_f (a:=btB tb) (b:=btB tb) rfl rfl (by omega)) (by decide) (pu (v:= .bool false) rfl (by kernel_rfl) (ne_ (cw_false rfl (cw_skip (eo_then (sr (mv 1 rfl (ne_ (sr (wl_alloc rfl (z:= .agg #[F0,S0]) (vs:= [F0,S0]) (fun _=>by kernel_rfl) rfl (by decide) fun g105 v106 nb=>?_))))))))))
    have ne107:0<c2→∀a,C=some a→a.block≠g105:=fun hc a ha=>by have:=(((Rk.updO ((Rk.updL (rl4.ext (e46.trans (e50.trans (e53.trans (e56.trans e61))))) u75 ne64).ext e80) uo91 no76).ext (e96.trans (e100.trans e103)))).rv.blk a ha hc;have:=nb.at_;omega
    have ne108:∀p,A87=some p→p.block≠g105:=fun p hp=>by have:=((ho90.ext (e96.trans (e100.trans e103)))).block p hp;have:=nb.at_;omega
    have q109:g14<g105:=by rw [←nb.at_];exact ((((((hb.ext (e46.trans (e50.trans (e53.trans (e56.trans e61))))).updN u75 (by omega)).ext e80).updO uo91 (fun p hp=>by have:=lt93.block p hp;omega)).ext (e96.trans (e100.trans e103)))).lt
    have hb111:=nb.bk
    have ge112:w.heap.size≤g105:=by rw [←nb.at_];exact hw12.size
    have q113:g1<g105:=by rw [←nb.at_];exact (((((hB1.ext (e46.trans (e50.trans (e53.trans (e56.trans e61))))).updN u75 (by omega)).ext e80).updO uo91 (fun p hp=>by have:=lt93.block p hp;omega)).ext (e96.trans (e100.trans e103))).lt
    have e110:=nb.ext
    clear nb
    have hw13:=hw12.trans e110
    refine ne_ (cw_seq (sr (mv 1 rfl (ne_ (cw_block ?_)))))
    obtain⟨lb,hlb,hlw,hl18,hlC⟩:∃lb,lb≤v106.heap.size∧w.heap.size≤lb∧g105<lb∧(0<c2→∀a,C=some a→a.block<lb):=⟨v106.heap.size,Nat.le_refl _,hw13.size,(hb111).lt,fun hc a ha=>(((Rk.updO ((Rk.updL (rl4.ext (e46.trans (e50.trans (e53.trans (e56.trans e61))))) u75 ne64).ext e80) uo91 no76).ext (e96.trans (e100.trans (e103.trans e110))))).rv.blk a ha hc⟩
    refine cw_loop (T:=World×Nat×ZC×Option Addr×Nat)
     (fun⟨wr,i,kp,PA,pc⟩=> [(4,.slice C l c2),(17,.slice PA i pc),(18,.pointer (some ⟨g105,0,none⟩)),(19,.int .i64 ((i:Nat):Int))])
     (fun⟨wr,i,kp,PA,pc⟩=>wr)
     (fun⟨wr,i,kp,PA,pc⟩=>(Ext w wr)∧(i≤l)∧(lb≤wr.heap.size)∧(Bk wr g105 43 [.bool kp.s,.slice kp.A kp.n kp.c])∧(Zr wr w.heap.size kp.s kp.A kp.n kp.c ((zs.take i).sum))∧(Own wr lb 35 1 PA i pc ((nrL (zs.take i)).map F64))∧(Rk .i32 wr C l c2 zs))
     (fun⟨wr,i,kp,PA,pc⟩=>l-i)
     (⟨v106,0,⟨false,none,0,0⟩,none,0⟩:World×Nat×ZC×Option Addr×Nat) ⟨hw13,(Nat.zero_le _),hlb,hb111,(Zr.zero.cast (by simp)),(Own.nil _ _ _ _),((Rk.updO ((Rk.updL (rl4.ext (e46.trans (e50.trans (e53.trans (e56.trans e61))))) u75 ne64).ext e80) uo91 no76).ext (e96.trans (e100.trans (e103.trans e110))))⟩ rfl ⟨rfl,rfl,rfl,rfl,trivial⟩ ?_
    rintro⟨wr,i,kp,PA,pc⟩ ⟨hw1,hi,hlw2,hB8,zp,hpo,rl4⟩
    refine cw_re [(4,.slice C l c2),(17,.slice PA i pc),(18,.pointer (some ⟨g105,0,none⟩)),(19,.int .i64 ((i:Nat):Int))] wr rfl ⟨rfl,rfl,rfl,rfl,trivial⟩ ?_
    have hnoC:∀p a,PA=some p→C=some a→0<c2→a.block≠p.block:=fun p a hp ha hc=>by have:=(hpo.block p hp).1;have:=hlC hc a ha;omega
    have hblk:∀p,PA=some p→lb≤p.block:=fun p hp=>(hpo.block p hp).1
    refine cw_seq (cw_seq ?_)
    by_cases hil:i<l
    · 
     refine cw_region (mv 2 rfl (pu (v:= .int .i64 ((l:Nat):Int)) rfl (by kernel_rfl) (wl_cmp rfl rfl rfl true (cb_lt_t (a:=i) (b:=l) rfl rfl (by omega)) (by decide) (ne_ (cw_true rfl (cw_skip (eo_then (cw_seq (cw_block (sr (mv 2 rfl ?_)))))))))))
     obtain⟨p114,hp114,hc114,hv114⟩:=(rl4).at (i:=i) (by omega)
     rw [i32_min,i32_max] at hv114
     refine wl_idx rfl rfl rfl Try.underlying30 (fun _=>by kernel_rfl) i rfl (by omega) p114 hp114 (by decide) (wl_load rfl rfl (load_cell1 (fun _=>by kernel_rfl) hc114) (by decide) (wl_pureE rfl rfl (v:= .int .i64 (IntKind.i64.wrap (zs.getD i 0))) (v':= .int .i64 (zs.getD i 0)) (by decide) (by kernel_rfl) (cv_i64z (by omega) (by omega)) (cl (vs:= [.int .i64 (zs.getD i 0)]) hw1 (g_zint_Of hw1.size (by omega) (by omega)) rfl (by kernel_rfl) fun xr117 v115 r117 e116 hw2=>?_)))
     obtain⟨s118,A118,n118,c118,rfl,z118⟩:=r117
     refine wl_alloc rfl (z:= .agg #[F0,S0]) (vs:= [F0,S0]) (fun _=>by kernel_rfl) rfl (by decide) fun g119 v120 nb=>?_
     have ne121:0<c2→∀a,C=some a→a.block≠g119:=fun hc a ha=>by have:=((rl4.ext e116)).rv.blk a ha hc;have:=nb.at_;omega
     have ne122:∀p,PA=some p→p.block≠g119:=fun p hp=>by have:=((hpo.ext e116)).block p hp;have:=nb.at_;omega
     have hb124:=nb.bk
     have ge125:w.heap.size≤g119:=by rw [←nb.at_];exact hw2.size
     have q126:g105<g119:=by rw [←nb.at_];exact (hB8.ext e116).lt
     have e123:=nb.ext
     clear nb
     have hw3:=hw2.trans e123
     refine so aggInt hb124 [.bool s118,.slice A118 n118 c118] hw3 ge125 rfl rfl rfl rfl fun v127 hb129 u130 hw4=>(ne_ (sr (mv 1 rfl (lo aggInt hb129 [.bool s118,.slice A118 n118 c118] rfl rfl rfl (cl (vs:= [.agg #[.bool s118,.slice A118 n118 c118]]) hw4 (g_Near ((z118.ext e123).updT hb124 u130).zi (z118.le (Nat.le_trans (ln_small7 (by omega)) (by decide)))) rfl (by kernel_rfl) fun xr134 v132 r134 e133 hw5=>?_)))))
     obtain rfl:=r134
     refine wl_bslice rfl rfl (by decide) (k:=1) (e:=35) [.float .f64 (nrB (zs.getD i 0))] (fun _=>by kernel_rfl) fun g135 v136 nb=>?_
     have ne140:0<c2→∀a,C=some a→a.block≠g135:=fun hc a ha=>by have:=(((Rk.updL (rl4.ext (e116.trans e123)) u130 ne121).ext e133)).rv.blk a ha hc;have:=nb.at_;omega
     have ne141:∀p,PA=some p→p.block≠g135:=fun p hp=>by have:=((((hpo.ext (e116.trans e123)).updT hb124 (by decide) u130).ext e133)).block p hp;have:=nb.at_;omega
     have hb137:=nb.bk
     have e138:=nb.ext
     have ge139:w.heap.size≤g135:=by rw [←nb.at_];exact hw5.size
     have q142:g105<g135:=by rw [←nb.at_];exact ((((hB8.ext (e116.trans e123)).updN u130 (by omega)).ext e133)).lt
     have q143:g119<g135:=by rw [←nb.at_];exact ((hb129.ext e133)).lt
     have ltCg135:0<c2→∀a,C=some a→a.block<g135:=fun hc a ha=>by have:=(((Rk.updL (rl4.ext (e116.trans e123)) u130 ne121).ext e133)).rv.blk a ha hc;have:=nb.at_;omega
     clear nb
     have hw6:=hw5.trans e138
     have lt150:=(((hpo.ext (e116.trans e123)).updT hb124 (by decide) u130).ext (e133.trans e138))
     refine wl_app rfl rfl rfl un_f64 infoF64 rfl (by decide) (by decide) lt150 (Nat.le_trans hlw2 ((Nat.le_trans (Nat.le_trans (Nat.le_trans (Nat.le_trans e116.size e123.size) u130.size) e133.size) e138.size))) (([nrB (zs.getD i 0)]).map F64) (by rw [List.length_map,Nat.mul_one];exact rfl) (bk_news hb137) (allc_F _) (by omega) (by decide) fun A144 c145 v146 ho147 uo148 kp149=>?_
     rw [←List.map_append] at ho147
     have hw7:=uo148.ext hw6 (fun p hp=>by have:=(lt150.block p hp).1;omega)
     refine mv 1 rfl (ne_ (cw_region (lo aggInt ((((hB8.ext (e116.trans e123)).updN u130 (by omega)).ext (e133.trans e138)).updO uo148 (fun p hp=>by have:=lt150.block p hp;omega)) [.bool kp.s,.slice kp.A kp.n kp.c] rfl rfl rfl (lo aggInt ((hb129.ext (e133.trans e138)).updO uo148 ne122) [.bool s118,.slice A118 n118 c118] rfl rfl rfl ?_))))
     have L152:ln (((zs.take i).sum)+(zs.getD i 0))≤2:=Nat.le_trans (ln_add (ln_small7 (by have:=sum_bd7 hzb i;omega)) (ln_small7 (by omega))) (by decide)
     refine cl (vs:= [.agg #[.bool kp.s,.slice kp.A kp.n kp.c],.agg #[.bool s118,.slice A118 n118 c118]]) hw7 (g_zint_Add hw7.size ((((zp.ext (e116.trans e123)).updT hb124 u130).ext (e133.trans e138)).updOT lt150 uo148).zi (zp.le (Nat.le_trans (ln_small7 (by have:=sum_bd7 hzb i;omega)) (by decide))) ((((z118.ext e123).updT hb124 u130).ext (e133.trans e138)).updOT lt150 uo148).zi (z118.le (Nat.le_trans (ln_small7 (by omega)) (by decide)))) rfl (by kernel_rfl) fun xr155 v153 r155 e154 hw8=>?_
     obtain⟨s156,A156,n156,c156,rfl,z156⟩:=r155
     have hb158:=(((((hB8.ext (e116.trans e123)).updN u130 (by omega)).ext (e133.trans e138)).updO uo148 (fun p hp=>by have:=lt150.block p hp;omega)).ext e154)
     refine so aggInt hb158 [.bool s156,.slice A156 n156 c156] hw8 ge112 rfl rfl rfl rfl fun v157 hb159 u160 hw9=>(wl_nil (eo_block_normal (eo_then (cw_region (mv 1 rfl (wl_ar rfl rfl rfl ((i+1:Nat):Int) (ai_add (a:=i) (b:=1) rfl rfl (by omega)) (by decide) (mv 1 rfl (wl_nil (eo_round (⟨v157,i+1,⟨s156,A156,n156,c156⟩,A144,c145⟩:World×Nat×ZC×Option Addr×Nat) ⟨hw9,(by omega),(Nat.le_trans hlw2 ((Nat.le_trans (Nat.le_trans (Nat.le_trans (Nat.le_trans (Nat.le_trans (Nat.le_trans (Nat.le_trans e116.size e123.size) u130.size) e133.size) e138.size) uo148.size) e154.size) u160.size))),hb159,(((z156.updT hb158 u160)).cast (sum_snoc7 (by omega))),(by have h:=((ho147.ext e154).updT hb158 (by decide) u160);rw [nrL_snoc (by omega)] at h;exact h),(Rk.updL ((Rk.updO ((Rk.updL (rl4.ext (e116.trans e123)) u130 ne121).ext (e133.trans e138)) uo148 hnoC).ext e154) u160 ne107)⟩ (show l-(i+1)<l-i by omega) rfl ⟨rfl,rfl,rfl,rfl,trivial⟩)))))))))
    · 
     have hie:i=l:=by omega
     have htk:zs.take i=zs:=List.take_of_length_le (by have:=hz.len;omega)
     rw [htk] at hpo zp
     have hpk:=nrL_ok (zs:=zs) (fun j hj=>by have:=hzb j hj;omega)
     refine cw_region (mv 2 rfl (pu (v:= .int .i64 ((l:Nat):Int)) rfl (by kernel_rfl) (wl_cmp rfl rfl rfl false (cb_lt_f (a:=i) (b:=l) rfl rfl (by omega)) (by decide) (ne_ (cw_false rfl (cw_exit (eo_thenX (eo_loopX (eo_block_here (eo_then (sr (mv 1 rfl (cl (vs:= [.slice PA i pc]) hw1 (g_Total_e ⟨(hpo).rv,hpk.1⟩ (by omega) hpk.2.1 (show totS (sumF _)=tn from by rw [hpk.2.2,tot_near];exact htn.out)) rfl (by kernel_rfl) fun xr164 v162 r164 e163 hw2=>?_)))))))))))))
     obtain⟨_,_,rfl,rfl,rfl⟩:=r164
     refine mv 1 rfl (pu (v:= .float .f64 tn) rfl (by kernel_rfl) (pu (v:= .int .i64 0) rfl (by kernel_rfl) (mv 2 rfl (ne_ (cw_seq ?_)))))
     refine cw_draw mix 10 [] [Is (.int .i64 0),Is (.bool true),Is (.bool true),Is (.float .f64 tn),Is (.int .u64 ((btB tn:Nat):Int)),Is (.agg #[.bool kp.s,.slice kp.A kp.n kp.c]),Is (.float .f64 tn),Is (.int .u64 ((btB tn:Nat):Int)),Is (.bool true),Is (.bool true)] [[],[0],[1],[2],[2,3],[2],[2,5],[2,6],[2,4,7],[2,8]] [[],[0],[0,1],[0,1,2],[0,1,2,3],[0,1,2],[0,1,2,3,4,5],[0,1,2,3,4,5,6],[0,1,2,3,4,5,6,7],[0,1,2,3,4,5,6,7,8],[0,1,2,3,4,5,6,7,8,9]] rfl
      (obs_cons rfl rfl (hob rfl rfl ?_) (obs_cons rfl rfl (hob rfl rfl ?_) (obs_cons rfl rfl (hob rfl rfl ?_) (obs_cons rfl rfl (hob rfl rfl ?_) (obs_cons rfl rfl (hob rfl rfl ?_) (obs_cons rfl rfl (hob rfl rfl ?_) (obs_cons rfl rfl (hob rfl rfl ?_) (obs_cons rfl rfl (hob rfl rfl ?_) (obs_cons rfl rfl (hob rfl rfl ?_) (obs_cons rfl rfl (hob rfl rfl ?_) obs_nil)))))))))) ?_
     · 
      exact fun _ _=>deps_nil (mv 1 rfl (pi_done rfl (Ext.refl _) rfl))
     · 
      exact fun _ _=>dk rfl rfl (deps_nil (wl_cmp rfl rfl rfl true (by decide) (by decide) (pi_done rfl (Ext.refl _) rfl)))
     · 
      exact fun _ _=>dk rfl rfl (deps_nil (mv 1 rfl (pi_done rfl (Ext.refl _) rfl)))
     · 
      exact fun _ _=>dk rfl rfl (deps_nil (mv 1 rfl (pi_done rfl (Ext.refl _) rfl)))
     · 
      intro v189 e190
      have hw3:=hw2.trans e190
      refine dk rfl rfl (dk rfl rfl (deps_nil (wl_call rfl rfl (vs:= [.float .f64 tn]) (by kernel_rfl) (by decide) g_bits7 ?_)))
      rintro _ v201 ⟨xr203,rfl,r203,e202⟩
      refine ret_intro ?_
      have hw4:=hw3.trans e202
      obtain rfl:=r203
      exact pi_done rfl e202 rfl
     · 
      exact fun _ e205=>dk rfl rfl (deps_nil (lo aggInt (hB8.ext (e163.trans e205)) [.bool kp.s,.slice kp.A kp.n kp.c] rfl rfl rfl (pi_done rfl (Ext.refl _) rfl)))
     · 
      intro v211 e212
      have hw3:=hw2.trans e212
      refine dk rfl rfl (dk rfl rfl (deps_nil (cl (vs:= [.agg #[.bool kp.s,.slice kp.A kp.n kp.c]]) hw3 (g_Near_e htn.out (zp.ext (e163.trans e212)).zi (zp.le (Nat.le_trans (ln_small7 (by have h:=sum_bd7 hzb i;rw [htk] at h;omega)) (by decide)))) rfl (by kernel_rfl) fun xr225 v223 r225 e224 hw4=>?_)))
      obtain rfl:=r225
      exact pi_done rfl e224 rfl
     · 
      intro v226 e227
      have hw3:=hw2.trans e227
      refine dk rfl rfl (dk rfl rfl (deps_nil (wl_call rfl rfl (vs:= [.float .f64 tn]) (by kernel_rfl) (by decide) g_bits7 ?_)))
      rintro _ v238 ⟨xr240,rfl,r240,e239⟩
      refine ret_intro ?_
      have hw4:=hw3.trans e239
      obtain rfl:=r240
      exact pi_done rfl e239 rfl
     · 
      exact fun _ _=>dk rfl rfl (dk rfl rfl (dk rfl rfl (deps_nil (wl_cmp rfl rfl rfl true (cb_eq_t (a:=btB tn) (b:=btB tn) rfl rfl (by omega)) (by decide) (pi_done rfl (Ext.refl _) rfl)))))
     · 
      exact fun _ _=>dk rfl rfl (dk rfl rfl (deps_nil (pu (v:= .bool true) rfl (by kernel_rfl) (pi_done rfl (Ext.refl _) rfl))))
     · 
      intro v270 e271
      have hw3:=hw2.trans e271
      refine dk rfl rfl (dk rfl rfl (dk rfl rfl (dk rfl rfl (dk rfl rfl (dk rfl rfl (dk rfl rfl (dk rfl rfl (dk rfl rfl (dk rfl rfl (deps_nil (mv 1 rfl (wl_nil (eo_np ?_)))))))))))))
      refine eo_then (cw_ret (eo_ret [.bool true] rfl ⟨rfl,trivial⟩ ?_))
      exact⟨_,rfl,rfl,hw3⟩
   · 
    refine cw_region (mv 1 rfl (cl (vs:= [.float .f64 x]) hw4 (g_finite_bad hfx) rfl (by kernel_rfl) fun xr324 v322 r324 e323 hw5=>?_))
    obtain rfl:=r324
    refine ne_ (cw_false rfl (cw_skip (eo_then (sr (mv 1 rfl (ne_ (sr (wl_alloc rfl (z:= .agg #[F0,S0]) (vs:= [F0,S0]) (fun _=>by kernel_rfl) rfl (by decide) fun g325 v326 nb=>?_))))))))
    have ne327:0<c'→∀a,B=some a→a.block≠g325:=fun hc a ha=>by have:=((rl3.ext (e46.trans (e50.trans (e53.trans e323))))).rv.blk a ha hc;have:=nb.at_;omega
    have ne328:0<c2→∀a,C=some a→a.block≠g325:=fun hc a ha=>by have:=((rl4.ext (e46.trans (e50.trans (e53.trans e323))))).rv.blk a ha hc;have:=nb.at_;omega
    have q329:g14<g325:=by rw [←nb.at_];exact ((hb.ext (e46.trans (e50.trans (e53.trans e323))))).lt
    have hb331:=nb.bk
    have ge332:w.heap.size≤g325:=by rw [←nb.at_];exact hw5.size
    have q333:g1<g325:=by rw [←nb.at_];exact (hB1.ext (e46.trans (e50.trans (e53.trans e323)))).lt
    have e330:=nb.ext
    clear nb
    have hw6:=hw5.trans e330
    refine ne_ (cw_seq (sr (mv 1 rfl (ne_ (cw_block ?_)))))
    obtain⟨lb,hlb,hlw,hl18,hlC⟩:∃lb,lb≤v326.heap.size∧w.heap.size≤lb∧g325<lb∧(0<c2→∀a,C=some a→a.block<lb):=⟨v326.heap.size,Nat.le_refl _,hw6.size,(hb331).lt,fun hc a ha=>((rl4.ext (e46.trans (e50.trans (e53.trans (e323.trans e330)))))).rv.blk a ha hc⟩
    refine cw_loop (T:=World×Nat×ZC×Option Addr×Nat)
     (fun⟨wr,i,kp,PA,pc⟩=> [(4,.slice C l c2),(17,.slice PA i pc),(18,.pointer (some ⟨g325,0,none⟩)),(19,.int .i64 ((i:Nat):Int))])
     (fun⟨wr,i,kp,PA,pc⟩=>wr)
     (fun⟨wr,i,kp,PA,pc⟩=>(Ext w wr)∧(i≤l)∧(lb≤wr.heap.size)∧(Bk wr g325 43 [.bool kp.s,.slice kp.A kp.n kp.c])∧(Zr wr w.heap.size kp.s kp.A kp.n kp.c ((zs.take i).sum))∧(Own wr lb 35 1 PA i pc ((nrL (zs.take i)).map F64))∧(Rk .i32 wr C l c2 zs))
     (fun⟨wr,i,kp,PA,pc⟩=>l-i)
     (⟨v326,0,⟨false,none,0,0⟩,none,0⟩:World×Nat×ZC×Option Addr×Nat) ⟨hw6,(Nat.zero_le _),hlb,hb331,(Zr.zero.cast (by simp)),(Own.nil _ _ _ _),(rl4.ext (e46.trans (e50.trans (e53.trans (e323.trans e330)))))⟩ rfl ⟨rfl,rfl,rfl,rfl,trivial⟩ ?_
    rintro⟨wr,i,kp,PA,pc⟩ ⟨hw1,hi,hlw2,hB8,zp,hpo,rl4⟩
    refine cw_re [(4,.slice C l c2),(17,.slice PA i pc),(18,.pointer (some ⟨g325,0,none⟩)),(19,.int .i64 ((i:Nat):Int))] wr rfl ⟨rfl,rfl,rfl,rfl,trivial⟩ ?_
    have hnoC:∀p a,PA=some p→C=some a→0<c2→a.block≠p.block:=fun p a hp ha hc=>by have:=(hpo.block p hp).1;have:=hlC hc a ha;omega
    have hblk:∀p,PA=some p→lb≤p.block:=fun p hp=>(hpo.block p hp).1
    refine cw_seq (cw_seq ?_)
    by_cases hil:i<l
    · 
     refine cw_region (mv 2 rfl (pu (v:= .int .i64 ((l:Nat):Int)) rfl (by kernel_rfl) (wl_cmp rfl rfl rfl true (cb_lt_t (a:=i) (b:=l) rfl rfl (by omega)) (by decide) (ne_ (cw_true rfl (cw_skip (eo_then (cw_seq (cw_block (sr (mv 2 rfl ?_)))))))))))
     obtain⟨p334,hp334,hc334,hv334⟩:=(rl4).at (i:=i) (by omega)
     rw [i32_min,i32_max] at hv334
     refine wl_idx rfl rfl rfl Try.underlying30 (fun _=>by kernel_rfl) i rfl (by omega) p334 hp334 (by decide) (wl_load rfl rfl (load_cell1 (fun _=>by kernel_rfl) hc334) (by decide) (wl_pureE rfl rfl (v:= .int .i64 (IntKind.i64.wrap (zs.getD i 0))) (v':= .int .i64 (zs.getD i 0)) (by decide) (by kernel_rfl) (cv_i64z (by omega) (by omega)) (cl (vs:= [.int .i64 (zs.getD i 0)]) hw1 (g_zint_Of hw1.size (by omega) (by omega)) rfl (by kernel_rfl) fun xr337 v335 r337 e336 hw2=>?_)))
     obtain⟨s338,A338,n338,c338,rfl,z338⟩:=r337
     refine wl_alloc rfl (z:= .agg #[F0,S0]) (vs:= [F0,S0]) (fun _=>by kernel_rfl) rfl (by decide) fun g339 v340 nb=>?_
     have ne341:0<c2→∀a,C=some a→a.block≠g339:=fun hc a ha=>by have:=((rl4.ext e336)).rv.blk a ha hc;have:=nb.at_;omega
     have ne342:∀p,PA=some p→p.block≠g339:=fun p hp=>by have:=((hpo.ext e336)).block p hp;have:=nb.at_;omega
     have hb344:=nb.bk
     have ge345:w.heap.size≤g339:=by rw [←nb.at_];exact hw2.size
     have q346:g325<g339:=by rw [←nb.at_];exact (hB8.ext e336).lt
     have e343:=nb.ext
     clear nb
     have hw3:=hw2.trans e343
     refine so aggInt hb344 [.bool s338,.slice A338 n338 c338] hw3 ge345 rfl rfl rfl rfl fun v347 hb349 u350 hw4=>(ne_ (sr (mv 1 rfl (lo aggInt hb349 [.bool s338,.slice A338 n338 c338] rfl rfl rfl (cl (vs:= [.agg #[.bool s338,.slice A338 n338 c338]]) hw4 (g_Near ((z338.ext e343).updT hb344 u350).zi (z338.le (Nat.le_trans (ln_small7 (by omega)) (by decide)))) rfl (by kernel_rfl) fun xr354 v352 r354 e353 hw5=>?_)))))
     obtain rfl:=r354
     refine wl_bslice rfl rfl (by decide) (k:=1) (e:=35) [.float .f64 (nrB (zs.getD i 0))] (fun _=>by kernel_rfl) fun g355 v356 nb=>?_
     have ne360:0<c2→∀a,C=some a→a.block≠g355:=fun hc a ha=>by have:=(((Rk.updL (rl4.ext (e336.trans e343)) u350 ne341).ext e353)).rv.blk a ha hc;have:=nb.at_;omega
     have ne361:∀p,PA=some p→p.block≠g355:=fun p hp=>by have:=((((hpo.ext (e336.trans e343)).updT hb344 (by decide) u350).ext e353)).block p hp;have:=nb.at_;omega
     have hb357:=nb.bk
     have e358:=nb.ext
     have ge359:w.heap.size≤g355:=by rw [←nb.at_];exact hw5.size
     have q362:g325<g355:=by rw [←nb.at_];exact ((((hB8.ext (e336.trans e343)).updN u350 (by omega)).ext e353)).lt
     have q363:g339<g355:=by rw [←nb.at_];exact ((hb349.ext e353)).lt
     have ltCg355:0<c2→∀a,C=some a→a.block<g355:=fun hc a ha=>by have:=(((Rk.updL (rl4.ext (e336.trans e343)) u350 ne341).ext e353)).rv.blk a ha hc;have:=nb.at_;omega
     clear nb
     have hw6:=hw5.trans e358
     have lt370:=(((hpo.ext (e336.trans e343)).updT hb344 (by decide) u350).ext (e353.trans e358))
     refine wl_app rfl rfl rfl un_f64 infoF64 rfl (by decide) (by decide) lt370 (Nat.le_trans hlw2 ((Nat.le_trans (Nat.le_trans (Nat.le_trans (Nat.le_trans e336.size e343.size) u350.size) e353.size) e358.size))) (([nrB (zs.getD i 0)]).map F64) (by rw [List.length_map,Nat.mul_one];exact rfl) (bk_news hb357) (allc_F _) (by omega) (by decide) fun A364 c365 v366 ho367 uo368 kp369=>?_
     rw [←List.map_append] at ho367
     have hw7:=uo368.ext hw6 (fun p hp=>by have:=(lt370.block p hp).1;omega)
     refine mv 1 rfl (ne_ (cw_region (lo aggInt ((((hB8.ext (e336.trans e343)).updN u350 (by omega)).ext (e353.trans e358)).updO uo368 (fun p hp=>by have:=lt370.block p hp;omega)) [.bool kp.s,.slice kp.A kp.n kp.c] rfl rfl rfl (lo aggInt ((hb349.ext (e353.trans e358)).updO uo368 ne342) [.bool s338,.slice A338 n338 c338] rfl rfl rfl ?_))))
     have L372:ln (((zs.take i).sum)+(zs.getD i 0))≤2:=Nat.le_trans (ln_add (ln_small7 (by have:=sum_bd7 hzb i;omega)) (ln_small7 (by omega))) (by decide)
     refine cl (vs:= [.agg #[.bool kp.s,.slice kp.A kp.n kp.c],.agg #[.bool s338,.slice A338 n338 c338]]) hw7 (g_zint_Add hw7.size ((((zp.ext (e336.trans e343)).updT hb344 u350).ext (e353.trans e358)).updOT lt370 uo368).zi (zp.le (Nat.le_trans (ln_small7 (by have:=sum_bd7 hzb i;omega)) (by decide))) ((((z338.ext e343).updT hb344 u350).ext (e353.trans e358)).updOT lt370 uo368).zi (z338.le (Nat.le_trans (ln_small7 (by omega)) (by decide)))) rfl (by kernel_rfl) fun xr375 v373 r375 e374 hw8=>?_
     obtain⟨s376,A376,n376,c376,rfl,z376⟩:=r375
     have hb378:=(((((hB8.ext (e336.trans e343)).updN u350 (by omega)).ext (e353.trans e358)).updO uo368 (fun p hp=>by have:=lt370.block p hp;omega)).ext e374)
     refine so aggInt hb378 [.bool s376,.slice A376 n376 c376] hw8 ge332 rfl rfl rfl rfl fun v377 hb379 u380 hw9=>(wl_nil (eo_block_normal (eo_then (cw_region (mv 1 rfl (wl_ar rfl rfl rfl ((i+1:Nat):Int) (ai_add (a:=i) (b:=1) rfl rfl (by omega)) (by decide) (mv 1 rfl (wl_nil (eo_round (⟨v377,i+1,⟨s376,A376,n376,c376⟩,A364,c365⟩:World×Nat×ZC×Option Addr×Nat) ⟨hw9,(by omega),(Nat.le_trans hlw2 ((Nat.le_trans (Nat.le_trans (Nat.le_trans (Nat.le_trans (Nat.le_trans (Nat.le_trans (Nat.le_trans e336.size e343.size) u350.size) e353.size) e358.size) uo368.size) e374.size) u380.size))),hb379,(((z376.updT hb378 u380)).cast (sum_snoc7 (by omega))),(by have h:=((ho367.ext e374).updT hb378 (by decide) u380);rw [nrL_snoc (by omega)] at h;exact h),(Rk.updL ((Rk.updO ((Rk.updL (rl4.ext (e336.trans e343)) u350 ne341).ext (e353.trans e358)) uo368 hnoC).ext e374) u380 ne328)⟩ (show l-(i+1)<l-i by omega) rfl ⟨rfl,rfl,rfl,rfl,trivial⟩)))))))))
    · 
     have hie:i=l:=by omega
     have htk:zs.take i=zs:=List.take_of_length_le (by have:=hz.len;omega)
     rw [htk] at hpo zp
     have hpk:=nrL_ok (zs:=zs) (fun j hj=>by have:=hzb j hj;omega)
     refine cw_region (mv 2 rfl (pu (v:= .int .i64 ((l:Nat):Int)) rfl (by kernel_rfl) (wl_cmp rfl rfl rfl false (cb_lt_f (a:=i) (b:=l) rfl rfl (by omega)) (by decide) (ne_ (cw_false rfl (cw_exit (eo_thenX (eo_loopX (eo_block_here (eo_then (sr (mv 1 rfl (cl (vs:= [.slice PA i pc]) hw1 (g_Total_e ⟨(hpo).rv,hpk.1⟩ (by omega) hpk.2.1 (show totS (sumF _)=tn from by rw [hpk.2.2,tot_near];exact htn.out)) rfl (by kernel_rfl) fun xr384 v382 r384 e383 hw2=>?_)))))))))))))
     obtain⟨_,_,rfl,rfl,rfl⟩:=r384
     refine mv 1 rfl (pu (v:= .float .f64 tn) rfl (by kernel_rfl) (pu (v:= .int .i64 0) rfl (by kernel_rfl) (mv 2 rfl (ne_ (cw_seq ?_)))))
     refine cw_draw mix 10 [] [Is (.int .i64 0),Is (.bool true),Is (.bool true),Is (.float .f64 tn),Is (.int .u64 ((btB tn:Nat):Int)),Is (.agg #[.bool kp.s,.slice kp.A kp.n kp.c]),Is (.float .f64 tn),Is (.int .u64 ((btB tn:Nat):Int)),Is (.bool true),Is (.bool true)] [[],[0],[1],[2],[2,3],[2],[2,5],[2,6],[2,4,7],[2,8]] [[],[0],[0,1],[0,1,2],[0,1,2,3],[0,1,2],[0,1,2,3,4,5],[0,1,2,3,4,5,6],[0,1,2,3,4,5,6,7],[0,1,2,3,4,5,6,7,8],[0,1,2,3,4,5,6,7,8,9]] rfl
      (obs_cons rfl rfl (hob rfl rfl ?_) (obs_cons rfl rfl (hob rfl rfl ?_) (obs_cons rfl rfl (hob rfl rfl ?_) (obs_cons rfl rfl (hob rfl rfl ?_) (obs_cons rfl rfl (hob rfl rfl ?_) (obs_cons rfl rfl (hob rfl rfl ?_) (obs_cons rfl rfl (hob rfl rfl ?_) (obs_cons rfl rfl (hob rfl rfl ?_) (obs_cons rfl rfl (hob rfl rfl ?_) (obs_cons rfl rfl (hob rfl rfl ?_) obs_nil)))))))))) ?_
     · 
      exact fun _ _=>deps_nil (mv 1 rfl (pi_done rfl (Ext.refl _) rfl))
     · 
      exact fun _ _=>dk rfl rfl (deps_nil (wl_cmp rfl rfl rfl true (by decide) (by decide) (pi_done rfl (Ext.refl _) rfl)))
     · 
      exact fun _ _=>dk rfl rfl (deps_nil (mv 1 rfl (pi_done rfl (Ext.refl _) rfl)))
     · 
      exact fun _ _=>dk rfl rfl (deps_nil (mv 1 rfl (pi_done rfl (Ext.refl _) rfl)))
     · 
      intro v409 e410
      have hw3:=hw2.trans e410
      refine dk rfl rfl (dk rfl rfl (deps_nil (wl_call rfl rfl (vs:= [.float .f64 tn]) (by kernel_rfl) (by decide) g_bits7 ?_)))
      rintro _ v421 ⟨xr423,rfl,r423,e422⟩
      refine ret_intro ?_
      have hw4:=hw3.trans e422
      obtain rfl:=r423
      exact pi_done rfl e422 rfl
     · 
      exact fun _ e425=>dk rfl rfl (deps_nil (lo aggInt (hB8.ext (e383.trans e425)) [.bool kp.s,.slice kp.A kp.n kp.c] rfl rfl rfl (pi_done rfl (Ext.refl _) rfl)))
     · 
      intro v431 e432
      have hw3:=hw2.trans e432
      refine dk rfl rfl (dk rfl rfl (deps_nil (cl (vs:= [.agg #[.bool kp.s,.slice kp.A kp.n kp.c]]) hw3 (g_Near_e htn.out (zp.ext (e383.trans e432)).zi (zp.le (Nat.le_trans (ln_small7 (by have h:=sum_bd7 hzb i;rw [htk] at h;omega)) (by decide)))) rfl (by kernel_rfl) fun xr445 v443 r445 e444 hw4=>?_)))
      obtain rfl:=r445
      exact pi_done rfl e444 rfl
     · 
      intro v446 e447
      have hw3:=hw2.trans e447
      refine dk rfl rfl (dk rfl rfl (deps_nil (wl_call rfl rfl (vs:= [.float .f64 tn]) (by kernel_rfl) (by decide) g_bits7 ?_)))
      rintro _ v458 ⟨xr460,rfl,r460,e459⟩
      refine ret_intro ?_
      have hw4:=hw3.trans e459
      obtain rfl:=r460
      exact pi_done rfl e459 rfl
     · 
      exact fun _ _=>dk rfl rfl (dk rfl rfl (dk rfl rfl (deps_nil (wl_cmp rfl rfl rfl true (cb_eq_t (a:=btB tn) (b:=btB tn) rfl rfl (by omega)) (by decide) (pi_done rfl (Ext.refl _) rfl)))))
     · 
      exact fun _ _=>dk rfl rfl (dk rfl rfl (deps_nil (pu (v:= .bool true) rfl (by kernel_rfl) (pi_done rfl (Ext.refl _) rfl))))
     · 
      intro v490 e491
      have hw3:=hw2.trans e491
      refine dk rfl rfl (dk rfl rfl (dk rfl rfl (dk rfl rfl (dk rfl rfl (dk rfl rfl (dk rfl rfl (dk rfl rfl (dk rfl rfl (dk rfl rfl (deps_nil (mv 1 rfl (wl_nil (eo_np ?_)))))))))))))
      refine eo_then (cw_ret (eo_ret [.bool true] rfl ⟨rfl,trivial⟩ ?_))
      exact⟨_,rfl,rfl,hw3⟩
set_option maxHeartbeats 16000000 in
set_option maxRecDepth 20000 in
theorem law_ApproxSums_bad {w:World}{A B C:Option Addr}{n c m c' l c2 x:Nat}{xs:List Nat}{ps zs:List Int}(hx:Rd w A n c xs) (hn:n≤1048576) (hp:Rk .i64 w B m c' ps) (hm:m≤1048576) (hxb:x≤18446744073709551615) (hz:Rk .i32 w C l c2 zs) (hl0:l≤1048576) (haX:allF xs=false):
    Calls Try.prog 4 #[.agg #[.slice A n c,.slice B m c',.int .u64 ((x:Nat):Int),.slice C l c2]] w (Gv w (Is (.bool true))):=by
 have hlx:=hx.len
 have hzl:=hz.len
 have hzb:∀i,i<zs.length→(zs.getD i 0).natAbs≤2147483648:=fun i hi=>by obtain⟨_,_,_,h1⟩:=hz.get i (by omega);rw [i32_min,i32_max] at h1;omega
 refine sx_enter Try.func4 rfl (n:=190) rfl (bq rfl) (args:= [.agg #[.slice A n c,.slice B m c',.int .u64 ((x:Nat):Int),.slice C l c2]]) (cw_keep [(0,.agg #[.slice A n c,.slice B m c',.int .u64 ((x:Nat):Int),.slice C l c2])] ⟨rfl,trivial⟩ (sr (bx [.slice A n c,.slice B m c',.int .u64 ((x:Nat):Int),.slice C l c2] (Ext.refl w) rfl rfl rfl fun g1 v2 hb4 ge5 e3 hw1=>(mv 1 rfl (ne_ (cw_seq (sr (wl_call rfl rfl (vs:= []) (by kernel_rfl) (by decide) g_awake7 ?_))))))))
 rintro _ v6 ⟨xr8,rfl,r8,e7⟩
 refine ret_intro ?_
 have hw2:=hw1.trans e7
 obtain rfl:=r8
 refine pu (v:= .bool false) rfl (by kernel_rfl) (ne_ (cw_false rfl (cw_skip (eo_then (cw_seq (cw_keep [(0,.agg #[.slice A n c,.slice B m c',.int .u64 ((x:Nat):Int),.slice C l c2]),(1,.pointer (some ⟨g1,0,none⟩)),(2,.bool false),(21,.bool true),(22,.bool false)] ⟨rfl,rfl,rfl,rfl,rfl,trivial⟩ ?_))))))
 obtain⟨v9,hv,e10⟩:∃v,v=v6.drew∧Ext v6 v:=⟨_,rfl,(Ext.refl _).drew⟩
 have hw3:=hw2.trans e10
 refine cw_det mix (w:=v9) [.pointer (some ⟨g1,1,none⟩),.slice B m c',.pointer (some ⟨g1,3,none⟩),.slice C l c2,.slice B m c',.slice C l c2] [v9] [] [[],[0],[],[2],[1],[3]] [[],[0],[],[2],[0,1],[0,1,2,3,4]] [(0,0),(1,0),(2,0),(3,0),(4,0),(5,0)] rfl hv ?_ ?_
 · 
  refine dobs_val _ rfl rfl rfl rfl rfl (rd_pure rfl (by kernel_rfl)) (dobs_val _ rfl rfl rfl rfl rfl (rd_load rfl (load_cell (fun _=>by kernel_rfl) (hb4.ext (e7.trans e10)) rfl)) (dobs_val _ rfl rfl rfl rfl rfl (rd_pure rfl (by kernel_rfl)) (dobs_val _ rfl rfl rfl rfl rfl (rd_load rfl (load_cell (fun _=>by kernel_rfl) (hb4.ext (e7.trans e10)) rfl)) (dobs_val _ rfl rfl rfl rfl rfl (rd_assign rfl) (dobs_val _ rfl rfl rfl rfl rfl (rd_assign rfl) ?_)))))
  exact dobs_nil
 clear hv
 refine eo_keep [(0,.agg #[.slice A n c,.slice B m c',.int .u64 ((x:Nat):Int),.slice C l c2]),(1,.pointer (some ⟨g1,0,none⟩)),(2,.bool false),(21,.bool true),(22,.bool false),(23,.pointer (some ⟨g1,1,none⟩)),(24,.slice B m c'),(25,.pointer (some ⟨g1,3,none⟩)),(26,.slice C l c2),(3,.slice B m c'),(4,.slice C l c2)] ⟨rfl,rfl,rfl,rfl,rfl,rfl,rfl,rfl,rfl,rfl,rfl,trivial⟩ (eo_then (sr (pf g1 0 rfl (by kernel_rfl) (wl_load rfl rfl (load_cell (fun _=>by kernel_rfl) (hb4.ext (e7.trans e10)) rfl) (by decide) (cl (vs:= [.slice A n c]) hw3 (g_floats (Nat.le_refl v9.heap.size) (hx.ext (e3.trans (e7.trans e10))) hn) rfl (by kernel_rfl) fun xr13 v11 r13 e12 hw4=>?_)))))
 obtain⟨g14,rfl,gb14,hb14⟩:=r13
 have ge15:w.heap.size≤g14:=Nat.le_trans hw3.size gb14
 have q16:g1<g14:=Nat.lt_of_lt_of_le (hb4.ext (e7.trans e10)).lt gb14
 have ne17:0<c'→∀a,B=some a→a.block≠g14:=fun hc a ha=>by have:=((hp.ext (e3.trans (e7.trans e10)))).rv.blk a ha hc;omega
 have ne18:0<c2→∀a,C=some a→a.block≠g14:=fun hc a ha=>by have:=((hz.ext (e3.trans (e7.trans e10)))).rv.blk a ha hc;omega
 have ne19:0<c→∀a,A=some a→a.block≠g14:=fun hc a ha=>by have:=((hx.ext (e3.trans (e7.trans e10)))).rv.blk a ha hc;omega
 refine mv 1 rfl (ne_ (sr (mv 1 rfl (cl (vs:= [.slice (some ⟨g14,0,none⟩) n n]) hw4 (g_Total_b ((hb14).rf0 (wf64 hx.wf) hlx (by omega)) (by omega) haX) rfl (by kernel_rfl) fun xr22 v20 r22 e21 hw5=>?_))))
 obtain⟨_,_,rfl,rfl,rfl⟩:=r22
 refine mv 1 rfl (pu (v:= .float .f64 0) rfl (by kernel_rfl) (pu (v:= .int .i64 3) rfl (by kernel_rfl) (mv 2 rfl (ne_ (sr (mv 1 rfl (ne_ (cw_seq (sr (mv 1 rfl (ne_ (cw_block ?_))))))))))))
 refine cw_loop (T:=World×Nat×Bool)
  (fun⟨wr,i,al⟩=> [(1,.pointer (some ⟨g1,0,none⟩)),(5,.slice (some ⟨g14,0,none⟩) n n),(6,.float .f64 0),(7,.int .i64 3),(8,.bool al),(9,.int .i64 ((i:Nat):Int))])
  (fun⟨wr,i,al⟩=>wr)
  (fun⟨wr,i,al⟩=>(Ext w wr)∧(i≤n)∧(Bk wr g1 32 [.slice A n c,.slice B m c',.int .u64 ((x:Nat):Int),.slice C l c2])∧(Bk wr g14 35 (xs.map F64))∧(xs.length=n)∧(al=true→∀j,j<i→fin (xs.getD j 0)))
  (fun⟨wr,i,al⟩=>n-i)
  (⟨v20,0,true⟩:World×Nat×Bool) ⟨hw5,(Nat.zero_le _),(hb4.ext (e7.trans (e10.trans (e12.trans e21)))),(hb14.ext e21),hlx,(fun _ j hj=>absurd hj (Nat.not_lt_zero _))⟩ rfl ⟨rfl,rfl,rfl,rfl,rfl,rfl,trivial⟩ ?_
 rintro⟨wr,i,al⟩ ⟨hw1,hi,hB1,hb,hl,hal⟩
 refine cw_re [(1,.pointer (some ⟨g1,0,none⟩)),(5,.slice (some ⟨g14,0,none⟩) n n),(6,.float .f64 0),(7,.int .i64 3),(8,.bool al),(9,.int .i64 ((i:Nat):Int))] wr rfl ⟨rfl,rfl,rfl,rfl,rfl,rfl,trivial⟩ (cw_seq (cw_seq ?_))
 by_cases hin:i<n
 · 
  refine cw_region (mv 2 rfl (pu (v:= .int .i64 ((n:Nat):Int)) rfl (by kernel_rfl) (wl_cmp rfl rfl rfl true (cb_lt_t (a:=i) (b:=n) rfl rfl (by omega)) (by decide) (ne_ (cw_true rfl (cw_skip (eo_then (cw_seq (cw_block ?_)))))))))
  rcases Bool.eq_false_or_eq_true al with hat | haf
  · 
   subst hat
   by_cases hfi:fin (xs.getD i 0)
   · 
    refine cw_region (mv 4 rfl (wl_idx rfl rfl rfl un_f64 sz_f64 i rfl (by omega) ⟨g14,i,none⟩ (arr_at _ _) (by decide) (wl_load rfl rfl (load_flt ag_f64 hb (by rw [hl];omega)) (by decide) (cl (vs:= [.float .f64 (xs.getD i 0)]) hw1 (g_finite hfi) rfl (by kernel_rfl) fun xr26 v24 r26 e25 hw2=>?_))))
    obtain rfl:=r26
    refine pu (v:= .bool true) rfl (by kernel_rfl) (mv 1 rfl (wl_nil (eo_block_normal (eo_then (cw_region (mv 1 rfl (wl_ar rfl rfl rfl ((i+1:Nat):Int) (ai_add (a:=i) (b:=1) rfl rfl (by omega)) (by decide) (mv 1 rfl (wl_nil (eo_round (⟨v24,i+1,true⟩:World×Nat×Bool) ⟨hw2,(by omega),(hB1.ext e25),(hb.ext e25),hl,(fun _ j hj=>by by_cases e:j=i;(· subst e;exact hfi);(· exact hal rfl j (by omega)))⟩ (show n-(i+1)<n-i by omega) rfl ⟨rfl,rfl,rfl,rfl,rfl,rfl,trivial⟩))))))))))
   · 
    refine cw_region (mv 4 rfl (wl_idx rfl rfl rfl un_f64 sz_f64 i rfl (by omega) ⟨g14,i,none⟩ (arr_at _ _) (by decide) (wl_load rfl rfl (load_flt ag_f64 hb (by rw [hl];omega)) (by decide) (cl (vs:= [.float .f64 (xs.getD i 0)]) hw1 (g_finite_bad hfi) rfl (by kernel_rfl) fun xr29 v27 r29 e28 hw2=>?_))))
    obtain rfl:=r29
    refine pu (v:= .bool false) rfl (by kernel_rfl) (mv 1 rfl (wl_nil (eo_block_normal (eo_then (cw_region (mv 1 rfl (wl_ar rfl rfl rfl ((i+1:Nat):Int) (ai_add (a:=i) (b:=1) rfl rfl (by omega)) (by decide) (mv 1 rfl (wl_nil (eo_round (⟨v27,i+1,false⟩:World×Nat×Bool) ⟨hw2,(by omega),(hB1.ext e28),(hb.ext e28),hl,(fun h=>by cases h)⟩ (show n-(i+1)<n-i by omega) rfl ⟨rfl,rfl,rfl,rfl,rfl,rfl,trivial⟩))))))))))
  · 
   subst haf
   refine cw_region (mv 7 rfl (pu (v:= .bool false) rfl (by kernel_rfl) (mv 1 rfl (wl_nil (eo_block_normal (eo_then (cw_region (mv 1 rfl (wl_ar rfl rfl rfl ((i+1:Nat):Int) (ai_add (a:=i) (b:=1) rfl rfl (by omega)) (by decide) (mv 1 rfl (wl_nil (eo_round (⟨wr,i+1,false⟩:World×Nat×Bool) ⟨hw1,(by omega),hB1,hb,hl,(fun h=>by cases h)⟩ (show n-(i+1)<n-i by omega) rfl ⟨rfl,rfl,rfl,rfl,rfl,rfl,trivial⟩))))))))))))
 · 
  have hal0:al=false:=by cases hq:al with | false=>rfl | true=>exact absurd (allF_t (fun j hj=>hal hq j (by omega))) (by rw [haX];decide)
  subst hal0
  refine cw_region (mv 2 rfl (pu (v:= .int .i64 ((n:Nat):Int)) rfl (by kernel_rfl) (wl_cmp rfl rfl rfl false (cb_lt_f (a:=i) (b:=n) rfl rfl (by omega)) (by decide) (ne_ (cw_false rfl (cw_exit (eo_thenX (eo_loopX (eo_block_here (eo_then (cw_seq (sr (mv 1 rfl ?_)))))))))))))
  refine pu (v:= .bool true) rfl (by kernel_rfl) (ne_ (cw_true rfl (sr (mv 1 rfl (wl_cmp rfl rfl rfl true (by decide) (by decide) (mv 2 rfl (cl (vs:= [.float .f64 0]) hw1 (g_bits_e7 (show btB 0=0 from rfl)) rfl (by kernel_rfl) fun xr32 v30 r32 e31 hw2=>?_)))))))
  obtain rfl:=r32
  refine wl_cmp rfl rfl rfl true (by decide) (by decide) (pu (v:= .bool true) rfl (by kernel_rfl) (mv 1 rfl (ne_ (cw_ret (eo_thenR (eo_ret [.bool true] rfl ⟨rfl,trivial⟩ ?_))))))
  exact⟨_,rfl,rfl,hw2⟩
theorem law_ApproxSums {w:World}{A B C:Option Addr}{n c m c' l c2 x:Nat}{xs:List Nat}{ps zs:List Int}(hx:Rd w A n c xs) (hn:n≤1048576) (hp:Rk .i64 w B m c' ps) (hm:m≤1048576) (hxb:x≤18446744073709551615) (hz:Rk .i32 w C l c2 zs) (hl0:l≤1048576):
  Calls Try.prog 4 #[.agg #[.slice A n c,.slice B m c',.int .u64 ((x:Nat):Int),.slice C l c2]] w (BoolP true w):=by
 by_cases h:allF xs=true
 ·exact (law_ApproxSumsP hx hn hp hm hxb hz hl0 h).mono fun e w' h=>gv_bool7s _ _ h
 ·exact (law_ApproxSums_bad hx hn hp hm hxb hz hl0 (Bool.eq_false_iff.2 h)).mono fun e w' h=>gv_bool7s _ _ h
end Go.Proofs.Ytgilhcdglaneiaa
