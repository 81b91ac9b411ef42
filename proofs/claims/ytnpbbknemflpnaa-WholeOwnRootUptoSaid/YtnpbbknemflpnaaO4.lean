/- Parts Bst, Bof, Det, Ow1, Ow2, Owa, Ow3, Owb, Sxt, joined. -/
import Derived.Test.YtnpbbknemflpnaaO3

namespace Go.Proofs.Ytnpbbknemflpnaa
open Go.RowKit
set_option maxHeartbeats 8000000 in
set_option maxRecDepth 20000 in
theorem g_brs_stepI {w:World}{lb n g:Nat}{RA NA:Option Addr}{rcap ncap:Nat}{ra:Nat→Option Addr}{rc:Nat→Nat}{ps:List Nat}{ns:List Int}{Z X:Mx}{tu:Bool}{z:Int}{k:Nat}{sl:Bool}{Al:Option Addr}{nl cl:Nat}(hlb:lb≤w.heap.size) (hA:Apt lb n g RA NA ra) (hB:Bk w g 73 [.slice RA n rcap,.slice NA n ncap,.bool tu,.bool sl,.slice Al nl cl,.int .i64 ((k:Nat):Int)]) (hz:Zr w 0 sl Al nl cl z) (hR:Own w lb 22 1 RA n rcap (ps.map (rwv ra rc n))) (hN:Own w lb 3 1 NA n ncap (ns.map I64)) (hC:Rcs 17179869184 lb n n ra rc w Z) (hn:n≤64) (hX:∀i j,i<n→j<n→ln (X i j)≤1048576) (hk:k<n) (hI0:Inv n X k ps Z tu z):
    Calls Try.prog 43 #[.pointer (some ⟨g,0,none⟩),.int .i64 ((k:Nat):Int)] w (fun e w'=>Bl lb w w'∧((e= .returned (.bool false)∧∀i,k≤i→i<n→Z (ps.getD i 0) k=0)∨∃qs Y tu' z',e= .returned (.bool true)∧Fld lb n g RA NA rcap ncap ra rc qs Y tu' z' (k+1) w'∧Inv n X (k+1) qs Y tu' z')):=by
 have hcap:=hR.rv.le
 have hncap:=hN.rv.le
 have hLz:ln z≤17179869184:=by rw [hI0.last];exact Nat.le_trans (ln_dt k _ fun a b ha hb=>pr_ln hI0.per hX a b (by omega) (by omega)) (by have:=Nat.mul_le_mul (show k≤64 by omega) (show 1048576+k≤1048640 by omega);omega)
 refine sx_enter Try.func43 rfl (n:=189) rfl (bq rfl) (args:= [.pointer (some ⟨g,0,none⟩),.int .i64 ((k:Nat):Int)]) ?_
 have hlt_g:=hB.lt
 refine cw_keep [(0,.pointer (some ⟨g,0,none⟩)),(1,.int .i64 ((k:Nat):Int))] ⟨rfl,rfl,trivial⟩ (sr (mv 1 rfl (ne_ (sr (mv 1 rfl (pf g 0 rfl (by kernel_rfl) (pf g 5 rfl (by kernel_rfl) (wl_load rfl rfl (load_cell cellInt hB rfl) (by decide) (mv 1 rfl (ne_ (sr (mv 2 rfl (wl_nil ?_)))))))))))))
 refine eo_then (cw_seq (cw_block ?_))
 refine cw_loop (T:=World×Nat) (fun⟨wp,p⟩=> [(0,.pointer (some ⟨g,0,none⟩)),(1,.int .i64 ((k:Nat):Int)),(4,.bool false),(5,.int .i64 ((k:Nat):Int)),(6,.int .i64 ((p:Nat):Int)),(13,.pointer (some ⟨g,0,none⟩)),(14,.pointer (some ⟨g,0,none⟩)),(15,.pointer (some ⟨g,5,none⟩)),(16,.int .i64 ((k:Nat):Int)),(17,.int .i64 ((k:Nat):Int))]) (fun⟨wp,p⟩=>wp) (fun⟨wp,p⟩=>(Bl lb w wp)∧(p≤n)∧(Bk wp g 73 [.slice RA n rcap,.slice NA n ncap,.bool tu,.bool sl,.slice Al nl cl,.int .i64 ((k:Nat):Int)])∧(Zr wp 0 sl Al nl cl (z))∧(Own wp lb 22 1 RA n rcap (ps.map (rwv ra rc n)))∧(Own wp lb 3 1 NA n ncap (ns.map I64))∧(Rcs 17179869184 lb n n ra rc wp Z)∧(k≤p)∧(∀i,k≤i→i<p→Z (ps.getD i 0) k=0)) (fun⟨wp,p⟩=>n-p)
  (⟨w,k⟩:World×Nat) ⟨(Bl.refl hlb),(by omega),hB,hz,hR,hN,hC,(Nat.le_refl k),(fun i h1 h2=>by omega)⟩ rfl ⟨rfl,rfl,rfl,rfl,rfl,rfl,rfl,rfl,rfl,rfl,trivial⟩ ?_
 rintro⟨wp,p⟩ ⟨hw1,hi_p,b_g,z_g_1,o_RAwp,o_NAwp,rc_wp,hkp,hz0⟩
 refine cw_re [(0,.pointer (some ⟨g,0,none⟩)),(1,.int .i64 ((k:Nat):Int)),(4,.bool false),(5,.int .i64 ((k:Nat):Int)),(6,.int .i64 ((p:Nat):Int)),(13,.pointer (some ⟨g,0,none⟩)),(14,.pointer (some ⟨g,0,none⟩)),(15,.pointer (some ⟨g,5,none⟩)),(16,.int .i64 ((k:Nat):Int)),(17,.int .i64 ((k:Nat):Int))] wp rfl ⟨rfl,rfl,rfl,rfl,rfl,rfl,rfl,rfl,rfl,rfl,trivial⟩ (cw_seq (cw_seq ?_))
 by_cases hpn:p<n
 · 
  by_cases hzp:Z (ps.getD p 0) k=0
  · 
   refine cw_region (mv 2 rfl (pf g 0 rfl (by kernel_rfl) (pf g 0 rfl (by kernel_rfl) (wl_load rfl rfl (load_cell cellRows b_g rfl) (by decide) (pu (v:= .int .i64 ((n:Nat):Int)) rfl (by kernel_rfl) (wl_cmp rfl rfl rfl true (cb_lt_t (a:=p) (b:=n) rfl rfl (by omega)) (by decide) (mv 2 rfl (pf g 0 rfl (by kernel_rfl) (pf g 0 rfl (by kernel_rfl) (wl_load rfl rfl (load_cell cellRows b_g rfl) (by decide) (mv 1 rfl ?_)))))))))))
   obtain⟨pz1,hpz1,hcz1⟩:=(o_RAwp).rowAt (i:=p) (by omega)
   refine wl_idx rfl rfl rfl unRows szInts p rfl (by omega) pz1 hpz1 (by decide) (wl_load rfl rfl (load_cell1 cellInts hcz1) (by decide) (mv 1 rfl ?_))
   obtain⟨pz2,sz2,Bz2,nz2,cz2,hpz2,ldz2,hKz2,zz2⟩:=(rc_wp).at (hI0.per.lt p (by omega)) (show k<n by omega)
   refine wl_idx rfl rfl rfl elemI aggInt.size k rfl (by omega) pz2 hpz2 (by decide) (wl_load rfl rfl (ldz2 _ (Ext.refl _) _ _ aggInt) (by decide) (wl_call rfl rfl (vs:= [.agg #[.bool sz2,.slice Bz2 nz2 cz2]]) (by kernel_rfl) (by decide) (g_zint_Sign zz2.zi (zz2.le (Nat.le_trans (zz2.ln_le hKz2) (by decide)))) ?_))
   rintro _ v3 ⟨xr5,rfl,r5,e4⟩
   refine ret_intro ?_
   have hw2:Bl lb w v3:=hw1.ext e4
   obtain rfl:=r5
   refine wl_cmp rfl rfl rfl true (scmp_eq_t hzp) (by decide) (pu (v:= .bool true) rfl (by kernel_rfl) (ne_ (cw_true rfl (cw_skip (eo_then (cw_block (cw_region (mv 1 rfl (wl_ar rfl rfl rfl ((p+1:Nat):Int) (ai_add (a:=p) (b:=1) rfl rfl (by omega)) (by decide) (mv 1 rfl (wl_nil (eo_block_normal (eo_round (⟨v3,p+1⟩:World×Nat) ⟨hw2,(by omega),(b_g.ext e4),(z_g_1.ext e4),(o_RAwp.ext e4),(o_NAwp.ext e4),(rc_wp.ext e4),(by omega),(fun i h1 h2=>if h:i<p then hz0 i h1 h else (show i=p by omega)▸hzp)⟩ (show n-(p+1)<n-p by omega) rfl ⟨rfl,rfl,rfl,rfl,rfl,rfl,rfl,rfl,rfl,rfl,trivial⟩)))))))))))))
  · 
   refine cw_region (mv 2 rfl (pf g 0 rfl (by kernel_rfl) (pf g 0 rfl (by kernel_rfl) (wl_load rfl rfl (load_cell cellRows b_g rfl) (by decide) (pu (v:= .int .i64 ((n:Nat):Int)) rfl (by kernel_rfl) (wl_cmp rfl rfl rfl true (cb_lt_t (a:=p) (b:=n) rfl rfl (by omega)) (by decide) (mv 2 rfl (pf g 0 rfl (by kernel_rfl) (pf g 0 rfl (by kernel_rfl) (wl_load rfl rfl (load_cell cellRows b_g rfl) (by decide) (mv 1 rfl ?_)))))))))))
   obtain⟨pz6,hpz6,hcz6⟩:=(o_RAwp).rowAt (i:=p) (by omega)
   refine wl_idx rfl rfl rfl unRows szInts p rfl (by omega) pz6 hpz6 (by decide) (wl_load rfl rfl (load_cell1 cellInts hcz6) (by decide) (mv 1 rfl ?_))
   obtain⟨pz7,sz7,Bz7,nz7,cz7,hpz7,ldz7,hKz7,zz7⟩:=(rc_wp).at (hI0.per.lt p (by omega)) (show k<n by omega)
   refine wl_idx rfl rfl rfl elemI aggInt.size k rfl (by omega) pz7 hpz7 (by decide) (wl_load rfl rfl (ldz7 _ (Ext.refl _) _ _ aggInt) (by decide) (wl_call rfl rfl (vs:= [.agg #[.bool sz7,.slice Bz7 nz7 cz7]]) (by kernel_rfl) (by decide) (g_zint_Sign zz7.zi (zz7.le (Nat.le_trans (zz7.ln_le hKz7) (by decide)))) ?_))
   rintro _ v8 ⟨xr10,rfl,r10,e9⟩
   refine ret_intro ?_
   have hw2:Bl lb w v8:=hw1.ext e9
   obtain rfl:=r10
   refine wl_cmp rfl rfl rfl false (scmp_eq_f hzp) (by decide) (pu (v:= .bool false) rfl (by kernel_rfl) (ne_ (cw_false rfl (cw_exit (eo_thenX (eo_loopX (eo_block_here (eo_then (cw_seq (sr (mv 2 rfl (pf g 0 rfl (by kernel_rfl) (pf g 0 rfl (by kernel_rfl) ?_)))))))))))))
   refine wl_load rfl rfl (load_cell cellRows (b_g.ext e9) rfl) (by decide) (pu (v:= .int .i64 ((n:Nat):Int)) rfl (by kernel_rfl) (wl_cmp rfl rfl rfl false (cb_eq_f (a:=p) (b:=n) rfl rfl (by omega)) (by decide) (ne_ (cw_false rfl (cw_skip (eo_then (cw_seq (cw_seq ?_))))))))
   by_cases hpk:p≠k
   · 
    refine cw_region (mv 2 rfl (wl_cmp rfl rfl rfl true (cb_ne_t (a:=p) (b:=k) rfl rfl (by omega)) (by decide) (ne_ (cw_true rfl (cw_seq (cw_keep [(0,.pointer (some ⟨g,0,none⟩)),(1,.int .i64 ((k:Nat):Int)),(4,.bool false),(5,.int .i64 ((k:Nat):Int)),(6,.int .i64 ((p:Nat):Int)),(13,.pointer (some ⟨g,0,none⟩)),(14,.pointer (some ⟨g,0,none⟩)),(15,.pointer (some ⟨g,5,none⟩)),(16,.int .i64 ((k:Nat):Int)),(17,.int .i64 ((k:Nat):Int)),(18,.int .i64 ((p:Nat):Int)),(19,.pointer (some ⟨g,0,none⟩)),(20,.pointer (some ⟨g,0,none⟩)),(21,.pointer (some ⟨g,0,none⟩)),(22,.slice RA n rcap),(23,.int .i64 ((n:Nat):Int)),(24,.bool true),(25,.bool true),(26,.pointer (some ⟨g,0,none⟩)),(27,.pointer (some ⟨g,0,none⟩)),(28,.pointer (some ⟨g,0,none⟩)),(29,.slice RA n rcap),(30,.int .i64 ((p:Nat):Int)),(31,.pointer (some pz6)),(32,.slice (ra (ps.getD p 0)) n (rc (ps.getD p 0))),(33,.int .i64 ((k:Nat):Int)),(34,.pointer (some pz7)),(35,.agg #[.bool sz7,.slice Bz7 nz7 cz7]),(36,.int .i64 (scmp (Z (ps.getD p 0) k) 0)),(37,.bool false),(38,.bool false),(41,.int .i64 ((p:Nat):Int)),(42,.pointer (some ⟨g,0,none⟩)),(43,.pointer (some ⟨g,0,none⟩)),(44,.pointer (some ⟨g,0,none⟩)),(45,.slice RA n rcap),(46,.int .i64 ((n:Nat):Int)),(47,.bool false),(48,.int .i64 ((p:Nat):Int)),(49,.int .i64 ((k:Nat):Int)),(50,.bool true)] ⟨rfl,rfl,rfl,rfl,rfl,rfl,rfl,rfl,rfl,rfl,rfl,rfl,rfl,rfl,rfl,rfl,rfl,rfl,rfl,rfl,rfl,rfl,rfl,rfl,rfl,rfl,rfl,rfl,rfl,rfl,rfl,rfl,rfl,rfl,rfl,rfl,rfl,rfl,rfl,rfl,rfl,trivial⟩ ?_))))))
    obtain⟨v11,hv,e12⟩:∃v,v=v8.drew∧Ext v8 v:=⟨_,rfl,(Ext.refl _).drew⟩
    have hw3:Bl lb w v11:=hw2.ext e12
    obtain⟨pz13,hpz13,hcz13⟩:=((o_RAwp.ext (e9.trans e12))).rowAt (i:=k) (by omega)
    have lt14:=(o_RAwp.ext (e9.trans e12))
    obtain⟨v15,hr16,own17,uo18⟩:=run_setRow lt14 (by omega) hpz6 (ps.getD k 0)
    have hw4:Bl lb w v15:=hw3.updO uo18 (fun p hp=>(lt14.block p hp).1)
    obtain⟨pz19,hpz19,hcz19⟩:=(own17).rowAt (i:=k) (by omega)
    have lt20:=own17
    obtain⟨v21,hr22,own23,uo24⟩:=run_setRow lt20 (by omega) hpz19 (ps.getD p 0)
    have hw5:Bl lb w v21:=hw4.updO uo24 (fun p hp=>(lt20.block p hp).1)
    refine cw_det mix (w:=v11) [.pointer (some ⟨g,0,none⟩),.pointer (some ⟨g,0,none⟩),.pointer (some ⟨g,0,none⟩),.slice RA n rcap,.int .i64 ((p:Nat):Int),.pointer (some ⟨g,0,none⟩),.pointer (some ⟨g,0,none⟩),.pointer (some ⟨g,0,none⟩),.slice RA n rcap,.int .i64 ((k:Nat):Int),.pointer (some ⟨g,0,none⟩),.pointer (some ⟨g,0,none⟩),.pointer (some ⟨g,0,none⟩),.slice RA n rcap,.int .i64 ((k:Nat):Int),.pointer (some pz13),.slice (ra (ps.getD k 0)) n (rc (ps.getD k 0)),.pointer (some ⟨g,0,none⟩),.pointer (some ⟨g,0,none⟩),.pointer (some ⟨g,0,none⟩),.slice RA n rcap,.int .i64 ((p:Nat):Int),.pointer (some pz6),.slice (ra (ps.getD p 0)) n (rc (ps.getD p 0)),.pointer (some pz6),undef,.pointer (some pz19),undef] [v11,v15,v21] [25,27] [[],[0],[1],[2],[],[],[5],[6],[7],[],[],[10],[11],[12],[],[13,14],[15],[],[17],[18],[19],[],[20,21],[22],[3,4],[16,24],[8,9],[23,26]] [[],[0],[0,1],[0,1,2],[],[],[5],[5,6],[5,6,7],[],[],[10],[10,11],[10,11,12],[],[10,11,12,13,14],[10,11,12,13,14,15],[],[17],[17,18],[17,18,19],[],[17,18,19,20,21],[17,18,19,20,21,22],[0,1,2,3,4,5,6,7,8,10,11,12,13,14,15,16,17,18,19,20,21,22,23],[0,1,2,3,4,5,6,7,8,10,11,12,13,14,15,16,17,18,19,20,21,22,23,24],[0,1,2,3,4,5,6,7,8,9,10,11,12,13,14,15,16,17,18,19,20,21,22,23,24,25],[0,1,2,3,4,5,6,7,8,9,10,11,12,13,14,15,16,17,18,19,20,21,22,23,24,25,26]] [(0,0),(1,0),(2,0),(3,0),(4,0),(5,0),(6,0),(7,0),(8,0),(9,0),(9,1),(10,0),(11,0),(12,0),(13,0),(14,0),(15,0),(16,0),(17,0),(18,0),(19,0),(20,0),(21,0),(22,0),(23,0),(24,0),(25,0),(26,1),(27,1)] rfl hv ?_ ?_
    · 
     refine dobs_val _ rfl rfl rfl rfl rfl (rd_move rfl) (dobs_val _ rfl rfl rfl rfl rfl (rd_pure rfl (by kernel_rfl)) (dobs_val _ rfl rfl rfl rfl rfl (rd_pure rfl (by kernel_rfl)) (dobs_val _ rfl rfl rfl rfl rfl (rd_load rfl (load_cell cellRows (b_g.ext (e9.trans e12)) rfl)) (dobs_val _ rfl rfl rfl rfl rfl (rd_move rfl) (dobs_val _ rfl rfl rfl rfl rfl (rd_move rfl) (dobs_val _ rfl rfl rfl rfl rfl (rd_pure rfl (by kernel_rfl)) (dobs_val _ rfl rfl rfl rfl rfl (rd_pure rfl (by kernel_rfl)) (dobs_val _ rfl rfl rfl rfl rfl (rd_load rfl (load_cell cellRows (b_g.ext (e9.trans e12)) rfl)) (dobs_val _ rfl rfl rfl rfl rfl (rd_move rfl) (dobs_val _ rfl rfl rfl rfl rfl (rd_move rfl) (dobs_val _ rfl rfl rfl rfl rfl (rd_move rfl) (dobs_val _ rfl rfl rfl rfl rfl (rd_pure rfl (by kernel_rfl)) (dobs_val _ rfl rfl rfl rfl rfl (rd_pure rfl (by kernel_rfl)) ?_)))))))))))))
     refine dobs_val _ rfl rfl rfl rfl rfl (rd_load rfl (load_cell cellRows (b_g.ext (e9.trans e12)) rfl)) (dobs_val _ rfl rfl rfl rfl rfl (rd_move rfl) (dobs_val _ rfl rfl rfl rfl rfl (rd_idx rfl rfl unRows szInts k rfl (by omega) pz13 hpz13) (dobs_val _ rfl rfl rfl rfl rfl (rd_load rfl (load_cell1 cellInts hcz13)) (dobs_val _ rfl rfl rfl rfl rfl (rd_move rfl) (dobs_val _ rfl rfl rfl rfl rfl (rd_pure rfl (by kernel_rfl)) (dobs_val _ rfl rfl rfl rfl rfl (rd_pure rfl (by kernel_rfl)) (dobs_val _ rfl rfl rfl rfl rfl (rd_load rfl (load_cell cellRows (b_g.ext (e9.trans e12)) rfl)) (dobs_val _ rfl rfl rfl rfl rfl (rd_move rfl) (dobs_val _ rfl rfl rfl rfl rfl (rd_idx rfl rfl unRows szInts p rfl (by omega) pz6 hpz6) (dobs_val _ rfl rfl rfl rfl rfl (rd_load rfl (load_cell1 cellInts ((e9.trans e12).cell hcz6))) (dobs_val _ rfl rfl rfl rfl rfl (rd_idx rfl rfl unRows szInts p rfl (by omega) pz6 hpz6) (dobs_sto _ rfl rfl rfl rfl rfl (rd_store rfl rfl hr16) (dobs_val _ rfl rfl rfl rfl rfl (rd_idx rfl rfl unRows szInts k rfl (by omega) pz19 hpz19) ?_)))))))))))))
     refine dobs_sto _ rfl rfl rfl rfl rfl (rd_store rfl rfl hr22) ?_
     exact dobs_nil
    clear hv
    refine eo_keep [(0,.pointer (some ⟨g,0,none⟩)),(1,.int .i64 ((k:Nat):Int)),(4,.bool false),(5,.int .i64 ((k:Nat):Int)),(6,.int .i64 ((p:Nat):Int)),(13,.pointer (some ⟨g,0,none⟩)),(14,.pointer (some ⟨g,0,none⟩)),(15,.pointer (some ⟨g,5,none⟩)),(16,.int .i64 ((k:Nat):Int)),(17,.int .i64 ((k:Nat):Int)),(18,.int .i64 ((p:Nat):Int)),(19,.pointer (some ⟨g,0,none⟩)),(20,.pointer (some ⟨g,0,none⟩)),(21,.pointer (some ⟨g,0,none⟩)),(22,.slice RA n rcap),(23,.int .i64 ((n:Nat):Int)),(24,.bool true),(25,.bool true),(26,.pointer (some ⟨g,0,none⟩)),(27,.pointer (some ⟨g,0,none⟩)),(28,.pointer (some ⟨g,0,none⟩)),(29,.slice RA n rcap),(30,.int .i64 ((p:Nat):Int)),(31,.pointer (some pz6)),(32,.slice (ra (ps.getD p 0)) n (rc (ps.getD p 0))),(33,.int .i64 ((k:Nat):Int)),(34,.pointer (some pz7)),(35,.agg #[.bool sz7,.slice Bz7 nz7 cz7]),(36,.int .i64 (scmp (Z (ps.getD p 0) k) 0)),(37,.bool false),(38,.bool false),(41,.int .i64 ((p:Nat):Int)),(42,.pointer (some ⟨g,0,none⟩)),(43,.pointer (some ⟨g,0,none⟩)),(44,.pointer (some ⟨g,0,none⟩)),(45,.slice RA n rcap),(46,.int .i64 ((n:Nat):Int)),(47,.bool false),(48,.int .i64 ((p:Nat):Int)),(49,.int .i64 ((k:Nat):Int)),(50,.bool true),(51,.pointer (some ⟨g,0,none⟩)),(52,.pointer (some ⟨g,0,none⟩)),(53,.pointer (some ⟨g,0,none⟩)),(54,.slice RA n rcap),(55,.int .i64 ((p:Nat):Int)),(56,.pointer (some ⟨g,0,none⟩)),(57,.pointer (some ⟨g,0,none⟩)),(58,.pointer (some ⟨g,0,none⟩)),(59,.slice RA n rcap),(60,.int .i64 ((k:Nat):Int)),(61,.pointer (some ⟨g,0,none⟩)),(62,.pointer (some ⟨g,0,none⟩)),(63,.pointer (some ⟨g,0,none⟩)),(64,.slice RA n rcap),(65,.int .i64 ((k:Nat):Int)),(66,.pointer (some pz13)),(67,.slice (ra (ps.getD k 0)) n (rc (ps.getD k 0))),(68,.pointer (some ⟨g,0,none⟩)),(69,.pointer (some ⟨g,0,none⟩)),(70,.pointer (some ⟨g,0,none⟩)),(71,.slice RA n rcap),(72,.int .i64 ((p:Nat):Int)),(73,.pointer (some pz6)),(74,.slice (ra (ps.getD p 0)) n (rc (ps.getD p 0))),(75,.pointer (some pz6)),(76,.pointer (some pz19))] ⟨rfl,rfl,rfl,rfl,rfl,rfl,rfl,rfl,rfl,rfl,rfl,rfl,rfl,rfl,rfl,rfl,rfl,rfl,rfl,rfl,rfl,rfl,rfl,rfl,rfl,rfl,rfl,rfl,rfl,rfl,rfl,rfl,rfl,rfl,rfl,rfl,rfl,rfl,rfl,rfl,rfl,rfl,rfl,rfl,rfl,rfl,rfl,rfl,rfl,rfl,rfl,rfl,rfl,rfl,rfl,rfl,rfl,rfl,rfl,rfl,rfl,rfl,rfl,rfl,rfl,rfl,rfl,trivial⟩ (eo_then (cw_seq (cw_keep [(0,.pointer (some ⟨g,0,none⟩)),(1,.int .i64 ((k:Nat):Int)),(4,.bool false),(5,.int .i64 ((k:Nat):Int)),(6,.int .i64 ((p:Nat):Int)),(13,.pointer (some ⟨g,0,none⟩)),(14,.pointer (some ⟨g,0,none⟩)),(15,.pointer (some ⟨g,5,none⟩)),(16,.int .i64 ((k:Nat):Int)),(17,.int .i64 ((k:Nat):Int)),(18,.int .i64 ((p:Nat):Int)),(19,.pointer (some ⟨g,0,none⟩)),(20,.pointer (some ⟨g,0,none⟩)),(21,.pointer (some ⟨g,0,none⟩)),(22,.slice RA n rcap),(23,.int .i64 ((n:Nat):Int)),(24,.bool true),(25,.bool true),(26,.pointer (some ⟨g,0,none⟩)),(27,.pointer (some ⟨g,0,none⟩)),(28,.pointer (some ⟨g,0,none⟩)),(29,.slice RA n rcap),(30,.int .i64 ((p:Nat):Int)),(31,.pointer (some pz6)),(32,.slice (ra (ps.getD p 0)) n (rc (ps.getD p 0))),(33,.int .i64 ((k:Nat):Int)),(34,.pointer (some pz7)),(35,.agg #[.bool sz7,.slice Bz7 nz7 cz7]),(36,.int .i64 (scmp (Z (ps.getD p 0) k) 0)),(37,.bool false),(38,.bool false),(41,.int .i64 ((p:Nat):Int)),(42,.pointer (some ⟨g,0,none⟩)),(43,.pointer (some ⟨g,0,none⟩)),(44,.pointer (some ⟨g,0,none⟩)),(45,.slice RA n rcap),(46,.int .i64 ((n:Nat):Int)),(47,.bool false),(48,.int .i64 ((p:Nat):Int)),(49,.int .i64 ((k:Nat):Int)),(50,.bool true),(51,.pointer (some ⟨g,0,none⟩)),(52,.pointer (some ⟨g,0,none⟩)),(53,.pointer (some ⟨g,0,none⟩)),(54,.slice RA n rcap),(55,.int .i64 ((p:Nat):Int)),(56,.pointer (some ⟨g,0,none⟩)),(57,.pointer (some ⟨g,0,none⟩)),(58,.pointer (some ⟨g,0,none⟩)),(59,.slice RA n rcap),(60,.int .i64 ((k:Nat):Int)),(61,.pointer (some ⟨g,0,none⟩)),(62,.pointer (some ⟨g,0,none⟩)),(63,.pointer (some ⟨g,0,none⟩)),(64,.slice RA n rcap),(65,.int .i64 ((k:Nat):Int)),(66,.pointer (some pz13)),(67,.slice (ra (ps.getD k 0)) n (rc (ps.getD k 0))),(68,.pointer (some ⟨g,0,none⟩)),(69,.pointer (some ⟨g,0,none⟩)),(70,.pointer (some ⟨g,0,none⟩)),(71,.slice RA n rcap),(72,.int .i64 ((p:Nat):Int)),(73,.pointer (some pz6)),(74,.slice (ra (ps.getD p 0)) n (rc (ps.getD p 0))),(75,.pointer (some pz6)),(76,.pointer (some pz19))] ⟨rfl,rfl,rfl,rfl,rfl,rfl,rfl,rfl,rfl,rfl,rfl,rfl,rfl,rfl,rfl,rfl,rfl,rfl,rfl,rfl,rfl,rfl,rfl,rfl,rfl,rfl,rfl,rfl,rfl,rfl,rfl,rfl,rfl,rfl,rfl,rfl,rfl,rfl,rfl,rfl,rfl,rfl,rfl,rfl,rfl,rfl,rfl,rfl,rfl,rfl,rfl,rfl,rfl,rfl,rfl,rfl,rfl,rfl,rfl,rfl,rfl,rfl,rfl,rfl,rfl,rfl,rfl,trivial⟩ ?_)))
    obtain⟨v25,hv,e26⟩:∃v,v=v21.drew∧Ext v21 v:=⟨_,rfl,(Ext.refl _).drew⟩
    have hw6:Bl lb w v25:=hw5.ext e26
    obtain⟨pz27,hpz27,hcz27⟩:=(((((o_NAwp.ext (e9.trans e12)).updO uo18 hA.RN).updO uo24 hA.RN).ext e26)).numAt (i:=k) (by omega)
    obtain⟨pz28,hpz28,hcz28⟩:=(((((o_NAwp.ext (e9.trans e12)).updO uo18 hA.RN).updO uo24 hA.RN).ext e26)).numAt (i:=p) (by omega)
    have lt29:=((((o_NAwp.ext (e9.trans e12)).updO uo18 hA.RN).updO uo24 hA.RN).ext e26)
    obtain⟨v30,hr31,own32,uo33⟩:=run_setNum lt29 (by omega) hpz28 (ns.getD k 0)
    have hw7:Bl lb w v30:=hw6.updO uo33 (fun p hp=>(lt29.block p hp).1)
    obtain⟨pz34,hpz34,hcz34⟩:=(own32).numAt (i:=k) (by omega)
    have lt35:=own32
    obtain⟨v36,hr37,own38,uo39⟩:=run_setNum lt35 (by omega) hpz34 (ns.getD p 0)
    have hw8:Bl lb w v36:=hw7.updO uo39 (fun p hp=>(lt35.block p hp).1)
    refine cw_det mix (w:=v25) [.pointer (some ⟨g,0,none⟩),.pointer (some ⟨g,0,none⟩),.pointer (some ⟨g,1,none⟩),.slice NA n ncap,.int .i64 ((p:Nat):Int),.pointer (some ⟨g,0,none⟩),.pointer (some ⟨g,0,none⟩),.pointer (some ⟨g,1,none⟩),.slice NA n ncap,.int .i64 ((k:Nat):Int),.pointer (some ⟨g,0,none⟩),.pointer (some ⟨g,0,none⟩),.pointer (some ⟨g,1,none⟩),.slice NA n ncap,.int .i64 ((k:Nat):Int),.pointer (some pz27),.int .i64 (ns.getD k 0),.pointer (some ⟨g,0,none⟩),.pointer (some ⟨g,0,none⟩),.pointer (some ⟨g,1,none⟩),.slice NA n ncap,.int .i64 ((p:Nat):Int),.pointer (some pz28),.int .i64 (ns.getD p 0),.pointer (some pz28),undef,.pointer (some pz34),undef] [v25,v30,v36] [25,27] [[],[0],[1],[2],[],[],[5],[6],[7],[],[],[10],[11],[12],[],[13,14],[15],[],[17],[18],[19],[],[20,21],[22],[3,4],[16,24],[8,9],[23,26]] [[],[0],[0,1],[0,1,2],[],[],[5],[5,6],[5,6,7],[],[],[10],[10,11],[10,11,12],[],[10,11,12,13,14],[10,11,12,13,14,15],[],[17],[17,18],[17,18,19],[],[17,18,19,20,21],[17,18,19,20,21,22],[0,1,2,3,4,5,6,7,8,10,11,12,13,14,15,16,17,18,19,20,21,22,23],[0,1,2,3,4,5,6,7,8,10,11,12,13,14,15,16,17,18,19,20,21,22,23,24],[0,1,2,3,4,5,6,7,8,9,10,11,12,13,14,15,16,17,18,19,20,21,22,23,24,25],[0,1,2,3,4,5,6,7,8,9,10,11,12,13,14,15,16,17,18,19,20,21,22,23,24,25,26]] [(0,0),(1,0),(2,0),(3,0),(4,0),(5,0),(6,0),(7,0),(8,0),(9,0),(9,1),(10,0),(11,0),(12,0),(13,0),(14,0),(15,0),(16,0),(17,0),(18,0),(19,0),(20,0),(21,0),(22,0),(23,0),(24,0),(25,0),(26,1),(27,1)] rfl hv ?_ ?_
    · 
     refine dobs_val _ rfl rfl rfl rfl rfl (rd_move rfl) (dobs_val _ rfl rfl rfl rfl rfl (rd_pure rfl (by kernel_rfl)) (dobs_val _ rfl rfl rfl rfl rfl (rd_pure rfl (by kernel_rfl)) (dobs_val _ rfl rfl rfl rfl rfl (rd_load rfl (load_cell cellNums ((((b_g.ext (e9.trans e12)).updO uo18 hA.Rg).updO uo24 hA.Rg).ext e26) rfl)) (dobs_val _ rfl rfl rfl rfl rfl (rd_move rfl) (dobs_val _ rfl rfl rfl rfl rfl (rd_move rfl) (dobs_val _ rfl rfl rfl rfl rfl (rd_pure rfl (by kernel_rfl)) (dobs_val _ rfl rfl rfl rfl rfl (rd_pure rfl (by kernel_rfl)) (dobs_val _ rfl rfl rfl rfl rfl (rd_load rfl (load_cell cellNums ((((b_g.ext (e9.trans e12)).updO uo18 hA.Rg).updO uo24 hA.Rg).ext e26) rfl)) (dobs_val _ rfl rfl rfl rfl rfl (rd_move rfl) (dobs_val _ rfl rfl rfl rfl rfl (rd_move rfl) (dobs_val _ rfl rfl rfl rfl rfl (rd_move rfl) (dobs_val _ rfl rfl rfl rfl rfl (rd_pure rfl (by kernel_rfl)) (dobs_val _ rfl rfl rfl rfl rfl (rd_pure rfl (by kernel_rfl)) ?_)))))))))))))
     refine dobs_val _ rfl rfl rfl rfl rfl (rd_load rfl (load_cell cellNums ((((b_g.ext (e9.trans e12)).updO uo18 hA.Rg).updO uo24 hA.Rg).ext e26) rfl)) (dobs_val _ rfl rfl rfl rfl rfl (rd_move rfl) (dobs_val _ rfl rfl rfl rfl rfl (rd_idx rfl rfl Try.underlying71 szInt k rfl (by omega) pz27 hpz27) (dobs_val _ rfl rfl rfl rfl rfl (rd_load rfl (load_cell1 cellInt hcz27)) (dobs_val _ rfl rfl rfl rfl rfl (rd_move rfl) (dobs_val _ rfl rfl rfl rfl rfl (rd_pure rfl (by kernel_rfl)) (dobs_val _ rfl rfl rfl rfl rfl (rd_pure rfl (by kernel_rfl)) (dobs_val _ rfl rfl rfl rfl rfl (rd_load rfl (load_cell cellNums ((((b_g.ext (e9.trans e12)).updO uo18 hA.Rg).updO uo24 hA.Rg).ext e26) rfl)) (dobs_val _ rfl rfl rfl rfl rfl (rd_move rfl) (dobs_val _ rfl rfl rfl rfl rfl (rd_idx rfl rfl Try.underlying71 szInt p rfl (by omega) pz28 hpz28) (dobs_val _ rfl rfl rfl rfl rfl (rd_load rfl (load_cell1 cellInt hcz28)) (dobs_val _ rfl rfl rfl rfl rfl (rd_idx rfl rfl Try.underlying71 szInt p rfl (by omega) pz28 hpz28) (dobs_sto _ rfl rfl rfl rfl rfl (rd_store rfl rfl hr31) (dobs_val _ rfl rfl rfl rfl rfl (rd_idx rfl rfl Try.underlying71 szInt k rfl (by omega) pz34 hpz34) ?_)))))))))))))
     refine dobs_sto _ rfl rfl rfl rfl rfl (rd_store rfl rfl hr37) ?_
     exact dobs_nil
    clear hv
    refine eo_keep [(0,.pointer (some ⟨g,0,none⟩)),(1,.int .i64 ((k:Nat):Int)),(4,.bool false),(5,.int .i64 ((k:Nat):Int)),(6,.int .i64 ((p:Nat):Int)),(13,.pointer (some ⟨g,0,none⟩)),(14,.pointer (some ⟨g,0,none⟩)),(15,.pointer (some ⟨g,5,none⟩)),(16,.int .i64 ((k:Nat):Int)),(17,.int .i64 ((k:Nat):Int)),(18,.int .i64 ((p:Nat):Int)),(19,.pointer (some ⟨g,0,none⟩)),(20,.pointer (some ⟨g,0,none⟩)),(21,.pointer (some ⟨g,0,none⟩)),(22,.slice RA n rcap),(23,.int .i64 ((n:Nat):Int)),(24,.bool true),(25,.bool true),(26,.pointer (some ⟨g,0,none⟩)),(27,.pointer (some ⟨g,0,none⟩)),(28,.pointer (some ⟨g,0,none⟩)),(29,.slice RA n rcap),(30,.int .i64 ((p:Nat):Int)),(31,.pointer (some pz6)),(32,.slice (ra (ps.getD p 0)) n (rc (ps.getD p 0))),(33,.int .i64 ((k:Nat):Int)),(34,.pointer (some pz7)),(35,.agg #[.bool sz7,.slice Bz7 nz7 cz7]),(36,.int .i64 (scmp (Z (ps.getD p 0) k) 0)),(37,.bool false),(38,.bool false),(41,.int .i64 ((p:Nat):Int)),(42,.pointer (some ⟨g,0,none⟩)),(43,.pointer (some ⟨g,0,none⟩)),(44,.pointer (some ⟨g,0,none⟩)),(45,.slice RA n rcap),(46,.int .i64 ((n:Nat):Int)),(47,.bool false),(48,.int .i64 ((p:Nat):Int)),(49,.int .i64 ((k:Nat):Int)),(50,.bool true),(51,.pointer (some ⟨g,0,none⟩)),(52,.pointer (some ⟨g,0,none⟩)),(53,.pointer (some ⟨g,0,none⟩)),(54,.slice RA n rcap),(55,.int .i64 ((p:Nat):Int)),(56,.pointer (some ⟨g,0,none⟩)),(57,.pointer (some ⟨g,0,none⟩)),(58,.pointer (some ⟨g,0,none⟩)),(59,.slice RA n rcap),(60,.int .i64 ((k:Nat):Int)),(61,.pointer (some ⟨g,0,none⟩)),(62,.pointer (some ⟨g,0,none⟩)),(63,.pointer (some ⟨g,0,none⟩)),(64,.slice RA n rcap),(65,.int .i64 ((k:Nat):Int)),(66,.pointer (some pz13)),(67,.slice (ra (ps.getD k 0)) n (rc (ps.getD k 0))),(68,.pointer (some ⟨g,0,none⟩)),(69,.pointer (some ⟨g,0,none⟩)),(70,.pointer (some ⟨g,0,none⟩)),(71,.slice RA n rcap),(72,.int .i64 ((p:Nat):Int)),(73,.pointer (some pz6)),(74,.slice (ra (ps.getD p 0)) n (rc (ps.getD p 0))),(75,.pointer (some pz6)),(76,.pointer (some pz19)),(77,.pointer (some ⟨g,0,none⟩)),(78,.pointer (some ⟨g,0,none⟩)),(79,.pointer (some ⟨g,1,none⟩)),(80,.slice NA n ncap),(81,.int .i64 ((p:Nat):Int)),(82,.pointer (some ⟨g,0,none⟩)),(83,.pointer (some ⟨g,0,none⟩)),(84,.pointer (some ⟨g,1,none⟩)),(85,.slice NA n ncap),(86,.int .i64 ((k:Nat):Int)),(87,.pointer (some ⟨g,0,none⟩)),(88,.pointer (some ⟨g,0,none⟩)),(89,.pointer (some ⟨g,1,none⟩)),(90,.slice NA n ncap),(91,.int .i64 ((k:Nat):Int)),(92,.pointer (some pz27)),(93,.int .i64 (ns.getD k 0)),(94,.pointer (some ⟨g,0,none⟩)),(95,.pointer (some ⟨g,0,none⟩)),(96,.pointer (some ⟨g,1,none⟩)),(97,.slice NA n ncap),(98,.int .i64 ((p:Nat):Int)),(99,.pointer (some pz28)),(100,.int .i64 (ns.getD p 0)),(101,.pointer (some pz28)),(102,.pointer (some pz34))] ⟨rfl,rfl,rfl,rfl,rfl,rfl,rfl,rfl,rfl,rfl,rfl,rfl,rfl,rfl,rfl,rfl,rfl,rfl,rfl,rfl,rfl,rfl,rfl,rfl,rfl,rfl,rfl,rfl,rfl,rfl,rfl,rfl,rfl,rfl,rfl,rfl,rfl,rfl,rfl,rfl,rfl,rfl,rfl,rfl,rfl,rfl,rfl,rfl,rfl,rfl,rfl,rfl,rfl,rfl,rfl,rfl,rfl,rfl,rfl,rfl,rfl,rfl,rfl,rfl,rfl,rfl,rfl,rfl,rfl,rfl,rfl,rfl,rfl,rfl,rfl,rfl,rfl,rfl,rfl,rfl,rfl,rfl,rfl,rfl,rfl,rfl,rfl,rfl,rfl,rfl,rfl,rfl,rfl,trivial⟩ (eo_then (cw_region (mv 2 rfl (pf g 0 rfl (by kernel_rfl) (pf g 2 rfl (by kernel_rfl) (wl_load rfl rfl (load_cell cellBool ((((((b_g.ext (e9.trans e12)).updO uo18 hA.Rg).updO uo24 hA.Rg).ext e26).updO uo33 hA.Ng).updO uo39 hA.Ng) rfl) (by decide) (pu (v:= .bool (!tu)) rfl (by kernel_rfl) (pf g 0 rfl (by kernel_rfl) (pf g 2 rfl (by kernel_rfl) ?_)))))))))
    have hb41:=((((((b_g.ext (e9.trans e12)).updO uo18 hA.Rg).updO uo24 hA.Rg).ext e26).updO uo33 hA.Ng).updO uo39 hA.Ng)
    refine wl_stored1 rfl rfl rfl szBool rfl hb41 (bq rfl) rfl [.slice RA n rcap,.slice NA n ncap,.bool (!tu),.bool sl,.slice Al nl cl,.int .i64 ((k:Nat):Int)] rfl fun v40 hb42 u43 hs44=>?_
    have hw9:Bl lb w v40:=hw8.upd u43 hA.lg
    refine ne_ (cw_seq ?_)
    obtain⟨qs,hqs⟩:∃qs,qs=swp ps p k:=⟨_,rfl⟩
    have hI:Inv n X k qs Z (!tu) z:=by rw [hqs];exact hI0.swp (by omega) hkp hpn hpk
    have hD:Z (qs.getD k 0) k≠0:=by rw [hqs,swp_get hI0.per.len hpn (by omega),if_pos rfl];exact hzp
    have ow45:Own v40 lb 22 1 RA n rcap (qs.map (rwv ra rc n)):=by rw [hqs];exact ((((own23.ext e26).updO uo33 (fun p q hp hq e=>hA.RN q p hq hp e.symm)).updO uo39 (fun p q hp hq e=>hA.RN q p hq hp e.symm)).upd u43 hA.Rg)
    have hDb:bm (pr X qs) k k k≠0:=by rw [←hI.ent k k (Nat.le_refl _) (by omega) (Nat.le_refl _) (by omega)];exact hD
    refine cw_region (mv 1 rfl (pf g 0 rfl (by kernel_rfl) (pf g 0 rfl (by kernel_rfl) (wl_load rfl rfl (load_cell cellRows hb42 rfl) (by decide) (mv 1 rfl ?_)))))
    obtain⟨pz46,hpz46,hcz46⟩:=(ow45).rowAt (i:=k) (by omega)
    refine wl_idx rfl rfl rfl unRows szInts k rfl (by omega) pz46 hpz46 (by decide) (wl_load rfl rfl (load_cell1 cellInts hcz46) (by decide) (mv 1 rfl (ne_ (cw_seq (sr (mv 1 rfl (pf g 0 rfl (by kernel_rfl) (pf g 0 rfl (by kernel_rfl) (wl_load rfl rfl (load_cell cellRows hb42 rfl) (by decide) (mv 1 rfl (wl_ar rfl rfl rfl ((k+1:Nat):Int) (ai_add (a:=k) (b:=1) rfl rfl (by omega)) (by decide) (wl_slice rfl rfl unRows szInts (lo:=k+1) (hi:=n) rfl rfl (by omega) hcap (v:= .slice (if rcap=k+1 then RA else RA.map (·.add ((k+1)*1))) (n-(k+1)) (rcap-(k+1))) rfl (by decide) (pu (v:= .int .i64 ((n-(k+1):Nat):Int)) rfl (by kernel_rfl) ?_)))))))))))))
    refine mv 1 rfl (ne_ (cw_block ?_))
    refine cw_loop (T:=World×Nat×Mx) (fun⟨wt,t,Y⟩=> [(0,.pointer (some ⟨g,0,none⟩)),(1,.int .i64 ((k:Nat):Int)),(4,.bool false),(5,.int .i64 ((k:Nat):Int)),(6,.int .i64 ((p:Nat):Int)),(7,.slice (ra (qs.getD k 0)) n (rc (qs.getD k 0))),(13,.pointer (some ⟨g,0,none⟩)),(14,.pointer (some ⟨g,0,none⟩)),(15,.pointer (some ⟨g,5,none⟩)),(16,.int .i64 ((k:Nat):Int)),(17,.int .i64 ((k:Nat):Int)),(18,.int .i64 ((p:Nat):Int)),(19,.pointer (some ⟨g,0,none⟩)),(20,.pointer (some ⟨g,0,none⟩)),(21,.pointer (some ⟨g,0,none⟩)),(22,.slice RA n rcap),(23,.int .i64 ((n:Nat):Int)),(24,.bool true),(25,.bool true),(26,.pointer (some ⟨g,0,none⟩)),(27,.pointer (some ⟨g,0,none⟩)),(28,.pointer (some ⟨g,0,none⟩)),(29,.slice RA n rcap),(30,.int .i64 ((p:Nat):Int)),(31,.pointer (some pz6)),(32,.slice (ra (ps.getD p 0)) n (rc (ps.getD p 0))),(33,.int .i64 ((k:Nat):Int)),(34,.pointer (some pz7)),(35,.agg #[.bool sz7,.slice Bz7 nz7 cz7]),(36,.int .i64 (scmp (Z (ps.getD p 0) k) 0)),(37,.bool false),(38,.bool false),(41,.int .i64 ((p:Nat):Int)),(42,.pointer (some ⟨g,0,none⟩)),(43,.pointer (some ⟨g,0,none⟩)),(44,.pointer (some ⟨g,0,none⟩)),(45,.slice RA n rcap),(46,.int .i64 ((n:Nat):Int)),(47,.bool false),(48,.int .i64 ((p:Nat):Int)),(49,.int .i64 ((k:Nat):Int)),(50,.bool true),(51,.pointer (some ⟨g,0,none⟩)),(52,.pointer (some ⟨g,0,none⟩)),(53,.pointer (some ⟨g,0,none⟩)),(54,.slice RA n rcap),(55,.int .i64 ((p:Nat):Int)),(56,.pointer (some ⟨g,0,none⟩)),(57,.pointer (some ⟨g,0,none⟩)),(58,.pointer (some ⟨g,0,none⟩)),(59,.slice RA n rcap),(60,.int .i64 ((k:Nat):Int)),(61,.pointer (some ⟨g,0,none⟩)),(62,.pointer (some ⟨g,0,none⟩)),(63,.pointer (some ⟨g,0,none⟩)),(64,.slice RA n rcap),(65,.int .i64 ((k:Nat):Int)),(66,.pointer (some pz13)),(67,.slice (ra (ps.getD k 0)) n (rc (ps.getD k 0))),(68,.pointer (some ⟨g,0,none⟩)),(69,.pointer (some ⟨g,0,none⟩)),(70,.pointer (some ⟨g,0,none⟩)),(71,.slice RA n rcap),(72,.int .i64 ((p:Nat):Int)),(73,.pointer (some pz6)),(74,.slice (ra (ps.getD p 0)) n (rc (ps.getD p 0))),(75,.pointer (some pz6)),(76,.pointer (some pz19)),(77,.pointer (some ⟨g,0,none⟩)),(78,.pointer (some ⟨g,0,none⟩)),(79,.pointer (some ⟨g,1,none⟩)),(80,.slice NA n ncap),(81,.int .i64 ((p:Nat):Int)),(82,.pointer (some ⟨g,0,none⟩)),(83,.pointer (some ⟨g,0,none⟩)),(84,.pointer (some ⟨g,1,none⟩)),(85,.slice NA n ncap),(86,.int .i64 ((k:Nat):Int)),(87,.pointer (some ⟨g,0,none⟩)),(88,.pointer (some ⟨g,0,none⟩)),(89,.pointer (some ⟨g,1,none⟩)),(90,.slice NA n ncap),(91,.int .i64 ((k:Nat):Int)),(92,.pointer (some pz27)),(93,.int .i64 (ns.getD k 0)),(94,.pointer (some ⟨g,0,none⟩)),(95,.pointer (some ⟨g,0,none⟩)),(96,.pointer (some ⟨g,1,none⟩)),(97,.slice NA n ncap),(98,.int .i64 ((p:Nat):Int)),(99,.pointer (some pz28)),(100,.int .i64 (ns.getD p 0)),(101,.pointer (some pz28)),(102,.pointer (some pz34)),(103,.pointer (some ⟨g,0,none⟩)),(104,.pointer (some ⟨g,0,none⟩)),(105,.pointer (some ⟨g,0,none⟩)),(106,.pointer (some ⟨g,2,none⟩)),(107,.bool tu),(108,.bool (!tu)),(109,.pointer (some ⟨g,0,none⟩)),(110,.pointer (some ⟨g,2,none⟩)),(111,.pointer (some ⟨g,0,none⟩)),(112,.pointer (some ⟨g,0,none⟩)),(113,.pointer (some ⟨g,0,none⟩)),(114,.slice RA n rcap),(115,.int .i64 ((k:Nat):Int)),(116,.pointer (some pz46)),(117,.slice (ra (qs.getD k 0)) n (rc (qs.getD k 0))),(118,.pointer (some ⟨g,0,none⟩)),(119,.pointer (some ⟨g,0,none⟩)),(120,.pointer (some ⟨g,0,none⟩)),(121,.slice RA n rcap),(122,.int .i64 ((k:Nat):Int)),(123,.int .i64 ((k+1:Nat):Int)),(124,.slice (if rcap=k+1 then RA else RA.map (·.add ((k+1)*1))) (n-(k+1)) (rcap-(k+1))),(125,.int .i64 ((n-(k+1):Nat):Int)),(126,.int .i64 ((t:Nat):Int))]) (fun⟨wt,t,Y⟩=>wt) (fun⟨wt,t,Y⟩=>(Bl lb w wt)∧(t≤n-(k+1))∧(Bk wt g 73 [.slice RA n rcap,.slice NA n ncap,.bool (!tu),.bool sl,.slice Al nl cl,.int .i64 ((k:Nat):Int)])∧(Zr wt 0 sl Al nl cl (z))∧(Own wt lb 22 1 RA n rcap (qs.map (rwv ra rc n)))∧(Own wt lb 3 1 NA n ncap (((ns.set p (ns.getD k 0)).set k (ns.getD p 0)).map I64))∧(Rcs 17179869184 lb n n ra rc wt Y)∧(Mid n k (pr X qs) qs Y (k+1+t) (k+1))) (fun⟨wt,t,Y⟩=>(n-(k+1))-t)
     (⟨v40,0,Z⟩:World×Nat×Mx) ⟨hw9,(by omega),hb42,(((((((z_g_1.ext (e9.trans e12)).updOT lt14 uo18).updOT lt20 uo24).ext e26).updOT lt29 uo33).updOT lt35 uo39).updT hb41 u43),ow45,(own38.upd u43 hA.Ng),(((((((rc_wp.ext (e9.trans e12)).updQ lt14 uo18 hA.Rr).updQ lt20 uo24 hA.Rr).ext e26).updQ lt29 uo33 hA.Nr).updQ lt35 uo39 hA.Nr).updT hb41 u43 hA.rg),(Mid.start hI)⟩ rfl ⟨rfl,rfl,rfl,rfl,rfl,rfl,rfl,rfl,rfl,rfl,rfl,rfl,rfl,rfl,rfl,rfl,rfl,rfl,rfl,rfl,rfl,rfl,rfl,rfl,rfl,rfl,rfl,rfl,rfl,rfl,rfl,rfl,rfl,rfl,rfl,rfl,rfl,rfl,rfl,rfl,rfl,rfl,rfl,rfl,rfl,rfl,rfl,rfl,rfl,rfl,rfl,rfl,rfl,rfl,rfl,rfl,rfl,rfl,rfl,rfl,rfl,rfl,rfl,rfl,rfl,rfl,rfl,rfl,rfl,rfl,rfl,rfl,rfl,rfl,rfl,rfl,rfl,rfl,rfl,rfl,rfl,rfl,rfl,rfl,rfl,rfl,rfl,rfl,rfl,rfl,rfl,rfl,rfl,rfl,rfl,rfl,rfl,rfl,rfl,rfl,rfl,rfl,rfl,rfl,rfl,rfl,rfl,rfl,rfl,rfl,rfl,rfl,rfl,rfl,rfl,rfl,rfl,rfl,trivial⟩ ?_
    rintro⟨wt,t,Y⟩ ⟨hw1,hi_t,b_g,z_g_1,o_RAwt,o_NAwt,rc_wt,hM⟩
    refine cw_re [(0,.pointer (some ⟨g,0,none⟩)),(1,.int .i64 ((k:Nat):Int)),(4,.bool false),(5,.int .i64 ((k:Nat):Int)),(6,.int .i64 ((p:Nat):Int)),(7,.slice (ra (qs.getD k 0)) n (rc (qs.getD k 0))),(13,.pointer (some ⟨g,0,none⟩)),(14,.pointer (some ⟨g,0,none⟩)),(15,.pointer (some ⟨g,5,none⟩)),(16,.int .i64 ((k:Nat):Int)),(17,.int .i64 ((k:Nat):Int)),(18,.int .i64 ((p:Nat):Int)),(19,.pointer (some ⟨g,0,none⟩)),(20,.pointer (some ⟨g,0,none⟩)),(21,.pointer (some ⟨g,0,none⟩)),(22,.slice RA n rcap),(23,.int .i64 ((n:Nat):Int)),(24,.bool true),(25,.bool true),(26,.pointer (some ⟨g,0,none⟩)),(27,.pointer (some ⟨g,0,none⟩)),(28,.pointer (some ⟨g,0,none⟩)),(29,.slice RA n rcap),(30,.int .i64 ((p:Nat):Int)),(31,.pointer (some pz6)),(32,.slice (ra (ps.getD p 0)) n (rc (ps.getD p 0))),(33,.int .i64 ((k:Nat):Int)),(34,.pointer (some pz7)),(35,.agg #[.bool sz7,.slice Bz7 nz7 cz7]),(36,.int .i64 (scmp (Z (ps.getD p 0) k) 0)),(37,.bool false),(38,.bool false),(41,.int .i64 ((p:Nat):Int)),(42,.pointer (some ⟨g,0,none⟩)),(43,.pointer (some ⟨g,0,none⟩)),(44,.pointer (some ⟨g,0,none⟩)),(45,.slice RA n rcap),(46,.int .i64 ((n:Nat):Int)),(47,.bool false),(48,.int .i64 ((p:Nat):Int)),(49,.int .i64 ((k:Nat):Int)),(50,.bool true),(51,.pointer (some ⟨g,0,none⟩)),(52,.pointer (some ⟨g,0,none⟩)),(53,.pointer (some ⟨g,0,none⟩)),(54,.slice RA n rcap),(55,.int .i64 ((p:Nat):Int)),(56,.pointer (some ⟨g,0,none⟩)),(57,.pointer (some ⟨g,0,none⟩)),(58,.pointer (some ⟨g,0,none⟩)),(59,.slice RA n rcap),(60,.int .i64 ((k:Nat):Int)),(61,.pointer (some ⟨g,0,none⟩)),(62,.pointer (some ⟨g,0,none⟩)),(63,.pointer (some ⟨g,0,none⟩)),(64,.slice RA n rcap),(65,.int .i64 ((k:Nat):Int)),(66,.pointer (some pz13)),(67,.slice (ra (ps.getD k 0)) n (rc (ps.getD k 0))),(68,.pointer (some ⟨g,0,none⟩)),(69,.pointer (some ⟨g,0,none⟩)),(70,.pointer (some ⟨g,0,none⟩)),(71,.slice RA n rcap),(72,.int .i64 ((p:Nat):Int)),(73,.pointer (some pz6)),(74,.slice (ra (ps.getD p 0)) n (rc (ps.getD p 0))),(75,.pointer (some pz6)),(76,.pointer (some pz19)),(77,.pointer (some ⟨g,0,none⟩)),(78,.pointer (some ⟨g,0,none⟩)),(79,.pointer (some ⟨g,1,none⟩)),(80,.slice NA n ncap),(81,.int .i64 ((p:Nat):Int)),(82,.pointer (some ⟨g,0,none⟩)),(83,.pointer (some ⟨g,0,none⟩)),(84,.pointer (some ⟨g,1,none⟩)),(85,.slice NA n ncap),(86,.int .i64 ((k:Nat):Int)),(87,.pointer (some ⟨g,0,none⟩)),(88,.pointer (some ⟨g,0,none⟩)),(89,.pointer (some ⟨g,1,none⟩)),(90,.slice NA n ncap),(91,.int .i64 ((k:Nat):Int)),(92,.pointer (some pz27)),(93,.int .i64 (ns.getD k 0)),(94,.pointer (some ⟨g,0,none⟩)),(95,.pointer (some ⟨g,0,none⟩)),(96,.pointer (some ⟨g,1,none⟩)),(97,.slice NA n ncap),(98,.int .i64 ((p:Nat):Int)),(99,.pointer (some pz28)),(100,.int .i64 (ns.getD p 0)),(101,.pointer (some pz28)),(102,.pointer (some pz34)),(103,.pointer (some ⟨g,0,none⟩)),(104,.pointer (some ⟨g,0,none⟩)),(105,.pointer (some ⟨g,0,none⟩)),(106,.pointer (some ⟨g,2,none⟩)),(107,.bool tu),(108,.bool (!tu)),(109,.pointer (some ⟨g,0,none⟩)),(110,.pointer (some ⟨g,2,none⟩)),(111,.pointer (some ⟨g,0,none⟩)),(112,.pointer (some ⟨g,0,none⟩)),(113,.pointer (some ⟨g,0,none⟩)),(114,.slice RA n rcap),(115,.int .i64 ((k:Nat):Int)),(116,.pointer (some pz46)),(117,.slice (ra (qs.getD k 0)) n (rc (qs.getD k 0))),(118,.pointer (some ⟨g,0,none⟩)),(119,.pointer (some ⟨g,0,none⟩)),(120,.pointer (some ⟨g,0,none⟩)),(121,.slice RA n rcap),(122,.int .i64 ((k:Nat):Int)),(123,.int .i64 ((k+1:Nat):Int)),(124,.slice (if rcap=k+1 then RA else RA.map (·.add ((k+1)*1))) (n-(k+1)) (rcap-(k+1))),(125,.int .i64 ((n-(k+1):Nat):Int)),(126,.int .i64 ((t:Nat):Int))] wt rfl ⟨rfl,rfl,rfl,rfl,rfl,rfl,rfl,rfl,rfl,rfl,rfl,rfl,rfl,rfl,rfl,rfl,rfl,rfl,rfl,rfl,rfl,rfl,rfl,rfl,rfl,rfl,rfl,rfl,rfl,rfl,rfl,rfl,rfl,rfl,rfl,rfl,rfl,rfl,rfl,rfl,rfl,rfl,rfl,rfl,rfl,rfl,rfl,rfl,rfl,rfl,rfl,rfl,rfl,rfl,rfl,rfl,rfl,rfl,rfl,rfl,rfl,rfl,rfl,rfl,rfl,rfl,rfl,rfl,rfl,rfl,rfl,rfl,rfl,rfl,rfl,rfl,rfl,rfl,rfl,rfl,rfl,rfl,rfl,rfl,rfl,rfl,rfl,rfl,rfl,rfl,rfl,rfl,rfl,rfl,rfl,rfl,rfl,rfl,rfl,rfl,rfl,rfl,rfl,rfl,rfl,rfl,rfl,rfl,rfl,rfl,rfl,rfl,rfl,rfl,rfl,rfl,rfl,rfl,trivial⟩ (cw_seq ?_)
    by_cases htn:t<n-(k+1)
    · 
     refine cw_region (wl_cmp rfl rfl rfl true (cb_lt_t (a:=t) (b:=n-(k+1)) rfl rfl (by omega)) (by decide) (ne_ (cw_seq (cw_true rfl (cw_skip (eo_then (cw_seq (cw_block (sr ?_)))))))))
     obtain⟨pz47,hpz47,hcz47⟩:=(o_RAwt).rowTail (lo:=k+1) (i:=t) (by omega)
     refine wl_idx rfl rfl rfl unRows szInts t rfl (by omega) pz47 hpz47 (by decide) (wl_load rfl rfl (load_cell1 cellInts hcz47) (by decide) (mv 1 rfl (ne_ (sr (mv 2 rfl ?_)))))
     obtain⟨pz48,sz48,Bz48,nz48,cz48,hpz48,ldz48,hKz48,zz48⟩:=(rc_wt).at (hI.per.lt (k+1+t) (by omega)) (show k<n by omega)
     refine wl_idx rfl rfl rfl elemI aggInt.size k rfl (by omega) pz48 hpz48 (by decide) (wl_load rfl rfl (ldz48 _ (Ext.refl _) _ _ aggInt) (by decide) (wl_alloc rfl (z:= .agg #[F0,S0]) (vs:= [F0,S0]) (fun _=>by kernel_rfl) rfl (by decide) fun g49 v50 nb=>?_))
     have hb52:=nb.bk
     have ge53:w.heap.size≤g49:=by rw [←nb.at_];exact hw1.size
     have q54:g<g49:=by rw [←nb.at_];exact b_g.lt
     have ne55:∀p:Addr,RA=some p→p.block≠g49:=fun p hp=>by have:=((o_RAwt).block p hp).2;have:=nb.at_;omega
     have ne56:∀p:Addr,NA=some p→p.block≠g49:=fun p hp=>by have:=((o_NAwt).block p hp).2;have:=nb.at_;omega
     have nr57:∀r,r<n→∀p:Addr,ra r=some p→p.block≠g49:=fun r hr p hp=>by have:=((rc_wt).lt r hr p hp).2;have:=nb.at_;omega
     have e51:=nb.ext
     clear nb
     have hw2:Bl lb w v50:=hw1.ext e51
     refine wl_stored rfl rfl rfl aggInt rfl hb52 (bq rfl) rfl [.bool sz48,.slice Bz48 nz48 cz48] rfl fun v58 hb60 u61 hs62=>?_
     have hw3:Bl lb w v58:=hw2.upd u61 (Nat.le_trans hlb ge53)
     refine ne_ (cw_seq (sr (mv 1 rfl (wl_ar rfl rfl rfl ((k+1:Nat):Int) (ai_add (a:=k) (b:=1) rfl rfl (by omega)) (by decide) (mv 1 rfl (ne_ (cw_block ?_)))))))
     refine cw_loop (T:=World×Nat×Mx) (fun⟨wj,j,V⟩=> [(0,.pointer (some ⟨g,0,none⟩)),(1,.int .i64 ((k:Nat):Int)),(4,.bool false),(5,.int .i64 ((k:Nat):Int)),(6,.int .i64 ((p:Nat):Int)),(7,.slice (ra (qs.getD k 0)) n (rc (qs.getD k 0))),(9,.slice (ra (qs.getD (k+1+t) 0)) n (rc (qs.getD (k+1+t) 0))),(10,.pointer (some ⟨g49,0,none⟩)),(11,.int .i64 ((j:Nat):Int)),(13,.pointer (some ⟨g,0,none⟩)),(14,.pointer (some ⟨g,0,none⟩)),(15,.pointer (some ⟨g,5,none⟩)),(16,.int .i64 ((k:Nat):Int)),(17,.int .i64 ((k:Nat):Int)),(18,.int .i64 ((p:Nat):Int)),(19,.pointer (some ⟨g,0,none⟩)),(20,.pointer (some ⟨g,0,none⟩)),(21,.pointer (some ⟨g,0,none⟩)),(22,.slice RA n rcap),(23,.int .i64 ((n:Nat):Int)),(24,.bool true),(25,.bool true),(26,.pointer (some ⟨g,0,none⟩)),(27,.pointer (some ⟨g,0,none⟩)),(28,.pointer (some ⟨g,0,none⟩)),(29,.slice RA n rcap),(30,.int .i64 ((p:Nat):Int)),(31,.pointer (some pz6)),(32,.slice (ra (ps.getD p 0)) n (rc (ps.getD p 0))),(33,.int .i64 ((k:Nat):Int)),(34,.pointer (some pz7)),(35,.agg #[.bool sz7,.slice Bz7 nz7 cz7]),(36,.int .i64 (scmp (Z (ps.getD p 0) k) 0)),(37,.bool false),(38,.bool false),(41,.int .i64 ((p:Nat):Int)),(42,.pointer (some ⟨g,0,none⟩)),(43,.pointer (some ⟨g,0,none⟩)),(44,.pointer (some ⟨g,0,none⟩)),(45,.slice RA n rcap),(46,.int .i64 ((n:Nat):Int)),(47,.bool false),(48,.int .i64 ((p:Nat):Int)),(49,.int .i64 ((k:Nat):Int)),(50,.bool true),(51,.pointer (some ⟨g,0,none⟩)),(52,.pointer (some ⟨g,0,none⟩)),(53,.pointer (some ⟨g,0,none⟩)),(54,.slice RA n rcap),(55,.int .i64 ((p:Nat):Int)),(56,.pointer (some ⟨g,0,none⟩)),(57,.pointer (some ⟨g,0,none⟩)),(58,.pointer (some ⟨g,0,none⟩)),(59,.slice RA n rcap),(60,.int .i64 ((k:Nat):Int)),(61,.pointer (some ⟨g,0,none⟩)),(62,.pointer (some ⟨g,0,none⟩)),(63,.pointer (some ⟨g,0,none⟩)),(64,.slice RA n rcap),(65,.int .i64 ((k:Nat):Int)),(66,.pointer (some pz13)),(67,.slice (ra (ps.getD k 0)) n (rc (ps.getD k 0))),(68,.pointer (some ⟨g,0,none⟩)),(69,.pointer (some ⟨g,0,none⟩)),(70,.pointer (some ⟨g,0,none⟩)),(71,.slice RA n rcap),(72,.int .i64 ((p:Nat):Int)),(73,.pointer (some pz6)),(74,.slice (ra (ps.getD p 0)) n (rc (ps.getD p 0))),(75,.pointer (some pz6)),(76,.pointer (some pz19)),(77,.pointer (some ⟨g,0,none⟩)),(78,.pointer (some ⟨g,0,none⟩)),(79,.pointer (some ⟨g,1,none⟩)),(80,.slice NA n ncap),(81,.int .i64 ((p:Nat):Int)),(82,.pointer (some ⟨g,0,none⟩)),(83,.pointer (some ⟨g,0,none⟩)),(84,.pointer (some ⟨g,1,none⟩)),(85,.slice NA n ncap),(86,.int .i64 ((k:Nat):Int)),(87,.pointer (some ⟨g,0,none⟩)),(88,.pointer (some ⟨g,0,none⟩)),(89,.pointer (some ⟨g,1,none⟩)),(90,.slice NA n ncap),(91,.int .i64 ((k:Nat):Int)),(92,.pointer (some pz27)),(93,.int .i64 (ns.getD k 0)),(94,.pointer (some ⟨g,0,none⟩)),(95,.pointer (some ⟨g,0,none⟩)),(96,.pointer (some ⟨g,1,none⟩)),(97,.slice NA n ncap),(98,.int .i64 ((p:Nat):Int)),(99,.pointer (some pz28)),(100,.int .i64 (ns.getD p 0)),(101,.pointer (some pz28)),(102,.pointer (some pz34)),(103,.pointer (some ⟨g,0,none⟩)),(104,.pointer (some ⟨g,0,none⟩)),(105,.pointer (some ⟨g,0,none⟩)),(106,.pointer (some ⟨g,2,none⟩)),(107,.bool tu),(108,.bool (!tu)),(109,.pointer (some ⟨g,0,none⟩)),(110,.pointer (some ⟨g,2,none⟩)),(111,.pointer (some ⟨g,0,none⟩)),(112,.pointer (some ⟨g,0,none⟩)),(113,.pointer (some ⟨g,0,none⟩)),(114,.slice RA n rcap),(115,.int .i64 ((k:Nat):Int)),(116,.pointer (some pz46)),(117,.slice (ra (qs.getD k 0)) n (rc (qs.getD k 0))),(118,.pointer (some ⟨g,0,none⟩)),(119,.pointer (some ⟨g,0,none⟩)),(120,.pointer (some ⟨g,0,none⟩)),(121,.slice RA n rcap),(122,.int .i64 ((k:Nat):Int)),(123,.int .i64 ((k+1:Nat):Int)),(124,.slice (if rcap=k+1 then RA else RA.map (·.add ((k+1)*1))) (n-(k+1)) (rcap-(k+1))),(125,.int .i64 ((n-(k+1):Nat):Int)),(126,.int .i64 ((t:Nat):Int)),(127,.bool true),(128,.pointer (some pz47)),(129,.slice (ra (qs.getD (k+1+t) 0)) n (rc (qs.getD (k+1+t) 0))),(130,.slice (ra (qs.getD (k+1+t) 0)) n (rc (qs.getD (k+1+t) 0))),(131,.int .i64 ((k:Nat):Int)),(132,.pointer (some pz48)),(133,.agg #[.bool sz48,.slice Bz48 nz48 cz48]),(134,.int .i64 ((k:Nat):Int)),(135,.int .i64 ((k+1:Nat):Int))]) (fun⟨wj,j,V⟩=>wj) (fun⟨wj,j,V⟩=>(Bl lb w wj)∧(j≤n)∧(Bk wj g 73 [.slice RA n rcap,.slice NA n ncap,.bool (!tu),.bool sl,.slice Al nl cl,.int .i64 ((k:Nat):Int)])∧(Zr wj 0 sl Al nl cl (z))∧(Bk wj g49 34 [.bool sz48,.slice Bz48 nz48 cz48])∧(Zr wj 0 sz48 Bz48 nz48 cz48 (Y (qs.getD (k+1+t) 0) k))∧(Own wj lb 22 1 RA n rcap (qs.map (rwv ra rc n)))∧(Own wj lb 3 1 NA n ncap (((ns.set p (ns.getD k 0)).set k (ns.getD p 0)).map I64))∧(Rcs 17179869184 lb n n ra rc wj V)∧(k<j)∧(Mid n k (pr X qs) qs V (k+1+t) j)) (fun⟨wj,j,V⟩=>n-j)
      (⟨v58,(k+1),Y⟩:World×Nat×Mx) ⟨hw3,(by omega),((b_g.ext e51).updN u61 (by omega)),((z_g_1.ext e51).updT hb52 u61),hb60,((zz48.ext e51).updT hb52 u61),((o_RAwt.ext e51).upd u61 ne55),((o_NAwt.ext e51).upd u61 ne56),((rc_wt.ext e51).updT hb52 u61 nr57),(by omega),hM⟩ rfl ⟨rfl,rfl,rfl,rfl,rfl,rfl,rfl,rfl,rfl,rfl,rfl,rfl,rfl,rfl,rfl,rfl,rfl,rfl,rfl,rfl,rfl,rfl,rfl,rfl,rfl,rfl,rfl,rfl,rfl,rfl,rfl,rfl,rfl,rfl,rfl,rfl,rfl,rfl,rfl,rfl,rfl,rfl,rfl,rfl,rfl,rfl,rfl,rfl,rfl,rfl,rfl,rfl,rfl,rfl,rfl,rfl,rfl,rfl,rfl,rfl,rfl,rfl,rfl,rfl,rfl,rfl,rfl,rfl,rfl,rfl,rfl,rfl,rfl,rfl,rfl,rfl,rfl,rfl,rfl,rfl,rfl,rfl,rfl,rfl,rfl,rfl,rfl,rfl,rfl,rfl,rfl,rfl,rfl,rfl,rfl,rfl,rfl,rfl,rfl,rfl,rfl,rfl,rfl,rfl,rfl,rfl,rfl,rfl,rfl,rfl,rfl,rfl,rfl,rfl,rfl,rfl,rfl,rfl,rfl,rfl,rfl,rfl,rfl,rfl,rfl,rfl,rfl,rfl,rfl,rfl,trivial⟩ ?_
     rintro⟨wj,j,V⟩ ⟨hw1,hi_j,b_g,z_g_1,b_g49,z_g49,o_RAwj,o_NAwj,rc_wj,hj1,hMV⟩
     refine cw_re [(0,.pointer (some ⟨g,0,none⟩)),(1,.int .i64 ((k:Nat):Int)),(4,.bool false),(5,.int .i64 ((k:Nat):Int)),(6,.int .i64 ((p:Nat):Int)),(7,.slice (ra (qs.getD k 0)) n (rc (qs.getD k 0))),(9,.slice (ra (qs.getD (k+1+t) 0)) n (rc (qs.getD (k+1+t) 0))),(10,.pointer (some ⟨g49,0,none⟩)),(11,.int .i64 ((j:Nat):Int)),(13,.pointer (some ⟨g,0,none⟩)),(14,.pointer (some ⟨g,0,none⟩)),(15,.pointer (some ⟨g,5,none⟩)),(16,.int .i64 ((k:Nat):Int)),(17,.int .i64 ((k:Nat):Int)),(18,.int .i64 ((p:Nat):Int)),(19,.pointer (some ⟨g,0,none⟩)),(20,.pointer (some ⟨g,0,none⟩)),(21,.pointer (some ⟨g,0,none⟩)),(22,.slice RA n rcap),(23,.int .i64 ((n:Nat):Int)),(24,.bool true),(25,.bool true),(26,.pointer (some ⟨g,0,none⟩)),(27,.pointer (some ⟨g,0,none⟩)),(28,.pointer (some ⟨g,0,none⟩)),(29,.slice RA n rcap),(30,.int .i64 ((p:Nat):Int)),(31,.pointer (some pz6)),(32,.slice (ra (ps.getD p 0)) n (rc (ps.getD p 0))),(33,.int .i64 ((k:Nat):Int)),(34,.pointer (some pz7)),(35,.agg #[.bool sz7,.slice Bz7 nz7 cz7]),(36,.int .i64 (scmp (Z (ps.getD p 0) k) 0)),(37,.bool false),(38,.bool false),(41,.int .i64 ((p:Nat):Int)),(42,.pointer (some ⟨g,0,none⟩)),(43,.pointer (some ⟨g,0,none⟩)),(44,.pointer (some ⟨g,0,none⟩)),(45,.slice RA n rcap),(46,.int .i64 ((n:Nat):Int)),(47,.bool false),(48,.int .i64 ((p:Nat):Int)),(49,.int .i64 ((k:Nat):Int)),(50,.bool true),(51,.pointer (some ⟨g,0,none⟩)),(52,.pointer (some ⟨g,0,none⟩)),(53,.pointer (some ⟨g,0,none⟩)),(54,.slice RA n rcap),(55,.int .i64 ((p:Nat):Int)),(56,.pointer (some ⟨g,0,none⟩)),(57,.pointer (some ⟨g,0,none⟩)),(58,.pointer (some ⟨g,0,none⟩)),(59,.slice RA n rcap),(60,.int .i64 ((k:Nat):Int)),(61,.pointer (some ⟨g,0,none⟩)),(62,.pointer (some ⟨g,0,none⟩)),(63,.pointer (some ⟨g,0,none⟩)),(64,.slice RA n rcap),(65,.int .i64 ((k:Nat):Int)),(66,.pointer (some pz13)),(67,.slice (ra (ps.getD k 0)) n (rc (ps.getD k 0))),(68,.pointer (some ⟨g,0,none⟩)),(69,.pointer (some ⟨g,0,none⟩)),(70,.pointer (some ⟨g,0,none⟩)),(71,.slice RA n rcap),(72,.int .i64 ((p:Nat):Int)),(73,.pointer (some pz6)),(74,.slice (ra (ps.getD p 0)) n (rc (ps.getD p 0))),(75,.pointer (some pz6)),(76,.pointer (some pz19)),(77,.pointer (some ⟨g,0,none⟩)),(78,.pointer (some ⟨g,0,none⟩)),(79,.pointer (some ⟨g,1,none⟩)),(80,.slice NA n ncap),(81,.int .i64 ((p:Nat):Int)),(82,.pointer (some ⟨g,0,none⟩)),(83,.pointer (some ⟨g,0,none⟩)),(84,.pointer (some ⟨g,1,none⟩)),(85,.slice NA n ncap),(86,.int .i64 ((k:Nat):Int)),(87,.pointer (some ⟨g,0,none⟩)),(88,.pointer (some ⟨g,0,none⟩)),(89,.pointer (some ⟨g,1,none⟩)),(90,.slice NA n ncap),(91,.int .i64 ((k:Nat):Int)),(92,.pointer (some pz27)),(93,.int .i64 (ns.getD k 0)),(94,.pointer (some ⟨g,0,none⟩)),(95,.pointer (some ⟨g,0,none⟩)),(96,.pointer (some ⟨g,1,none⟩)),(97,.slice NA n ncap),(98,.int .i64 ((p:Nat):Int)),(99,.pointer (some pz28)),(100,.int .i64 (ns.getD p 0)),(101,.pointer (some pz28)),(102,.pointer (some pz34)),(103,.pointer (some ⟨g,0,none⟩)),(104,.pointer (some ⟨g,0,none⟩)),(105,.pointer (some ⟨g,0,none⟩)),(106,.pointer (some ⟨g,2,none⟩)),(107,.bool tu),(108,.bool (!tu)),(109,.pointer (some ⟨g,0,none⟩)),(110,.pointer (some ⟨g,2,none⟩)),(111,.pointer (some ⟨g,0,none⟩)),(112,.pointer (some ⟨g,0,none⟩)),(113,.pointer (some ⟨g,0,none⟩)),(114,.slice RA n rcap),(115,.int .i64 ((k:Nat):Int)),(116,.pointer (some pz46)),(117,.slice (ra (qs.getD k 0)) n (rc (qs.getD k 0))),(118,.pointer (some ⟨g,0,none⟩)),(119,.pointer (some ⟨g,0,none⟩)),(120,.pointer (some ⟨g,0,none⟩)),(121,.slice RA n rcap),(122,.int .i64 ((k:Nat):Int)),(123,.int .i64 ((k+1:Nat):Int)),(124,.slice (if rcap=k+1 then RA else RA.map (·.add ((k+1)*1))) (n-(k+1)) (rcap-(k+1))),(125,.int .i64 ((n-(k+1):Nat):Int)),(126,.int .i64 ((t:Nat):Int)),(127,.bool true),(128,.pointer (some pz47)),(129,.slice (ra (qs.getD (k+1+t) 0)) n (rc (qs.getD (k+1+t) 0))),(130,.slice (ra (qs.getD (k+1+t) 0)) n (rc (qs.getD (k+1+t) 0))),(131,.int .i64 ((k:Nat):Int)),(132,.pointer (some pz48)),(133,.agg #[.bool sz48,.slice Bz48 nz48 cz48]),(134,.int .i64 ((k:Nat):Int)),(135,.int .i64 ((k+1:Nat):Int))] wj rfl ⟨rfl,rfl,rfl,rfl,rfl,rfl,rfl,rfl,rfl,rfl,rfl,rfl,rfl,rfl,rfl,rfl,rfl,rfl,rfl,rfl,rfl,rfl,rfl,rfl,rfl,rfl,rfl,rfl,rfl,rfl,rfl,rfl,rfl,rfl,rfl,rfl,rfl,rfl,rfl,rfl,rfl,rfl,rfl,rfl,rfl,rfl,rfl,rfl,rfl,rfl,rfl,rfl,rfl,rfl,rfl,rfl,rfl,rfl,rfl,rfl,rfl,rfl,rfl,rfl,rfl,rfl,rfl,rfl,rfl,rfl,rfl,rfl,rfl,rfl,rfl,rfl,rfl,rfl,rfl,rfl,rfl,rfl,rfl,rfl,rfl,rfl,rfl,rfl,rfl,rfl,rfl,rfl,rfl,rfl,rfl,rfl,rfl,rfl,rfl,rfl,rfl,rfl,rfl,rfl,rfl,rfl,rfl,rfl,rfl,rfl,rfl,rfl,rfl,rfl,rfl,rfl,rfl,rfl,rfl,rfl,rfl,rfl,rfl,rfl,rfl,rfl,rfl,rfl,rfl,rfl,trivial⟩ (cw_seq (cw_seq ?_))
     by_cases hjn:j<n
     · 
      refine cw_region (mv 2 rfl (pu (v:= .int .i64 ((n:Nat):Int)) rfl (by kernel_rfl) (wl_cmp rfl rfl rfl true (cb_lt_t (a:=j) (b:=n) rfl rfl (by omega)) (by decide) (ne_ (cw_true rfl (cw_skip (eo_then (cw_seq (cw_block (cw_seq ?_))))))))))
      obtain⟨pz63,sz63,Bz63,nz63,cz63,hpz63,ldz63,hKz63,zz63⟩:=(rc_wj).at (hI.per.lt k (by omega)) (show k<n by omega)
      obtain⟨pz64,sz64,Bz64,nz64,cz64,hpz64,ldz64,hKz64,zz64⟩:=(rc_wj).at (hI.per.lt (k+1+t) (by omega)) (show j<n by omega)
      have L65:ln ((V (qs.getD k 0) k)*(V (qs.getD (k+1+t) 0) j))≤34359738368:=Nat.le_trans (ln_mul (zz63.ln_le hKz63) (zz64.ln_le hKz64)) (by decide)
      obtain⟨pz67,sz67,Bz67,nz67,cz67,hpz67,ldz67,hKz67,zz67⟩:=(rc_wj).at (hI.per.lt k (by omega)) (show j<n by omega)
      have L68:ln ((Y (qs.getD (k+1+t) 0) k)*(V (qs.getD k 0) j))≤34359738368:=Nat.le_trans (ln_mul (zz48.ln_le hKz48) (zz67.ln_le hKz67)) (by decide)
      have L70:ln (((V (qs.getD k 0) k)*(V (qs.getD (k+1+t) 0) j))-((Y (qs.getD (k+1+t) 0) k)*(V (qs.getD k 0) j)))≤34359738369:=Nat.le_trans (ln_sub L65 L68) (by decide)
      refine cw_draw mix 17 [] [Is (.slice (ra (qs.getD k 0)) n (rc (qs.getD k 0))),Is (.int .i64 ((k:Nat):Int)),Is (.pointer (some pz63)),Is (.agg #[.bool sz63,.slice Bz63 nz63 cz63]),Is (.slice (ra (qs.getD (k+1+t) 0)) n (rc (qs.getD (k+1+t) 0))),Is (.int .i64 ((j:Nat):Int)),Is (.pointer (some pz64)),Is (.agg #[.bool sz64,.slice Bz64 nz64 cz64]),ZR w.heap.size ((V (qs.getD k 0) k)*(V (qs.getD (k+1+t) 0) j)),Is (.agg #[.bool sz48,.slice Bz48 nz48 cz48]),Is (.slice (ra (qs.getD k 0)) n (rc (qs.getD k 0))),Is (.int .i64 ((j:Nat):Int)),Is (.pointer (some pz67)),Is (.agg #[.bool sz67,.slice Bz67 nz67 cz67]),ZR w.heap.size ((Y (qs.getD (k+1+t) 0) k)*(V (qs.getD k 0) j)),ZR w.heap.size (((V (qs.getD k 0) k)*(V (qs.getD (k+1+t) 0) j))-((Y (qs.getD (k+1+t) 0) k)*(V (qs.getD k 0) j))),PR wj.heap.size 34 [F0,S0]] [[],[],[0,1],[2],[],[],[4,5],[6],[3,7],[],[],[],[10,11],[12],[9,13],[8,14],[]] [[],[],[0,1],[0,1,2],[],[],[4,5],[4,5,6],[0,1,2,3,4,5,6,7],[],[],[],[10,11],[10,11,12],[0,1,2,3,4,5,6,7,8,9,10,11,12,13],[0,1,2,3,4,5,6,7,8,9,10,11,12,13,14],[],[0,1,2,3,4,5,6,7,8,9,10,11,12,13,14,15,16]] rfl
       (obs_cons rfl rfl (hob rfl rfl ?_) (obs_cons rfl rfl (hob rfl rfl ?_) (obs_cons rfl rfl (hob rfl rfl ?_) (obs_cons rfl rfl (hob rfl rfl ?_) (obs_cons rfl rfl (hob rfl rfl ?_) (obs_cons rfl rfl (hob rfl rfl ?_) (obs_cons rfl rfl (hob rfl rfl ?_) (obs_cons rfl rfl (hob rfl rfl ?_) (obs_cons rfl rfl (hob rfl rfl ?_) (obs_cons rfl rfl (hob rfl rfl ?_) (obs_cons rfl rfl (hob rfl rfl ?_) (obs_cons rfl rfl (hob rfl rfl ?_) (obs_cons rfl rfl (hob rfl rfl ?_) (obs_cons rfl rfl (hob rfl rfl ?_) (obs_cons rfl rfl (hob rfl rfl ?_) (obs_cons rfl rfl (hob rfl rfl ?_) (obs_cons rfl rfl (hob rfl rfl ?_) obs_nil))))))))))))))))) ?_
      · 
       intro v72 e73
       have hw2:Bl lb w v72:=hw1.ext e73
       refine deps_nil (mv 1 rfl ?_)
       exact pi_done rfl (Ext.refl _) rfl
      · 
       intro v74 e75
       have hw2:Bl lb w v74:=hw1.ext e75
       refine deps_nil (mv 1 rfl ?_)
       exact pi_done rfl (Ext.refl _) rfl
      · 
       intro v76 e77
       have hw2:Bl lb w v76:=hw1.ext e77
       refine dk rfl rfl (dk rfl rfl (deps_nil (wl_idx rfl rfl rfl elemI aggInt.size k rfl (by omega) pz63 hpz63 (by decide) ?_)))
       exact pi_done rfl (Ext.refl _) rfl
      · 
       intro v88 e89
       have hw2:Bl lb w v88:=hw1.ext e89
       refine dk rfl rfl (deps_nil (wl_load rfl rfl (ldz63 _ e89 _ _ aggInt) (by decide) ?_))
       exact pi_done rfl (Ext.refl _) rfl
      · 
       intro v95 e96
       have hw2:Bl lb w v95:=hw1.ext e96
       refine deps_nil (mv 1 rfl ?_)
       exact pi_done rfl (Ext.refl _) rfl
      · 
       intro v97 e98
       have hw2:Bl lb w v97:=hw1.ext e98
       refine deps_nil (mv 1 rfl ?_)
       exact pi_done rfl (Ext.refl _) rfl
      · 
       intro v99 e100
       have hw2:Bl lb w v99:=hw1.ext e100
       refine dk rfl rfl (dk rfl rfl (deps_nil (wl_idx rfl rfl rfl elemI aggInt.size j rfl (by omega) pz64 hpz64 (by decide) ?_)))
       exact pi_done rfl (Ext.refl _) rfl
      · 
       intro v111 e112
       have hw2:Bl lb w v111:=hw1.ext e112
       refine dk rfl rfl (deps_nil (wl_load rfl rfl (ldz64 _ e112 _ _ aggInt) (by decide) ?_))
       exact pi_done rfl (Ext.refl _) rfl
      · 
       intro v118 e119
       have hw2:Bl lb w v118:=hw1.ext e119
       refine dk rfl rfl (dk rfl rfl (deps_nil ?_))
       have L130:ln ((V (qs.getD k 0) k)*(V (qs.getD (k+1+t) 0) j))≤34359738368:=Nat.le_trans (ln_mul (zz63.ln_le hKz63) (zz64.ln_le hKz64)) (by decide)
       refine wl_call rfl rfl (vs:= [.agg #[.bool sz63,.slice Bz63 nz63 cz63],.agg #[.bool sz64,.slice Bz64 nz64 cz64]]) (by kernel_rfl) (by decide) (g_zint_Mul hw2.size (zz63.ext e119).zi (zz63.le (Nat.le_trans (zz63.ln_le hKz63) (by decide))) (zz64.ext e119).zi (zz64.le (Nat.le_trans (zz64.ln_le hKz64) (by decide)))) ?_
       rintro _ v131 ⟨xr133,rfl,r133,e132⟩
       refine ret_intro ?_
       have hw3:Bl lb w v131:=hw2.ext e132
       obtain⟨s134,A134,n134,c134,rfl,z134⟩:=r133
       exact pi_done rfl e132 ⟨_,_,_,_,rfl,z134⟩
      · 
       intro v135 e136
       have hw2:Bl lb w v135:=hw1.ext e136
       refine deps_nil (lo aggInt (b_g49.ext e136) [.bool sz48,.slice Bz48 nz48 cz48] rfl rfl rfl ?_)
       exact pi_done rfl (Ext.refl _) rfl
      · 
       intro v137 e138
       have hw2:Bl lb w v137:=hw1.ext e138
       refine deps_nil (mv 1 rfl ?_)
       exact pi_done rfl (Ext.refl _) rfl
      · 
       intro v139 e140
       have hw2:Bl lb w v139:=hw1.ext e140
       refine deps_nil (mv 1 rfl ?_)
       exact pi_done rfl (Ext.refl _) rfl
      · 
       intro v141 e142
       have hw2:Bl lb w v141:=hw1.ext e142
       refine dk rfl rfl (dk rfl rfl (deps_nil (wl_idx rfl rfl rfl elemI aggInt.size j rfl (by omega) pz67 hpz67 (by decide) ?_)))
       exact pi_done rfl (Ext.refl _) rfl
      · 
       intro v153 e154
       have hw2:Bl lb w v153:=hw1.ext e154
       refine dk rfl rfl (deps_nil (wl_load rfl rfl (ldz67 _ e154 _ _ aggInt) (by decide) ?_))
       exact pi_done rfl (Ext.refl _) rfl
      · 
       intro v160 e161
       have hw2:Bl lb w v160:=hw1.ext e161
       refine dk rfl rfl (dk rfl rfl (deps_nil ?_))
       have L172:ln ((Y (qs.getD (k+1+t) 0) k)*(V (qs.getD k 0) j))≤34359738368:=Nat.le_trans (ln_mul (zz48.ln_le hKz48) (zz67.ln_le hKz67)) (by decide)
       refine wl_call rfl rfl (vs:= [.agg #[.bool sz48,.slice Bz48 nz48 cz48],.agg #[.bool sz67,.slice Bz67 nz67 cz67]]) (by kernel_rfl) (by decide) (g_zint_Mul hw2.size (z_g49.ext e161).zi (z_g49.le (Nat.le_trans (zz48.ln_le hKz48) (by decide))) (zz67.ext e161).zi (zz67.le (Nat.le_trans (zz67.ln_le hKz67) (by decide)))) ?_
       rintro _ v173 ⟨xr175,rfl,r175,e174⟩
       refine ret_intro ?_
       have hw3:Bl lb w v173:=hw2.ext e174
       obtain⟨s176,A176,n176,c176,rfl,z176⟩:=r175
       exact pi_done rfl e174 ⟨_,_,_,_,rfl,z176⟩
      · 
       intro v177 e178
       have hw2:Bl lb w v177:=hw1.ext e178
       refine deps_cons rfl rfl fun x179 y180 h181 e182 f183=>?_
       obtain⟨s184,A184,n184,c184,rfl,z184⟩:=h181
       have z184:=z184.ext f183
       refine deps_cons rfl rfl fun x185 y186 h187 e188 f189=>?_
       obtain⟨s190,A190,n190,c190,rfl,z190⟩:=h187
       have z190:=z190.ext f189
       refine deps_nil ?_
       have L191:ln (((V (qs.getD k 0) k)*(V (qs.getD (k+1+t) 0) j))-((Y (qs.getD (k+1+t) 0) k)*(V (qs.getD k 0) j)))≤34359738369:=Nat.le_trans (ln_sub L65 L68) (by decide)
       refine wl_call rfl rfl (vs:= [.agg #[.bool s184,.slice A184 n184 c184],.agg #[.bool s190,.slice A190 n190 c190]]) (by kernel_rfl) (by decide) (g_zint_Sub hw2.size z184.zi (z184.le (lx_ L65 rfl)) z190.zi (z190.le (lx_ L68 rfl))) ?_
       rintro _ v192 ⟨xr194,rfl,r194,e193⟩
       refine ret_intro ?_
       have hw3:Bl lb w v192:=hw2.ext e193
       obtain⟨s195,A195,n195,c195,rfl,z195⟩:=r194
       exact pi_done rfl e193 ⟨_,_,_,_,rfl,z195⟩
      · 
       intro v196 e197
       have hw2:Bl lb w v196:=hw1.ext e197
       refine deps_nil (wl_alloc rfl (z:= .agg #[F0,S0]) (vs:= [F0,S0]) (fun _=>by kernel_rfl) rfl (by decide) fun g198 v199 nb=>?_)
       exact pi_done rfl nb.ext ⟨_,rfl,by rw [←nb.at_];exact e197.size,nb.bk⟩
      · 
       intro v200 e201
       have hw2:Bl lb w v200:=hw1.ext e201
       refine dk rfl rfl (dk rfl rfl (dk rfl rfl (dk rfl rfl (dk rfl rfl (dk rfl rfl (dk rfl rfl (dk rfl rfl (deps_cons rfl rfl fun x242 y243 h244 e245 f246=>?_))))))))
       obtain⟨s247,A247,n247,c247,rfl,z247⟩:=h244
       have z247:=z247.ext f246
       refine dk rfl rfl (dk rfl rfl (dk rfl rfl (dk rfl rfl (dk rfl rfl (deps_cons rfl rfl fun x273 y274 h275 e276 f277=>?_)))))
       obtain⟨s278,A278,n278,c278,rfl,z278⟩:=h275
       have z278:=z278.ext f277
       refine deps_cons rfl rfl fun x279 y280 h281 e282 f283=>?_
       obtain⟨s284,A284,n284,c284,rfl,z284⟩:=h281
       have z284:=z284.ext f283
       refine deps_cons rfl rfl fun x285 y286 h287 e288 f289=>?_
       obtain⟨g290,rfl,ge292,hb291⟩:=h287
       have hb291:=hb291.ext f289
       have q293:g49<g290:=Nat.lt_of_lt_of_le b_g49.lt ge292
       have ne294:∀p:Addr,RA=some p→p.block≠g290:=fun p hp=>by have:=((o_RAwj).block p hp).2;have:=ge292;omega
       have ne295:∀p:Addr,NA=some p→p.block≠g290:=fun p hp=>by have:=((o_NAwj).block p hp).2;have:=ge292;omega
       have nr296:∀r,r<n→∀p:Addr,ra r=some p→p.block≠g290:=fun r hr p hp=>by have:=((rc_wj).lt r hr p hp).2;have:=ge292;omega
       have ge292:w.heap.size≤g290:=Nat.le_trans hw1.size ge292
       refine deps_nil (wl_stored rfl rfl rfl aggInt rfl hb291 (bq rfl) rfl [.bool s284,.slice A284 n284 c284] rfl fun v297 hb299 u300 hs301=>?_)
       have hw3:Bl lb w v297:=hw2.upd u300 (Nat.le_trans hlb ge292)
       refine wl_nil (eo_np (eo_then ?_))
       have hq:=hMV.quot hI.last hI.ne (by rw [hMV.old (Nat.le_refl _) (by omega) (Nat.le_refl _) (by omega) (Or.inl rfl)];exact hDb) (by omega) (by omega) hj1 hjn (hM.old (a:=k+1+t) (b:=k) (by omega) (by omega) (Nat.le_refl _) (by omega) (Or.inr (Or.inr ⟨rfl,Or.inl rfl⟩)))
       have hLq:ln (bm (pr X qs) (k+1) (k+1+t) j)≤17179869184:=Nat.le_trans (ln_bm hn (pr_ln hI.per hX) (by omega) (by omega) hjn) (by decide)
       obtain⟨pz307,sz307,Bz307,nz307,cz307,hpz307,ldz307,hKz307,zz307⟩:=(((rc_wj.ext e201).updT hb291 u300 nr296)).at (hI.per.lt (k+1+t) (by omega)) (show j<n by omega)
       refine cw_draw mix 12 [9,10] [Is (.slice (ra (qs.getD (k+1+t) 0)) n (rc (qs.getD (k+1+t) 0))),Is (.int .i64 ((j:Nat):Int)),Is (.agg #[.bool s284,.slice A284 n284 c284]),Is (.pointer (some ⟨g,0,none⟩)),Is (.pointer (some ⟨g,0,none⟩)),Is (.pointer (some ⟨g,3,none⟩)),Is (.agg #[.bool sl,.slice Al nl cl]),T2 (ZR w.heap.size (bm (pr X qs) (k+1) (k+1+t) j)) (Is (.int .i64 0)),T2 (ZR w.heap.size (bm (pr X qs) (k+1) (k+1+t) j)) (Is (.int .i64 0)),ZR w.heap.size (bm (pr X qs) (k+1) (k+1+t) j),Is (.int .i64 0),Is (.pointer (some pz307))] [[],[],[],[],[3],[4],[5],[2,6],[7],[8],[8],[0,1]] [[],[],[],[],[3],[3,4],[3,4,5],[2,3,4,5,6],[2,3,4,5,6,7],[2,3,4,5,6,7,8],[2,3,4,5,6,7,8],[0,1,2,3,4,5,6,7,8,9],[0,1,2,3,4,5,6,7,8,9,11]] rfl
        (obs_cons rfl rfl (hob rfl rfl ?_) (obs_cons rfl rfl (hob rfl rfl ?_) (obs_cons rfl rfl (hob rfl rfl ?_) (obs_cons rfl rfl (hob rfl rfl ?_) (obs_cons rfl rfl (hob rfl rfl ?_) (obs_cons rfl rfl (hob rfl rfl ?_) (obs_cons rfl rfl (hob rfl rfl ?_) (obs_cons rfl rfl (hob rfl rfl ?_) (obs_cons rfl rfl (hob rfl rfl ?_) (obs_float rfl rfl (fob rfl ?_) (obs_float rfl rfl (fob rfl ?_) (obs_cons rfl rfl (hob rfl rfl ?_) obs_nil)))))))))))) ?_
       · 
        intro v308 e309
        have hw4:Bl lb w v308:=hw3.ext e309
        refine deps_nil (mv 1 rfl ?_)
        exact pi_done rfl (Ext.refl _) rfl
       · 
        intro v310 e311
        have hw4:Bl lb w v310:=hw3.ext e311
        refine deps_nil (mv 1 rfl ?_)
        exact pi_done rfl (Ext.refl _) rfl
       · 
        intro v312 e313
        have hw4:Bl lb w v312:=hw3.ext e313
        refine deps_nil (lo aggInt (hb299.ext e313) [.bool s284,.slice A284 n284 c284] rfl rfl rfl ?_)
        exact pi_done rfl (Ext.refl _) rfl
       · 
        intro v314 e315
        have hw4:Bl lb w v314:=hw3.ext e315
        refine deps_nil (mv 1 rfl ?_)
        exact pi_done rfl (Ext.refl _) rfl
       · 
        intro v316 e317
        have hw4:Bl lb w v316:=hw3.ext e317
        refine dk rfl rfl (deps_nil (pf g 0 rfl (by kernel_rfl) ?_))
        exact pi_done rfl (Ext.refl _) rfl
       · 
        intro v323 e324
        have hw4:Bl lb w v323:=hw3.ext e324
        refine dk rfl rfl (deps_nil (pf g 3 rfl (by kernel_rfl) ?_))
        exact pi_done rfl (Ext.refl _) rfl
       · 
        intro v330 e331
        have hw4:Bl lb w v330:=hw3.ext e331
        refine dk rfl rfl (deps_nil (lo aggInt (((b_g.ext e201).updN u300 (by omega)).ext e331) [.bool sl,.slice Al nl cl] rfl rfl rfl ?_))
        exact pi_done rfl (Ext.refl _) rfl
       · 
        intro v337 e338
        have hw4:Bl lb w v337:=hw3.ext e338
        refine dk rfl rfl (dk rfl rfl (deps_nil (wl_call rfl rfl (vs:= [.agg #[.bool s284,.slice A284 n284 c284],.agg #[.bool sl,.slice Al nl cl]]) (by kernel_rfl) (by decide) ((g_zint_Exact hw4.size ((z284.updT hb291 u300).ext e338).zi (z284.le (lx_ L70 rfl)) (((z_g_1.ext e201).updT hb291 u300).ext e338).zi (z_g_1.le (lx_ hLz rfl)) hI.ne ⟨_,hq.1⟩).mono (Gv.imp (T2.imp (fun _ _ h=>ZR.cast h hq.2) Is.imp))) ?_)))
        rintro _ v349 ⟨xr351,rfl,r351,e350⟩
        refine ret_intro ?_
        have hw5:Bl lb w v349:=hw4.ext e350
        obtain⟨_,_,rfl,⟨s353,A353,n353,c353,rfl,z353⟩,rfl⟩:=r351
        exact pi_done rfl e350 ⟨_,_,rfl,⟨_,_,_,_,rfl,z353⟩,rfl⟩
       · 
        intro v354 e355
        have hw4:Bl lb w v354:=hw3.ext e355
        refine deps_cons rfl rfl fun x356 y357 h358 e359 f360=>?_
        obtain⟨_,_,rfl,⟨s362,A362,n362,c362,rfl,z362⟩,rfl⟩:=h358
        have z362:=z362.ext f360
        refine deps_nil (mv 1 rfl ?_)
        exact pi_done rfl (Ext.refl _) ⟨_,_,rfl,⟨_,_,_,_,rfl,z362⟩,rfl⟩
       · 
        intro v363 e364
        have hw4:Bl lb w v363:=hw3.ext e364
        refine deps_cons rfl rfl fun x365 y366 h367 e368 f369=>?_
        obtain⟨_,_,rfl,⟨s371,A371,n371,c371,rfl,z371⟩,rfl⟩:=h367
        have z371:=z371.ext f369
        refine deps_nil ?_
        exact⟨.agg #[.bool s371,.slice A371 n371 c371],rfl,rfl,fun _=>by kernel_rfl,⟨_,_,_,_,rfl,z371⟩⟩
       · 
        intro v372 e373
        have hw4:Bl lb w v372:=hw3.ext e373
        refine deps_cons rfl rfl fun x374 y375 h376 e377 f378=>?_
        obtain⟨_,_,rfl,⟨s380,A380,n380,c380,rfl,z380⟩,rfl⟩:=h376
        have z380:=z380.ext f378
        refine deps_nil ?_
        exact⟨.int .i64 0,rfl,rfl,fun _=>by kernel_rfl,rfl⟩
       · 
        intro v381 e382
        have hw4:Bl lb w v381:=hw3.ext e382
        refine dk rfl rfl (dk rfl rfl (deps_nil (wl_idx rfl rfl rfl elemI aggInt.size j rfl (by omega) pz307 hpz307 (by decide) ?_)))
        exact pi_done rfl (Ext.refl _) rfl
       · 
        intro v393 e394
        have hw4:Bl lb w v393:=hw3.ext e394
        refine dk rfl rfl (dk rfl rfl (dk rfl rfl (dk rfl rfl (dk rfl rfl (dk rfl rfl (dk rfl rfl (deps_cons rfl rfl fun x430 y431 h432 e433 f434=>?_)))))))
        obtain⟨_,_,rfl,⟨s436,A436,n436,c436,rfl,z436⟩,rfl⟩:=h432
        have z436:=z436.ext f434
        refine deps_cons rfl rfl fun x437 y438 h439 e440 f441=>?_
        obtain⟨_,_,rfl,⟨s443,A443,n443,c443,rfl,z443⟩,rfl⟩:=h439
        have z443:=z443.ext f441
        refine deps_cons rfl rfl fun x444 y445 h446 e447 f448=>?_
        obtain⟨s449,A449,n449,c449,rfl,z449⟩:=h446
        have z449:=z449.ext f448
        refine dk rfl rfl (dk rfl rfl (deps_nil ?_))
        have rt460:=(((rc_wj.ext e201).updT hb291 u300 nr296).ext e394)
        obtain⟨us462,own463⟩:=rt460.own (hI.per.lt (k+1+t) (by omega))
        refine wl_setR (e:=⟨s449,A449,n449,c449⟩) (z:=bm (pr X qs) (k+1) (k+1+t) j) rfl rfl rfl rt460 (hI.per.lt (k+1+t) (by omega)) (show j<n by omega) hpz307 (Zr.mono z449 (Nat.zero_le _)) (z449.le (lx_ hLq rfl)) fun v461 rc464 uo465=>?_
        have hw5:Bl lb w v461:=hw4.updO uo465 (fun p hp=>(own463.block p hp).1)
        refine wl_nil (eo_np (eo_block_normal (eo_then (cw_region (mv 1 rfl (wl_ar rfl rfl rfl ((j+1:Nat):Int) (ai_add (a:=j) (b:=1) rfl rfl (by omega)) (by decide) (mv 1 rfl (wl_nil (eo_round (⟨v461,j+1,ent V (qs.getD (k+1+t) 0) j (bm (pr X qs) (k+1) (k+1+t) j)⟩:World×Nat×Mx) ⟨hw5,(by omega),((((b_g.ext e201).updN u300 (by omega)).ext e394).updO uo465 (hA.rg (qs.getD (k+1+t) 0) (hI.per.lt (k+1+t) (by omega)))),((((z_g_1.ext e201).updT hb291 u300).ext e394).updOT own463 uo465),((((b_g49.ext e201).updN u300 (by omega)).ext e394).updO uo465 (nr57 (qs.getD (k+1+t) 0) (hI.per.lt (k+1+t) (by omega)))),((((z_g49.ext e201).updT hb291 u300).ext e394).updOT own463 uo465),((((o_RAwj.ext e201).upd u300 ne294).ext e394).updO uo465 (fun p q hp hq e=>hA.Rr (qs.getD (k+1+t) 0) (hI.per.lt (k+1+t) (by omega)) q p hq hp e.symm)),((((o_NAwj.ext e201).upd u300 ne295).ext e394).updO uo465 (fun p q hp hq e=>hA.Nr (qs.getD (k+1+t) 0) (hI.per.lt (k+1+t) (by omega)) q p hq hp e.symm)),rc464,(by omega),(hMV.next hI.per (by omega) (by omega) hj1 hjn rfl)⟩ (show n-(j+1)<n-j by omega) rfl ⟨rfl,rfl,rfl,rfl,rfl,rfl,rfl,rfl,rfl,rfl,rfl,rfl,rfl,rfl,rfl,rfl,rfl,rfl,rfl,rfl,rfl,rfl,rfl,rfl,rfl,rfl,rfl,rfl,rfl,rfl,rfl,rfl,rfl,rfl,rfl,rfl,rfl,rfl,rfl,rfl,rfl,rfl,rfl,rfl,rfl,rfl,rfl,rfl,rfl,rfl,rfl,rfl,rfl,rfl,rfl,rfl,rfl,rfl,rfl,rfl,rfl,rfl,rfl,rfl,rfl,rfl,rfl,rfl,rfl,rfl,rfl,rfl,rfl,rfl,rfl,rfl,rfl,rfl,rfl,rfl,rfl,rfl,rfl,rfl,rfl,rfl,rfl,rfl,rfl,rfl,rfl,rfl,rfl,rfl,rfl,rfl,rfl,rfl,rfl,rfl,rfl,rfl,rfl,rfl,rfl,rfl,rfl,rfl,rfl,rfl,rfl,rfl,rfl,rfl,rfl,rfl,rfl,rfl,rfl,rfl,rfl,rfl,rfl,rfl,rfl,rfl,rfl,rfl,rfl,rfl,trivial⟩)))))))))
     · 
      refine cw_region (mv 2 rfl (pu (v:= .int .i64 ((n:Nat):Int)) rfl (by kernel_rfl) (wl_cmp rfl rfl rfl false (cb_lt_f (a:=j) (b:=n) rfl rfl (by omega)) (by decide) (ne_ (cw_false rfl (cw_exit (eo_thenX (eo_loopX (eo_block_here (eo_then (cw_region (mv 2 rfl (pu (v:= .agg #[F0,S0]) rfl (by kernel_rfl) ?_)))))))))))))
      obtain⟨pz466,sz466,Bz466,nz466,cz466,hpz466,ldz466,hKz466,zz466⟩:=(rc_wj).at (hI.per.lt (k+1+t) (by omega)) (show k<n by omega)
      refine wl_idx rfl rfl rfl elemI aggInt.size k rfl (by omega) pz466 hpz466 (by decide) ?_
      have rt467:=rc_wj
      obtain⟨us469,own470⟩:=rt467.own (hI.per.lt (k+1+t) (by omega))
      refine wl_setR (e:=⟨false,none,0,0⟩) (z:=0) rfl rfl rfl rt467 (hI.per.lt (k+1+t) (by omega)) (show k<n by omega) hpz466 (Zr.mono (Zr.zero (w:=wj) (base:=w.heap.size)) (Nat.zero_le _)) (Nat.zero_le _) fun v468 rc471 uo472=>?_
      have hw2:Bl lb w v468:=hw1.updO uo472 (fun p hp=>(own470.block p hp).1)
      refine wl_nil (eo_block_normal (eo_then (cw_region (wl_ar rfl rfl rfl ((t+1:Nat):Int) (ai_add (a:=t) (b:=1) rfl rfl (by omega)) (by decide) (mv 1 rfl (wl_nil (eo_round (⟨v468,t+1,ent V (qs.getD (k+1+t) 0) k 0⟩:World×Nat×Mx) ⟨hw2,(by omega),(b_g.updO uo472 (hA.rg (qs.getD (k+1+t) 0) (hI.per.lt (k+1+t) (by omega)))),(z_g_1.updOT own470 uo472),(o_RAwj.updO uo472 (fun p q hp hq e=>hA.Rr (qs.getD (k+1+t) 0) (hI.per.lt (k+1+t) (by omega)) q p hq hp e.symm)),(o_NAwj.updO uo472 (fun p q hp hq e=>hA.Nr (qs.getD (k+1+t) 0) (hI.per.lt (k+1+t) (by omega)) q p hq hp e.symm)),rc471,(by have h9:Mid n k (pr X qs) qs V (k+1+t) n:=(show j=n by omega)▸hMV;exact h9.row hI.per (by omega) (by omega) 0)⟩ (show (n-(k+1))-(t+1)<(n-(k+1))-t by omega) rfl ⟨rfl,rfl,rfl,rfl,rfl,rfl,rfl,rfl,rfl,rfl,rfl,rfl,rfl,rfl,rfl,rfl,rfl,rfl,rfl,rfl,rfl,rfl,rfl,rfl,rfl,rfl,rfl,rfl,rfl,rfl,rfl,rfl,rfl,rfl,rfl,rfl,rfl,rfl,rfl,rfl,rfl,rfl,rfl,rfl,rfl,rfl,rfl,rfl,rfl,rfl,rfl,rfl,rfl,rfl,rfl,rfl,rfl,rfl,rfl,rfl,rfl,rfl,rfl,rfl,rfl,rfl,rfl,rfl,rfl,rfl,rfl,rfl,rfl,rfl,rfl,rfl,rfl,rfl,rfl,rfl,rfl,rfl,rfl,rfl,rfl,rfl,rfl,rfl,rfl,rfl,rfl,rfl,rfl,rfl,rfl,rfl,rfl,rfl,rfl,rfl,rfl,rfl,rfl,rfl,rfl,rfl,rfl,rfl,rfl,rfl,rfl,rfl,rfl,rfl,rfl,rfl,rfl,rfl,trivial⟩)))))))
    · 
     refine cw_region (wl_cmp rfl rfl rfl false (cb_lt_f (a:=t) (b:=n-(k+1)) rfl rfl (by omega)) (by decide) (ne_ (cw_seq (cw_false rfl (cw_exit (eo_thenX (eo_loopX (eo_block_here (eo_then (sr (mv 3 rfl ?_)))))))))))
     obtain⟨pz473,sz473,Bz473,nz473,cz473,hpz473,ldz473,hKz473,zz473⟩:=(rc_wt).at (hI.per.lt k (by omega)) (show k<n by omega)
     refine wl_idx rfl rfl rfl elemI aggInt.size k rfl (by omega) pz473 hpz473 (by decide) (wl_load rfl rfl (ldz473 _ (Ext.refl _) _ _ aggInt) (by decide) (pf g 0 rfl (by kernel_rfl) (pf g 3 rfl (by kernel_rfl) ?_)))
     have hb475:=b_g
     refine wl_stored rfl rfl rfl aggInt rfl hb475 (bq rfl) rfl [.slice RA n rcap,.slice NA n ncap,.bool (!tu),.bool sz473,.slice Bz473 nz473 cz473,.int .i64 ((k:Nat):Int)] rfl fun v474 hb476 u477 hs478=>?_
     have hw2:Bl lb w v474:=hw1.upd u477 hA.lg
     refine ne_ (sr (mv 1 rfl (pf g 0 rfl (by kernel_rfl) (pf g 5 rfl (by kernel_rfl) (wl_load rfl rfl (load_cell cellInt hb476 rfl) (by decide) (wl_ar rfl rfl rfl ((k+1:Nat):Int) (ai_add (a:=k) (b:=1) rfl rfl (by omega)) (by decide) (pf g 0 rfl (by kernel_rfl) (pf g 5 rfl (by kernel_rfl) (wl_stored1 rfl rfl rfl szInt rfl hb476 (bq rfl) rfl [.slice RA n rcap,.slice NA n ncap,.bool (!tu),.bool sz473,.slice Bz473 nz473 cz473,.int .i64 ((k+1:Nat):Int)] rfl fun v479 hb481 u482 hs483=>?_)))))))))
     have hw3:Bl lb w v479:=hw2.upd u482 hA.lg
     refine ne_ (sr (mv 1 rfl (ne_ (cw_ret (eo_ret [.bool true] rfl ⟨rfl,trivial⟩ ?_)))))
     have hM9:Mid n k (pr X qs) qs Y n (k+1):=(show k+1+t=n by omega)▸hM
     exact⟨hw3,Or.inr ⟨qs,Y,!tu,Y (qs.getD k 0) k,rfl,⟨_,_,_,_,_,hb481,((zz473.updT hb475 u477).updT hb476 u482),((o_RAwt.upd u477 hA.Rg).upd u482 hA.Rg),((o_NAwt.upd u477 hA.Ng).upd u482 hA.Ng),((rc_wt.updT hb475 u477 hA.rg).updT hb476 u482 hA.rg)⟩,hI.next (by omega) hM9 (by rw [hM9.old (Nat.le_refl _) (by omega) (Nat.le_refl _) (by omega) (Or.inl rfl)];exact hDb)⟩⟩
   · 
    refine cw_region (mv 2 rfl (wl_cmp rfl rfl rfl false (cb_ne_f (a:=p) (b:=k) rfl rfl (by omega)) (by decide) (ne_ (cw_false rfl (cw_skip (eo_then (cw_seq ?_)))))))
    obtain⟨qs,hqs⟩:∃qs,qs=ps:=⟨_,rfl⟩
    have hI:Inv n X k qs Z tu z:=by rw [hqs];exact hI0
    have hD:Z (qs.getD k 0) k≠0:=by rw [hqs];have e:p=k:=(by omega);rw [e] at hzp;exact hzp
    have ow484:Own v8 lb 22 1 RA n rcap (qs.map (rwv ra rc n)):=by rw [hqs];exact (o_RAwp.ext e9)
    have hDb:bm (pr X qs) k k k≠0:=by rw [←hI.ent k k (Nat.le_refl _) (by omega) (Nat.le_refl _) (by omega)];exact hD
    refine cw_region (mv 1 rfl (pf g 0 rfl (by kernel_rfl) (pf g 0 rfl (by kernel_rfl) (wl_load rfl rfl (load_cell cellRows (b_g.ext e9) rfl) (by decide) (mv 1 rfl ?_)))))
    obtain⟨pz485,hpz485,hcz485⟩:=(ow484).rowAt (i:=k) (by omega)
    refine wl_idx rfl rfl rfl unRows szInts k rfl (by omega) pz485 hpz485 (by decide) (wl_load rfl rfl (load_cell1 cellInts hcz485) (by decide) (mv 1 rfl (ne_ (cw_seq (sr (mv 1 rfl (pf g 0 rfl (by kernel_rfl) (pf g 0 rfl (by kernel_rfl) (wl_load rfl rfl (load_cell cellRows (b_g.ext e9) rfl) (by decide) (mv 1 rfl (wl_ar rfl rfl rfl ((k+1:Nat):Int) (ai_add (a:=k) (b:=1) rfl rfl (by omega)) (by decide) (wl_slice rfl rfl unRows szInts (lo:=k+1) (hi:=n) rfl rfl (by omega) hcap (v:= .slice (if rcap=k+1 then RA else RA.map (·.add ((k+1)*1))) (n-(k+1)) (rcap-(k+1))) rfl (by decide) (pu (v:= .int .i64 ((n-(k+1):Nat):Int)) rfl (by kernel_rfl) ?_)))))))))))))
    refine mv 1 rfl (ne_ (cw_block ?_))
    refine cw_loop (T:=World×Nat×Mx) (fun⟨wt,t,Y⟩=> [(0,.pointer (some ⟨g,0,none⟩)),(1,.int .i64 ((k:Nat):Int)),(4,.bool false),(5,.int .i64 ((k:Nat):Int)),(6,.int .i64 ((p:Nat):Int)),(7,.slice (ra (qs.getD k 0)) n (rc (qs.getD k 0))),(13,.pointer (some ⟨g,0,none⟩)),(14,.pointer (some ⟨g,0,none⟩)),(15,.pointer (some ⟨g,5,none⟩)),(16,.int .i64 ((k:Nat):Int)),(17,.int .i64 ((k:Nat):Int)),(18,.int .i64 ((p:Nat):Int)),(19,.pointer (some ⟨g,0,none⟩)),(20,.pointer (some ⟨g,0,none⟩)),(21,.pointer (some ⟨g,0,none⟩)),(22,.slice RA n rcap),(23,.int .i64 ((n:Nat):Int)),(24,.bool true),(25,.bool true),(26,.pointer (some ⟨g,0,none⟩)),(27,.pointer (some ⟨g,0,none⟩)),(28,.pointer (some ⟨g,0,none⟩)),(29,.slice RA n rcap),(30,.int .i64 ((p:Nat):Int)),(31,.pointer (some pz6)),(32,.slice (ra (ps.getD p 0)) n (rc (ps.getD p 0))),(33,.int .i64 ((k:Nat):Int)),(34,.pointer (some pz7)),(35,.agg #[.bool sz7,.slice Bz7 nz7 cz7]),(36,.int .i64 (scmp (Z (ps.getD p 0) k) 0)),(37,.bool false),(38,.bool false),(41,.int .i64 ((p:Nat):Int)),(42,.pointer (some ⟨g,0,none⟩)),(43,.pointer (some ⟨g,0,none⟩)),(44,.pointer (some ⟨g,0,none⟩)),(45,.slice RA n rcap),(46,.int .i64 ((n:Nat):Int)),(47,.bool false),(48,.int .i64 ((p:Nat):Int)),(49,.int .i64 ((k:Nat):Int)),(50,.bool false),(111,.pointer (some ⟨g,0,none⟩)),(112,.pointer (some ⟨g,0,none⟩)),(113,.pointer (some ⟨g,0,none⟩)),(114,.slice RA n rcap),(115,.int .i64 ((k:Nat):Int)),(116,.pointer (some pz485)),(117,.slice (ra (qs.getD k 0)) n (rc (qs.getD k 0))),(118,.pointer (some ⟨g,0,none⟩)),(119,.pointer (some ⟨g,0,none⟩)),(120,.pointer (some ⟨g,0,none⟩)),(121,.slice RA n rcap),(122,.int .i64 ((k:Nat):Int)),(123,.int .i64 ((k+1:Nat):Int)),(124,.slice (if rcap=k+1 then RA else RA.map (·.add ((k+1)*1))) (n-(k+1)) (rcap-(k+1))),(125,.int .i64 ((n-(k+1):Nat):Int)),(126,.int .i64 ((t:Nat):Int))]) (fun⟨wt,t,Y⟩=>wt) (fun⟨wt,t,Y⟩=>(Bl lb w wt)∧(t≤n-(k+1))∧(Bk wt g 73 [.slice RA n rcap,.slice NA n ncap,.bool tu,.bool sl,.slice Al nl cl,.int .i64 ((k:Nat):Int)])∧(Zr wt 0 sl Al nl cl (z))∧(Own wt lb 22 1 RA n rcap (qs.map (rwv ra rc n)))∧(Own wt lb 3 1 NA n ncap (ns.map I64))∧(Rcs 17179869184 lb n n ra rc wt Y)∧(Mid n k (pr X qs) qs Y (k+1+t) (k+1))) (fun⟨wt,t,Y⟩=>(n-(k+1))-t)
     (⟨v8,0,Z⟩:World×Nat×Mx) ⟨hw2,(by omega),(b_g.ext e9),(z_g_1.ext e9),ow484,(o_NAwp.ext e9),(rc_wp.ext e9),(Mid.start hI)⟩ rfl ⟨rfl,rfl,rfl,rfl,rfl,rfl,rfl,rfl,rfl,rfl,rfl,rfl,rfl,rfl,rfl,rfl,rfl,rfl,rfl,rfl,rfl,rfl,rfl,rfl,rfl,rfl,rfl,rfl,rfl,rfl,rfl,rfl,rfl,rfl,rfl,rfl,rfl,rfl,rfl,rfl,rfl,rfl,rfl,rfl,rfl,rfl,rfl,rfl,rfl,rfl,rfl,rfl,rfl,rfl,rfl,rfl,rfl,rfl,trivial⟩ ?_
    rintro⟨wt,t,Y⟩ ⟨hw1,hi_t,b_g,z_g_1,o_RAwt,o_NAwt,rc_wt,hM⟩
    refine cw_re [(0,.pointer (some ⟨g,0,none⟩)),(1,.int .i64 ((k:Nat):Int)),(4,.bool false),(5,.int .i64 ((k:Nat):Int)),(6,.int .i64 ((p:Nat):Int)),(7,.slice (ra (qs.getD k 0)) n (rc (qs.getD k 0))),(13,.pointer (some ⟨g,0,none⟩)),(14,.pointer (some ⟨g,0,none⟩)),(15,.pointer (some ⟨g,5,none⟩)),(16,.int .i64 ((k:Nat):Int)),(17,.int .i64 ((k:Nat):Int)),(18,.int .i64 ((p:Nat):Int)),(19,.pointer (some ⟨g,0,none⟩)),(20,.pointer (some ⟨g,0,none⟩)),(21,.pointer (some ⟨g,0,none⟩)),(22,.slice RA n rcap),(23,.int .i64 ((n:Nat):Int)),(24,.bool true),(25,.bool true),(26,.pointer (some ⟨g,0,none⟩)),(27,.pointer (some ⟨g,0,none⟩)),(28,.pointer (some ⟨g,0,none⟩)),(29,.slice RA n rcap),(30,.int .i64 ((p:Nat):Int)),(31,.pointer (some pz6)),(32,.slice (ra (ps.getD p 0)) n (rc (ps.getD p 0))),(33,.int .i64 ((k:Nat):Int)),(34,.pointer (some pz7)),(35,.agg #[.bool sz7,.slice Bz7 nz7 cz7]),(36,.int .i64 (scmp (Z (ps.getD p 0) k) 0)),(37,.bool false),(38,.bool false),(41,.int .i64 ((p:Nat):Int)),(42,.pointer (some ⟨g,0,none⟩)),(43,.pointer (some ⟨g,0,none⟩)),(44,.pointer (some ⟨g,0,none⟩)),(45,.slice RA n rcap),(46,.int .i64 ((n:Nat):Int)),(47,.bool false),(48,.int .i64 ((p:Nat):Int)),(49,.int .i64 ((k:Nat):Int)),(50,.bool false),(111,.pointer (some ⟨g,0,none⟩)),(112,.pointer (some ⟨g,0,none⟩)),(113,.pointer (some ⟨g,0,none⟩)),(114,.slice RA n rcap),(115,.int .i64 ((k:Nat):Int)),(116,.pointer (some pz485)),(117,.slice (ra (qs.getD k 0)) n (rc (qs.getD k 0))),(118,.pointer (some ⟨g,0,none⟩)),(119,.pointer (some ⟨g,0,none⟩)),(120,.pointer (some ⟨g,0,none⟩)),(121,.slice RA n rcap),(122,.int .i64 ((k:Nat):Int)),(123,.int .i64 ((k+1:Nat):Int)),(124,.slice (if rcap=k+1 then RA else RA.map (·.add ((k+1)*1))) (n-(k+1)) (rcap-(k+1))),(125,.int .i64 ((n-(k+1):Nat):Int)),(126,.int .i64 ((t:Nat):Int))] wt rfl ⟨rfl,rfl,rfl,rfl,rfl,rfl,rfl,rfl,rfl,rfl,rfl,rfl,rfl,rfl,rfl,rfl,rfl,rfl,rfl,rfl,rfl,rfl,rfl,rfl,rfl,rfl,rfl,rfl,rfl,rfl,rfl,rfl,rfl,rfl,rfl,rfl,rfl,rfl,rfl,rfl,rfl,rfl,rfl,rfl,rfl,rfl,rfl,rfl,rfl,rfl,rfl,rfl,rfl,rfl,rfl,rfl,rfl,rfl,trivial⟩ (cw_seq ?_)
    by_cases htn:t<n-(k+1)
    · 
     refine cw_region (wl_cmp rfl rfl rfl true (cb_lt_t (a:=t) (b:=n-(k+1)) rfl rfl (by omega)) (by decide) (ne_ (cw_seq (cw_true rfl (cw_skip (eo_then (cw_seq (cw_block (sr ?_)))))))))
     obtain⟨pz486,hpz486,hcz486⟩:=(o_RAwt).rowTail (lo:=k+1) (i:=t) (by omega)
     refine wl_idx rfl rfl rfl unRows szInts t rfl (by omega) pz486 hpz486 (by decide) (wl_load rfl rfl (load_cell1 cellInts hcz486) (by decide) (mv 1 rfl (ne_ (sr (mv 2 rfl ?_)))))
     obtain⟨pz487,sz487,Bz487,nz487,cz487,hpz487,ldz487,hKz487,zz487⟩:=(rc_wt).at (hI.per.lt (k+1+t) (by omega)) (show k<n by omega)
     refine wl_idx rfl rfl rfl elemI aggInt.size k rfl (by omega) pz487 hpz487 (by decide) (wl_load rfl rfl (ldz487 _ (Ext.refl _) _ _ aggInt) (by decide) (wl_alloc rfl (z:= .agg #[F0,S0]) (vs:= [F0,S0]) (fun _=>by kernel_rfl) rfl (by decide) fun g488 v489 nb=>?_))
     have hb491:=nb.bk
     have ge492:w.heap.size≤g488:=by rw [←nb.at_];exact hw1.size
     have q493:g<g488:=by rw [←nb.at_];exact b_g.lt
     have ne494:∀p:Addr,RA=some p→p.block≠g488:=fun p hp=>by have:=((o_RAwt).block p hp).2;have:=nb.at_;omega
     have ne495:∀p:Addr,NA=some p→p.block≠g488:=fun p hp=>by have:=((o_NAwt).block p hp).2;have:=nb.at_;omega
     have nr496:∀r,r<n→∀p:Addr,ra r=some p→p.block≠g488:=fun r hr p hp=>by have:=((rc_wt).lt r hr p hp).2;have:=nb.at_;omega
     have e490:=nb.ext
     clear nb
     have hw2:Bl lb w v489:=hw1.ext e490
     refine wl_stored rfl rfl rfl aggInt rfl hb491 (bq rfl) rfl [.bool sz487,.slice Bz487 nz487 cz487] rfl fun v497 hb499 u500 hs501=>?_
     have hw3:Bl lb w v497:=hw2.upd u500 (Nat.le_trans hlb ge492)
     refine ne_ (cw_seq (sr (mv 1 rfl (wl_ar rfl rfl rfl ((k+1:Nat):Int) (ai_add (a:=k) (b:=1) rfl rfl (by omega)) (by decide) (mv 1 rfl (ne_ (cw_block ?_)))))))
     refine cw_loop (T:=World×Nat×Mx) (fun⟨wj,j,V⟩=> [(0,.pointer (some ⟨g,0,none⟩)),(1,.int .i64 ((k:Nat):Int)),(4,.bool false),(5,.int .i64 ((k:Nat):Int)),(6,.int .i64 ((p:Nat):Int)),(7,.slice (ra (qs.getD k 0)) n (rc (qs.getD k 0))),(9,.slice (ra (qs.getD (k+1+t) 0)) n (rc (qs.getD (k+1+t) 0))),(10,.pointer (some ⟨g488,0,none⟩)),(11,.int .i64 ((j:Nat):Int)),(13,.pointer (some ⟨g,0,none⟩)),(14,.pointer (some ⟨g,0,none⟩)),(15,.pointer (some ⟨g,5,none⟩)),(16,.int .i64 ((k:Nat):Int)),(17,.int .i64 ((k:Nat):Int)),(18,.int .i64 ((p:Nat):Int)),(19,.pointer (some ⟨g,0,none⟩)),(20,.pointer (some ⟨g,0,none⟩)),(21,.pointer (some ⟨g,0,none⟩)),(22,.slice RA n rcap),(23,.int .i64 ((n:Nat):Int)),(24,.bool true),(25,.bool true),(26,.pointer (some ⟨g,0,none⟩)),(27,.pointer (some ⟨g,0,none⟩)),(28,.pointer (some ⟨g,0,none⟩)),(29,.slice RA n rcap),(30,.int .i64 ((p:Nat):Int)),(31,.pointer (some pz6)),(32,.slice (ra (ps.getD p 0)) n (rc (ps.getD p 0))),(33,.int .i64 ((k:Nat):Int)),(34,.pointer (some pz7)),(35,.agg #[.bool sz7,.slice Bz7 nz7 cz7]),(36,.int .i64 (scmp (Z (ps.getD p 0) k) 0)),(37,.bool false),(38,.bool false),(41,.int .i64 ((p:Nat):Int)),(42,.pointer (some ⟨g,0,none⟩)),(43,.pointer (some ⟨g,0,none⟩)),(44,.pointer (some ⟨g,0,none⟩)),(45,.slice RA n rcap),(46,.int .i64 ((n:Nat):Int)),(47,.bool false),(48,.int .i64 ((p:Nat):Int)),(49,.int .i64 ((k:Nat):Int)),(50,.bool false),(111,.pointer (some ⟨g,0,none⟩)),(112,.pointer (some ⟨g,0,none⟩)),(113,.pointer (some ⟨g,0,none⟩)),(114,.slice RA n rcap),(115,.int .i64 ((k:Nat):Int)),(116,.pointer (some pz485)),(117,.slice (ra (qs.getD k 0)) n (rc (qs.getD k 0))),(118,.pointer (some ⟨g,0,none⟩)),(119,.pointer (some ⟨g,0,none⟩)),(120,.pointer (some ⟨g,0,none⟩)),(121,.slice RA n rcap),(122,.int .i64 ((k:Nat):Int)),(123,.int .i64 ((k+1:Nat):Int)),(124,.slice (if rcap=k+1 then RA else RA.map (·.add ((k+1)*1))) (n-(k+1)) (rcap-(k+1))),(125,.int .i64 ((n-(k+1):Nat):Int)),(126,.int .i64 ((t:Nat):Int)),(127,.bool true),(128,.pointer (some pz486)),(129,.slice (ra (qs.getD (k+1+t) 0)) n (rc (qs.getD (k+1+t) 0))),(130,.slice (ra (qs.getD (k+1+t) 0)) n (rc (qs.getD (k+1+t) 0))),(131,.int .i64 ((k:Nat):Int)),(132,.pointer (some pz487)),(133,.agg #[.bool sz487,.slice Bz487 nz487 cz487]),(134,.int .i64 ((k:Nat):Int)),(135,.int .i64 ((k+1:Nat):Int))]) (fun⟨wj,j,V⟩=>wj) (fun⟨wj,j,V⟩=>(Bl lb w wj)∧(j≤n)∧(Bk wj g 73 [.slice RA n rcap,.slice NA n ncap,.bool tu,.bool sl,.slice Al nl cl,.int .i64 ((k:Nat):Int)])∧(Zr wj 0 sl Al nl cl (z))∧(Bk wj g488 34 [.bool sz487,.slice Bz487 nz487 cz487])∧(Zr wj 0 sz487 Bz487 nz487 cz487 (Y (qs.getD (k+1+t) 0) k))∧(Own wj lb 22 1 RA n rcap (qs.map (rwv ra rc n)))∧(Own wj lb 3 1 NA n ncap (ns.map I64))∧(Rcs 17179869184 lb n n ra rc wj V)∧(k<j)∧(Mid n k (pr X qs) qs V (k+1+t) j)) (fun⟨wj,j,V⟩=>n-j)
      (⟨v497,(k+1),Y⟩:World×Nat×Mx) ⟨hw3,(by omega),((b_g.ext e490).updN u500 (by omega)),((z_g_1.ext e490).updT hb491 u500),hb499,((zz487.ext e490).updT hb491 u500),((o_RAwt.ext e490).upd u500 ne494),((o_NAwt.ext e490).upd u500 ne495),((rc_wt.ext e490).updT hb491 u500 nr496),(by omega),hM⟩ rfl ⟨rfl,rfl,rfl,rfl,rfl,rfl,rfl,rfl,rfl,rfl,rfl,rfl,rfl,rfl,rfl,rfl,rfl,rfl,rfl,rfl,rfl,rfl,rfl,rfl,rfl,rfl,rfl,rfl,rfl,rfl,rfl,rfl,rfl,rfl,rfl,rfl,rfl,rfl,rfl,rfl,rfl,rfl,rfl,rfl,rfl,rfl,rfl,rfl,rfl,rfl,rfl,rfl,rfl,rfl,rfl,rfl,rfl,rfl,rfl,rfl,rfl,rfl,rfl,rfl,rfl,rfl,rfl,rfl,rfl,rfl,trivial⟩ ?_
     rintro⟨wj,j,V⟩ ⟨hw1,hi_j,b_g,z_g_1,b_g488,z_g488,o_RAwj,o_NAwj,rc_wj,hj1,hMV⟩
     refine cw_re [(0,.pointer (some ⟨g,0,none⟩)),(1,.int .i64 ((k:Nat):Int)),(4,.bool false),(5,.int .i64 ((k:Nat):Int)),(6,.int .i64 ((p:Nat):Int)),(7,.slice (ra (qs.getD k 0)) n (rc (qs.getD k 0))),(9,.slice (ra (qs.getD (k+1+t) 0)) n (rc (qs.getD (k+1+t) 0))),(10,.pointer (some ⟨g488,0,none⟩)),(11,.int .i64 ((j:Nat):Int)),(13,.pointer (some ⟨g,0,none⟩)),(14,.pointer (some ⟨g,0,none⟩)),(15,.pointer (some ⟨g,5,none⟩)),(16,.int .i64 ((k:Nat):Int)),(17,.int .i64 ((k:Nat):Int)),(18,.int .i64 ((p:Nat):Int)),(19,.pointer (some ⟨g,0,none⟩)),(20,.pointer (some ⟨g,0,none⟩)),(21,.pointer (some ⟨g,0,none⟩)),(22,.slice RA n rcap),(23,.int .i64 ((n:Nat):Int)),(24,.bool true),(25,.bool true),(26,.pointer (some ⟨g,0,none⟩)),(27,.pointer (some ⟨g,0,none⟩)),(28,.pointer (some ⟨g,0,none⟩)),(29,.slice RA n rcap),(30,.int .i64 ((p:Nat):Int)),(31,.pointer (some pz6)),(32,.slice (ra (ps.getD p 0)) n (rc (ps.getD p 0))),(33,.int .i64 ((k:Nat):Int)),(34,.pointer (some pz7)),(35,.agg #[.bool sz7,.slice Bz7 nz7 cz7]),(36,.int .i64 (scmp (Z (ps.getD p 0) k) 0)),(37,.bool false),(38,.bool false),(41,.int .i64 ((p:Nat):Int)),(42,.pointer (some ⟨g,0,none⟩)),(43,.pointer (some ⟨g,0,none⟩)),(44,.pointer (some ⟨g,0,none⟩)),(45,.slice RA n rcap),(46,.int .i64 ((n:Nat):Int)),(47,.bool false),(48,.int .i64 ((p:Nat):Int)),(49,.int .i64 ((k:Nat):Int)),(50,.bool false),(111,.pointer (some ⟨g,0,none⟩)),(112,.pointer (some ⟨g,0,none⟩)),(113,.pointer (some ⟨g,0,none⟩)),(114,.slice RA n rcap),(115,.int .i64 ((k:Nat):Int)),(116,.pointer (some pz485)),(117,.slice (ra (qs.getD k 0)) n (rc (qs.getD k 0))),(118,.pointer (some ⟨g,0,none⟩)),(119,.pointer (some ⟨g,0,none⟩)),(120,.pointer (some ⟨g,0,none⟩)),(121,.slice RA n rcap),(122,.int .i64 ((k:Nat):Int)),(123,.int .i64 ((k+1:Nat):Int)),(124,.slice (if rcap=k+1 then RA else RA.map (·.add ((k+1)*1))) (n-(k+1)) (rcap-(k+1))),(125,.int .i64 ((n-(k+1):Nat):Int)),(126,.int .i64 ((t:Nat):Int)),(127,.bool true),(128,.pointer (some pz486)),(129,.slice (ra (qs.getD (k+1+t) 0)) n (rc (qs.getD (k+1+t) 0))),(130,.slice (ra (qs.getD (k+1+t) 0)) n (rc (qs.getD (k+1+t) 0))),(131,.int .i64 ((k:Nat):Int)),(132,.pointer (some pz487)),(133,.agg #[.bool sz487,.slice Bz487 nz487 cz487]),(134,.int .i64 ((k:Nat):Int)),(135,.int .i64 ((k+1:Nat):Int))] wj rfl ⟨rfl,rfl,rfl,rfl,rfl,rfl,rfl,rfl,rfl,rfl,rfl,rfl,rfl,rfl,rfl,rfl,rfl,rfl,rfl,rfl,rfl,rfl,rfl,rfl,rfl,rfl,rfl,rfl,rfl,rfl,rfl,rfl,rfl,rfl,rfl,rfl,rfl,rfl,rfl,rfl,rfl,rfl,rfl,rfl,rfl,rfl,rfl,rfl,rfl,rfl,rfl,rfl,rfl,rfl,rfl,rfl,rfl,rfl,rfl,rfl,rfl,rfl,rfl,rfl,rfl,rfl,rfl,rfl,rfl,rfl,trivial⟩ (cw_seq (cw_seq ?_))
     by_cases hjn:j<n
     · 
      refine cw_region (mv 2 rfl (pu (v:= .int .i64 ((n:Nat):Int)) rfl (by kernel_rfl) (wl_cmp rfl rfl rfl true (cb_lt_t (a:=j) (b:=n) rfl rfl (by omega)) (by decide) (ne_ (cw_true rfl (cw_skip (eo_then (cw_seq (cw_block (cw_seq ?_))))))))))
      obtain⟨pz502,sz502,Bz502,nz502,cz502,hpz502,ldz502,hKz502,zz502⟩:=(rc_wj).at (hI.per.lt k (by omega)) (show k<n by omega)
      obtain⟨pz503,sz503,Bz503,nz503,cz503,hpz503,ldz503,hKz503,zz503⟩:=(rc_wj).at (hI.per.lt (k+1+t) (by omega)) (show j<n by omega)
      have L504:ln ((V (qs.getD k 0) k)*(V (qs.getD (k+1+t) 0) j))≤34359738368:=Nat.le_trans (ln_mul (zz502.ln_le hKz502) (zz503.ln_le hKz503)) (by decide)
      obtain⟨pz506,sz506,Bz506,nz506,cz506,hpz506,ldz506,hKz506,zz506⟩:=(rc_wj).at (hI.per.lt k (by omega)) (show j<n by omega)
      have L507:ln ((Y (qs.getD (k+1+t) 0) k)*(V (qs.getD k 0) j))≤34359738368:=Nat.le_trans (ln_mul (zz487.ln_le hKz487) (zz506.ln_le hKz506)) (by decide)
      have L509:ln (((V (qs.getD k 0) k)*(V (qs.getD (k+1+t) 0) j))-((Y (qs.getD (k+1+t) 0) k)*(V (qs.getD k 0) j)))≤34359738369:=Nat.le_trans (ln_sub L504 L507) (by decide)
      refine cw_draw mix 17 [] [Is (.slice (ra (qs.getD k 0)) n (rc (qs.getD k 0))),Is (.int .i64 ((k:Nat):Int)),Is (.pointer (some pz502)),Is (.agg #[.bool sz502,.slice Bz502 nz502 cz502]),Is (.slice (ra (qs.getD (k+1+t) 0)) n (rc (qs.getD (k+1+t) 0))),Is (.int .i64 ((j:Nat):Int)),Is (.pointer (some pz503)),Is (.agg #[.bool sz503,.slice Bz503 nz503 cz503]),ZR w.heap.size ((V (qs.getD k 0) k)*(V (qs.getD (k+1+t) 0) j)),Is (.agg #[.bool sz487,.slice Bz487 nz487 cz487]),Is (.slice (ra (qs.getD k 0)) n (rc (qs.getD k 0))),Is (.int .i64 ((j:Nat):Int)),Is (.pointer (some pz506)),Is (.agg #[.bool sz506,.slice Bz506 nz506 cz506]),ZR w.heap.size ((Y (qs.getD (k+1+t) 0) k)*(V (qs.getD k 0) j)),ZR w.heap.size (((V (qs.getD k 0) k)*(V (qs.getD (k+1+t) 0) j))-((Y (qs.getD (k+1+t) 0) k)*(V (qs.getD k 0) j))),PR wj.heap.size 34 [F0,S0]] [[],[],[0,1],[2],[],[],[4,5],[6],[3,7],[],[],[],[10,11],[12],[9,13],[8,14],[]] [[],[],[0,1],[0,1,2],[],[],[4,5],[4,5,6],[0,1,2,3,4,5,6,7],[],[],[],[10,11],[10,11,12],[0,1,2,3,4,5,6,7,8,9,10,11,12,13],[0,1,2,3,4,5,6,7,8,9,10,11,12,13,14],[],[0,1,2,3,4,5,6,7,8,9,10,11,12,13,14,15,16]] rfl
       (obs_cons rfl rfl (hob rfl rfl ?_) (obs_cons rfl rfl (hob rfl rfl ?_) (obs_cons rfl rfl (hob rfl rfl ?_) (obs_cons rfl rfl (hob rfl rfl ?_) (obs_cons rfl rfl (hob rfl rfl ?_) (obs_cons rfl rfl (hob rfl rfl ?_) (obs_cons rfl rfl (hob rfl rfl ?_) (obs_cons rfl rfl (hob rfl rfl ?_) (obs_cons rfl rfl (hob rfl rfl ?_) (obs_cons rfl rfl (hob rfl rfl ?_) (obs_cons rfl rfl (hob rfl rfl ?_) (obs_cons rfl rfl (hob rfl rfl ?_) (obs_cons rfl rfl (hob rfl rfl ?_) (obs_cons rfl rfl (hob rfl rfl ?_) (obs_cons rfl rfl (hob rfl rfl ?_) (obs_cons rfl rfl (hob rfl rfl ?_) (obs_cons rfl rfl (hob rfl rfl ?_) obs_nil))))))))))))))))) ?_
      · 
       intro v511 e512
       have hw2:Bl lb w v511:=hw1.ext e512
       refine deps_nil (mv 1 rfl ?_)
       exact pi_done rfl (Ext.refl _) rfl
      · 
       intro v513 e514
       have hw2:Bl lb w v513:=hw1.ext e514
       refine deps_nil (mv 1 rfl ?_)
       exact pi_done rfl (Ext.refl _) rfl
      · 
       intro v515 e516
       have hw2:Bl lb w v515:=hw1.ext e516
       refine dk rfl rfl (dk rfl rfl (deps_nil (wl_idx rfl rfl rfl elemI aggInt.size k rfl (by omega) pz502 hpz502 (by decide) ?_)))
       exact pi_done rfl (Ext.refl _) rfl
      · 
       intro v527 e528
       have hw2:Bl lb w v527:=hw1.ext e528
       refine dk rfl rfl (deps_nil (wl_load rfl rfl (ldz502 _ e528 _ _ aggInt) (by decide) ?_))
       exact pi_done rfl (Ext.refl _) rfl
      · 
       intro v534 e535
       have hw2:Bl lb w v534:=hw1.ext e535
       refine deps_nil (mv 1 rfl ?_)
       exact pi_done rfl (Ext.refl _) rfl
      · 
       intro v536 e537
       have hw2:Bl lb w v536:=hw1.ext e537
       refine deps_nil (mv 1 rfl ?_)
       exact pi_done rfl (Ext.refl _) rfl
      · 
       intro v538 e539
       have hw2:Bl lb w v538:=hw1.ext e539
       refine dk rfl rfl (dk rfl rfl (deps_nil (wl_idx rfl rfl rfl elemI aggInt.size j rfl (by omega) pz503 hpz503 (by decide) ?_)))
       exact pi_done rfl (Ext.refl _) rfl
      · 
       intro v550 e551
       have hw2:Bl lb w v550:=hw1.ext e551
       refine dk rfl rfl (deps_nil (wl_load rfl rfl (ldz503 _ e551 _ _ aggInt) (by decide) ?_))
       exact pi_done rfl (Ext.refl _) rfl
      · 
       intro v557 e558
       have hw2:Bl lb w v557:=hw1.ext e558
       refine dk rfl rfl (dk rfl rfl (deps_nil ?_))
       have L569:ln ((V (qs.getD k 0) k)*(V (qs.getD (k+1+t) 0) j))≤34359738368:=Nat.le_trans (ln_mul (zz502.ln_le hKz502) (zz503.ln_le hKz503)) (by decide)
       refine wl_call rfl rfl (vs:= [.agg #[.bool sz502,.slice Bz502 nz502 cz502],.agg #[.bool sz503,.slice Bz503 nz503 cz503]]) (by kernel_rfl) (by decide) (g_zint_Mul hw2.size (zz502.ext e558).zi (zz502.le (Nat.le_trans (zz502.ln_le hKz502) (by decide))) (zz503.ext e558).zi (zz503.le (Nat.le_trans (zz503.ln_le hKz503) (by decide)))) ?_
       rintro _ v570 ⟨xr572,rfl,r572,e571⟩
       refine ret_intro ?_
       have hw3:Bl lb w v570:=hw2.ext e571
       obtain⟨s573,A573,n573,c573,rfl,z573⟩:=r572
       exact pi_done rfl e571 ⟨_,_,_,_,rfl,z573⟩
      · 
       intro v574 e575
       have hw2:Bl lb w v574:=hw1.ext e575
       refine deps_nil (lo aggInt (b_g488.ext e575) [.bool sz487,.slice Bz487 nz487 cz487] rfl rfl rfl ?_)
       exact pi_done rfl (Ext.refl _) rfl
      · 
       intro v576 e577
       have hw2:Bl lb w v576:=hw1.ext e577
       refine deps_nil (mv 1 rfl ?_)
       exact pi_done rfl (Ext.refl _) rfl
      · 
       intro v578 e579
       have hw2:Bl lb w v578:=hw1.ext e579
       refine deps_nil (mv 1 rfl ?_)
       exact pi_done rfl (Ext.refl _) rfl
      · 
       intro v580 e581
       have hw2:Bl lb w v580:=hw1.ext e581
       refine dk rfl rfl (dk rfl rfl (deps_nil (wl_idx rfl rfl rfl elemI aggInt.size j rfl (by omega) pz506 hpz506 (by decide) ?_)))
       exact pi_done rfl (Ext.refl _) rfl
      · 
       intro v592 e593
       have hw2:Bl lb w v592:=hw1.ext e593
       refine dk rfl rfl (deps_nil (wl_load rfl rfl (ldz506 _ e593 _ _ aggInt) (by decide) ?_))
       exact pi_done rfl (Ext.refl _) rfl
      · 
       intro v599 e600
       have hw2:Bl lb w v599:=hw1.ext e600
       refine dk rfl rfl (dk rfl rfl (deps_nil ?_))
       have L611:ln ((Y (qs.getD (k+1+t) 0) k)*(V (qs.getD k 0) j))≤34359738368:=Nat.le_trans (ln_mul (zz487.ln_le hKz487) (zz506.ln_le hKz506)) (by decide)
       refine wl_call rfl rfl (vs:= [.agg #[.bool sz487,.slice Bz487 nz487 cz487],.agg #[.bool sz506,.slice Bz506 nz506 cz506]]) (by kernel_rfl) (by decide) (g_zint_Mul hw2.size (z_g488.ext e600).zi (z_g488.le (Nat.le_trans (zz487.ln_le hKz487) (by decide))) (zz506.ext e600).zi (zz506.le (Nat.le_trans (zz506.ln_le hKz506) (by decide)))) ?_
       rintro _ v612 ⟨xr614,rfl,r614,e613⟩
       refine ret_intro ?_
       have hw3:Bl lb w v612:=hw2.ext e613
       obtain⟨s615,A615,n615,c615,rfl,z615⟩:=r614
       exact pi_done rfl e613 ⟨_,_,_,_,rfl,z615⟩
      · 
       intro v616 e617
       have hw2:Bl lb w v616:=hw1.ext e617
       refine deps_cons rfl rfl fun x618 y619 h620 e621 f622=>?_
       obtain⟨s623,A623,n623,c623,rfl,z623⟩:=h620
       have z623:=z623.ext f622
       refine deps_cons rfl rfl fun x624 y625 h626 e627 f628=>?_
       obtain⟨s629,A629,n629,c629,rfl,z629⟩:=h626
       have z629:=z629.ext f628
       refine deps_nil ?_
       have L630:ln (((V (qs.getD k 0) k)*(V (qs.getD (k+1+t) 0) j))-((Y (qs.getD (k+1+t) 0) k)*(V (qs.getD k 0) j)))≤34359738369:=Nat.le_trans (ln_sub L504 L507) (by decide)
       refine wl_call rfl rfl (vs:= [.agg #[.bool s623,.slice A623 n623 c623],.agg #[.bool s629,.slice A629 n629 c629]]) (by kernel_rfl) (by decide) (g_zint_Sub hw2.size z623.zi (z623.le (lx_ L504 rfl)) z629.zi (z629.le (lx_ L507 rfl))) ?_
       rintro _ v631 ⟨xr633,rfl,r633,e632⟩
       refine ret_intro ?_
       have hw3:Bl lb w v631:=hw2.ext e632
       obtain⟨s634,A634,n634,c634,rfl,z634⟩:=r633
       exact pi_done rfl e632 ⟨_,_,_,_,rfl,z634⟩
      · 
       intro v635 e636
       have hw2:Bl lb w v635:=hw1.ext e636
       refine deps_nil (wl_alloc rfl (z:= .agg #[F0,S0]) (vs:= [F0,S0]) (fun _=>by kernel_rfl) rfl (by decide) fun g637 v638 nb=>?_)
       exact pi_done rfl nb.ext ⟨_,rfl,by rw [←nb.at_];exact e636.size,nb.bk⟩
      · 
       intro v639 e640
       have hw2:Bl lb w v639:=hw1.ext e640
       refine dk rfl rfl (dk rfl rfl (dk rfl rfl (dk rfl rfl (dk rfl rfl (dk rfl rfl (dk rfl rfl (dk rfl rfl (deps_cons rfl rfl fun x681 y682 h683 e684 f685=>?_))))))))
       obtain⟨s686,A686,n686,c686,rfl,z686⟩:=h683
       have z686:=z686.ext f685
       refine dk rfl rfl (dk rfl rfl (dk rfl rfl (dk rfl rfl (dk rfl rfl (deps_cons rfl rfl fun x712 y713 h714 e715 f716=>?_)))))
       obtain⟨s717,A717,n717,c717,rfl,z717⟩:=h714
       have z717:=z717.ext f716
       refine deps_cons rfl rfl fun x718 y719 h720 e721 f722=>?_
       obtain⟨s723,A723,n723,c723,rfl,z723⟩:=h720
       have z723:=z723.ext f722
       refine deps_cons rfl rfl fun x724 y725 h726 e727 f728=>?_
       obtain⟨g729,rfl,ge731,hb730⟩:=h726
       have hb730:=hb730.ext f728
       have q732:g488<g729:=Nat.lt_of_lt_of_le b_g488.lt ge731
       have ne733:∀p:Addr,RA=some p→p.block≠g729:=fun p hp=>by have:=((o_RAwj).block p hp).2;have:=ge731;omega
       have ne734:∀p:Addr,NA=some p→p.block≠g729:=fun p hp=>by have:=((o_NAwj).block p hp).2;have:=ge731;omega
       have nr735:∀r,r<n→∀p:Addr,ra r=some p→p.block≠g729:=fun r hr p hp=>by have:=((rc_wj).lt r hr p hp).2;have:=ge731;omega
       have ge731:w.heap.size≤g729:=Nat.le_trans hw1.size ge731
       refine deps_nil (wl_stored rfl rfl rfl aggInt rfl hb730 (bq rfl) rfl [.bool s723,.slice A723 n723 c723] rfl fun v736 hb738 u739 hs740=>?_)
       have hw3:Bl lb w v736:=hw2.upd u739 (Nat.le_trans hlb ge731)
       refine wl_nil (eo_np (eo_then ?_))
       have hq:=hMV.quot hI.last hI.ne (by rw [hMV.old (Nat.le_refl _) (by omega) (Nat.le_refl _) (by omega) (Or.inl rfl)];exact hDb) (by omega) (by omega) hj1 hjn (hM.old (a:=k+1+t) (b:=k) (by omega) (by omega) (Nat.le_refl _) (by omega) (Or.inr (Or.inr ⟨rfl,Or.inl rfl⟩)))
       have hLq:ln (bm (pr X qs) (k+1) (k+1+t) j)≤17179869184:=Nat.le_trans (ln_bm hn (pr_ln hI.per hX) (by omega) (by omega) hjn) (by decide)
       obtain⟨pz746,sz746,Bz746,nz746,cz746,hpz746,ldz746,hKz746,zz746⟩:=(((rc_wj.ext e640).updT hb730 u739 nr735)).at (hI.per.lt (k+1+t) (by omega)) (show j<n by omega)
       refine cw_draw mix 12 [9,10] [Is (.slice (ra (qs.getD (k+1+t) 0)) n (rc (qs.getD (k+1+t) 0))),Is (.int .i64 ((j:Nat):Int)),Is (.agg #[.bool s723,.slice A723 n723 c723]),Is (.pointer (some ⟨g,0,none⟩)),Is (.pointer (some ⟨g,0,none⟩)),Is (.pointer (some ⟨g,3,none⟩)),Is (.agg #[.bool sl,.slice Al nl cl]),T2 (ZR w.heap.size (bm (pr X qs) (k+1) (k+1+t) j)) (Is (.int .i64 0)),T2 (ZR w.heap.size (bm (pr X qs) (k+1) (k+1+t) j)) (Is (.int .i64 0)),ZR w.heap.size (bm (pr X qs) (k+1) (k+1+t) j),Is (.int .i64 0),Is (.pointer (some pz746))] [[],[],[],[],[3],[4],[5],[2,6],[7],[8],[8],[0,1]] [[],[],[],[],[3],[3,4],[3,4,5],[2,3,4,5,6],[2,3,4,5,6,7],[2,3,4,5,6,7,8],[2,3,4,5,6,7,8],[0,1,2,3,4,5,6,7,8,9],[0,1,2,3,4,5,6,7,8,9,11]] rfl
        (obs_cons rfl rfl (hob rfl rfl ?_) (obs_cons rfl rfl (hob rfl rfl ?_) (obs_cons rfl rfl (hob rfl rfl ?_) (obs_cons rfl rfl (hob rfl rfl ?_) (obs_cons rfl rfl (hob rfl rfl ?_) (obs_cons rfl rfl (hob rfl rfl ?_) (obs_cons rfl rfl (hob rfl rfl ?_) (obs_cons rfl rfl (hob rfl rfl ?_) (obs_cons rfl rfl (hob rfl rfl ?_) (obs_float rfl rfl (fob rfl ?_) (obs_float rfl rfl (fob rfl ?_) (obs_cons rfl rfl (hob rfl rfl ?_) obs_nil)))))))))))) ?_
       · 
        intro v747 e748
        have hw4:Bl lb w v747:=hw3.ext e748
        refine deps_nil (mv 1 rfl ?_)
        exact pi_done rfl (Ext.refl _) rfl
       · 
        intro v749 e750
        have hw4:Bl lb w v749:=hw3.ext e750
        refine deps_nil (mv 1 rfl ?_)
        exact pi_done rfl (Ext.refl _) rfl
       · 
        intro v751 e752
        have hw4:Bl lb w v751:=hw3.ext e752
        refine deps_nil (lo aggInt (hb738.ext e752) [.bool s723,.slice A723 n723 c723] rfl rfl rfl ?_)
        exact pi_done rfl (Ext.refl _) rfl
       · 
        intro v753 e754
        have hw4:Bl lb w v753:=hw3.ext e754
        refine deps_nil (mv 1 rfl ?_)
        exact pi_done rfl (Ext.refl _) rfl
       · 
        intro v755 e756
        have hw4:Bl lb w v755:=hw3.ext e756
        refine dk rfl rfl (deps_nil (pf g 0 rfl (by kernel_rfl) ?_))
        exact pi_done rfl (Ext.refl _) rfl
       · 
        intro v762 e763
        have hw4:Bl lb w v762:=hw3.ext e763
        refine dk rfl rfl (deps_nil (pf g 3 rfl (by kernel_rfl) ?_))
        exact pi_done rfl (Ext.refl _) rfl
       · 
        intro v769 e770
        have hw4:Bl lb w v769:=hw3.ext e770
        refine dk rfl rfl (deps_nil (lo aggInt (((b_g.ext e640).updN u739 (by omega)).ext e770) [.bool sl,.slice Al nl cl] rfl rfl rfl ?_))
        exact pi_done rfl (Ext.refl _) rfl
       · 
        intro v776 e777
        have hw4:Bl lb w v776:=hw3.ext e777
        refine dk rfl rfl (dk rfl rfl (deps_nil (wl_call rfl rfl (vs:= [.agg #[.bool s723,.slice A723 n723 c723],.agg #[.bool sl,.slice Al nl cl]]) (by kernel_rfl) (by decide) ((g_zint_Exact hw4.size ((z723.updT hb730 u739).ext e777).zi (z723.le (lx_ L509 rfl)) (((z_g_1.ext e640).updT hb730 u739).ext e777).zi (z_g_1.le (lx_ hLz rfl)) hI.ne ⟨_,hq.1⟩).mono (Gv.imp (T2.imp (fun _ _ h=>ZR.cast h hq.2) Is.imp))) ?_)))
        rintro _ v788 ⟨xr790,rfl,r790,e789⟩
        refine ret_intro ?_
        have hw5:Bl lb w v788:=hw4.ext e789
        obtain⟨_,_,rfl,⟨s792,A792,n792,c792,rfl,z792⟩,rfl⟩:=r790
        exact pi_done rfl e789 ⟨_,_,rfl,⟨_,_,_,_,rfl,z792⟩,rfl⟩
       · 
        intro v793 e794
        have hw4:Bl lb w v793:=hw3.ext e794
        refine deps_cons rfl rfl fun x795 y796 h797 e798 f799=>?_
        obtain⟨_,_,rfl,⟨s801,A801,n801,c801,rfl,z801⟩,rfl⟩:=h797
        have z801:=z801.ext f799
        refine deps_nil (mv 1 rfl ?_)
        exact pi_done rfl (Ext.refl _) ⟨_,_,rfl,⟨_,_,_,_,rfl,z801⟩,rfl⟩
       · 
        intro v802 e803
        have hw4:Bl lb w v802:=hw3.ext e803
        refine deps_cons rfl rfl fun x804 y805 h806 e807 f808=>?_
        obtain⟨_,_,rfl,⟨s810,A810,n810,c810,rfl,z810⟩,rfl⟩:=h806
        have z810:=z810.ext f808
        refine deps_nil ?_
        exact⟨.agg #[.bool s810,.slice A810 n810 c810],rfl,rfl,fun _=>by kernel_rfl,⟨_,_,_,_,rfl,z810⟩⟩
       · 
        intro v811 e812
        have hw4:Bl lb w v811:=hw3.ext e812
        refine deps_cons rfl rfl fun x813 y814 h815 e816 f817=>?_
        obtain⟨_,_,rfl,⟨s819,A819,n819,c819,rfl,z819⟩,rfl⟩:=h815
        have z819:=z819.ext f817
        refine deps_nil ?_
        exact⟨.int .i64 0,rfl,rfl,fun _=>by kernel_rfl,rfl⟩
       · 
        intro v820 e821
        have hw4:Bl lb w v820:=hw3.ext e821
        refine dk rfl rfl (dk rfl rfl (deps_nil (wl_idx rfl rfl rfl elemI aggInt.size j rfl (by omega) pz746 hpz746 (by decide) ?_)))
        exact pi_done rfl (Ext.refl _) rfl
       · 
        intro v832 e833
        have hw4:Bl lb w v832:=hw3.ext e833
        refine dk rfl rfl (dk rfl rfl (dk rfl rfl (dk rfl rfl (dk rfl rfl (dk rfl rfl (dk rfl rfl (deps_cons rfl rfl fun x869 y870 h871 e872 f873=>?_)))))))
        obtain⟨_,_,rfl,⟨s875,A875,n875,c875,rfl,z875⟩,rfl⟩:=h871
        have z875:=z875.ext f873
        refine deps_cons rfl rfl fun x876 y877 h878 e879 f880=>?_
        obtain⟨_,_,rfl,⟨s882,A882,n882,c882,rfl,z882⟩,rfl⟩:=h878
        have z882:=z882.ext f880
        refine deps_cons rfl rfl fun x883 y884 h885 e886 f887=>?_
        obtain⟨s888,A888,n888,c888,rfl,z888⟩:=h885
        have z888:=z888.ext f887
        refine dk rfl rfl (dk rfl rfl (deps_nil ?_))
        have rt899:=(((rc_wj.ext e640).updT hb730 u739 nr735).ext e833)
        obtain⟨us901,own902⟩:=rt899.own (hI.per.lt (k+1+t) (by omega))
        refine wl_setR (e:=⟨s888,A888,n888,c888⟩) (z:=bm (pr X qs) (k+1) (k+1+t) j) rfl rfl rfl rt899 (hI.per.lt (k+1+t) (by omega)) (show j<n by omega) hpz746 (Zr.mono z888 (Nat.zero_le _)) (z888.le (lx_ hLq rfl)) fun v900 rc903 uo904=>?_
        have hw5:Bl lb w v900:=hw4.updO uo904 (fun p hp=>(own902.block p hp).1)
        refine wl_nil (eo_np (eo_block_normal (eo_then (cw_region (mv 1 rfl (wl_ar rfl rfl rfl ((j+1:Nat):Int) (ai_add (a:=j) (b:=1) rfl rfl (by omega)) (by decide) (mv 1 rfl (wl_nil (eo_round (⟨v900,j+1,ent V (qs.getD (k+1+t) 0) j (bm (pr X qs) (k+1) (k+1+t) j)⟩:World×Nat×Mx) ⟨hw5,(by omega),((((b_g.ext e640).updN u739 (by omega)).ext e833).updO uo904 (hA.rg (qs.getD (k+1+t) 0) (hI.per.lt (k+1+t) (by omega)))),((((z_g_1.ext e640).updT hb730 u739).ext e833).updOT own902 uo904),((((b_g488.ext e640).updN u739 (by omega)).ext e833).updO uo904 (nr496 (qs.getD (k+1+t) 0) (hI.per.lt (k+1+t) (by omega)))),((((z_g488.ext e640).updT hb730 u739).ext e833).updOT own902 uo904),((((o_RAwj.ext e640).upd u739 ne733).ext e833).updO uo904 (fun p q hp hq e=>hA.Rr (qs.getD (k+1+t) 0) (hI.per.lt (k+1+t) (by omega)) q p hq hp e.symm)),((((o_NAwj.ext e640).upd u739 ne734).ext e833).updO uo904 (fun p q hp hq e=>hA.Nr (qs.getD (k+1+t) 0) (hI.per.lt (k+1+t) (by omega)) q p hq hp e.symm)),rc903,(by omega),(hMV.next hI.per (by omega) (by omega) hj1 hjn rfl)⟩ (show n-(j+1)<n-j by omega) rfl ⟨rfl,rfl,rfl,rfl,rfl,rfl,rfl,rfl,rfl,rfl,rfl,rfl,rfl,rfl,rfl,rfl,rfl,rfl,rfl,rfl,rfl,rfl,rfl,rfl,rfl,rfl,rfl,rfl,rfl,rfl,rfl,rfl,rfl,rfl,rfl,rfl,rfl,rfl,rfl,rfl,rfl,rfl,rfl,rfl,rfl,rfl,rfl,rfl,rfl,rfl,rfl,rfl,rfl,rfl,rfl,rfl,rfl,rfl,rfl,rfl,rfl,rfl,rfl,rfl,rfl,rfl,rfl,rfl,rfl,rfl,trivial⟩)))))))))
     · 
      refine cw_region (mv 2 rfl (pu (v:= .int .i64 ((n:Nat):Int)) rfl (by kernel_rfl) (wl_cmp rfl rfl rfl false (cb_lt_f (a:=j) (b:=n) rfl rfl (by omega)) (by decide) (ne_ (cw_false rfl (cw_exit (eo_thenX (eo_loopX (eo_block_here (eo_then (cw_region (mv 2 rfl (pu (v:= .agg #[F0,S0]) rfl (by kernel_rfl) ?_)))))))))))))
      obtain⟨pz905,sz905,Bz905,nz905,cz905,hpz905,ldz905,hKz905,zz905⟩:=(rc_wj).at (hI.per.lt (k+1+t) (by omega)) (show k<n by omega)
      refine wl_idx rfl rfl rfl elemI aggInt.size k rfl (by omega) pz905 hpz905 (by decide) ?_
      have rt906:=rc_wj
      obtain⟨us908,own909⟩:=rt906.own (hI.per.lt (k+1+t) (by omega))
      refine wl_setR (e:=⟨false,none,0,0⟩) (z:=0) rfl rfl rfl rt906 (hI.per.lt (k+1+t) (by omega)) (show k<n by omega) hpz905 (Zr.mono (Zr.zero (w:=wj) (base:=w.heap.size)) (Nat.zero_le _)) (Nat.zero_le _) fun v907 rc910 uo911=>?_
      have hw2:Bl lb w v907:=hw1.updO uo911 (fun p hp=>(own909.block p hp).1)
      refine wl_nil (eo_block_normal (eo_then (cw_region (wl_ar rfl rfl rfl ((t+1:Nat):Int) (ai_add (a:=t) (b:=1) rfl rfl (by omega)) (by decide) (mv 1 rfl (wl_nil (eo_round (⟨v907,t+1,ent V (qs.getD (k+1+t) 0) k 0⟩:World×Nat×Mx) ⟨hw2,(by omega),(b_g.updO uo911 (hA.rg (qs.getD (k+1+t) 0) (hI.per.lt (k+1+t) (by omega)))),(z_g_1.updOT own909 uo911),(o_RAwj.updO uo911 (fun p q hp hq e=>hA.Rr (qs.getD (k+1+t) 0) (hI.per.lt (k+1+t) (by omega)) q p hq hp e.symm)),(o_NAwj.updO uo911 (fun p q hp hq e=>hA.Nr (qs.getD (k+1+t) 0) (hI.per.lt (k+1+t) (by omega)) q p hq hp e.symm)),rc910,(by have h9:Mid n k (pr X qs) qs V (k+1+t) n:=(show j=n by omega)▸hMV;exact h9.row hI.per (by omega) (by omega) 0)⟩ (show (n-(k+1))-(t+1)<(n-(k+1))-t by omega) rfl ⟨rfl,rfl,rfl,rfl,rfl,rfl,rfl,rfl,rfl,rfl,rfl,rfl,rfl,rfl,rfl,rfl,rfl,rfl,rfl,rfl,rfl,rfl,rfl,rfl,rfl,rfl,rfl,rfl,rfl,rfl,rfl,rfl,rfl,rfl,rfl,rfl,rfl,rfl,rfl,rfl,rfl,rfl,rfl,rfl,rfl,rfl,rfl,rfl,rfl,rfl,rfl,rfl,rfl,rfl,rfl,rfl,rfl,rfl,trivial⟩)))))))
    · 
     refine cw_region (wl_cmp rfl rfl rfl false (cb_lt_f (a:=t) (b:=n-(k+1)) rfl rfl (by omega)) (by decide) (ne_ (cw_seq (cw_false rfl (cw_exit (eo_thenX (eo_loopX (eo_block_here (eo_then (sr (mv 3 rfl ?_)))))))))))
     obtain⟨pz912,sz912,Bz912,nz912,cz912,hpz912,ldz912,hKz912,zz912⟩:=(rc_wt).at (hI.per.lt k (by omega)) (show k<n by omega)
     refine wl_idx rfl rfl rfl elemI aggInt.size k rfl (by omega) pz912 hpz912 (by decide) (wl_load rfl rfl (ldz912 _ (Ext.refl _) _ _ aggInt) (by decide) (pf g 0 rfl (by kernel_rfl) (pf g 3 rfl (by kernel_rfl) ?_)))
     have hb914:=b_g
     refine wl_stored rfl rfl rfl aggInt rfl hb914 (bq rfl) rfl [.slice RA n rcap,.slice NA n ncap,.bool tu,.bool sz912,.slice Bz912 nz912 cz912,.int .i64 ((k:Nat):Int)] rfl fun v913 hb915 u916 hs917=>?_
     have hw2:Bl lb w v913:=hw1.upd u916 hA.lg
     refine ne_ (sr (mv 1 rfl (pf g 0 rfl (by kernel_rfl) (pf g 5 rfl (by kernel_rfl) (wl_load rfl rfl (load_cell cellInt hb915 rfl) (by decide) (wl_ar rfl rfl rfl ((k+1:Nat):Int) (ai_add (a:=k) (b:=1) rfl rfl (by omega)) (by decide) (pf g 0 rfl (by kernel_rfl) (pf g 5 rfl (by kernel_rfl) (wl_stored1 rfl rfl rfl szInt rfl hb915 (bq rfl) rfl [.slice RA n rcap,.slice NA n ncap,.bool tu,.bool sz912,.slice Bz912 nz912 cz912,.int .i64 ((k+1:Nat):Int)] rfl fun v918 hb920 u921 hs922=>?_)))))))))
     have hw3:Bl lb w v918:=hw2.upd u921 hA.lg
     refine ne_ (sr (mv 1 rfl (ne_ (cw_ret (eo_ret [.bool true] rfl ⟨rfl,trivial⟩ ?_)))))
     have hM9:Mid n k (pr X qs) qs Y n (k+1):=(show k+1+t=n by omega)▸hM
     exact⟨hw3,Or.inr ⟨qs,Y,tu,Y (qs.getD k 0) k,rfl,⟨_,_,_,_,_,hb920,((zz912.updT hb914 u916).updT hb915 u921),((o_RAwt.upd u916 hA.Rg).upd u921 hA.Rg),((o_NAwt.upd u916 hA.Ng).upd u921 hA.Ng),((rc_wt.updT hb914 u916 hA.rg).updT hb915 u921 hA.rg)⟩,hI.next (by omega) hM9 (by rw [hM9.old (Nat.le_refl _) (by omega) (Nat.le_refl _) (by omega) (Or.inl rfl)];exact hDb)⟩⟩
 · 
  refine cw_region (mv 2 rfl (pf g 0 rfl (by kernel_rfl) (pf g 0 rfl (by kernel_rfl) (wl_load rfl rfl (load_cell cellRows b_g rfl) (by decide) (pu (v:= .int .i64 ((n:Nat):Int)) rfl (by kernel_rfl) (wl_cmp rfl rfl rfl false (cb_lt_f (a:=p) (b:=n) rfl rfl (by omega)) (by decide) (mv 13 rfl (pu (v:= .bool false) rfl (by kernel_rfl) (ne_ (cw_false rfl (cw_exit (eo_thenX (eo_loopX ?_)))))))))))))
  refine eo_block_here (eo_then (cw_seq (sr (mv 2 rfl (pf g 0 rfl (by kernel_rfl) (pf g 0 rfl (by kernel_rfl) (wl_load rfl rfl (load_cell cellRows b_g rfl) (by decide) (pu (v:= .int .i64 ((n:Nat):Int)) rfl (by kernel_rfl) (wl_cmp rfl rfl rfl true (cb_eq_t (a:=p) (b:=n) rfl rfl (by omega)) (by decide) (ne_ (cw_true rfl (sr (mv 1 rfl ?_)))))))))))))
  refine ne_ (cw_ret (eo_thenR (eo_ret [F0] rfl ⟨rfl,trivial⟩ ?_)))
  exact⟨hw1,Or.inl ⟨rfl,fun i h1 h2=>hz0 i h1 (by omega)⟩⟩
theorem cellPF:∀w,(isAgg 67).run Try.prog w= .ok false w:=fun _=>by kernel_rfl
theorem szPF:∀w,(sizeOf 67).run Try.prog w= .ok 1 w:=fun _=>by kernel_rfl
theorem szRows:∀w,(sizeOf 70).run Try.prog w= .ok 1 w:=fun _=>by kernel_rfl
theorem szNums:∀w,(sizeOf 71).run Try.prog w= .ok 1 w:=fun _=>by kernel_rfl
structure OfC (B L M gf gp gm:Nat) (Al Am:Option Addr):Prop where
 bf:B≤gf
 fp:gp≠gf
 fm:gm≠gf
 fM:gf<M
 fL:gf<L
 pL:gp<L
 mL:gm<L
 al:∀p,Al=some p→p.block<L
 am:∀p,Am=some p→p.block<L
 BL:B≤L
structure OfS (w0:World) (n K L M gf gp gm:Nat) (sl:Bool) (Al:Option Addr) (nl cl:Nat) (Am:Option Addr) (capm:Nat) (xs:List Int) (W:World):Prop where
 ext:Ext w0 W
 sz:L≤W.heap.size
 z:Zr W w0.heap.size sl Al nl cl 1
 p:Bk W gp 67 [.pointer (some ⟨gf,0,none⟩)]
 m:Bk W gm 24 [.int .i64 (n:Int),.int .i64 (n:Int),.slice Am (n*n) capm]
 l:Lz none K 0 W M Am (n*n) capm xs
section
variable {w0:World}{n K L M gf gp gm:Nat}{sl:Bool}{Al:Option Addr}{nl cl:Nat}{Am:Option Addr}{capm:Nat}{xs:List Int}{W W':World}
theorem OfS.ex (s:OfS w0 n K L M gf gp gm sl Al nl cl Am capm xs W) (e:Ext W W'):OfS w0 n K L M gf gp gm sl Al nl cl Am capm xs W':=⟨s.ext.trans e,Nat.le_trans s.sz e.size,s.z.ext e,s.p.ext e,s.m.ext e,s.l.ext e⟩
theorem OfS.nc (s:OfS w0 n K L M gf gp gm sl Al nl cl Am capm xs W) (c:Nc W W') (b:Below L W W') (hB:w0.heap.size≤L):OfS w0 n K L M gf gp gm sl Al nl cl Am capm xs W':=⟨⟨s.ext.below.trans (b.mono hB)⟩,Nat.le_trans s.sz c.size,s.z.nc c,s.p.nc c,s.m.nc c,s.l.nc c⟩
theorem OfS.updR {A:Option Addr}{T:TypeId}{k c:Nat}{us:List Value}(s:OfS w0 n K L M gf gp gm sl Al nl cl Am capm xs W) (C:OfC w0.heap.size L M gf gp gm Al Am) (ho:Own W L T 1 A k c us) (u:UpdO A W W') (hT:47≠T:=by decide):OfS w0 n K L M gf gp gm sl Al nl cl Am capm xs W':=
 ⟨u.ext s.ext (fun p hp=>Nat.le_trans C.BL (ho.block p hp).1),Nat.le_trans s.sz u.size,s.z.updOT ho u hT,s.p.updO u (fun p hp e=>by have:=(ho.block p hp).1;have:=C.pL;omega),s.m.updO u (fun p hp e=>by have:=(ho.block p hp).1;have:=C.mL;omega),
  s.l.updQ ho u (fun p q hp hq e=>by have:=(ho.block p hp).1;have:=C.am q hq;omega) hT⟩
theorem OfS.updF {us:List Value}(s:OfS w0 n K L M gf gp gm sl Al nl cl Am capm xs W) (C:OfC w0.heap.size L M gf gp gm Al Am) (hb:Bk W gf 73 us) (u:Upd gf W W'):OfS w0 n K L M gf gp gm sl Al nl cl Am capm xs W':=
 ⟨u.ext s.ext C.bf,Nat.le_trans s.sz u.size,s.z.updT hb u,s.p.updN u C.fp,s.m.updN u C.fm,s.l.updT hb u (fun p hp e=>by have:=(s.l.block p hp).1;have:=C.fM;omega)⟩
end
structure OfM (n L gf:Nat) (sl:Bool) (Al:Option Addr) (nl cl:Nat) (X:Mx) (kr kn b:Nat) (RA NA:Option Addr) (rcap ncap:Nat) (ra:Nat→Option Addr) (rc:Nat→Nat) (W:World):Prop where
 f:Bk W gf 73 [.slice RA kr rcap,.slice NA kn ncap,.bool false,.bool sl,.slice Al nl cl,.int .i64 0]
 R:Own W L 22 1 RA kr rcap ((List.range kr).map (rwv ra rc n))
 N:Own W L 3 1 NA kn ncap (((List.range kn).map (fun i:Nat=>(i:Int))).map I64)
 C:Rcs 17179869184 L kr n ra rc W X
 RN:∀p q,RA=some p→NA=some q→p.block≠q.block
 Rr:∀r,r<kr→∀p q,RA=some p→ra r=some q→p.block≠q.block
 Nr:∀r,r<kr→∀p q,NA=some p→ra r=some q→p.block≠q.block
 Rb:∀p,RA=some p→p.block<b
 Nb:∀p,NA=some p→p.block<b
 rb:∀r,r<kr→∀p,ra r=some p→p.block<b
def OfI (w0:World) (n K L M gf gp gm:Nat) (sl:Bool) (Al:Option Addr) (nl cl:Nat) (Am:Option Addr) (capm:Nat) (xs:List Int) (X:Mx) (k b:Nat) (W:World):Prop:=
 L≤b∧OfS w0 n K L M gf gp gm sl Al nl cl Am capm xs W∧∃RA NA rcap ncap ra rc,OfM n L gf sl Al nl cl X k k b RA NA rcap ncap ra rc W
theorem Rcs.low {K lb lb' n m:Nat}{ra:Nat→Option Addr}{rc:Nat→Nat}{w:World}{Z:Mx}(h:Rcs K lb n m ra rc w Z) (hl:lb'≤lb):Rcs K lb' n m ra rc w Z:=⟨fun r hr=>by obtain⟨zs,h1,h2⟩:=h.row r hr;exact⟨zs,h1.mono (Nat.le_refl _) (Nat.le_refl _) hl,h2⟩,h.dis⟩
theorem rows_succ {k n lc:Nat}{ra:Nat→Option Addr}{rc:Nat→Nat}{LA:Option Addr}:(List.range k).map (rwv ra rc n)++ [.slice LA n lc]=(List.range (k+1)).map (rwv (fun r=>if r=k then LA else ra r) (fun r=>if r=k then lc else rc r) n):=by
 rw [List.range_succ,List.map_append]
 congr 1
 ·refine List.map_congr_left fun r hr=>?_
  have:=List.mem_range.1 hr
  unfold rwv
  simp only [if_neg (show¬r=k by omega)]
 ·simp [rwv]
theorem nums_succ {k:Nat}:((List.range k).map (fun i:Nat=>(i:Int))).map I64++ [.int .i64 (k:Int)]=((List.range (k+1)).map (fun i:Nat=>(i:Int))).map I64:=by
 rw [List.range_succ,List.map_append,List.map_append];rfl
set_option maxHeartbeats 4000000 in
theorem g_brs_of {w:World}{n K:Nat}{Aa:Option Addr}{na capa:Nat}{xs:List Int}(hxa:ZF w Aa na capa K xs) (hn:n≤64) (hna:na=n*n){X:Mx}(hX:En n n X xs) (hKB:K≤17179869184):
  Calls Try.prog 42 #[.agg #[.int .i64 ((n:Nat):Int),.int .i64 ((n:Nat):Int),.slice Aa na capa]] w (Gv w (fun v w'=>∃g RA NA rcap ncap ra rc,v= .pointer (some ⟨g,0,none⟩)∧Apt w.heap.size n g RA NA ra∧Fld w.heap.size n g RA NA rcap ncap ra rc (List.range n) X false 1 0 w')):=by
 have hlb:w.heap.size≤w.heap.size:=Nat.le_refl _
 have hxa0:=hxa
 obtain⟨msa,hla,hma⟩:=hxa
 refine sx_enterM Try.func42 rfl (n:=34) rfl (bq rfl) (args:= [.agg #[.int .i64 ((n:Nat):Int),.int .i64 ((n:Nat):Int),.slice Aa na capa]]) (cw_keep [(0,.agg #[.int .i64 ((n:Nat):Int),.int .i64 ((n:Nat):Int),.slice Aa na capa])] ⟨rfl,trivial⟩ (sr (bx [.int .i64 ((n:Nat):Int),.int .i64 ((n:Nat):Int),.slice Aa na capa] (Ext.refl w) rfl rfl rfl fun g1 v2 hb4 ge5 e3 hw1=>(mv 1 rfl (ne_ (sr (cl (vs:= [.int .i64 1]) hw1 (g_zint_Of hw1.size (by decide) (by decide)) rfl (by kernel_rfl) fun xr8 v6 r8 e7 hw2=>?_)))))))
 obtain⟨s9,A9,n9,c9,rfl,z9⟩:=r8
 refine pu (v:= .agg #[S0,S0,F0,.bool s9,.slice A9 n9 c9,I0]) rfl (by kernel_rfl) (bxq [S0,S0,F0,.bool s9,.slice A9 n9 c9,I0] hw2 (hb4.ext e7).lt rfl rfl rfl fun g10 v11 hb13 ge14 q15 e12 hw3=>(wl_alloc rfl (z:= .pointer none) (vs:= [.pointer none]) (fun _=>by kernel_rfl) rfl (by decide) fun g16 v17 nb=>?_))
 have hb19:=nb.bk
 have ge20:w.heap.size≤g16:=by rw [←nb.at_];exact hw3.size
 have q21:g10<g16:=by rw [←nb.at_];exact hb13.lt
 have e18:=nb.ext
 clear nb
 have hw4:=hw3.trans e18
 refine wl_stored1 rfl rfl rfl szPF rfl hb19 (bq rfl) rfl [.pointer (some ⟨g10,0,none⟩)] rfl fun v22 hb24 u25 hs26=>?_
 have hw5:=u25.ext hw4 ge20
 refine ne_ (cw_seq (sr (lo aggMat ((hb4.ext (e7.trans (e12.trans e18))).updN u25 (by omega)) [.int .i64 ((n:Nat):Int),.int .i64 ((n:Nat):Int),.slice Aa na capa] rfl rfl rfl (cl (vs:= [.agg #[.int .i64 ((n:Nat):Int),.int .i64 ((n:Nat):Int),.slice Aa na capa]]) hw5 (g_mat_Lines (hxa0.ext hw5) hn hn hna hKB) rfl (by kernel_rfl) fun xr29 v27 r29 e28 hw6=>?_))))
 obtain⟨gm,Am,capm,rfl,hgm,hbm,hzm⟩:=r29
 refine ne_ (cw_block ?_)
 have hf0:=(hb13.ext e18).updN u25 (by omega)
 have hf1:=hf0.ext e28
 have hp1:=hb24.ext e28
 have hz1:=((z9.ext (e12.trans e18)).updT hb19 u25).ext e28
 have C:OfC w.heap.size v27.heap.size v22.heap.size g10 g16 gm A9 Am:=⟨ge14,by omega,(by have:=hf0.lt;omega),hf0.lt,hf1.lt,hp1.lt,hbm.lt,fun p hp=>(hz1.own.block p hp).2,fun p hp=>(hzm.block p hp).2,hw6.size⟩
 have S0:OfS w n K v27.heap.size v22.heap.size g10 g16 gm s9 A9 n9 c9 Am capm xs v27:=⟨hw6,Nat.le_refl _,hz1,hp1,by rw [←hna];exact hbm,by rw [←hna];exact hzm⟩
 refine cw_keep [(3,.pointer (some ⟨g16,0,none⟩)),(10,.func (.func 73) #[] #[.pointer (some ⟨gm,0,none⟩)])] ⟨rfl,rfl,trivial⟩ ?_
 refine cw_lines (A:=Am) (cap:=capm) (gm:=gm) (xs:=xs) (X:=X) (K:=K) (r:=n) (c:=n) (p0:=11) (p1:=12) rfl rfl (by decide) (by decide) hn hn hKB hX (OfI w n K v27.heap.size v22.heap.size g10 g16 gm s9 A9 n9 c9 Am capm xs X) ?_ ?_ ?_ ?_ ?_
  (fun v0 v1=>(5,v1)::(4,v0)::(12,v1)::(11,v0):: [(3,.pointer (some ⟨g16,0,none⟩)),(10,.func (.func 73) #[] #[.pointer (some ⟨gm,0,none⟩)])]) ?_ ?_ ?_
 ·rintro k b W ⟨_,S,_⟩
  exact⟨S.m,S.l.zf0⟩
 ·rintro k b V W ⟨hb,S,RA,NA,rcap,ncap,ra,rc,R⟩ x
  exact⟨hb,S.ex x,RA,NA,rcap,ncap,ra,rc,R.f.ext x,R.R.ext x,R.N.ext x,R.C.ext x,R.RN,R.Rr,R.Nr,R.Rb,R.Nb,R.rb⟩
 ·rintro k b W ⟨hb,S,RA,NA,rcap,ncap,ra,rc,R⟩
  exact⟨S.sz,S,RA,NA,rcap,ncap,ra,rc,R.f,R.R,R.N,R.C,R.RN,R.Rr,R.Nr,fun p hp=>(R.R.block p hp).2,fun p hp=>(R.N.block p hp).2,fun r hr p hp=>(R.C.lt r hr p hp).2⟩
 ·rintro k b V W ⟨hb,S,RA,NA,rcap,ncap,ra,rc,R⟩ x hbl
  exact⟨hb,S.nc x hbl C.BL,RA,NA,rcap,ncap,ra,rc,R.f.nc x,R.R.nc x,R.N.nc x,R.C.nc x,R.RN,R.Rr,R.Nr,R.Rb,R.Nb,R.rb⟩
 ·exact⟨Nat.le_refl _,S0,none,none,0,0,fun _=>none,fun _=>0,hf1,Own.nil _ _ _ _,Own.nil _ _ _ _,⟨fun r hr=>(by omega),fun r s hr=>(by omega)⟩,fun p q hp=>(by cases hp),fun r hr=>(by omega),fun r hr=>(by omega),fun p hp=>(by cases hp),fun p hp=>(by cases hp),fun r hr=>(by omega)⟩
 ·intro lp v0 v1 Kp W hk
  refine ci_seq (ci_region (Wd.round _ _ _) (then_lets (then_lets (fun⟨_,_,h⟩=>h))) rfl (mv 1 rfl (wl_nil (eo_thenI (ci_region (Wd.round _ _ _) (then_lets (fun⟨_,_,h⟩=>h)) rfl (mv 1 rfl (wl_nil ?_)))))))
  exact hk
 ·rintro lp k b W LA lc zs Q9 hk ⟨hLb,S,RA,NA,rcap,ncap,ra,rc,R⟩ hb hz hze hNL hQ
  have hf:=R.f
  have hp:=S.p
  have hsz:=S.sz
  have hAb:∀p,RA=some p→p.block<W.heap.size:=fun p hp=>(R.R.block p hp).2
  have hAp:∀p,RA=some p→p.block≠g16:=fun p hp e=>by have:=(R.R.block p hp).1;have:=C.pL;omega
  have hAf:∀p,RA=some p→p.block≠g10:=fun p hp e=>by have:=(R.R.block p hp).1;have:=C.fL;omega
  have hO:=R.R
  refine ci_block (ci_seq ?_)
  refine ci_drawE (E:=EA v27.heap.size 22 RA k rcap ((List.range k).map (rwv ra rc n)) (.slice LA n lc)) EA.dr (Wd.round _ _ _) (then_lets (block_lets hNL)) rfl mix 8 [Is (.pointer (some ⟨g10,0,none⟩)),Is (.pointer (some ⟨g10,0,none⟩)),Is (.pointer (some ⟨g10,0,none⟩)),Is (.pointer (some ⟨g10,0,none⟩)),Is (.slice RA k rcap),Is (.slice LA n lc),BsR 22 (.slice LA n lc) W.heap.size,ApR v27.heap.size 22 RA k rcap ((List.range k).map (rwv ra rc n)) (.slice LA n lc) W.heap.size] [[],[],[1],[2],[3],[],[5],[4,6]] [[],[],[1],[1,2],[1,2,3],[],[5],[1,2,3,4,5,6],[0,1,2,3,4,5,6,7],[0,1,2,3,4,5,6,7,8],[0,1,2,3,4,5,6,7,8,9]] rfl
   (obse_cons rfl (hobe rfl ?_) (obse_cons rfl (hobe rfl ?_) (obse_cons rfl (hobe rfl ?_) (obse_cons rfl (hobe rfl ?_) (obse_cons rfl (hobe rfl ?_) (obse_cons rfl (hobe rfl ?_) (obse_cons rfl (hobe rfl ?_) (obse_cons rfl (hobe rfl ?_) obse_nil)))))))) ?_
  ·intro v e
   refine depe_nil (wl_load rfl rfl (load_cell cellPF (hp.updO e.u hAp) rfl) (by decide) ?_)
   exact pie_done rfl (EA.dr.refl _) rfl
  ·intro v e
   refine depe_nil (wl_load rfl rfl (load_cell cellPF (hp.updO e.u hAp) rfl) (by decide) ?_)
   exact pie_done rfl (EA.dr.refl _) rfl
  ·intro v e
   refine depe_cons rfl rfl fun x0 y0 h0 e0 f0=>?_
   obtain rfl:=h0
   refine depe_nil (pf g10 0 rfl (by kernel_rfl) ?_)
   exact pie_done rfl (EA.dr.refl _) rfl
  ·intro v e
   refine depe_cons rfl rfl fun x0 y0 h0 e0 f0=>?_
   obtain rfl:=h0
   refine depe_nil (pf g10 0 rfl (by kernel_rfl) ?_)
   exact pie_done rfl (EA.dr.refl _) rfl
  ·intro v e
   refine depe_cons rfl rfl fun x0 y0 h0 e0 f0=>?_
   obtain rfl:=h0
   refine depe_nil (wl_load rfl rfl (load_cell cellRows (hf.updO e.u hAf) rfl) (by decide) ?_)
   exact pie_done rfl (EA.dr.refl _) rfl
  ·intro v e
   refine depe_nil (mv 1 rfl ?_)
   exact pie_done rfl (EA.dr.refl _) rfl
  ·intro v e
   refine depe_cons rfl rfl fun x0 y0 h0 e0 f0=>?_
   obtain rfl:=h0
   refine depe_nil (wl_bslice rfl rfl (by decide) (k:=1) (e:=22) [.slice LA n lc] (fun _=>by kernel_rfl) fun g w2 nb=>?_)
   exact pie_done rfl (EA.of_ext nb.ext) ⟨g,rfl,by rw [←nb.at_];exact e.u.size,nb.bk⟩
  ·intro v e
   refine depe_cons rfl rfl fun x0 y0 h0 e0 f0=>?_
   obtain rfl:=h0
   refine depe_cons rfl rfl fun x1 y1 h1 e1 f1=>?_
   obtain⟨g,rfl,hg,hbg⟩:=h1.lift f1 hAb
   refine depe_nil ?_
   have ho:=e.o1 hO
   refine wl_appC (z:= .slice none 0 0) (s:=1) (bytes:=24) (e:=22) rfl rfl rfl (by kernel_rfl) (by kernel_rfl) rfl (by decide) (by decide) ho (Nat.le_trans hsz e.u.size) [.slice LA n lc] rfl (one_news3 _ hbg) rfl (by omega) (by decide) fun A1 c1 w2 ho2 hc2=>?_
   exact pie_done rfl (EA.app ho ho2 hc2) ⟨_,_,rfl,ho2,hc2.imp (fun h=>⟨h.1,h.2.1⟩) (fun h p hp=>Nat.le_trans e.u.size (h.2 p hp))⟩
  intro w1 e1
  refine depe_cons rfl rfl fun x0 y0 h0 e10 f0=>?_
  obtain rfl:=h0
  refine depe_cons rfl rfl fun x1 y1 h1 e11 f1=>?_
  obtain rfl:=h1
  refine depe_cons rfl rfl fun x2 y2 h2 e12 f2=>?_
  obtain rfl:=h2
  refine depe_cons rfl rfl fun x3 y3 h3 e13 f3=>?_
  obtain rfl:=h3
  refine depe_cons rfl rfl fun x4 y4 h4 e14 f4=>?_
  obtain rfl:=h4
  refine depe_cons rfl rfl fun x5 y5 h5 e15 f5=>?_
  obtain rfl:=h5
  refine depe_cons rfl rfl fun x6 y6 h6 e16 f6=>?_
  obtain⟨g9,rfl,hg9,hbg9⟩:=h6
  refine depe_cons rfl rfl fun x7 y7 h7 e17 f7=>?_
  obtain⟨A1,c1,rfl,ho1,hc1⟩:=h7.lift f7 hAb
  refine depe_nil (pf g10 0 rfl (by kernel_rfl) (pf g10 0 rfl (by kernel_rfl) ?_))
  have hf1:=hf.updO e1.u hAf
  refine wl_stored1 rfl rfl rfl szRows rfl hf1 (bq rfl) rfl [.slice A1 (k+1) c1,.slice NA k ncap,F0,.bool s9,.slice A9 n9 c9,I0] rfl fun w2 hf2 u2 hs2=>(wl_nil (eo_np (eo_thenI ?_)))
  have S2:=(S.updR C hO e1.u).updF C hf1 u2
  have hz2:=(hz.updQ hO e1.u (fun p q hp hq e=>by have:=R.Rb p hp;have:=(hz.block q hq).1;omega)).updT hf1 u2 (fun p hp e=>by have:=(hz.block p hp).1;have:=C.fL;omega)
  have hR2:=ho1.updT hf1 (by decide) u2
  have hN2:=(R.N.updO e1.u R.RN).updT hf1 (by decide) u2
  have hC2:=(R.C.updQ hO e1.u R.Rr).updT hf1 u2 (fun r hr p hp e=>by have:=(R.C.lt r hr p hp).1;have:=C.fL;omega)
  have hsz2:W.heap.size≤w2.heap.size:=Nat.le_trans e1.u.size u2.by_.size
  have R2:OfM n v27.heap.size g10 s9 A9 n9 c9 X (k+1) k w2.heap.size A1 NA c1 ncap (fun r=>if r=k then LA else ra r) (fun r=>if r=k then lc else rc r) w2:=by
   refine⟨hf2,?_,hN2,⟨fun r hr=>?_,fun r s hr hs hrs p q hp hq=>?_⟩,fun p q hp hq=>?_,fun r hr p q hp hq=>?_,fun r hr p q hp hq=>?_,fun p hp=>(hR2.block p hp).2,fun p hp=>(hN2.block p hp).2,fun r hr p hp=>?_⟩
   ·rw [←rows_succ];exact hR2
   ·by_cases e:r=k
    ·subst e
     simp only
     exact⟨zs,hz2.mono hKB (Nat.le_refl _) hLb,hze⟩
    ·simp only [if_neg e]
     exact hC2.row r (by omega)
   ·split at hp
    ·split at hq
     ·omega
     ·have:=(hz.block p hp).1;have:=R.rb s (by omega) q hq;omega
    ·split at hq
     ·have:=(hz.block q hq).1;have:=R.rb r (by omega) p hp;omega
     ·exact R.C.dis r s (by omega) (by omega) hrs p q hp hq
   ·rcases hc1 with⟨rfl,rfl⟩ | h
    ·exact R.RN p q hp hq
    ·have:=h p hp;have:=(R.N.block q hq).2;omega
   ·rcases hc1 with⟨rfl,rfl⟩ | h
    ·split at hq
     ·have:=R.Rb p hp;have:=(hz.block q hq).1;omega
     ·exact R.Rr r (by omega) p q hp hq
    ·split at hq
     ·have:=h p hp;have:=(hz.block q hq).2;omega
     ·have:=h p hp;have:=(R.C.lt r (by omega) q hq).2;omega
   ·split at hq
    ·have:=R.Nb p hp;have:=(hz.block q hq).1;omega
    ·exact R.Nr r (by omega) p q hp hq
   ·split at hp
    ·exact (hz2.block p hp).2
    ·exact (hC2.lt r (by omega) p hp).2
  have hkf:KeepsFrom v27.heap.size W w2:=(e1.u.kf hO).trans (u2.kf hf1)
  clear hf1 hf2 hR2 hN2 hC2 e1 u2 hO hAf hAp hAb hf hp hsz
  generalize (fun r=>if r=k then LA else ra r)=ra2 at R2
  generalize (fun r=>if r=k then lc else rc r)=rc2 at R2
  have hf:=R2.f
  have hp:=S2.p
  have hsz:=S2.sz
  have hAb:∀p,NA=some p→p.block<w2.heap.size:=fun p hp=>(R2.N.block p hp).2
  have hAp:∀p,NA=some p→p.block≠g16:=fun p hp e=>by have:=(R2.N.block p hp).1;have:=C.pL;omega
  have hAf:∀p,NA=some p→p.block≠g10:=fun p hp e=>by have:=(R2.N.block p hp).1;have:=C.fL;omega
  have hO:=R2.N
  generalize A1=RAx at*
  generalize c1=rcx at*
  refine ci_drawE (E:=EA v27.heap.size 3 NA k ncap (((List.range k).map (fun i:Nat=>(i:Int))).map I64) (.int .i64 (k:Int))) EA.dr (Wd.round _ _ _) (block_lets hNL) rfl mix 8 [Is (.pointer (some ⟨g10,0,none⟩)),Is (.pointer (some ⟨g10,0,none⟩)),Is (.pointer (some ⟨g10,0,none⟩)),Is (.pointer (some ⟨g10,1,none⟩)),Is (.slice NA k ncap),Is (.int .i64 (k:Int)),BsR 3 (.int .i64 (k:Int)) w2.heap.size,ApR v27.heap.size 3 NA k ncap (((List.range k).map (fun i:Nat=>(i:Int))).map I64) (.int .i64 (k:Int)) w2.heap.size] [[],[],[1],[2],[3],[],[5],[4,6]] [[],[],[1],[1,2],[1,2,3],[],[5],[1,2,3,4,5,6],[0,1,2,3,4,5,6,7],[0,1,2,3,4,5,6,7,8],[0,1,2,3,4,5,6,7,8,9]] rfl
   (obse_cons rfl (hobe rfl ?_) (obse_cons rfl (hobe rfl ?_) (obse_cons rfl (hobe rfl ?_) (obse_cons rfl (hobe rfl ?_) (obse_cons rfl (hobe rfl ?_) (obse_cons rfl (hobe rfl ?_) (obse_cons rfl (hobe rfl ?_) (obse_cons rfl (hobe rfl ?_) obse_nil)))))))) ?_
  ·intro v e
   refine depe_nil (wl_load rfl rfl (load_cell cellPF (hp.updO e.u hAp) rfl) (by decide) ?_)
   exact pie_done rfl (EA.dr.refl _) rfl
  ·intro v e
   refine depe_nil (wl_load rfl rfl (load_cell cellPF (hp.updO e.u hAp) rfl) (by decide) ?_)
   exact pie_done rfl (EA.dr.refl _) rfl
  ·intro v e
   refine depe_cons rfl rfl fun x0 y0 h0 e0 f0=>?_
   obtain rfl:=h0
   refine depe_nil (pf g10 0 rfl (by kernel_rfl) ?_)
   exact pie_done rfl (EA.dr.refl _) rfl
  ·intro v e
   refine depe_cons rfl rfl fun x0 y0 h0 e0 f0=>?_
   obtain rfl:=h0
   refine depe_nil (pf g10 1 rfl (by kernel_rfl) ?_)
   exact pie_done rfl (EA.dr.refl _) rfl
  ·intro v e
   refine depe_cons rfl rfl fun x0 y0 h0 e0 f0=>?_
   obtain rfl:=h0
   refine depe_nil (wl_load rfl rfl (load_cell cellNums (hf.updO e.u hAf) rfl) (by decide) ?_)
   exact pie_done rfl (EA.dr.refl _) rfl
  ·intro v e
   refine depe_nil (mv 1 rfl ?_)
   exact pie_done rfl (EA.dr.refl _) rfl
  ·intro v e
   refine depe_cons rfl rfl fun x0 y0 h0 e0 f0=>?_
   obtain rfl:=h0
   refine depe_nil (wl_bslice rfl rfl (by decide) (k:=1) (e:=3) [.int .i64 (k:Int)] (fun _=>by kernel_rfl) fun g w5 nb=>?_)
   exact pie_done rfl (EA.of_ext nb.ext) ⟨g,rfl,by rw [←nb.at_];exact e.u.size,nb.bk⟩
  ·intro v e
   refine depe_cons rfl rfl fun x0 y0 h0 e0 f0=>?_
   obtain rfl:=h0
   refine depe_cons rfl rfl fun x1 y1 h1 e1 f1=>?_
   obtain⟨g,rfl,hg,hbg⟩:=h1.lift f1 hAb
   refine depe_nil ?_
   have ho:=e.o1 hO
   refine wl_appC (z:= .int .i64 0) (s:=1) (bytes:=8) (e:=3) rfl rfl rfl (by kernel_rfl) (by kernel_rfl) rfl (by decide) (by decide) ho (Nat.le_trans hsz e.u.size) [.int .i64 (k:Int)] rfl (one_news3 _ hbg) rfl (by omega) (by decide) fun A1 c1 w5 ho2 hc2=>?_
   exact pie_done rfl (EA.app ho ho2 hc2) ⟨_,_,rfl,ho2,hc2.imp (fun h=>⟨h.1,h.2.1⟩) (fun h p hp=>Nat.le_trans e.u.size (h.2 p hp))⟩
  intro w3 e1
  refine depe_cons rfl rfl fun x0 y0 h0 e10 f0=>?_
  obtain rfl:=h0
  refine depe_cons rfl rfl fun x1 y1 h1 e11 f1=>?_
  obtain rfl:=h1
  refine depe_cons rfl rfl fun x2 y2 h2 e12 f2=>?_
  obtain rfl:=h2
  refine depe_cons rfl rfl fun x3 y3 h3 e13 f3=>?_
  obtain rfl:=h3
  refine depe_cons rfl rfl fun x4 y4 h4 e14 f4=>?_
  obtain rfl:=h4
  refine depe_cons rfl rfl fun x5 y5 h5 e15 f5=>?_
  obtain rfl:=h5
  refine depe_cons rfl rfl fun x6 y6 h6 e16 f6=>?_
  obtain⟨g9,rfl,hg9,hbg9⟩:=h6
  refine depe_cons rfl rfl fun x7 y7 h7 e17 f7=>?_
  obtain⟨A1,c1,rfl,ho1,hc1⟩:=h7.lift f7 hAb
  refine depe_nil (pf g10 0 rfl (by kernel_rfl) (pf g10 1 rfl (by kernel_rfl) ?_))
  have hf1:=hf.updO e1.u hAf
  refine wl_stored1 rfl rfl rfl szNums rfl hf1 (bq rfl) rfl [.slice RAx (k+1) rcx,.slice A1 (k+1) c1,F0,.bool s9,.slice A9 n9 c9,I0] rfl fun w4 hf2 u2 hs2=>(wl_nil (eo_np (eo_block_normal ?_)))
  have S4:=(S2.updR C hO e1.u).updF C hf1 u2
  have hN4:=ho1.updT hf1 (by decide) u2
  have hR4:=(R2.R.updO e1.u (fun p q hp hq e=>R2.RN q p hq hp e.symm)).updT hf1 (by decide) u2
  have hC4:=(R2.C.updQ hO e1.u R2.Nr).updT hf1 u2 (fun r hr p hp e=>by have:=(R2.C.lt r hr p hp).1;have:=C.fL;omega)
  rw [nums_succ] at hN4
  refine fun a ha=>hQ _ _ (hkf.trans ((e1.u.kf hO).trans (u2.kf hf1))) ⟨S4.sz,S4,_,_,_,_,_,_,hf2,hR4,hN4,hC4,fun p q hp hq=>?_,fun r hr p q hp hq=>R2.Rr r hr p q hp hq,fun r hr p q hp hq=>?_,fun p hp=>(hR4.block p hp).2,fun p hp=>(hN4.block p hp).2,fun r hr p hp=>(hC4.lt r hr p hp).2⟩
  ·rcases hc1 with⟨rfl,rfl⟩ | h
   ·exact R2.RN p q hp hq
   ·have:=h q hq;have:=(R2.R.block p hp).2;omega
  ·rcases hc1 with⟨rfl,rfl⟩ | h
   ·exact R2.Nr r hr p q hp hq
   ·have:=h p hp;have:=(R2.C.lt r hr q hq).2;omega
 ·rintro D b W hD ⟨hb,S,RA,NA,rcap,ncap,ra,rc,R⟩ hK a ha
  have hm:w.heap.size≤v27.heap.size:=C.BL
  have hnc:=Nc.put (.deferred none) hK rfl
  have hbl:=below_put hD W (Array.getElem?_eq_some_iff.1 hK).1 (.deferred none)
  have S9:=S.nc hnc hbl hm
  have f9:=R.f.nc hnc
  have R9:=(R.R.nc hnc).mono hm
  have N9:=(R.N.nc hnc).mono hm
  have C9:=(R.C.nc hnc).low hm
  have hA:Apt w.heap.size n g10 RA NA ra:=⟨C.bf,fun p hp e=>by have:=(R.R.block p hp).1;have:=C.fL;omega,fun p hp e=>by have:=(R.N.block p hp).1;have:=C.fL;omega,fun r hr p hp e=>by have:=(R.C.lt r hr p hp).1;have:=C.fL;omega,R.RN,R.Rr,R.Nr⟩
  show Code.wp _ (Code.seq _ _) _ _ _
  refine wp_seq ((wpIn_wide (n:=9)).1 (wpIn_region_lit ?_))
  have ea:({a with defers:= [{target:= .collected D,args:= #[]}]}:Act)=dfd [{target:= .collected D,args:= #[]}] a:=by
   unfold dfd;rw [ha.nod];rfl
  rw [ea]
  refine list_df _ _ _ _ (wlW_wl (n:=34) (l:= [(3,.pointer (some ⟨g16,0,none⟩)),(10,.func (.func 73) #[] #[.pointer (some ⟨gm,0,none⟩)])]) ?_ rfl ?_ a ha)
  ·rintro⟨_,_,h⟩
   obtain⟨_,h,_⟩:=h
   cases h
  refine wl_load rfl rfl (load_cell cellPF S.p rfl) (by decide) (mv 1 rfl (wl_nil ?_))
  intro a2 ha2
  show Code.wp _ .ret _ _ _
  refine wp_ret ?_
  show LeavesInM _ _ _ _ _ _ (a2.defers++ [{target:= .collected D,args:= #[]}]) _ _
  rw [ha2.nod]
  show LeavesInM _ _ _ _ _ _ [{target:= .collected D,args:= #[]}] _ _
  unfold LeavesInM LeavesInM
  refine⟨by simp,.inl ⟨_,_,rfl,run_takeDeferred hK,_,results_tmp rfl _ _ _,?_⟩⟩
  refine⟨_,congrArg _ (ha2.val 2 _ rfl),?_,S9.ext⟩
  exact⟨_,RA,NA,rcap,ncap,ra,rc,rfl,hA,_,_,_,_,_,f9,S9.z.mono (Nat.zero_le _),R9,N9,C9⟩
set_option maxHeartbeats 4000000 in
set_option maxRecDepth 20000 in
theorem g_brs_Det {w:World}{b:Nat}(hb:b≤w.heap.size){n:Nat}{X:Mx}{Aa:Option Addr}{na capa:Nat}{xs:List Int}(hxa:ZF w Aa na capa 1048576 xs) (hna:na=n*n) (hn:n≤64) (hX:En n n X xs):
    Calls Try.prog 17 #[.agg #[.int .i64 ((n:Nat):Int),.int .i64 ((n:Nat):Int),.slice Aa na capa]] w (Gv w (T2 (ZR b (dt n X)) (Is (.int .i64 0)))):=by
 have hXl:∀i j,i<n→j<n→ln (X i j)≤1048576:=fun i j hi hj=>hX.ln hxa hi hj
 obtain⟨msa,hla,hma⟩:=hxa
 refine sx_enter Try.func17 rfl (n:=46) rfl (bq rfl) (args:= [.agg #[.int .i64 ((n:Nat):Int),.int .i64 ((n:Nat):Int),.slice Aa na capa]]) (cw_keep [(0,.agg #[.int .i64 ((n:Nat):Int),.int .i64 ((n:Nat):Int),.slice Aa na capa])] ⟨rfl,trivial⟩ (sr (bx [.int .i64 ((n:Nat):Int),.int .i64 ((n:Nat):Int),.slice Aa na capa] (Ext.refl w) rfl rfl rfl fun g1 v2 hb4 ge5 e3 hw1=>(alq [F0,S0] hw1 hb4.lt (fun _=>by kernel_rfl) rfl fun g6 v7 hb9 ge10 q11 e8 hw2=>(mv 1 rfl (ne_ (cw_seq (sr (lo aggMat (hb4.ext e8) [.int .i64 ((n:Nat):Int),.int .i64 ((n:Nat):Int),.slice Aa na capa] rfl rfl rfl (cl (vs:= [.agg #[.int .i64 ((n:Nat):Int),.int .i64 ((n:Nat):Int),.slice Aa na capa]]) hw2 (g_mat_Check_yes (snd_mk hn hn hna)) rfl (by kernel_rfl) fun xr14 v12 r14 e13 hw3=>?_))))))))))
 obtain rfl:=r14
 refine mv 1 rfl (ne_ (sr (mv 1 rfl (wl_cmp rfl rfl rfl false (by decide) (by decide) (ne_ (cw_false rfl (cw_skip (eo_then (cw_seq (sr (pf g1 0 rfl (by kernel_rfl) (wl_load rfl rfl (load_cell cellInt (hb4.ext (e8.trans e13)) rfl) (by decide) (pf g1 1 rfl (by kernel_rfl) ?_)))))))))))))
 refine wl_load rfl rfl (load_cell cellInt (hb4.ext (e8.trans e13)) rfl) (by decide) (wl_cmp rfl rfl rfl false (cb_ne_f (a:=n) (b:=n) rfl rfl (by omega)) (by decide) (ne_ (cw_false rfl (cw_skip (eo_then (sr (lo aggMat (hb4.ext (e8.trans e13)) [.int .i64 ((n:Nat):Int),.int .i64 ((n:Nat):Int),.slice Aa na capa] rfl rfl rfl ?_)))))))
 obtain⟨lb9,hlb9⟩:∃l,l=v12.heap.size:=⟨_,rfl⟩
 have hlow:w.heap.size≤lb9:=by rw [hlb9];exact hw3.size
 have hlo_g1:g1<lb9:=by rw [hlb9];exact ((hb4.ext (e8.trans e13))).lt
 have hlo_g6:g6<lb9:=by rw [hlb9];exact ((hb9.ext e13)).lt
 refine wl_call rfl rfl (vs:= [.agg #[.int .i64 ((n:Nat):Int),.int .i64 ((n:Nat):Int),.slice Aa na capa]]) (by kernel_rfl) (by decide) (g_brs_of (K:=1048576) ((show ZF w _ _ _ _ _ from⟨msa,hla,hma⟩).ext hw3) hn hna hX (by decide)) ?_
 rintro _ wof ⟨_,rfl,⟨gf,RA,NA,rcap,ncap,ra,rc,rfl,hA,hF0⟩,eof⟩
 refine ret_intro ?_
 rw [←hlb9] at hA hF0
 have hlb0:lb9≤wof.heap.size:=by rw [hlb9];exact eof.size
 have hw4:=hw3.trans eof
 refine mv 1 rfl (ne_ (cw_seq (sr (pf g1 1 rfl (by kernel_rfl) (wl_load rfl rfl (load_cell cellInt (hb4.ext (e8.trans (e13.trans eof))) rfl) (by decide) (mv 1 rfl (ne_ (cw_block ?_))))))))
 refine cw_loop (T:=World×Nat×List Nat×Mx×Bool×Int) (fun⟨wr,k,ps,Z,tu,z⟩=> [(0,.agg #[.int .i64 ((n:Nat):Int),.int .i64 ((n:Nat):Int),.slice Aa na capa]),(1,.pointer (some ⟨g1,0,none⟩)),(2,.pointer (some ⟨g6,0,none⟩)),(3,.int .i64 0),(4,.int .i64 0),(5,.pointer (some ⟨gf,0,none⟩)),(7,.agg #[.int .i64 ((n:Nat):Int),.int .i64 ((n:Nat):Int),.slice Aa na capa]),(8,.int .i64 0),(9,.int .i64 0),(10,.bool false),(13,.pointer (some ⟨g1,0,none⟩)),(14,.int .i64 ((n:Nat):Int)),(15,.pointer (some ⟨g1,1,none⟩)),(16,.int .i64 ((n:Nat):Int)),(17,.bool false),(19,.agg #[.int .i64 ((n:Nat):Int),.int .i64 ((n:Nat):Int),.slice Aa na capa]),(20,.pointer (some ⟨gf,0,none⟩)),(21,.pointer (some ⟨g1,1,none⟩)),(22,.int .i64 ((n:Nat):Int)),(23,.int .i64 ((k:Nat):Int))]) (fun⟨wr,k,ps,Z,tu,z⟩=>wr) (fun⟨wr,k,ps,Z,tu,z⟩=>(Ext w wr)∧(k≤n)∧(Bk wr g1 24 [.int .i64 ((n:Nat):Int),.int .i64 ((n:Nat):Int),.slice Aa na capa])∧(Bk wr g6 34 [F0,S0])∧(lb9≤wr.heap.size)∧(Fld lb9 n gf RA NA rcap ncap ra rc ps Z tu z k wr)∧(Inv n X k ps Z tu z)) (fun⟨wr,k,ps,Z,tu,z⟩=>n-k)
  (⟨wof,0,(List.range n),X,false,1⟩:World×Nat×List Nat×Mx×Bool×Int) ⟨hw4,(by omega),(hb4.ext (e8.trans (e13.trans eof))),(hb9.ext (e13.trans eof)),hlb0,hF0,(Inv.start (fun _ _ _ _=>rfl))⟩ rfl ⟨rfl,rfl,rfl,rfl,rfl,rfl,rfl,rfl,rfl,rfl,rfl,rfl,rfl,rfl,rfl,rfl,rfl,rfl,rfl,rfl,trivial⟩ ?_
 rintro⟨wr,k,ps,Z,tu,z⟩ ⟨hw1,hi_k,b_g1,b_g6,hlbw,hF,hI⟩
 refine cw_re [(0,.agg #[.int .i64 ((n:Nat):Int),.int .i64 ((n:Nat):Int),.slice Aa na capa]),(1,.pointer (some ⟨g1,0,none⟩)),(2,.pointer (some ⟨g6,0,none⟩)),(3,.int .i64 0),(4,.int .i64 0),(5,.pointer (some ⟨gf,0,none⟩)),(7,.agg #[.int .i64 ((n:Nat):Int),.int .i64 ((n:Nat):Int),.slice Aa na capa]),(8,.int .i64 0),(9,.int .i64 0),(10,.bool false),(13,.pointer (some ⟨g1,0,none⟩)),(14,.int .i64 ((n:Nat):Int)),(15,.pointer (some ⟨g1,1,none⟩)),(16,.int .i64 ((n:Nat):Int)),(17,.bool false),(19,.agg #[.int .i64 ((n:Nat):Int),.int .i64 ((n:Nat):Int),.slice Aa na capa]),(20,.pointer (some ⟨gf,0,none⟩)),(21,.pointer (some ⟨g1,1,none⟩)),(22,.int .i64 ((n:Nat):Int)),(23,.int .i64 ((k:Nat):Int))] wr rfl ⟨rfl,rfl,rfl,rfl,rfl,rfl,rfl,rfl,rfl,rfl,rfl,rfl,rfl,rfl,rfl,rfl,rfl,rfl,rfl,rfl,trivial⟩ (cw_seq ?_)
 by_cases hkn:k<n
 · 
  refine cw_region (wl_cmp rfl rfl rfl true (cb_lt_t (a:=k) (b:=n) rfl rfl (by omega)) (by decide) (ne_ (cw_seq (cw_true rfl (cw_skip (eo_then (cw_seq (cw_block (sr (mv 2 rfl (ne_ (sr (mv 1 rfl ?_)))))))))))))
  refine mv 1 rfl ?_
  obtain⟨sl9,Al9,nl9,cl9,ns9,hB9,hz9,hR9,hN9,hC9⟩:=hF
  refine wl_call rfl rfl (vs:= [.pointer (some ⟨gf,0,none⟩),.int .i64 ((k:Nat):Int)]) (by kernel_rfl) (by decide) (g_brs_stepI hlbw hA hB9 hz9 hR9 hN9 hC9 hn hXl hkn hI) ?_
  rintro e wst ⟨hbl,hc⟩
  rcases hc with⟨rfl,hz0⟩ | ⟨ps2,Z2,tu2,z2,rfl,hF2,hI2⟩
  · 
   refine ret_intro ?_
   have hw2:=hbl.toExt hw1 hlow
   refine pu (v:= .bool true) rfl (by kernel_rfl) (ne_ (cw_true rfl (sr (pu (v:= .agg #[F0,S0]) rfl (by kernel_rfl) ?_))))
   have hb16:=(b_g6.bl hbl hlo_g6)
   refine so aggInt hb16 [F0,S0] hw2 ge10 rfl rfl rfl rfl fun v15 hb17 u18 hw3=>(mv 1 rfl (ne_ (cw_ret (eo_block_ret (eo_thenR (eo_loopR (eo_block_ret (eo_thenR (eo_ret [.agg #[F0,S0],I0] rfl ⟨⟨_,rfl,load_agg aggInt hb17 [F0,S0] rfl (bq rfl) rfl⟩,rfl,trivial⟩ ?_)))))))))
   exact⟨_,rfl,⟨_,_,rfl,⟨_,_,_,_,rfl,(((Zr.zero (w:=v15) (base:=w.heap.size))).cast (hI.none hkn hz0).symm).mono hb⟩,rfl⟩,hw3⟩
  · 
   refine ret_intro ?_
   have hw2:=hbl.toExt hw1 hlow
   refine pu (v:= .bool false) rfl (by kernel_rfl) (ne_ (cw_false rfl (cw_skip (eo_block_normal (eo_then (cw_region (wl_ar rfl rfl rfl ((k+1:Nat):Int) (ai_add (a:=k) (b:=1) rfl rfl (by omega)) (by decide) (mv 1 rfl (wl_nil (eo_round (⟨wst,k+1,ps2,Z2,tu2,z2⟩:World×Nat×List Nat×Mx×Bool×Int) ⟨hw2,(by omega),(b_g1.bl hbl hlo_g1),(b_g6.bl hbl hlo_g6),(Nat.le_trans hlbw hbl.size),hF2,hI2⟩ (show n-(k+1)<n-k by omega) rfl ⟨rfl,rfl,rfl,rfl,rfl,rfl,rfl,rfl,rfl,rfl,rfl,rfl,rfl,rfl,rfl,rfl,rfl,rfl,rfl,rfl,trivial⟩))))))))))
 · 
  refine cw_region (wl_cmp rfl rfl rfl false (cb_lt_f (a:=k) (b:=n) rfl rfl (by omega)) (by decide) (ne_ (cw_seq (cw_false rfl (cw_exit (eo_thenX (eo_loopX (eo_block_here (eo_then (cw_seq (cw_seq ?_)))))))))))
  have hI9:Inv n X n ps Z tu z:=(show k=n by omega)▸hI
  have hdt:=hI9.full
  have hLz:ln z≤17179869184:=by rw [hI9.last];exact Nat.le_trans (ln_dt n _ fun a b ha hb=>pr_ln hI9.per hXl a b ha hb) (by have:=Nat.mul_le_mul (show n≤64 by omega) (show 1048576+n≤1048640 by omega);omega)
  obtain⟨sl9,Al9,nl9,cl9,ns9,hB9,hz9,hR9,hN9,hC9⟩:=hF
  have hgf:=hA.lg
  by_cases htu:tu=true
  · 
   subst htu
   refine cw_region (mv 1 rfl (pf gf 0 rfl (by kernel_rfl) (pf gf 2 rfl (by kernel_rfl) (wl_load rfl rfl (load_cell cellBool hB9 rfl) (by decide) (ne_ (cw_true rfl (sr (mv 1 rfl (pf gf 0 rfl (by kernel_rfl) (pf gf 3 rfl (by kernel_rfl) (lo aggInt hB9 [.bool sl9,.slice Al9 nl9 cl9] rfl rfl rfl ?_)))))))))))
   have L20:ln (-z)≤17179869184:=(by rw [ln_neg];exact hLz)
   refine cl (vs:= [.agg #[.bool sl9,.slice Al9 nl9 cl9]]) hw1 (g_zint_Neg hw1.size hz9.zi (hz9.le (lx_ hLz rfl))) rfl (by kernel_rfl) fun xr23 v21 r23 e22 hw2=>?_
   obtain⟨s24,A24,n24,c24,rfl,z24⟩:=r23
   have hb26:=(b_g6.ext e22)
   refine so aggInt hb26 [.bool s24,.slice A24 n24 c24] hw2 ge10 rfl rfl rfl rfl fun v25 hb27 u28 hw3=>(mv 1 rfl (ne_ (cw_ret (eo_thenR (eo_ret [.agg #[.bool s24,.slice A24 n24 c24],I0] rfl ⟨⟨_,rfl,load_agg aggInt hb27 [.bool s24,.slice A24 n24 c24] rfl (bq rfl) rfl⟩,rfl,trivial⟩ ?_)))))
   exact⟨_,rfl,⟨_,_,rfl,⟨_,_,_,_,rfl,(((z24.updT hb26 u28)).cast (by rw [hdt];rfl)).mono hb⟩,rfl⟩,hw3⟩
  · 
   obtain rfl:tu=false:=by simpa using htu
   refine cw_region (mv 1 rfl (pf gf 0 rfl (by kernel_rfl) (pf gf 2 rfl (by kernel_rfl) (wl_load rfl rfl (load_cell cellBool hB9 rfl) (by decide) (ne_ (cw_false rfl (cw_skip (eo_then (sr (mv 1 rfl (pf gf 0 rfl (by kernel_rfl) (pf gf 3 rfl (by kernel_rfl) (lo aggInt hB9 [.bool sl9,.slice Al9 nl9 cl9] rfl rfl rfl ?_)))))))))))))
   refine cl (vs:= [.agg #[.bool sl9,.slice Al9 nl9 cl9]]) hw1 (g_zint_Least hw1.size hz9.zi (hz9.le (lx_ hLz rfl))) rfl (by kernel_rfl) fun xr32 v30 r32 e31 hw2=>?_
   obtain⟨s33,A33,n33,c33,rfl,z33⟩:=r32
   have hb35:=(b_g6.ext e31)
   refine so aggInt hb35 [.bool s33,.slice A33 n33 c33] hw2 ge10 rfl rfl rfl rfl fun v34 hb36 u37 hw3=>(mv 1 rfl (ne_ (cw_ret (eo_ret [.agg #[.bool s33,.slice A33 n33 c33],I0] rfl ⟨⟨_,rfl,load_agg aggInt hb36 [.bool s33,.slice A33 n33 c33] rfl (bq rfl) rfl⟩,rfl,trivial⟩ ?_))))
   exact⟨_,rfl,⟨_,_,rfl,⟨_,_,_,_,rfl,(((z33.updT hb35 u37)).cast (by rw [hdt];rfl)).mono hb⟩,rfl⟩,hw3⟩
theorem scmp_one {x:Int}(h:x=1):cmpB .eql (scmp x 1) 0=some true:=by rw [h];decide
theorem getD_snoc {α:Type}{l:List α}{k:Nat}{d:α}(h:k<l.length):l.take (k+1)=l.take k++ [l.getD k d]:=by
 rw [List.take_add_one,List.getD_eq_getElem?_getD,List.getElem?_eq_getElem h];rfl
def gcdL (zs:List Int):Int:=zs.foldl (fun g z=>(Int.gcd g z:Int)) 0
theorem gcdL_snoc (zs:List Int) (z:Int):gcdL (zs++ [z])=(Int.gcd (gcdL zs) z:Int):=by unfold gcdL;rw [List.foldl_append];rfl
theorem gcdL_succ {zs:List Int}{k:Nat}(h:k<zs.length):(Int.gcd (gcdL (zs.take k)) (zs.getD k 0):Int)=gcdL (zs.take (k+1)):=by rw [getD_snoc (d:=0) h,gcdL_snoc]
theorem ln_gcdL {zs:List Int}{N:Nat}(h:∀i,ln (zs.getD i 0)≤N) (k:Nat):ln (gcdL (zs.take k))≤N:=by
 induction k with
 | zero=>rw [List.take_zero];exact Nat.zero_le _
 | succ k ih=>
  by_cases hk:k<zs.length
  ·rw [←gcdL_succ hk];exact Nat.le_trans (ln_gcd _ _) (Nat.max_le.2 ⟨ih,h k⟩)
  ·rw [List.take_of_length_le (by omega)] at ih⊢;exact ih
theorem ln_getD {zs:List Int}{N:Nat}{w:World}{A:Option Addr}{n cap:Nat}{ms:List Nat}(h:Zl w A n cap zs ms) (hm:∀i,ms.getD i 0≤N) (i:Nat):ln (zs.getD i 0)≤N:=by
 by_cases hi:i<n
 ·obtain⟨p,s,B,c,_,_,hz⟩:=h.at hi
  exact Nat.le_trans hz.ln (hm i)
 ·rw [List.getD_eq_getElem?_getD,List.getElem?_eq_none (by rw [h.len];omega)];exact Nat.zero_le _
theorem zl_full {zs:List Int}{w:World}{A:Option Addr}{n cap:Nat}{ms:List Nat}(h:Zl w A n cap zs ms):zs.take n=zs:=List.take_of_length_le (by rw [h.len];exact Nat.le_refl _)
set_option maxHeartbeats 4000000 in
theorem g_bezout_GcdAll {w:World}{b:Nat}(hb:b≤w.heap.size){A:Option Addr}{n cap:Nat}{zs:List Int}{ms:List Nat}(hl:Zl w A n cap zs ms) (hn:n≤2097152) (hmb:∀i,ms.getD i 0≤17179869184):
    Calls Try.prog 57 #[.slice A n cap] w (Gv w (ZR b (gcdL zs))):=by
 have hln:∀i,ln (zs.getD i 0)≤17179869184:=ln_getD hl hmb
 refine sx_enter Try.func57 rfl (n:=17) rfl (bq rfl) (args:= [.slice A n cap]) (cw_keep [(0,.slice A n cap)] ⟨rfl,trivial⟩ (sr (al [F0,S0] (Ext.refl w) (fun _=>by kernel_rfl) rfl fun g1 v2 hb4 ge5 e3 hw1=>(ne_ (sr (alq [F0,S0] hw1 hb4.lt (fun _=>by kernel_rfl) rfl fun g6 v7 hb9 ge10 q11 e8 hw2=>(ne_ (cw_seq (sr (mv 1 rfl (pu (v:= .int .i64 ((n:Nat):Int)) rfl (by kernel_rfl) (mv 1 rfl (wl_nil ?_)))))))))))))
 refine eo_then (cw_block ?_)
 refine cw_loop (T:=World×Nat×ZC)
  (fun⟨wr,k,kg⟩=> [(2,.pointer (some ⟨g1,0,none⟩)),(3,.pointer (some ⟨g6,0,none⟩)),(6,.slice A n cap),(7,.int .i64 ((n:Nat):Int)),(8,.int .i64 ((k:Nat):Int))])
  (fun⟨wr,k,kg⟩=>wr)
  (fun⟨wr,k,kg⟩=>(Ext w wr)∧(k≤n)∧(Bk wr g1 34 [F0,S0])∧(Bk wr g6 34 [.bool kg.s,.slice kg.A kg.n kg.c])∧(Zr wr w.heap.size kg.s kg.A kg.n kg.c (gcdL (zs.take k))))
  (fun⟨wr,k,kg⟩=>n-k)
  (⟨v7,0,⟨false,none,0,0⟩⟩:World×Nat×ZC) ⟨hw2,Nat.zero_le _,(hb4.ext e8),hb9,Zr.zero⟩ rfl ⟨rfl,rfl,rfl,rfl,rfl,trivial⟩ ?_
 rintro⟨wr,k,kg⟩ ⟨hw1,hk,b_2,b_3,zg⟩
 refine cw_re [(2,.pointer (some ⟨g1,0,none⟩)),(3,.pointer (some ⟨g6,0,none⟩)),(6,.slice A n cap),(7,.int .i64 ((n:Nat):Int)),(8,.int .i64 ((k:Nat):Int))] wr rfl ⟨rfl,rfl,rfl,rfl,rfl,trivial⟩ (cw_seq ?_)
 by_cases hkn:k<n
 · 
  refine cw_region (wl_cmp rfl rfl rfl true (cb_lt_t (a:=k) (b:=n) rfl rfl (by omega)) (by decide) (ne_ (cw_seq (cw_true rfl (cw_skip (eo_then (cw_seq (cw_block (sr ?_)))))))))
  obtain⟨pz12,sz12,Bz12,cz12,hpz12,ldz12,ez12⟩:=hl.at (i:=k) (by omega)
  refine wl_idx rfl rfl rfl elemI aggInt.size k rfl (by omega) pz12 hpz12 (by decide) (wl_load rfl rfl (ldz12 _ hw1 _ _ aggInt) (by decide) (alq [F0,S0] hw1 b_3.lt (fun _=>by kernel_rfl) rfl fun g13 v14 hb16 ge17 q18 e15 hw2=>(so aggInt hb16 [.bool sz12,.slice Bz12 (ms.getD k 0) cz12] hw2 ge17 rfl rfl rfl rfl fun v19 hb21 u22 hw3=>(ne_ (cw_region (lo aggInt ((b_3.ext e15).updN u22 (by omega)) [.bool kg.s,.slice kg.A kg.n kg.c] rfl rfl rfl (lo aggInt hb21 [.bool sz12,.slice Bz12 (ms.getD k 0) cz12] rfl rfl rfl ?_)))))))
  have L24:ln ((Int.gcd (gcdL (zs.take k)) (zs.getD k 0):Int))≤17179869184:=Nat.le_trans (ln_gcd _ _) (Nat.max_le.2 ⟨Nat.le_trans (ln_gcdL hln k) (by decide),Nat.le_trans (Nat.le_trans ez12.ln (hmb k)) (by decide)⟩)
  refine cl (vs:= [.agg #[.bool kg.s,.slice kg.A kg.n kg.c],.agg #[.bool sz12,.slice Bz12 (ms.getD k 0) cz12]]) hw3 (g_bezout_Gcd hw3.size ((zg.ext e15).updT hb16 u22).zi (zg.le (Nat.le_trans (ln_gcdL hln k) (by decide))) (ez12.ext hw3) (Nat.le_trans (hmb k) (by decide))) rfl (by kernel_rfl) fun xr27 v25 r27 e26 hw4=>?_
  obtain⟨s28,A28,n28,c28,rfl,z28⟩:=r27
  have hb30:=(((b_3.ext e15).updN u22 (by omega)).ext e26)
  refine so aggInt hb30 [.bool s28,.slice A28 n28 c28] hw4 ge10 rfl rfl rfl rfl fun v29 hb31 u32 hw5=>(wl_nil (eo_block_normal (eo_then (cw_region (wl_ar rfl rfl rfl ((k+1:Nat):Int) (ai_add (a:=k) (b:=1) rfl rfl (by omega)) (by decide) (mv 1 rfl (wl_nil (eo_round (⟨v29,k+1,⟨s28,A28,n28,c28⟩⟩:World×Nat×ZC) ⟨hw5,(by omega),((((b_2.ext e15).updN u22 (by omega)).ext e26).updN u32 (by omega)),hb31,((z28.updT hb30 u32)).cast (gcdL_succ (by rw [hl.len];omega))⟩ (show n-(k+1)<n-k by omega) rfl ⟨rfl,rfl,rfl,rfl,rfl,trivial⟩))))))))
 · 
  refine cw_region (wl_cmp rfl rfl rfl false (cb_lt_f (a:=k) (b:=n) rfl rfl (by omega)) (by decide) (ne_ (cw_seq (cw_false rfl (cw_exit (eo_thenX (eo_loopX (eo_block_here (eo_then (sr (lo aggInt b_3 [.bool kg.s,.slice kg.A kg.n kg.c] rfl rfl rfl ?_)))))))))))
  have hb35:=b_2
  refine so aggInt hb35 [.bool kg.s,.slice kg.A kg.n kg.c] hw1 ge5 rfl rfl rfl rfl fun v34 hb36 u37 hw2=>(ne_ (cw_ret (eo_ret [.agg #[.bool kg.s,.slice kg.A kg.n kg.c]] rfl ⟨⟨_,rfl,load_agg aggInt hb36 [.bool kg.s,.slice kg.A kg.n kg.c] rfl (bq rfl) rfl⟩,trivial⟩ ?_)))
  have hkn2:k=n:=by omega
  exact⟨_,rfl,⟨_,_,_,_,rfl,(((zg.updT hb35 u37)).cast (show gcdL (zs.take k)=gcdL zs by rw [hkn2,zl_full hl])).mono hb⟩,hw2⟩
set_option maxHeartbeats 4000000 in
set_option maxRecDepth 20000 in
theorem g_chp_size {w:World}{Ap:Option Addr}{np capp:Nat}{ps:List Int}(hxp:ZF w Ap np capp 68719476736 ps) (hnp:np≤1048576){s:Nat}(hs:s≤np) (h0:∀i,s≤i→i<np→ps.getD i 0=0) (h1:s=0∨ps.getD (s-1) 0≠0):
    Calls Try.prog 32 #[.slice Ap np capp] w (Gv w (Is (.int .i64 ((s:Nat):Int)))):=by
 obtain⟨msp,hlp,hmp⟩:=hxp
 refine sx_enter Try.func32 rfl (n:=20) rfl (bq rfl) (args:= [.slice Ap np capp]) (cw_keep [(0,.slice Ap np capp)] ⟨rfl,trivial⟩ (sr (mv 1 rfl (ne_ (sr (mv 1 rfl (pu (v:= .int .i64 ((np:Nat):Int)) rfl (by kernel_rfl) (mv 1 rfl (ne_ (cw_seq (cw_block ?_)))))))))))
 refine cw_loop (T:=World×Nat) (fun⟨wr,i⟩=> [(0,.slice Ap np capp),(2,.int .i64 0),(3,.int .i64 ((np-i:Nat):Int)),(4,.slice Ap np capp),(5,.int .i64 ((np:Nat):Int))]) (fun⟨wr,i⟩=>wr) (fun⟨wr,i⟩=>(Ext w wr)∧(i≤np-s)) (fun⟨wr,i⟩=>(np-s)-i)
  (⟨w,0⟩:World×Nat) ⟨(Ext.refl w),(by omega)⟩ rfl ⟨rfl,rfl,rfl,rfl,rfl,trivial⟩ ?_
 rintro⟨wr,i⟩ ⟨hw1,hi_i⟩
 refine cw_re [(0,.slice Ap np capp),(2,.int .i64 0),(3,.int .i64 ((np-i:Nat):Int)),(4,.slice Ap np capp),(5,.int .i64 ((np:Nat):Int))] wr rfl ⟨rfl,rfl,rfl,rfl,rfl,trivial⟩ (cw_seq (cw_seq ?_))
 by_cases his:i<np-s
 · 
  have hz:ps.getD ((np-i)-1) 0=0:=h0 _ (by omega) (by omega)
  refine cw_region (mv 1 rfl (wl_cmp rfl rfl rfl true (cb_gt_t (a:=np-i) (b:=0) rfl rfl (by omega)) (by decide) (mv 3 rfl (wl_ar rfl rfl rfl (((np-i)-1:Nat):Int) (ai_sub (a:=np-i) (b:=1) rfl rfl (by omega) (by omega)) (by decide) ?_))))
  obtain⟨pz1,sz1,Bz1,cz1,hpz1,ldz1,ez1⟩:=hlp.at (i:=(np-i)-1) (by omega)
  refine wl_idx rfl rfl rfl elemI aggInt.size ((np-i)-1) rfl (by omega) pz1 hpz1 (by decide) (wl_load rfl rfl (ldz1 _ hw1 _ _ aggInt) (by decide) (cl (vs:= [.agg #[.bool sz1,.slice Bz1 (msp.getD ((np-i)-1) 0) cz1]]) hw1 (g_zint_Sign (ez1.ext hw1) (Nat.le_trans (hmp ((np-i)-1)) (by decide))) rfl (by kernel_rfl) fun xr4 v2 r4 e3 hw2=>?_))
  obtain rfl:=r4
  refine wl_cmp rfl rfl rfl true (scmp_eq_t hz) (by decide) (pu (v:= .bool true) rfl (by kernel_rfl) (ne_ (cw_true rfl (cw_skip (eo_then (cw_block (cw_region (mv 1 rfl (wl_ar rfl rfl rfl (((np-i)-1:Nat):Int) (ai_sub (a:=np-i) (b:=1) rfl rfl (by omega) (by omega)) (by decide) (mv 1 rfl (wl_nil (eo_block_normal (eo_round (⟨v2,i+1⟩:World×Nat) ⟨hw2,(by omega)⟩ (show (np-s)-(i+1)<(np-s)-i by omega) rfl ⟨rfl,rfl,rfl,rfl,rfl,trivial⟩)))))))))))))
 · 
  have hsi:np-i=s:=by omega
  by_cases hs0:s=0
  · 
   refine cw_region (mv 1 rfl (wl_cmp rfl rfl rfl false (cb_gt_f (a:=np-i) (b:=0) rfl rfl (by omega)) (by decide) (mv 8 rfl (pu (v:= .bool false) rfl (by kernel_rfl) (ne_ (cw_false rfl (cw_exit (eo_thenX (eo_loopX (eo_block_here (eo_then (sr (mv 1 rfl ?_)))))))))))))
   refine mv 1 rfl (ne_ (cw_ret (eo_ret [.int .i64 ((np-i:Nat):Int)] rfl ⟨rfl,trivial⟩ ?_)))
   rw [hsi]
   exact⟨_,rfl,rfl,hw1⟩
  · 
   have hz:ps.getD ((np-i)-1) 0≠0:=by rw [hsi];exact h1.resolve_left hs0
   refine cw_region (mv 1 rfl (wl_cmp rfl rfl rfl true (cb_gt_t (a:=np-i) (b:=0) rfl rfl (by omega)) (by decide) (mv 3 rfl (wl_ar rfl rfl rfl (((np-i)-1:Nat):Int) (ai_sub (a:=np-i) (b:=1) rfl rfl (by omega) (by omega)) (by decide) ?_))))
   obtain⟨pz5,sz5,Bz5,cz5,hpz5,ldz5,ez5⟩:=hlp.at (i:=(np-i)-1) (by omega)
   refine wl_idx rfl rfl rfl elemI aggInt.size ((np-i)-1) rfl (by omega) pz5 hpz5 (by decide) (wl_load rfl rfl (ldz5 _ hw1 _ _ aggInt) (by decide) (cl (vs:= [.agg #[.bool sz5,.slice Bz5 (msp.getD ((np-i)-1) 0) cz5]]) hw1 (g_zint_Sign (ez5.ext hw1) (Nat.le_trans (hmp ((np-i)-1)) (by decide))) rfl (by kernel_rfl) fun xr8 v6 r8 e7 hw2=>?_))
   obtain rfl:=r8
   refine wl_cmp rfl rfl rfl false (scmp_eq_f hz) (by decide) (pu (v:= .bool false) rfl (by kernel_rfl) (ne_ (cw_false rfl (cw_exit (eo_thenX (eo_loopX (eo_block_here (eo_then (sr (mv 2 rfl (ne_ (cw_ret (eo_ret [.int .i64 ((np-i:Nat):Int)] rfl ⟨rfl,trivial⟩ ?_)))))))))))))
   rw [hsi]
   exact⟨_,rfl,rfl,hw2⟩
set_option maxHeartbeats 4000000 in
set_option maxRecDepth 20000 in
theorem g_chp_monic {w:World}{Ap:Option Addr}{np capp:Nat}{ps:List Int}(hxp:ZF w Ap np capp 68719476736 ps) (hnp:np≤1048576){s:Nat}(hs0:s≠0) (hs:s≤np) (h0:∀i,s≤i→i<np→ps.getD i 0=0) (h1:ps.getD (s-1) 0=1):
    Calls Try.prog 37 #[.slice Ap np capp] w (Gv w (Is (.bool true))):=by
 have hxp0:=hxp
 obtain⟨msp,hlp,hmp⟩:=hxp
 refine sx_enter Try.func37 rfl (n:=18) rfl (bq rfl) (args:= [.slice Ap np capp]) (cw_keep [(0,.slice Ap np capp)] ⟨rfl,trivial⟩ (sr (mv 1 rfl (ne_ (sr (mv 1 rfl (cl (vs:= [.slice Ap np capp]) (Ext.refl w) (g_chp_size (s:=s) ((show ZF w _ _ _ _ _ from⟨msp,hlp,hmp⟩).mono (by decide)) (by omega) (by omega) h0 (Or.inr (by rw [h1];decide))) rfl (by kernel_rfl) fun xr3 v1 r3 e2 hw1=>?_)))))))
 obtain rfl:=r3
 refine mv 1 rfl (ne_ (cw_seq ?_))
 obtain⟨pz4,sz4,Bz4,cz4,hpz4,ldz4,ez4⟩:=hlp.at (i:=s-1) (by omega)
 refine cw_draw mix 12 [] [Is (.int .i64 ((s:Nat):Int)),Is (.bool true),Is (.bool true),Is (.slice Ap np capp),Is (.int .i64 ((s:Nat):Int)),Is (.int .i64 ((s-1:Nat):Int)),Is (.pointer (some pz4)),Is (.agg #[.bool sz4,.slice Bz4 (msp.getD (s-1) 0) cz4]),ZR w.heap.size (1),Is (.int .i64 (scmp (ps.getD (s-1) 0) 1)),Is (.bool true),Is (.bool true)] [[],[0],[1],[2],[2],[2,4],[2,3,5],[2,6],[2],[2,7,8],[2,9],[2,10]] [[],[0],[0,1],[0,1,2],[0,1,2],[0,1,2,4],[0,1,2,3,4,5],[0,1,2,3,4,5,6],[0,1,2],[0,1,2,3,4,5,6,7,8],[0,1,2,3,4,5,6,7,8,9],[0,1,2,3,4,5,6,7,8,9,10],[0,1,2,3,4,5,6,7,8,9,10,11]] rfl
  (obs_cons rfl rfl (hob rfl rfl ?_) (obs_cons rfl rfl (hob rfl rfl ?_) (obs_cons rfl rfl (hob rfl rfl ?_) (obs_cons rfl rfl (hob rfl rfl ?_) (obs_cons rfl rfl (hob rfl rfl ?_) (obs_cons rfl rfl (hob rfl rfl ?_) (obs_cons rfl rfl (hob rfl rfl ?_) (obs_cons rfl rfl (hob rfl rfl ?_) (obs_cons rfl rfl (hob rfl rfl ?_) (obs_cons rfl rfl (hob rfl rfl ?_) (obs_cons rfl rfl (hob rfl rfl ?_) (obs_cons rfl rfl (hob rfl rfl ?_) obs_nil)))))))))))) ?_
 · 
  exact fun _ _=>deps_nil (mv 1 rfl (pi_done rfl (Ext.refl _) rfl))
 · 
  exact fun _ _=>dk rfl rfl (deps_nil (wl_cmp rfl rfl rfl true (cb_gt_t (a:=s) (b:=0) rfl rfl (by omega)) (by decide) (pi_done rfl (Ext.refl _) rfl)))
 · 
  exact fun _ _=>dk rfl rfl (deps_nil (mv 1 rfl (pi_done rfl (Ext.refl _) rfl)))
 · 
  exact fun _ _=>dk rfl rfl (deps_nil (mv 1 rfl (pi_done rfl (Ext.refl _) rfl)))
 · 
  exact fun _ _=>dk rfl rfl (deps_nil (mv 1 rfl (pi_done rfl (Ext.refl _) rfl)))
 · 
  exact fun _ _=>dk rfl rfl (dk rfl rfl (deps_nil (wl_ar rfl rfl rfl ((s-1:Nat):Int) (ai_sub (a:=s) (b:=1) rfl rfl (by omega) (by omega)) (by decide) (pi_done rfl (Ext.refl _) rfl))))
 · 
  exact fun _ _=>dk rfl rfl (dk rfl rfl (dk rfl rfl (deps_nil (wl_idx rfl rfl rfl elemI aggInt.size (s-1) rfl (by omega) pz4 hpz4 (by decide) (pi_done rfl (Ext.refl _) rfl)))))
 · 
  intro v65 e66
  have hw2:=hw1.trans e66
  refine dk rfl rfl (dk rfl rfl (deps_nil (wl_load rfl rfl (ldz4 _ hw2 _ _ aggInt) (by decide) ?_)))
  exact pi_done rfl (Ext.refl _) rfl
 · 
  intro v77 e78
  have hw2:=hw1.trans e78
  refine dk rfl rfl (deps_nil (cl (vs:= [.int .i64 1]) hw2 (g_zint_Of hw2.size (by decide) (by decide)) rfl (by kernel_rfl) fun xr86 v84 r86 e85 hw3=>?_))
  obtain⟨s87,A87,n87,c87,rfl,z87⟩:=r86
  exact pi_done rfl e85 ⟨_,_,_,_,rfl,z87⟩
 · 
  intro v88 e89
  have hw2:=hw1.trans e89
  refine dk rfl rfl (dk rfl rfl (deps_cons rfl rfl fun x100 y101 h102 e103 f104=>?_))
  obtain⟨s105,A105,n105,c105,rfl,z105⟩:=h102
  have z105:=z105.ext f104
  refine deps_nil (cl (vs:= [.agg #[.bool sz4,.slice Bz4 (msp.getD (s-1) 0) cz4],.agg #[.bool s105,.slice A105 n105 c105]]) hw2 (g_zint_Cmp (ez4.ext hw2) (Nat.le_trans (hmp (s-1)) (by decide)) z105.zi (z105.le (Nat.le_trans (show ln (1)≤1 by decide+kernel) (by decide)))) rfl (by kernel_rfl) fun xr108 v106 r108 e107 hw3=>?_)
  obtain rfl:=r108
  exact pi_done rfl e107 rfl
 · 
  exact fun _ _=>dk rfl rfl (dk rfl rfl (deps_nil (wl_cmp rfl rfl rfl true (scmp_one h1) (by decide) (pi_done rfl (Ext.refl _) rfl))))
 · 
  exact fun _ _=>dk rfl rfl (dk rfl rfl (deps_nil (pu (v:= .bool true) rfl (by kernel_rfl) (pi_done rfl (Ext.refl _) rfl))))
 · 
  intro v133 e134
  have hw2:=hw1.trans e134
  refine dk rfl rfl (dk rfl rfl (dk rfl rfl (dk rfl rfl (dk rfl rfl (dk rfl rfl (dk rfl rfl (dk rfl rfl (deps_cons rfl rfl fun x175 y176 h177 e178 f179=>?_))))))))
  obtain⟨s180,A180,n180,c180,rfl,z180⟩:=h177
  have z180:=z180.ext f179
  refine dk rfl rfl (dk rfl rfl (dk rfl rfl (deps_nil (mv 1 rfl (wl_nil (eo_np (eo_then (cw_ret (eo_ret [.bool true] rfl ⟨rfl,trivial⟩ ?_)))))))))
  exact⟨_,rfl,rfl,hw2⟩
set_option maxHeartbeats 4000000 in
set_option maxRecDepth 20000 in
theorem g_chp_Trim {w:World}{b lb:Nat}(hb:b≤w.heap.size) (hlb:lb≤w.heap.size){Ap:Option Addr}{np capp:Nat}{ps:List Int}(hxp:ZF w Ap np capp 68719476736 ps) (hnp:np≤1048576) (h1:np=0∨ps.getD (np-1) 0≠0):
    Calls Try.prog 38 #[.slice Ap np capp] w (Gv w (LE none 68719476736 b lb np ps)):=by
 have hxp0:=hxp
 obtain⟨msp,hlp,hmp⟩:=hxp
 refine sx_enter Try.func38 rfl (n:=23) rfl (bq rfl) (args:= [.slice Ap np capp]) (cw_keep [(0,.slice Ap np capp)] ⟨rfl,trivial⟩ (sr (mv 1 rfl (ne_ (sr (mv 1 rfl (cl (vs:= [.slice Ap np capp]) (Ext.refl w) (g_chp_size (s:=np) ((show ZF w _ _ _ _ _ from⟨msp,hlp,hmp⟩).mono (by decide)) (by omega) (by omega) (fun i h2 h3=>absurd h3 (Nat.not_lt.2 h2)) h1) rfl (by kernel_rfl) fun xr3 v1 r3 e2 hw1=>?_)))))))
 obtain rfl:=r3
 refine wl_makeL (k:=np) none 68719476736 w.heap.size rfl rfl rfl (by omega) (by decide) fun g4 v5 hg6 lz7 e8=>?_
 have hlbg4:g4≤v5.heap.size:=by have:=(lz7.block _ rfl).2;exact Nat.le_of_lt this
 have hglg4:w.heap.size≤g4:=by rw [←hg6];exact hw1.size
 clear hg6
 have hw2:=hw1.trans e8
 have blk9:=lz7.block
 refine mv 1 rfl (ne_ (cw_seq (sr (mv 1 rfl (pu (v:= .int .i64 ((np:Nat):Int)) rfl (by kernel_rfl) (mv 1 rfl (ne_ (cw_block ?_))))))))
 have hl8:=lz7
 rw [upto5_zero ps np] at hl8
 refine cw_loop (T:=World×Nat) (fun⟨wr,i⟩=> [(0,.slice Ap np capp),(2,.slice none 0 0),(3,.slice (some ⟨g4,0,none⟩) np np),(5,.slice Ap np capp),(6,.int .i64 ((np:Nat):Int)),(7,.slice (some ⟨g4,0,none⟩) np np),(8,.slice (some ⟨g4,0,none⟩) np np),(9,.int .i64 ((np:Nat):Int)),(10,.int .i64 ((i:Nat):Int))]) (fun⟨wr,i⟩=>wr) (fun⟨wr,i⟩=>(Ext w wr)∧(i≤np)∧(g4≤wr.heap.size)∧(Lz none 68719476736 w.heap.size wr g4 (some ⟨g4,0,none⟩) np np (upto5 ps np i))) (fun⟨wr,i⟩=>np-i)
  (⟨v5,0⟩:World×Nat) ⟨hw2,(by omega),hlbg4,hl8⟩ rfl ⟨rfl,rfl,rfl,rfl,rfl,rfl,rfl,rfl,rfl,trivial⟩ ?_
 rintro⟨wr,i⟩ ⟨hw1,hi_i,l_someg40noneb,l_someg40none⟩
 refine cw_re [(0,.slice Ap np capp),(2,.slice none 0 0),(3,.slice (some ⟨g4,0,none⟩) np np),(5,.slice Ap np capp),(6,.int .i64 ((np:Nat):Int)),(7,.slice (some ⟨g4,0,none⟩) np np),(8,.slice (some ⟨g4,0,none⟩) np np),(9,.int .i64 ((np:Nat):Int)),(10,.int .i64 ((i:Nat):Int))] wr rfl ⟨rfl,rfl,rfl,rfl,rfl,rfl,rfl,rfl,rfl,trivial⟩ ?_
 have blk10:=l_someg40none.block
 refine cw_seq ?_
 by_cases hin:i<np
 · 
  refine cw_region (wl_cmp rfl rfl rfl true (cb_lt_t (a:=i) (b:=np) rfl rfl (by omega)) (by decide) (ne_ (cw_seq (cw_true rfl (cw_skip (eo_then (cw_seq (cw_block (sr (mv 2 rfl (ne_ (cw_region (mv 1 rfl ?_)))))))))))))
  refine mv 3 rfl ?_
  obtain⟨pz11,sz11,Bz11,cz11,hpz11,ldz11,ez11⟩:=hlp.at (i:=i) (by omega)
  refine wl_idx rfl rfl rfl elemI aggInt.size i rfl (by omega) pz11 hpz11 (by decide) (wl_load rfl rfl (ldz11 _ hw1 _ _ aggInt) (by decide) (cl (vs:= [.agg #[.bool sz11,.slice Bz11 (msp.getD i 0) cz11]]) hw1 (g_zint_Least hw1.size (ez11.ext hw1) (Nat.le_trans (hmp i) (by decide))) rfl (by kernel_rfl) fun xr14 v12 r14 e13 hw2=>?_))
  obtain⟨s15,A15,n15,c15,rfl,z15⟩:=r14
  obtain⟨pz16,sz16,Bz16,nz16,cz16,hpz16,ldz16,hKz16,ez16⟩:=((l_someg40none.ext e13)).at (i:=i) (by omega)
  have zz16:=ez16.zr
  have Lz16:ln ((upto5 ps np i).getD i 0)≤68719476736:=zz16.ln_le hKz16
  refine wl_idx rfl rfl rfl elemI aggInt.size i rfl (by omega) pz16 hpz16 (by decide) ?_
  have lt22:=(l_someg40none.ext e13)
  obtain⟨us20,own21⟩:=lt22.own
  refine wl_setI (e:=⟨s15,A15,n15,c15⟩) (z:=(ps.getD i 0)) rfl rfl rfl hpz16 (by omega) lt22 (Or.inl z15) (z15.le (Nat.le_trans (Nat.le_trans ez11.ln (hmp i)) (by decide))) fun v17 lz18 uo19=>?_
  have hw3:=uo19.ext hw2 (fun p hp=>by have:=blk10 p hp;omega)
  have hlblz18:g4≤v17.heap.size:=Nat.le_trans (Nat.le_trans l_someg40noneb e13.size) uo19.size
  refine wl_nil (eo_block_normal (eo_then (cw_region (wl_ar rfl rfl rfl ((i+1:Nat):Int) (ai_add (a:=i) (b:=1) rfl rfl (by omega)) (by decide) (mv 1 rfl (wl_nil ?_))))))
  have hl9:=lz18
  rw [upto5_succ hlp.len hin] at hl9
  refine eo_round (⟨v17,i+1⟩:World×Nat) ⟨hw3,(by omega),hlblz18,hl9⟩ (show np-(i+1)<np-i by omega) rfl ⟨rfl,rfl,rfl,rfl,rfl,rfl,rfl,rfl,rfl,trivial⟩
 · 
  refine cw_region (wl_cmp rfl rfl rfl false (cb_lt_f (a:=i) (b:=np) rfl rfl (by omega)) (by decide) (ne_ (cw_seq (cw_false rfl (cw_exit (eo_thenX (eo_loopX (eo_block_here (eo_then (sr (mv 2 rfl (ne_ (cw_ret ?_)))))))))))))
  refine eo_ret [.slice (some ⟨g4,0,none⟩) np np] rfl ⟨rfl,trivial⟩ ?_
  have hl7:=(l_someg40none).mono (Nat.le_refl _) hb (Nat.le_trans hlb hglg4)
  rw [show i=np by omega,upto5_full hlp.len] at hl7
  exact⟨_,rfl,⟨_,_,rfl,hl7⟩,hw1⟩
set_option maxHeartbeats 4000000 in
set_option maxRecDepth 20000 in
theorem g_mat_Diag1 {w:World}{b:Nat}(hb:b≤w.heap.size){i j ga:Nat}(hga:Bk w ga 22 [.slice none 0 0]):
    Calls Try.prog 68 #[.int .i64 ((i:Nat):Int),.int .i64 ((j:Nat):Int),.pointer (some ⟨ga,0,none⟩)] w (Gv w (ZR b (0))):=by
 refine sx_enter Try.func68 rfl (n:=21) rfl (bq rfl) (args:= [.int .i64 ((i:Nat):Int),.int .i64 ((j:Nat):Int),.pointer (some ⟨ga,0,none⟩)]) ?_
 have hlt_ga:=hga.lt
 refine cw_keep [(0,.int .i64 ((i:Nat):Int)),(1,.int .i64 ((j:Nat):Int)),(2,.pointer (some ⟨ga,0,none⟩))] ⟨rfl,rfl,rfl,trivial⟩ (sr (alq [F0,S0] (Ext.refl w) hga.lt (fun _=>by kernel_rfl) rfl fun g1 v2 hb4 ge5 q6 e3 hw1=>(ne_ (cw_seq (cw_seq ?_)))))
 by_cases hij:i=j
 · 
  refine cw_region (mv 2 rfl (wl_cmp rfl rfl rfl true (cb_eq_t (a:=i) (b:=j) rfl rfl (by omega)) (by decide) (mv 2 rfl (wl_load rfl rfl (load_cell cellInts (hga.ext e3) rfl) (by decide) (pu (v:= .int .i64 0) rfl (by kernel_rfl) (wl_cmp rfl rfl rfl false (cb_lt_f (a:=i) (b:=0) rfl rfl (by omega)) (by decide) (pu (v:= .bool false) rfl (by kernel_rfl) (ne_ (cw_false rfl (cw_skip (eo_then (sr (pu (v:= .agg #[F0,S0]) rfl (by kernel_rfl) ?_)))))))))))))
  refine so aggInt hb4 [F0,S0] hw1 ge5 rfl rfl rfl rfl fun v7 hb9 u10 hw2=>(ne_ (cw_ret (eo_ret [.agg #[F0,S0]] rfl ⟨⟨_,rfl,load_agg aggInt hb9 [F0,S0] rfl (bq rfl) rfl⟩,trivial⟩ ?_)))
  exact⟨_,rfl,⟨_,_,_,_,rfl,(Zr.zero (w:=v7) (base:=w.heap.size)).mono hb⟩,hw2⟩
 · 
  refine cw_region (mv 2 rfl (wl_cmp rfl rfl rfl false (cb_eq_f (a:=i) (b:=j) rfl rfl (by omega)) (by decide) (mv 5 rfl (pu (v:= .bool false) rfl (by kernel_rfl) (ne_ (cw_false rfl (cw_skip (eo_then (sr (pu (v:= .agg #[F0,S0]) rfl (by kernel_rfl) (so aggInt hb4 [F0,S0] hw1 ge5 rfl rfl rfl rfl fun v12 hb14 u15 hw2=>(ne_ (cw_ret ?_)))))))))))))
  refine eo_ret [.agg #[F0,S0]] rfl ⟨⟨_,rfl,load_agg aggInt hb14 [F0,S0] rfl (bq rfl) rfl⟩,trivial⟩ ?_
  exact⟨_,rfl,⟨_,_,_,_,rfl,(Zr.zero (w:=v12) (base:=w.heap.size)).mono hb⟩,hw2⟩
theorem wl_miO {P:Program}{Q:Exit→Act→World→Prop}{n:Nat}{l:Fr}{w:World}{ops:Array Oper}{rest:List Oper}{d:Nat}{ty:TypeId}{pos:String}{af:Array Edge}{gd:Option (Nat×Bool)}{x y:Operand}{ts:Array TypeId}{k:IntKind}{a b:Int}(hw:guardB ops l gd=some true)
  (hx:evo l x=some (.int k a)) (hy:evo l y=some (.int k b)) (c:Int) (hc:min a b=c) (hn:d<n) (h:wl P ops Q n rest ((d,.int k c)::l) w):wl P ops Q n (⟨some d,.call {callee:= .builtin .min,args:= #[x,y],argTypes:=ts},ty,pos,af,gd⟩::rest) l w:=by
 refine wl_val hw hn (fun a' ha=>?_) h
 have e:(if b<a then b else a)=c:=by rw [←hc];split <;> omega
 unfold execOp
 simp only [resolve,invoke,builtin,Sem.run_bind,Sem.run_pure,Result.andThen_ok,List.map_toArray,List.map_cons,List.map_nil,ha.ev hx,ha.ev hy,Builtin.min_,List.foldlM,Builtin.min2,e]
set_option maxHeartbeats 4000000 in
set_option maxRecDepth 20000 in
theorem g_mat_Diag0 {w:World}{b lb:Nat}(hb:b≤w.heap.size) (hlb:lb≤w.heap.size){r c:Nat}(hr:r≤64) (hc:c≤64):
    Calls Try.prog 56 #[.int .i64 ((r:Nat):Int),.int .i64 ((c:Nat):Int),.slice none 0 0] w (Gv w (T2 (MQ ((r:Nat):Int) ((c:Nat):Int) (LQ none 0 b lb (r*c) (En r c (fun _ _=>0)))) (Is (.int .i64 0)))):=by
 refine sx_enter Try.func56 rfl (n:=28) rfl (bq rfl) (args:= [.int .i64 ((r:Nat):Int),.int .i64 ((c:Nat):Int),S0]) (cw_keep [(0,.int .i64 ((r:Nat):Int)),(1,.int .i64 ((c:Nat):Int)),(2,.slice none 0 0)] ⟨rfl,rfl,rfl,trivial⟩ (sr (bx [S0] (Ext.refl w) rfl rfl rfl fun g1 v2 hb4 ge5 e3 hw1=>(alq [I0,I0,S0] hw1 hb4.lt (fun _=>by kernel_rfl) rfl fun g6 v7 hb9 ge10 q11 e8 hw2=>(mv 1 rfl (ne_ (cw_seq (sr (mv 1 rfl (cl (vs:= [.int .i64 ((r:Nat):Int)]) hw2 (g_mat_side_t ⟨by omega,by omega⟩) rfl (by kernel_rfl) fun xr14 v12 r14 e13 hw3=>?_))))))))))
 obtain rfl:=r14
 refine pu (v:= .bool false) rfl (by kernel_rfl) (mv 2 rfl (cl (vs:= [.int .i64 ((c:Nat):Int)]) hw3 (g_mat_side_t ⟨by omega,by omega⟩) rfl (by kernel_rfl) fun xr17 v15 r17 e16 hw4=>?_))
 obtain rfl:=r17
 refine pu (v:= .bool false) rfl (by kernel_rfl) (pu (v:= .bool false) rfl (by kernel_rfl) (ne_ (cw_false rfl (cw_skip (eo_then (cw_seq (sr (wl_load rfl rfl (load_cell cellInts (hb4.ext (e8.trans (e13.trans e16))) rfl) (by decide) (pu (v:= .int .i64 0) rfl (by kernel_rfl) (mv 2 rfl (wl_miO rfl rfl rfl (((min r c:Nat):Int)) (by omega) (by decide) (wl_cmp rfl rfl rfl false (cb_gt_f (a:=0) (b:=min r c) rfl rfl (by omega)) (by decide) (wl_nil ?_)))))))))))))
 refine eo_then (cw_false rfl (cw_skip (eo_then (sr (mv 2 rfl (pu (v:= .func (.func 68) #[] #[.pointer (some ⟨g1,0,none⟩)]) rfl (by kernel_rfl) ?_))))))
 obtain⟨lb18,hlb18,hlelb18,hgl18,hq18_0,hq18_1⟩:∃lb,lb≤v15.heap.size∧v15.heap.size≤lb∧w.heap.size≤lb∧g1<lb∧g6<lb:=⟨v15.heap.size,Nat.le_refl _,Nat.le_refl _,hw4.size,(hb4.ext (e8.trans (e13.trans e16))).lt,(hb9.ext (e13.trans e16)).lt⟩
 refine cl (vs:= [.int .i64 ((r:Nat):Int),.int .i64 ((c:Nat):Int),.func (.func 68) #[] #[.pointer (some ⟨g1,0,none⟩)]]) hw4 (g_mat_build (f:=fun _ _=>0) (cs:= [.pointer (some ⟨g1,0,none⟩)]) (K:=0) hw4.size hlb18 hr hc (enters_of Try.func68 (by kernel_rfl) rfl) (fun _ _ _ _=>Nat.le_refl 0) (fun i j w' _ _ x=>(g_mat_Diag1 (Nat.le_trans (Ext.refl _).size x.size) ((hb4.ext (e8.trans (e13.trans e16))).ext x)))) rfl (by kernel_rfl) fun xr21 v19 r21 e20 hw5=>?_
 obtain⟨lv22,rfl,⟨LA23,lc23,zs23,rfl,lz23,hz23⟩⟩:=r21
 have blk24:=lz23.block
 have hb26:=(hb9.ext (e13.trans (e16.trans e20)))
 refine so aggMat hb26 [.int .i64 ((r:Nat):Int),.int .i64 ((c:Nat):Int),.slice LA23 (r*c) lc23] hw5 ge10 rfl rfl rfl rfl fun v25 hb27 u28 hw6=>(mv 1 rfl (ne_ (cw_ret (eo_ret [.agg #[.int .i64 ((r:Nat):Int),.int .i64 ((c:Nat):Int),.slice LA23 (r*c) lc23],I0] rfl ⟨⟨_,rfl,load_agg aggMat hb27 [.int .i64 ((r:Nat):Int),.int .i64 ((c:Nat):Int),.slice LA23 (r*c) lc23] rfl (bq rfl) rfl⟩,rfl,trivial⟩ ?_))))
 exact⟨_,rfl,⟨_,_,rfl,⟨_,rfl,⟨_,_,_,rfl,((lz23.updT hb26 u28 (show∀p:Addr,LA23=some p→p.block≠g6 from fun p hp=>by have:=blk24 p hp;omega))).mono (Nat.le_refl _) hb (Nat.le_trans hlb hgl18),hz23⟩⟩,rfl⟩,hw6⟩
set_option maxHeartbeats 4000000 in
set_option maxRecDepth 20000 in
theorem g_mat_Zero {w:World}{b lb:Nat}(hb:b≤w.heap.size) (hlb:lb≤w.heap.size){r c:Nat}(hr:r≤64) (hc:c≤64):
    Calls Try.prog 33 #[.int .i64 ((r:Nat):Int),.int .i64 ((c:Nat):Int)] w (Gv w (T2 (MQ ((r:Nat):Int) ((c:Nat):Int) (LQ none 0 b lb (r*c) (En r c (fun _ _=>0)))) (Is (.int .i64 0)))):=by
 refine sx_enter Try.func33 rfl (n:=11) rfl (bq rfl) (args:= [.int .i64 ((r:Nat):Int),.int .i64 ((c:Nat):Int)]) (cw_keep [(0,.int .i64 ((r:Nat):Int)),(1,.int .i64 ((c:Nat):Int))] ⟨rfl,rfl,trivial⟩ (sr (al [I0,I0,S0] (Ext.refl w) (fun _=>by kernel_rfl) rfl fun g1 v2 hb4 ge5 e3 hw1=>(mv 1 rfl (ne_ (sr (mv 2 rfl ?_)))))))
 obtain⟨lb6,hlb6,hlelb6,hgl6,hq6_0⟩:∃lb,lb≤v2.heap.size∧v2.heap.size≤lb∧w.heap.size≤lb∧g1<lb:=⟨v2.heap.size,Nat.le_refl _,Nat.le_refl _,hw1.size,hb4.lt⟩
 refine cl (vs:= [.int .i64 ((r:Nat):Int),.int .i64 ((c:Nat):Int),S0]) hw1 (g_mat_Diag0 hw1.size hlb6 hr hc) rfl (by kernel_rfl) fun xr9 v7 r9 e8 hw2=>?_
 obtain⟨_,_,rfl,⟨lv11,rfl,⟨LA12,lc12,zs12,rfl,lz12,hz12⟩⟩,r10_1⟩:=r9
 have blk13:=lz12.block
 obtain rfl:=r10_1
 refine pu (v:= .agg #[.int .i64 ((r:Nat):Int),.int .i64 ((c:Nat):Int),.slice LA12 (r*c) lc12]) rfl (by kernel_rfl) (pu (v:= .int .i64 0) rfl (by kernel_rfl) ?_)
 have hb15:=(hb4.ext e8)
 refine so aggMat hb15 [.int .i64 ((r:Nat):Int),.int .i64 ((c:Nat):Int),.slice LA12 (r*c) lc12] hw2 ge5 rfl rfl rfl rfl fun v14 hb16 u17 hw3=>(mv 1 rfl (ne_ (cw_ret (eo_ret [.agg #[.int .i64 ((r:Nat):Int),.int .i64 ((c:Nat):Int),.slice LA12 (r*c) lc12],I0] rfl ⟨⟨_,rfl,load_agg aggMat hb16 [.int .i64 ((r:Nat):Int),.int .i64 ((c:Nat):Int),.slice LA12 (r*c) lc12] rfl (bq rfl) rfl⟩,rfl,trivial⟩ ?_))))
 exact⟨_,rfl,⟨_,_,rfl,⟨_,rfl,⟨_,_,_,rfl,((lz12.updT hb15 u17 (show∀p:Addr,LA12=some p→p.block≠g1 from fun p hp=>by have:=blk13 p hp;omega))).mono (Nat.le_refl _) hb (Nat.le_trans hlb hgl6),hz12⟩⟩,rfl⟩,hw3⟩
set_option maxHeartbeats 4000000 in
set_option maxRecDepth 20000 in
theorem g_chp_At {w:World}{lb:Nat}(hlb:lb≤w.heap.size){n np capp lbp:Nat}{X:Mx}{Ap:Option Addr}{ps:List Int}(hlp:Lz none 8589934592 0 w lbp Ap np capp ps) (hlbp:lbp≤w.heap.size) (hnp:np≤65) (hnp1:1≤np) (hp1:ps.getD (np-1) 0≠0){Aa:Option Addr}{na capa:Nat}{xs:List Int}(hxa:ZF w Aa na capa 1048576 xs) (hna:na=n*n) (hn:n≤64) (hX:En n n X xs):
    Calls Try.prog 12 #[.slice Ap np capp,.agg #[.int .i64 ((n:Nat):Int),.int .i64 ((n:Nat):Int),.slice Aa na capa]] w (Gv w (T2 (MQ ((n:Nat):Int) ((n:Nat):Int) (LQ none 17179869184 0 lb (n*n) (En n n (hon n X (fun i=>ps.getD i 0) np (0))))) (Is (.int .i64 0)))):=by
 have hXl:∀i j,i<n→j<n→ln (X i j)≤1048576:=fun i j hi hj=>hX.ln hxa hi hj
 have hpl:∀i,ln (ps.getD i 0)≤8589934592:=fun i=>hlp.zf0.ln i
 obtain⟨msa,hla,hma⟩:=hxa
 refine sx_enter Try.func12 rfl (n:=51) rfl (bq rfl) (args:= [.slice Ap np capp,.agg #[.int .i64 ((n:Nat):Int),.int .i64 ((n:Nat):Int),.slice Aa na capa]]) ?_
 have blk1:=hlp.block
 refine cw_keep [(0,.slice Ap np capp),(1,.agg #[.int .i64 ((n:Nat):Int),.int .i64 ((n:Nat):Int),.slice Aa na capa])] ⟨rfl,rfl,trivial⟩ (sr (wl_box rfl rfl (vs:= [.int .i64 ((n:Nat):Int),.int .i64 ((n:Nat):Int),.slice Aa na capa]) rfl (by decide) fun g2 v3 nb=>?_))
 have hb5:=nb.bk
 have ge6:w.heap.size≤g2:=by rw [←nb.at_];exact (Ext.refl w).size
 have ne7:∀p:Addr,Ap=some p→p.block≠g2:=fun p hp=>by have:=(hlp).block p hp;have:=nb.at_;omega
 have e4:=nb.ext
 clear nb
 have hw1:=(Ext.refl w).trans e4
 refine wl_alloc rfl (z:= .agg #[I0,I0,S0]) (vs:= [I0,I0,S0]) (fun _=>by kernel_rfl) rfl (by decide) fun g8 v9 nb=>?_
 have hb11:=nb.bk
 have ge12:w.heap.size≤g8:=by rw [←nb.at_];exact hw1.size
 have q13:g2<g8:=by rw [←nb.at_];exact hb5.lt
 have ne14:∀p:Addr,Ap=some p→p.block≠g8:=fun p hp=>by have:=((hlp.ext e4)).block p hp;have:=nb.at_;omega
 have e10:=nb.ext
 clear nb
 have hw2:=hw1.trans e10
 refine mv 1 rfl (ne_ (cw_seq (sr (lo aggMat (hb5.ext e10) [.int .i64 ((n:Nat):Int),.int .i64 ((n:Nat):Int),.slice Aa na capa] rfl rfl rfl (cl (vs:= [.agg #[.int .i64 ((n:Nat):Int),.int .i64 ((n:Nat):Int),.slice Aa na capa]]) hw2 (g_chp_square_ok (snd_mk hn hn hna) rfl) rfl (by kernel_rfl) fun xr17 v15 r17 e16 hw3=>?_)))))
 obtain rfl:=r17
 refine mv 1 rfl (ne_ (sr (mv 1 rfl (wl_cmp rfl rfl rfl false (by decide) (by decide) (ne_ (cw_false rfl (cw_skip (eo_then (sr (mv 1 rfl (cl (vs:= [.slice Ap np capp]) hw3 (g_chp_size (s:=np) (((hlp.ext (e4.trans (e10.trans e16))).zf0).mono (by decide)) (by omega) (by omega) (fun i h2 h3=>absurd h3 (Nat.not_lt.2 h2)) (Or.inr hp1)) rfl (by kernel_rfl) fun xr20 v18 r20 e19 hw4=>?_)))))))))))
 obtain rfl:=r20
 refine mv 1 rfl (ne_ (cw_seq (sr (mv 1 rfl (wl_ar rfl rfl rfl ((np-1:Nat):Int) (ai_sub (a:=np) (b:=1) rfl rfl (by omega) (by omega)) (by decide) (wl_cmp rfl rfl rfl false (cb_gt_f (a:=np-1) (b:=256) rfl rfl (by omega)) (by decide) (ne_ (cw_false rfl (cw_skip (eo_then (sr (pf g2 0 rfl (by kernel_rfl) (wl_load rfl rfl (load_cell cellInt (hb5.ext (e10.trans (e16.trans e19))) rfl) (by decide) ?_)))))))))))))
 refine pf g2 1 rfl (by kernel_rfl) (wl_load rfl rfl (load_cell cellInt (hb5.ext (e10.trans (e16.trans e19))) rfl) (by decide) ?_)
 obtain⟨lb21,hlb21,hlelb21,hgl21,hq21_0,hq21_1⟩:∃lb,lb≤v18.heap.size∧v18.heap.size≤lb∧w.heap.size≤lb∧g2<lb∧g8<lb:=⟨v18.heap.size,Nat.le_refl _,Nat.le_refl _,hw4.size,(hb5.ext (e10.trans (e16.trans e19))).lt,(hb11.ext (e16.trans e19)).lt⟩
 have hql22:∀p:Addr,Ap=some p→p.block<lb21:=fun p hp=>Nat.lt_of_lt_of_le (((hlp.ext (e4.trans (e10.trans (e16.trans e19))))).block p hp).2 hlelb21
 refine cl (vs:= [.int .i64 ((n:Nat):Int),.int .i64 ((n:Nat):Int)]) hw4 ((g_mat_Zero hw4.size hlb21 hn hn).mono (Gv.imp (T2.imp (MQ.imp (LQ.imp (K:=0) (K':=17179869184) (by decide) (Nat.le_refl _) (Nat.le_refl _) (fun _ h=>h))) Is.imp))) rfl (by kernel_rfl) fun xr25 v23 r25 e24 hw5=>?_
 obtain⟨_,_,rfl,⟨lv27,rfl,⟨LA28,lc28,zs28,rfl,lz28,hz28⟩⟩,r26_1⟩:=r25
 have blk29:=lz28.block
 obtain rfl:=r26_1
 refine mv 1 rfl (pu (v:= .agg #[.int .i64 ((n:Nat):Int),.int .i64 ((n:Nat):Int),.slice LA28 (n*n) lc28]) rfl (by kernel_rfl) (pu (v:= .int .i64 0) rfl (by kernel_rfl) (wl_alloc rfl (z:= .agg #[I0,I0,S0]) (vs:= [I0,I0,S0]) (fun _=>by kernel_rfl) rfl (by decide) fun g30 v31 nb=>?_)))
 have hb33:=nb.bk
 have ge34:w.heap.size≤g30:=by rw [←nb.at_];exact hw5.size
 have q35:g8<g30:=by rw [←nb.at_];exact (hb11.ext (e16.trans (e19.trans e24))).lt
 have ne36:∀p:Addr,Ap=some p→p.block≠g30:=fun p hp=>by have:=((hlp.ext (e4.trans (e10.trans (e16.trans (e19.trans e24)))))).block p hp;have:=nb.at_;omega
 have ne37:∀p:Addr,LA28=some p→p.block≠g30:=fun p hp=>by have:=(lz28).block p hp;have:=nb.at_;omega
 have e32:=nb.ext
 clear nb
 have hw6:=hw5.trans e32
 refine so aggMat hb33 [.int .i64 ((n:Nat):Int),.int .i64 ((n:Nat):Int),.slice LA28 (n*n) lc28] hw6 ge34 rfl rfl rfl rfl fun v38 hb40 u41 hw7=>(mv 1 rfl (ne_ (cw_seq (sr (mv 1 rfl (wl_ar rfl rfl rfl (((np-0:Nat):Int)-1) (ar_i64s rfl (by omega) (by omega)) (by decide) (mv 1 rfl (ne_ (cw_block ?_)))))))))
 have l043:=Lz.mono (b':=0) (lb':=w.heap.size) (((lz28.ext e32).updT hb33 u41 ne37)) (Nat.le_refl _) (Nat.zero_le _) hgl21
 refine cw_loop (T:=World×Nat×Option Addr×Nat×List Int) (fun⟨wr,i,LM,lm,ms⟩=> [(0,.slice Ap np capp),(1,.agg #[.int .i64 ((n:Nat):Int),.int .i64 ((n:Nat):Int),.slice Aa na capa]),(3,.pointer (some ⟨g2,0,none⟩)),(4,.pointer (some ⟨g8,0,none⟩)),(5,.int .i64 0),(6,.int .i64 0),(7,.int .i64 ((np:Nat):Int)),(8,.pointer (some ⟨g30,0,none⟩)),(9,.int .i64 0),(10,.int .i64 (((np-i:Nat):Int)-1)),(11,.agg #[.int .i64 ((n:Nat):Int),.int .i64 ((n:Nat):Int),.slice Aa na capa]),(12,.int .i64 0),(13,.int .i64 0),(14,.bool false),(17,.slice Ap np capp),(18,.int .i64 ((np:Nat):Int)),(19,.int .i64 ((np:Nat):Int)),(20,.int .i64 ((np-1:Nat):Int)),(21,.bool false),(23,.tuple #[.agg #[.int .i64 ((n:Nat):Int),.int .i64 ((n:Nat):Int),.slice LA28 (n*n) lc28],I0]),(24,.pointer (some ⟨g2,0,none⟩)),(25,.int .i64 ((n:Nat):Int)),(26,.pointer (some ⟨g2,1,none⟩)),(27,.int .i64 ((n:Nat):Int)),(28,.tuple #[.agg #[.int .i64 ((n:Nat):Int),.int .i64 ((n:Nat):Int),.slice LA28 (n*n) lc28],I0]),(29,.agg #[.int .i64 ((n:Nat):Int),.int .i64 ((n:Nat):Int),.slice LA28 (n*n) lc28]),(30,.int .i64 0),(31,.int .i64 ((np:Nat):Int)),(32,.int .i64 (((np-0:Nat):Int)-1))]) (fun⟨wr,i,LM,lm,ms⟩=>wr) (fun⟨wr,i,LM,lm,ms⟩=>(Ext w wr)∧(i≤np)∧(Bk wr g2 24 [.int .i64 ((n:Nat):Int),.int .i64 ((n:Nat):Int),.slice Aa na capa])∧(Bk wr g8 24 [I0,I0,S0])∧(Bk wr g30 24 [.int .i64 ((n:Nat):Int),.int .i64 ((n:Nat):Int),.slice LM (n*n) lm])∧(lbp≤wr.heap.size)∧(Lz none 8589934592 0 wr lbp Ap np capp ps)∧(∀p:Addr,Ap=some p→p.block≠g2)∧(∀p:Addr,Ap=some p→p.block≠g8)∧(∀p:Addr,Ap=some p→p.block≠g30)∧(w.heap.size≤wr.heap.size)∧(Lz none 17179869184 0 wr w.heap.size LM (n*n) lm ms)∧(∀p:Addr,LM=some p→p.block≠g2)∧(∀p:Addr,LM=some p→p.block≠g8)∧(∀p:Addr,LM=some p→p.block≠g30)∧(∀p q:Addr,LM=some p→Ap=some q→p.block≠q.block)∧(En n n (hon n X (fun i=>ps.getD i 0) np (np-i)) ms)) (fun⟨wr,i,LM,lm,ms⟩=>np-i)
  (⟨v38,0,LA28,lc28,zs28⟩:World×Nat×Option Addr×Nat×List Int) ⟨hw7,(by omega),((hb5.ext (e10.trans (e16.trans (e19.trans (e24.trans e32))))).updN u41 (by omega)),((hb11.ext (e16.trans (e19.trans (e24.trans e32)))).updN u41 (by omega)),hb40,(Nat.le_trans (Nat.le_trans (Nat.le_trans (Nat.le_trans (Nat.le_trans (Nat.le_trans (Nat.le_trans hlbp e4.size) e10.size) e16.size) e19.size) e24.size) e32.size) u41.by_.size),((hlp.ext (e4.trans (e10.trans (e16.trans (e19.trans (e24.trans e32)))))).updT hb33 u41 ne36),ne7,ne14,ne36,hw7.size,l043,(show∀p:Addr,LA28=some p→p.block≠g2 from fun p hp=>by have:=blk29 p hp;omega),(show∀p:Addr,LA28=some p→p.block≠g8 from fun p hp=>by have:=blk29 p hp;omega),ne37,(show∀p q:Addr,LA28=some p→Ap=some q→p.block≠q.block from fun p q hp hq=>by have:=blk29 p hp;have:=hql22 q hq;omega),(En.cong (fun a b _ _=>(hon_0 n X (fun i=>ps.getD i 0) np a b).symm) _ hz28)⟩ rfl ⟨rfl,rfl,rfl,rfl,rfl,rfl,rfl,rfl,rfl,rfl,rfl,rfl,rfl,rfl,rfl,rfl,rfl,rfl,rfl,rfl,rfl,rfl,rfl,rfl,rfl,rfl,rfl,rfl,rfl,trivial⟩ ?_
 rintro⟨wr,i,LM,lm,ms⟩ ⟨hw1,hi_i,b_g2,b_g8,b_g30,l_Apb,l_Ap,l_Ap_g2,l_Ap_g8,l_Ap_g30,l_LMb,l_LM,l_LM_g2,l_LM_g8,l_LM_g30,d_l_LM_l_Ap,hms⟩
 refine cw_re [(0,.slice Ap np capp),(1,.agg #[.int .i64 ((n:Nat):Int),.int .i64 ((n:Nat):Int),.slice Aa na capa]),(3,.pointer (some ⟨g2,0,none⟩)),(4,.pointer (some ⟨g8,0,none⟩)),(5,.int .i64 0),(6,.int .i64 0),(7,.int .i64 ((np:Nat):Int)),(8,.pointer (some ⟨g30,0,none⟩)),(9,.int .i64 0),(10,.int .i64 (((np-i:Nat):Int)-1)),(11,.agg #[.int .i64 ((n:Nat):Int),.int .i64 ((n:Nat):Int),.slice Aa na capa]),(12,.int .i64 0),(13,.int .i64 0),(14,.bool false),(17,.slice Ap np capp),(18,.int .i64 ((np:Nat):Int)),(19,.int .i64 ((np:Nat):Int)),(20,.int .i64 ((np-1:Nat):Int)),(21,.bool false),(23,.tuple #[.agg #[.int .i64 ((n:Nat):Int),.int .i64 ((n:Nat):Int),.slice LA28 (n*n) lc28],I0]),(24,.pointer (some ⟨g2,0,none⟩)),(25,.int .i64 ((n:Nat):Int)),(26,.pointer (some ⟨g2,1,none⟩)),(27,.int .i64 ((n:Nat):Int)),(28,.tuple #[.agg #[.int .i64 ((n:Nat):Int),.int .i64 ((n:Nat):Int),.slice LA28 (n*n) lc28],I0]),(29,.agg #[.int .i64 ((n:Nat):Int),.int .i64 ((n:Nat):Int),.slice LA28 (n*n) lc28]),(30,.int .i64 0),(31,.int .i64 ((np:Nat):Int)),(32,.int .i64 (((np-0:Nat):Int)-1))] wr rfl ⟨rfl,rfl,rfl,rfl,rfl,rfl,rfl,rfl,rfl,rfl,rfl,rfl,rfl,rfl,rfl,rfl,rfl,rfl,rfl,rfl,rfl,rfl,rfl,rfl,rfl,rfl,rfl,rfl,rfl,trivial⟩ ?_
 have blk44:=l_Ap.block
 have blk45:=l_LM.block
 refine cw_seq (cw_seq ?_)
 by_cases hin:i<np
 · 
  rw [show ((np-i:Nat):Int)-1=((np-1-i:Nat):Int) by omega]
  refine cw_region (mv 1 rfl (wl_cmp rfl rfl rfl true (cb_ge_t (a:=np-1-i) (b:=0) rfl rfl (by omega)) (by decide) (ne_ (cw_true rfl (cw_skip (eo_then (cw_seq (cw_block (cw_seq ?_)))))))))
  rw [show np-i=np-1-i+1 by omega] at hms
  have hB:∀a b,a<n→b<n→ln (mm n (hon n X (fun i=>ps.getD i 0) np (np-1-i+1)) X a b)≤17179869176:=fun a b ha hb=>Nat.le_trans (ln_mm (fun l hl=>ln_hon (L:=8589934592) hn hXl hpl (by omega) ha hl) (fun l hl=>hXl l b hl hb)) (by omega)
  refine cw_region (lo aggMat b_g30 [.int .i64 ((n:Nat):Int),.int .i64 ((n:Nat):Int),.slice LM (n*n) lm] rfl rfl rfl (lo aggMat b_g2 [.int .i64 ((n:Nat):Int),.int .i64 ((n:Nat):Int),.slice Aa na capa] rfl rfl rfl ?_))
  obtain⟨lb46,hlb46,hlelb46,hgl46,hq46_0,hq46_1,hq46_2⟩:∃lb,lb≤wr.heap.size∧wr.heap.size≤lb∧w.heap.size≤lb∧g2<lb∧g8<lb∧g30<lb:=⟨wr.heap.size,Nat.le_refl _,Nat.le_refl _,hw1.size,b_g2.lt,b_g8.lt,b_g30.lt⟩
  have hql47:∀p:Addr,Ap=some p→p.block<lb46:=fun p hp=>Nat.lt_of_lt_of_le ((l_Ap).block p hp).2 hlelb46
  have hql48:∀p:Addr,LM=some p→p.block<lb46:=fun p hp=>Nat.lt_of_lt_of_le ((l_LM).block p hp).2 hlelb46
  refine cl (vs:= [.agg #[.int .i64 ((n:Nat):Int),.int .i64 ((n:Nat):Int),.slice LM (n*n) lm],.agg #[.int .i64 ((n:Nat):Int),.int .i64 ((n:Nat):Int),.slice Aa na capa]]) hw1 (g_mat_Mul (r:=n) (m:=n) (c:=n) (X:=(hon n X (fun i=>ps.getD i 0) np (np-1-i+1))) (Y:=X) (K:=17179869184) hw1.size hlb46 ((l_LM.zf0).mono (by decide)) (((show ZF w _ _ _ _ _ from⟨msa,hla,hma⟩).ext hw1).mono (by decide)) rfl hna hn hn hn hms hX (fun a b ha hb=>Nat.le_trans (hB a b ha hb) (by decide))) rfl (by kernel_rfl) fun xr51 v49 r51 e50 hw2=>?_
  obtain⟨_,_,rfl,⟨lv53,rfl,⟨LA54,lc54,zs54,rfl,lz54,hz54⟩⟩,r52_1⟩:=r51
  have blk55:=lz54.block
  obtain rfl:=r52_1
  refine mv 1 rfl (pu (v:= .agg #[.int .i64 ((n:Nat):Int),.int .i64 ((n:Nat):Int),.slice LA54 (n*n) lc54]) rfl (by kernel_rfl) (pu (v:= .int .i64 0) rfl (by kernel_rfl) ?_))
  have hb57:=(b_g30.ext e50)
  refine so aggMat hb57 [.int .i64 ((n:Nat):Int),.int .i64 ((n:Nat):Int),.slice LA54 (n*n) lc54] hw2 ge34 rfl rfl rfl rfl fun v56 hb58 u59 hw3=>(mv 1 rfl (ne_ ?_))
  obtain⟨pz61,sz61,Bz61,nz61,cz61,hpz61,ldz61,hKz61,ez61⟩:=(((l_Ap.ext e50).updT hb57 u59 l_Ap_g30)).at (i:=np-1-i) (by omega)
  have zz61:=ez61.zr
  have Lz61:ln (ps.getD (np-1-i) 0)≤8589934592:=(hpl _)
  refine cw_draw mix 5 [] [Is (.agg #[.int .i64 ((n:Nat):Int),.int .i64 ((n:Nat):Int),.slice LA54 (n*n) lc54]),Is (.slice Ap np capp),Is (.int .i64 ((np-1-i:Nat):Int)),Is (.pointer (some pz61)),Is (.agg #[.bool sz61,.slice Bz61 nz61 cz61])] [[],[],[],[1,2],[3]] [[],[],[],[1,2],[1,2,3],[0,1,2,3,4]] rfl
   (obs_cons rfl rfl (hob rfl rfl ?_) (obs_cons rfl rfl (hob rfl rfl ?_) (obs_cons rfl rfl (hob rfl rfl ?_) (obs_cons rfl rfl (hob rfl rfl ?_) (obs_cons rfl rfl (hob rfl rfl ?_) obs_nil))))) ?_
  · 
   exact fun _ e63=>deps_nil (lo aggMat (hb58.ext e63) [.int .i64 ((n:Nat):Int),.int .i64 ((n:Nat):Int),.slice LA54 (n*n) lc54] rfl rfl rfl (pi_done rfl (Ext.refl _) rfl))
  · 
   exact fun _ _=>deps_nil (mv 1 rfl (pi_done rfl (Ext.refl _) rfl))
  · 
   exact fun _ _=>deps_nil (mv 1 rfl (pi_done rfl (Ext.refl _) rfl))
  · 
   exact fun _ _=>dk rfl rfl (dk rfl rfl (deps_nil (wl_idx rfl rfl rfl elemI aggInt.size (np-1-i) rfl (by omega) pz61 hpz61 (by decide) (pi_done rfl (Ext.refl _) rfl))))
  · 
   exact fun _ e81=>dk rfl rfl (deps_nil (wl_load rfl rfl (ldz61 _ e81 _ _ aggInt) (by decide) (pi_done rfl (Ext.refl _) rfl)))
  · 
   intro v87 e88
   have hw4:=hw3.trans e88
   refine dk rfl rfl (dk rfl rfl (dk rfl rfl (dk rfl rfl (dk rfl rfl (deps_nil ?_)))))
   have lt121:=Lz.mono (b':=0) (((lz54.updT hb57 u59 (show∀p:Addr,LA54=some p→p.block≠g30 from fun p hp=>by have:=blk55 p hp;omega)).ext e88)) (Nat.le_refl _) (Nat.zero_le _) (Nat.le_refl _)
   obtain⟨us119,own120⟩:=lt121.own
   refine wl_call rfl rfl (vs:= [.agg #[.int .i64 ((n:Nat):Int),.int .i64 ((n:Nat):Int),.slice LA54 (n*n) lc54],.agg #[.bool sz61,.slice Bz61 nz61 cz61]]) (by kernel_rfl) (by decide) (g_chp_lift (X:=mm n (hon n X (fun i=>ps.getD i 0) np (np-1-i+1)) X) lt121 (Nat.le_trans (Nat.le_trans (Nat.le_trans hlb46 e50.size) u59.by_.size) e88.size) hz54 hn (fun a ha=>Nat.le_trans (ln_add (hB a a ha ha) (hpl _)) (by decide)) (zz61.ext e88) ((zz61.ext e88).le (lx_ Lz61 rfl))) ?_
   rintro _ v114 ⟨ys115,rfl,lz116,hX117,uo118⟩
   refine ret_intro ?_
   have hw5:=uo118.ext hw4 (fun p hp=>by have:=blk55 p hp;omega)
   have hlblz116:lb46≤v114.heap.size:=Nat.le_trans (Nat.le_trans (Nat.le_trans (Nat.le_trans hlb46 e50.size) u59.by_.size) e88.size) uo118.size
   refine wl_nil (eo_np (eo_block_normal (eo_then (cw_region (mv 1 rfl (wl_ar rfl rfl rfl (((np-(i+1):Nat):Int)-1) (ar_i64s (show ((np-1-i:Nat):Int)-1=((np-(i+1):Nat):Int)-1 by omega) (by omega) (by omega)) (by decide) (mv 1 rfl (wl_nil ?_))))))))
   have l0122:=Lz.mono (b':=0) (lb':=w.heap.size) (lz116) (Nat.le_refl _) (Nat.zero_le _) hgl46
   refine eo_round (⟨v114,i+1,LA54,lc54,ys115⟩:World×Nat×Option Addr×Nat×List Int) ⟨hw5,(by omega),((((b_g2.ext e50).updN u59 (by omega)).ext e88).updO uo118 (show∀p:Addr,LA54=some p→p.block≠g2 from fun p hp=>by have:=blk55 p hp;omega)),((((b_g8.ext e50).updN u59 (by omega)).ext e88).updO uo118 (show∀p:Addr,LA54=some p→p.block≠g8 from fun p hp=>by have:=blk55 p hp;omega)),((hb58.ext e88).updO uo118 (show∀p:Addr,LA54=some p→p.block≠g30 from fun p hp=>by have:=blk55 p hp;omega)),(Nat.le_trans (Nat.le_trans (Nat.le_trans (Nat.le_trans l_Apb e50.size) u59.by_.size) e88.size) uo118.size),((((l_Ap.ext e50).updT hb57 u59 l_Ap_g30).ext e88).updO own120 uo118 (show∀p q:Addr,LA54=some p→Ap=some q→p.block≠q.block from fun p q hp hq=>by have:=blk55 p hp;have:=hql47 q hq;omega)),l_Ap_g2,l_Ap_g8,l_Ap_g30,hw5.size,l0122,(show∀p:Addr,LA54=some p→p.block≠g2 from fun p hp=>by have:=blk55 p hp;omega),(show∀p:Addr,LA54=some p→p.block≠g8 from fun p hp=>by have:=blk55 p hp;omega),(show∀p:Addr,LA54=some p→p.block≠g30 from fun p hp=>by have:=blk55 p hp;omega),(show∀p q:Addr,LA54=some p→Ap=some q→p.block≠q.block from fun p q hp hq=>by have:=blk55 p hp;have:=hql47 q hq;omega),(En.cong (fun a b ha hb=>by rw [hon_s X (fun i=>ps.getD i 0) (by omega),if_pos ha,show np-1-i=np-(i+1) by omega]) _ hX117)⟩ (show np-(i+1)<np-i by omega) rfl ⟨rfl,rfl,rfl,rfl,rfl,rfl,rfl,rfl,rfl,rfl,rfl,rfl,rfl,rfl,rfl,rfl,rfl,rfl,rfl,rfl,rfl,rfl,rfl,rfl,rfl,rfl,rfl,rfl,rfl,trivial⟩
 · 
  refine cw_region (mv 1 rfl (wl_cmp rfl rfl rfl false (ci_ge_f (by omega)) (by decide) (ne_ (cw_false rfl (cw_exit (eo_thenX (eo_loopX (eo_block_here (eo_then (sr (lo aggMat b_g30 [.int .i64 ((n:Nat):Int),.int .i64 ((n:Nat):Int),.slice LM (n*n) lm] rfl rfl rfl (mv 1 rfl ?_))))))))))))
  have hb124:=b_g8
  refine so aggMat hb124 [.int .i64 ((n:Nat):Int),.int .i64 ((n:Nat):Int),.slice LM (n*n) lm] hw1 ge12 rfl rfl rfl rfl fun v123 hb125 u126 hw2=>(mv 1 rfl (ne_ (cw_ret (eo_ret [.agg #[.int .i64 ((n:Nat):Int),.int .i64 ((n:Nat):Int),.slice LM (n*n) lm],I0] rfl ⟨⟨_,rfl,load_agg aggMat hb125 [.int .i64 ((n:Nat):Int),.int .i64 ((n:Nat):Int),.slice LM (n*n) lm] rfl (bq rfl) rfl⟩,rfl,trivial⟩ ?_))))
  exact⟨_,rfl,⟨_,_,rfl,⟨_,rfl,⟨_,_,_,rfl,((l_LM.updT hb124 u126 l_LM_g8)).mono (Nat.le_refl _) (Nat.le_refl _) hlb,(by have h9:=hms;rw [show np-i=0 by omega] at h9;exact h9)⟩⟩,rfl⟩,hw2⟩
theorem cut_lo (A:Option Addr) (c s hi:Nat):Value.slice (if c=0 then A else A.map (·.add (0*s))) (hi-0) (c-0)= .slice A hi c:=by
 have e:A.map (·.add (0*s))=A:=by
  cases A with
  | none=>rfl
  | some a=>simp [Addr.add]
 rw [e];simp
section
variable {P:Program}{Q:Exit→Act→World→Prop}{n:Nat}{l:Fr}{w:World}{ops:Array Oper}{rest:List Oper}{d:Nat}{ty:TypeId}{pos:String}{af:Array Edge}{gd:Option (Nat×Bool)}
theorem wl_cutI (hw:guardB ops l gd=some true){x y:Operand}{t e:TypeId}{s m c hi:Nat}{A:Option Addr}(hx:evo l x=some (.slice A m c)) (hy:evo l y=some (.int .i64 (hi:Int))) (hT:P.underlying t=some (.slice e)) (hs:∀w,(sizeOf e).run P w= .ok s w)
  (h4:hi≤c) (hn:d<n) (h:wl P ops Q n rest ((d,.slice A hi c)::l) w):wl P ops Q n (⟨some d,.slice t x none (some y) none,ty,pos,af,gd⟩::rest) l w:=
 wl_slice hw hx hT hs (lo:=0) (hi:=hi) rfl hy (Nat.zero_le _) h4 (cut_lo A c s hi) hn h
theorem run_cutI {x y:Operand}{t e:TypeId}{s m c hi:Nat}{A:Option Addr}(hx:evo l x=some (.slice A m c)) (hy:evo l y=some (.int .i64 (hi:Int))) (hT:P.underlying t=some (.slice e)) (hs:∀w,(sizeOf e).run P w= .ok s w)
  (h4:hi≤c) (dst:Option Nat) (w:World):(execOp (rho l) ⟨dst,.slice t x none (some y) none,ty,pos,af,gd⟩).run P w= .ok (.value (.slice A hi c)) w:=by
 have e:(Instr.sliceAt t (rho l x) (Option.map (rho l) none) (Option.map (rho l) (some y)) (Option.map (rho l) none)).run P w= .ok (.slice A hi c) w:=by
  rw [show rho l x= .slice A m c by rw [rho,hx];rfl,←cut_lo A c s hi]
  exact run_slice hT hs (Or.inl ⟨rfl,rfl⟩) (Or.inr (by show some (rho l y)=_;rw [rho,hy];rfl)) (Nat.zero_le _) h4
 show ((Instr.sliceAt t (rho l x) (Option.map (rho l) none) (Option.map (rho l) (some y)) (Option.map (rho l) none)>>=fun r=>pure (Next.value r):Sem Next)).run P w=_
 rw [Sem.run_bind,e];rfl
end
def E0 (v:Value) (_:World):Prop:=∃A c,v= .slice A 0 c
structure DvI (ps qs:List Int) (M k B i:Nat) (rs:List Int):Prop where
 ex:∃q:Nat→Int,∀x,rs.getD x 0=ps.getD x 0-sm M fun s=>q s*sh s (fun i=>qs.getD i 0) x
 zer:∀x,M-i+k≤x→rs.getD x 0=0
 ln:∀x,ln (rs.getD x 0)≤134217728+i*(B+1)
theorem DvI.start {ps qs:List Int}{M k B:Nat}(hl:ps.length=M+k) (hp:∀i,Go.Proofs.Ytnpbbknemflpnaa.ln (ps.getD i 0)≤134217728):DvI ps qs M k B 0 ps:=by
 refine⟨⟨fun _=>0,fun x=>?_⟩,fun x hx=>getD_ge (by omega),fun x=>Nat.le_trans (hp x) (Nat.le_add_right _ _)⟩
 have e:∀s,s<M→(0:Int)*sh s (fun i=>qs.getD i 0) x=0:=fun s _=>Int.zero_mul _
 rw [sm_congr e,sm_zero,Int.sub_zero]
theorem DvI.next {ps qs rs us:List Int}{M k B i:Nat}(h:DvI ps qs M k B i rs) (hi:i<M) (hq:qs.getD k 0=1) (hql:qs.length=k+1) (hB:∀i,Go.Proofs.Ytnpbbknemflpnaa.ln (qs.getD i 0)≤B)
  (hu:∀x,us.getD x 0=rs.getD x 0-if M-1-i≤x∧x<M-1-i+(k+1) then rs.getD (M-1-i+k) 0*qs.getD (x-(M-1-i)) 0 else 0):DvI ps qs M k B (i+1) us:=by
 have hu2:∀x,us.getD x 0=rs.getD x 0-rs.getD (M-1-i+k) 0*sh (M-1-i) (fun i=>qs.getD i 0) x:=fun x=>by
  rw [hu x,sh]
  by_cases h1:M-1-i≤x
  ·rw [if_pos h1]
   by_cases h2:x<M-1-i+(k+1)
   ·rw [if_pos ⟨h1,h2⟩]
   ·rw [if_neg (fun h=>h2 h.2),getD_ge (show qs.length≤x-(M-1-i) by omega),Int.mul_zero]
  ·rw [if_neg h1,if_neg (fun h=>h1 h.1),Int.mul_zero]
 obtain⟨q,hqe⟩:=h.ex
 refine⟨⟨fun s=>q s+if s=M-1-i then rs.getD (M-1-i+k) 0 else 0,fun x=>?_⟩,fun x hx=>?_,fun x=>?_⟩
 ·rw [hu2 x,hqe x]
  have e:∀s,s<M→(q s+if s=M-1-i then rs.getD (M-1-i+k) 0 else 0)*sh s (fun i=>qs.getD i 0) x=q s*sh s (fun i=>qs.getD i 0) x+(if s=M-1-i then rs.getD (M-1-i+k) 0*sh s (fun i=>qs.getD i 0) x else 0):=fun s _=>by
   by_cases hs:s=M-1-i
   ·rw [if_pos hs,if_pos hs,Int.add_mul]
   ·rw [if_neg hs,if_neg hs,Int.add_zero,Int.add_zero]
  rw [sm_congr e,sm_add,sm_at (show M-1-i<M by omega) (fun s=>rs.getD (M-1-i+k) 0*sh s (fun i=>qs.getD i 0) x)]
  omega
 ·rw [hu2 x]
  by_cases e:x=M-1-i+k
  ·subst e
   rw [sh,if_pos (by omega),show M-1-i+k-(M-1-i)=k by omega,hq];omega
  ·rw [h.zer x (by omega),sh,if_pos (by omega),getD_ge (show qs.length≤x-(M-1-i) by omega),Int.mul_zero,Int.sub_zero]
 ·rw [hu x]
  have h1:=h.ln x
  split
  ·have h2:=ln_sub h1 (ln_mul (h.ln (M-1-i+k)) (hB (x-(M-1-i))))
   rw [Nat.succ_mul]
   refine Nat.le_trans h2 ?_
   rw [Nat.max_eq_right (by omega)];omega
  ·rw [Int.sub_zero,Nat.succ_mul];omega
def DvJ (rs qs:List Int) (t k j:Nat) (us:List Int):Prop:=∀x,us.getD x 0=rs.getD x 0-if t≤x∧x<t+j then rs.getD (t+k) 0*qs.getD (x-t) 0 else 0
theorem DvJ.start (rs qs:List Int) (t k:Nat):DvJ rs qs t k 0 rs:=fun x=>by rw [if_neg (by omega),Int.sub_zero]
theorem DvJ.get {rs qs us:List Int}{t k j:Nat}(h:DvJ rs qs t k j us):us.getD (t+j) 0=rs.getD (t+j) 0:=by rw [h,if_neg (by omega),Int.sub_zero]
theorem DvJ.next {rs qs us:List Int}{t k j:Nat}(h:DvJ rs qs t k j us) (hl:t+j<us.length):DvJ rs qs t k (j+1) (us.set (t+j) (us.getD (t+j) 0-rs.getD (t+k) 0*qs.getD j 0)):=fun x=>by
 rw [getD_set hl]
 by_cases e:x=t+j
 ·subst e
  rw [if_pos rfl,if_pos (by omega),h.get,show t+j-t=j by omega]
 ·rw [if_neg e,h x]
  by_cases h1:t≤x∧x<t+j
  ·rw [if_pos h1,if_pos (by omega)]
  ·rw [if_neg h1,if_neg (by omega)]
theorem DvI.done {ps qs rs:List Int}{M k B:Nat}(h:DvI ps qs M k B M rs) (hr:∀q r:Nat→Int,(∀i,r i=ps.getD i 0-sm M fun s=>q s*sh s (fun i=>qs.getD i 0) i)→(∀i,k≤i→i<M+k→r i=0)→∀i,i<k→r i=0) (x:Nat):rs.getD x 0=0:=by
 obtain⟨q,hq⟩:=h.ex
 rcases Nat.lt_or_ge x k with hx | hx
 ·exact hr q (fun x=>rs.getD x 0) hq (fun i h1 _=>h.zer i (by omega)) x hx
 ·exact h.zer x (by omega)
set_option maxHeartbeats 4000000 in
set_option maxRecDepth 20000 in
theorem g_chp_DivMonic {w:World}{b lb:Nat}(hb:b≤w.heap.size) (hlb:lb≤w.heap.size){M k capp capq lbp lbq B:Nat}{Ap Aq:Option Addr}{ps qs:List Int}(hlp:Lz none 17179869184 0 w lbp Ap (M+k) capp ps) (hlbp:lbp≤w.heap.size) (hlq:Lz none 8589934592 0 w lbq Aq (k+1) capq qs) (hlbq:lbq≤w.heap.size) (hk:k≤64) (hM1:1≤M) (hM:M≤65) (hq1:qs.getD k 0=1) (hp1:ps.getD (M+k-1) 0≠0) (hpl:∀i,ln (ps.getD i 0)≤134217728) (hql:∀i,ln (qs.getD i 0)≤B) (hBB:B≤8589934592) (hL:134217728+M*(B+1)≤68719476736) (hr:∀q r:Nat→Int,(∀i,r i=ps.getD i 0-sm M fun s=>q s*sh s (fun i=>qs.getD i 0) i)→(∀i,k≤i→i<M+k→r i=0)→∀i,i<k→r i=0):
    Calls Try.prog 16 #[.slice Ap (M+k) capp,.slice Aq (k+1) capq] w (Gv w (T3 (LQ none 68719476736 b lb M (fun _=>True)) (E0) (Is (.int .i64 0)))):=by
 refine sx_enter Try.func16 rfl (n:=80) rfl (bq rfl) (args:= [.slice Ap (M+k) capp,.slice Aq (k+1) capq]) ?_
 have blk1:=hlp.block
 have blk2:=hlq.block
 refine cw_keep [(0,.slice Ap (M+k) capp),(1,.slice Aq (k+1) capq)] ⟨rfl,rfl,trivial⟩ (sr (mv 3 rfl (ne_ (cw_seq (sr (mv 1 rfl (cl (vs:= [.slice Aq (k+1) capq]) (Ext.refl w) (g_chp_monic (s:=k+1) ((hlq.zf0).mono (by decide)) (by omega) (by omega) (Nat.le_refl _) (fun i h2 h3=>absurd h3 (Nat.not_lt.2 h2)) hq1) rfl (by kernel_rfl) fun xr5 v3 r5 e4 hw1=>?_)))))))
 obtain rfl:=r5
 refine pu (v:= .bool false) rfl (by kernel_rfl) (ne_ (cw_false rfl (cw_skip (eo_then (sr (mv 1 rfl ?_))))))
 obtain⟨lb6,hlb6,hlelb6,hgl6⟩:∃lb,lb≤v3.heap.size∧v3.heap.size≤lb∧w.heap.size≤lb:=⟨v3.heap.size,Nat.le_refl _,Nat.le_refl _,hw1.size⟩
 have hql7:∀p:Addr,Ap=some p→p.block<lb6:=fun p hp=>Nat.lt_of_lt_of_le (((hlp.ext e4)).block p hp).2 hlelb6
 have hql8:∀p:Addr,Aq=some p→p.block<lb6:=fun p hp=>Nat.lt_of_lt_of_le (((hlq.ext e4)).block p hp).2 hlelb6
 refine cl (vs:= [.slice Ap (M+k) capp]) hw1 (g_chp_Trim hw1.size hlb6 (((hlp.ext e4).zf0).mono (by decide)) (by omega) (Or.inr hp1)) rfl (by kernel_rfl) fun xr11 v9 r11 e10 hw2=>?_
 obtain⟨LA12,lc12,rfl,lz12⟩:=r11
 have blk13:=lz12.block
 refine mv 1 rfl (ne_ (sr (mv 2 rfl (cl (vs:= [.slice Aq (k+1) capq]) hw2 (g_chp_size (s:=k+1) (((hlq.ext (e4.trans e10)).zf0).mono (by decide)) (by omega) (by omega) (fun i h2 h3=>absurd h3 (Nat.not_lt.2 h2)) (Or.inr (by rw [show k+1-1=k by omega,hq1];decide))) rfl (by kernel_rfl) fun xr16 v14 r16 e15 hw3=>?_))))
 obtain rfl:=r16
 refine wl_cutI rfl rfl rfl elemI aggInt.size ((hlq.ext (e4.trans (e10.trans e15)))).le (by decide) (mv 1 rfl (ne_ (cw_seq (sr (mv 1 rfl (pu (v:= .int .i64 (((M+k):Nat):Int)) rfl (by kernel_rfl) (mv 1 rfl (pu (v:= .int .i64 ((k+1:Nat):Int)) rfl (by kernel_rfl) (wl_cmp rfl rfl rfl true (cb_ge_t (a:=M+k) (b:=k+1) rfl rfl (by omega)) (by decide) (ne_ (cw_true rfl (cw_region (mv 1 rfl ?_)))))))))))))
 refine pu (v:= .int .i64 (((M+k):Nat):Int)) rfl (by kernel_rfl) (mv 1 rfl (pu (v:= .int .i64 ((k+1:Nat):Int)) rfl (by kernel_rfl) (wl_ar rfl rfl rfl (((M+k)-(k+1):Nat):Int) (ai_sub (a:=M+k) (b:=k+1) rfl rfl (by omega) (by omega)) (by decide) (wl_ar rfl rfl rfl ((M:Nat):Int) ((ai_add (a:=M+k-(k+1)) (b:=1) rfl rfl (by omega)).trans (by rw [show (M+k-(k+1))+1=M by omega])) (by decide) (wl_makeL (k:=M) none 68719476736 w.heap.size rfl rfl rfl (by omega) (by decide) fun g17 v18 hg19 lz20 e21=>?_)))))
 have q22:∀p:Addr,Ap=some p→p.block<g17:=fun p hp=>by have:=((hlp.ext (e4.trans (e10.trans e15)))).block p hp;omega
 have q23:∀p:Addr,Aq=some p→p.block<g17:=fun p hp=>by have:=((hlq.ext (e4.trans (e10.trans e15)))).block p hp;omega
 have q24:∀p:Addr,LA12=some p→p.block<g17:=fun p hp=>by have:=((lz12.ext e15)).block p hp;omega
 have hlbg17:g17≤v18.heap.size:=by have:=(lz20.block _ rfl).2;exact Nat.le_of_lt this
 have hglg17:w.heap.size≤g17:=by rw [←hg19];exact hw3.size
 clear hg19
 have hw4:=hw3.trans e21
 have blk25:=lz20.block
 refine mv 1 rfl (ne_ (cw_seq (sr (mv 1 rfl (pu (v:= .int .i64 ((M:Nat):Int)) rfl (by kernel_rfl) (wl_ar rfl rfl rfl (((M-0:Nat):Int)-1) (ar_i64s rfl (by omega) (by omega)) (by decide) (mv 1 rfl (ne_ (cw_block ?_)))))))))
 have l026:=Lz.mono (b':=w.heap.size) (lb':=w.heap.size) ((lz12.ext (e15.trans e21))) (Nat.le_refl _) (Nat.le_refl _) hgl6
 have l027:=Lz.mono (b':=w.heap.size) (lb':=w.heap.size) (lz20) (Nat.le_refl _) (Nat.le_refl _) hglg17
 refine cw_loop (T:=World×Nat×List Int×List Int) (fun⟨wr,i,rs,us⟩=> [(0,.slice Ap (M+k) capp),(1,.slice Aq (k+1) capq),(4,.slice (some ⟨g17,0,none⟩) M M),(5,.slice LA12 (M+k) lc12),(6,.int .i64 0),(7,.int .i64 (((M-i:Nat):Int)-1)),(11,.slice Aq (k+1) capq),(12,.bool true),(13,.bool false),(14,.slice Ap (M+k) capp),(15,.slice LA12 (M+k) lc12),(16,.slice Aq (k+1) capq),(17,.slice Aq (k+1) capq),(18,.int .i64 ((k+1:Nat):Int)),(19,.slice Aq (k+1) capq),(20,.slice LA12 (M+k) lc12),(21,.int .i64 (((M+k):Nat):Int)),(22,.slice Aq (k+1) capq),(23,.int .i64 ((k+1:Nat):Int)),(24,.bool true),(25,.slice LA12 (M+k) lc12),(26,.int .i64 (((M+k):Nat):Int)),(27,.slice Aq (k+1) capq),(28,.int .i64 ((k+1:Nat):Int)),(29,.int .i64 (((M+k)-(k+1):Nat):Int)),(30,.int .i64 ((M:Nat):Int)),(31,.slice (some ⟨g17,0,none⟩) M M),(32,.slice (some ⟨g17,0,none⟩) M M),(33,.int .i64 ((M:Nat):Int)),(34,.int .i64 (((M-0:Nat):Int)-1))]) (fun⟨wr,i,rs,us⟩=>wr) (fun⟨wr,i,rs,us⟩=>(Ext w wr)∧(i≤M)∧(lbp≤wr.heap.size)∧(Lz none 17179869184 0 wr lbp Ap (M+k) capp ps)∧(lbq≤wr.heap.size)∧(Lz none 8589934592 0 wr lbq Aq (k+1) capq qs)∧(w.heap.size≤wr.heap.size)∧(Lz none 68719476736 w.heap.size wr w.heap.size LA12 (M+k) lc12 rs)∧(w.heap.size≤wr.heap.size)∧(Lz none 68719476736 w.heap.size wr w.heap.size (some ⟨g17,0,none⟩) M M us)∧(∀p q:Addr,LA12=some p→Ap=some q→p.block≠q.block)∧(∀p q:Addr,LA12=some p→Aq=some q→p.block≠q.block)∧(∀p q:Addr,(some ⟨g17,0,none⟩)=some p→Ap=some q→p.block≠q.block)∧(∀p q:Addr,(some ⟨g17,0,none⟩)=some p→Aq=some q→p.block≠q.block)∧(∀p q:Addr,(some ⟨g17,0,none⟩)=some p→LA12=some q→p.block≠q.block)∧(DvI ps qs M k B i rs)) (fun⟨wr,i,rs,us⟩=>M-i)
  (⟨v18,0,ps,List.replicate M 0⟩:World×Nat×List Int×List Int) ⟨hw4,(by omega),(Nat.le_trans (Nat.le_trans (Nat.le_trans (Nat.le_trans hlbp e4.size) e10.size) e15.size) e21.size),(hlp.ext (e4.trans (e10.trans (e15.trans e21)))),(Nat.le_trans (Nat.le_trans (Nat.le_trans (Nat.le_trans hlbq e4.size) e10.size) e15.size) e21.size),(hlq.ext (e4.trans (e10.trans (e15.trans e21)))),hw4.size,l026,hw4.size,l027,(show∀p q:Addr,LA12=some p→Ap=some q→p.block≠q.block from fun p q hp hq=>by have:=blk13 p hp;have:=hql7 q hq;omega),(show∀p q:Addr,LA12=some p→Aq=some q→p.block≠q.block from fun p q hp hq=>by have:=blk13 p hp;have:=hql8 q hq;omega),(show∀p q:Addr,(some ⟨g17,0,none⟩)=some p→Ap=some q→p.block≠q.block from fun p q hp hq=>by have h8:=q22 q hq;have h9:p.block=g17:=(by cases hp;rfl);omega),(show∀p q:Addr,(some ⟨g17,0,none⟩)=some p→Aq=some q→p.block≠q.block from fun p q hp hq=>by have h8:=q23 q hq;have h9:p.block=g17:=(by cases hp;rfl);omega),(show∀p q:Addr,(some ⟨g17,0,none⟩)=some p→LA12=some q→p.block≠q.block from fun p q hp hq=>by have h8:=q24 q hq;have h9:p.block=g17:=(by cases hp;rfl);omega),(DvI.start hlp.len hpl)⟩ rfl ⟨rfl,rfl,rfl,rfl,rfl,rfl,rfl,rfl,rfl,rfl,rfl,rfl,rfl,rfl,rfl,rfl,rfl,rfl,rfl,rfl,rfl,rfl,rfl,rfl,rfl,rfl,rfl,rfl,rfl,rfl,trivial⟩ ?_
 rintro⟨wr,i,rs,us⟩ ⟨hw1,hi_i,l_Apb,l_Ap,l_Aqb,l_Aq,l_LA12b,l_LA12,l_someg170noneb,l_someg170none,d_l_LA12_l_Ap,d_l_LA12_l_Aq,d_l_someg170none_l_Ap,d_l_someg170none_l_Aq,d_l_someg170none_l_LA12,hI⟩
 refine cw_re [(0,.slice Ap (M+k) capp),(1,.slice Aq (k+1) capq),(4,.slice (some ⟨g17,0,none⟩) M M),(5,.slice LA12 (M+k) lc12),(6,.int .i64 0),(7,.int .i64 (((M-i:Nat):Int)-1)),(11,.slice Aq (k+1) capq),(12,.bool true),(13,.bool false),(14,.slice Ap (M+k) capp),(15,.slice LA12 (M+k) lc12),(16,.slice Aq (k+1) capq),(17,.slice Aq (k+1) capq),(18,.int .i64 ((k+1:Nat):Int)),(19,.slice Aq (k+1) capq),(20,.slice LA12 (M+k) lc12),(21,.int .i64 (((M+k):Nat):Int)),(22,.slice Aq (k+1) capq),(23,.int .i64 ((k+1:Nat):Int)),(24,.bool true),(25,.slice LA12 (M+k) lc12),(26,.int .i64 (((M+k):Nat):Int)),(27,.slice Aq (k+1) capq),(28,.int .i64 ((k+1:Nat):Int)),(29,.int .i64 (((M+k)-(k+1):Nat):Int)),(30,.int .i64 ((M:Nat):Int)),(31,.slice (some ⟨g17,0,none⟩) M M),(32,.slice (some ⟨g17,0,none⟩) M M),(33,.int .i64 ((M:Nat):Int)),(34,.int .i64 (((M-0:Nat):Int)-1))] wr rfl ⟨rfl,rfl,rfl,rfl,rfl,rfl,rfl,rfl,rfl,rfl,rfl,rfl,rfl,rfl,rfl,rfl,rfl,rfl,rfl,rfl,rfl,rfl,rfl,rfl,rfl,rfl,rfl,rfl,rfl,rfl,trivial⟩ ?_
 have blk28:=l_Ap.block
 have blk29:=l_Aq.block
 have blk30:=l_LA12.block
 have blk31:=l_someg170none.block
 refine cw_seq (cw_seq ?_)
 by_cases hin:i<M
 · 
  rw [show ((M-i:Nat):Int)-1=((M-1-i:Nat):Int) by omega]
  refine cw_region (mv 1 rfl (wl_cmp rfl rfl rfl true (cb_ge_t (a:=M-1-i) (b:=0) rfl rfl (by omega)) (by decide) (ne_ (cw_true rfl (cw_skip (eo_then (cw_seq (cw_block (cw_seq ?_)))))))))
  have hB9:∀x,ln (List.getD rs x 0)≤68719476736:=fun x=>Nat.le_trans (hI.ln x) (Nat.le_trans (Nat.add_le_add_left (Nat.mul_le_mul_right _ (show i≤M by omega)) _) hL)
  have hB8:∀x,ln (List.getD rs x 0)+B+1≤68719476736:=fun x=>by have h1:=hI.ln x;have h2:=Nat.mul_le_mul_right (B+1) (show i+1≤M by omega);rw [Nat.succ_mul] at h2;omega
  refine cw_region (mv 3 rfl (pu (v:= .int .i64 ((k+1:Nat):Int)) rfl (by kernel_rfl) (wl_ar rfl rfl rfl (((M-1-i)+(k+1):Nat):Int) (ai_add (a:=M-1-i) (b:=k+1) rfl rfl (by omega)) (by decide) (wl_ar rfl rfl rfl ((M-1-i+k:Nat):Int) ((ai_sub (a:=M-1-i+(k+1)) (b:=1) rfl rfl (by omega) (by omega)).trans (by rw [show (M-1-i+(k+1))-1=M-1-i+k by omega])) (by decide) ?_))))
  obtain⟨pz32,sz32,Bz32,nz32,cz32,hpz32,ldz32,hKz32,ez32⟩:=(l_LA12).at (i:=M-1-i+k) (by omega)
  have zz32:=ez32.zr
  have Lz32:ln (rs.getD (M-1-i+k) 0)≤68719476736:=(hB9 _)
  refine wl_idx rfl rfl rfl elemI aggInt.size (M-1-i+k) rfl (by omega) pz32 hpz32 (by decide) (wl_load rfl rfl (ldz32 _ (Ext.refl _) _ _ aggInt) (by decide) (cl (vs:= [.agg #[.bool sz32,.slice Bz32 nz32 cz32]]) hw1 (g_zint_Least hw1.size zz32.zi (zz32.le (lx_ Lz32 rfl))) rfl (by kernel_rfl) fun xr35 v33 r35 e34 hw2=>?_))
  obtain⟨s36,A36,n36,c36,rfl,z36⟩:=r35
  refine wl_alloc rfl (z:= .agg #[F0,S0]) (vs:= [F0,S0]) (fun _=>by kernel_rfl) rfl (by decide) fun g37 v38 nb=>?_
  have hb40:=nb.bk
  have ge41:w.heap.size≤g37:=by rw [←nb.at_];exact hw2.size
  have ne42:∀p:Addr,Ap=some p→p.block≠g37:=fun p hp=>by have:=((l_Ap.ext e34)).block p hp;have:=nb.at_;omega
  have ne43:∀p:Addr,Aq=some p→p.block≠g37:=fun p hp=>by have:=((l_Aq.ext e34)).block p hp;have:=nb.at_;omega
  have ne44:∀p:Addr,LA12=some p→p.block≠g37:=fun p hp=>by have:=((l_LA12.ext e34)).block p hp;have:=nb.at_;omega
  have ne45:∀p:Addr,(some ⟨g17,0,none⟩)=some p→p.block≠g37:=fun p hp=>by have:=((l_someg170none.ext e34)).block p hp;have:=nb.at_;omega
  have e39:=nb.ext
  clear nb
  have hw3:=hw2.trans e39
  refine so aggInt hb40 [.bool s36,.slice A36 n36 c36] hw3 ge41 rfl rfl rfl rfl fun v46 hb48 u49 hw4=>(ne_ (sr (mv 2 rfl (lo aggInt hb48 [.bool s36,.slice A36 n36 c36] rfl rfl rfl ?_))))
  obtain⟨pz51,sz51,Bz51,nz51,cz51,hpz51,ldz51,hKz51,ez51⟩:=(((l_someg170none.ext (e34.trans e39)).updT hb40 u49 ne45)).at (i:=M-1-i) (by omega)
  have zz51:=ez51.zr
  have Lz51:ln (us.getD (M-1-i) 0)≤68719476736:=zz51.ln_le hKz51
  refine wl_idx rfl rfl rfl elemI aggInt.size (M-1-i) rfl (by omega) pz51 hpz51 (by decide) ?_
  have lt57:=((l_someg170none.ext (e34.trans e39)).updT hb40 u49 ne45)
  obtain⟨us55,own56⟩:=lt57.own
  refine wl_setI (e:=⟨s36,A36,n36,c36⟩) (z:=(rs.getD (M-1-i+k) 0)) rfl rfl rfl hpz51 (by omega) lt57 (Or.inl ((z36.ext e39).updT hb40 u49)) (z36.le (lx_ Lz32 rfl)) fun v52 lz53 uo54=>?_
  have hw5:=uo54.ext hw4 (fun p hp=>by have:=blk31 p hp;omega)
  have hlblz53:w.heap.size≤v52.heap.size:=Nat.le_trans (Nat.le_trans (Nat.le_trans (Nat.le_trans l_someg170noneb e34.size) e39.size) u49.by_.size) uo54.size
  refine ne_ (sr (mv 1 rfl (pu (v:= .int .i64 ((k+1:Nat):Int)) rfl (by kernel_rfl) (mv 1 rfl (ne_ (cw_block ?_))))))
  refine cw_loop (T:=World×Nat×List Int) (fun⟨wj,j,ys⟩=> [(0,.slice Ap (M+k) capp),(1,.slice Aq (k+1) capq),(4,.slice (some ⟨g17,0,none⟩) M M),(5,.slice LA12 (M+k) lc12),(6,.int .i64 0),(7,.int .i64 ((M-1-i:Nat):Int)),(8,.pointer (some ⟨g37,0,none⟩)),(11,.slice Aq (k+1) capq),(12,.bool true),(13,.bool false),(14,.slice Ap (M+k) capp),(15,.slice LA12 (M+k) lc12),(16,.slice Aq (k+1) capq),(17,.slice Aq (k+1) capq),(18,.int .i64 ((k+1:Nat):Int)),(19,.slice Aq (k+1) capq),(20,.slice LA12 (M+k) lc12),(21,.int .i64 (((M+k):Nat):Int)),(22,.slice Aq (k+1) capq),(23,.int .i64 ((k+1:Nat):Int)),(24,.bool true),(25,.slice LA12 (M+k) lc12),(26,.int .i64 (((M+k):Nat):Int)),(27,.slice Aq (k+1) capq),(28,.int .i64 ((k+1:Nat):Int)),(29,.int .i64 (((M+k)-(k+1):Nat):Int)),(30,.int .i64 ((M:Nat):Int)),(31,.slice (some ⟨g17,0,none⟩) M M),(32,.slice (some ⟨g17,0,none⟩) M M),(33,.int .i64 ((M:Nat):Int)),(34,.int .i64 (((M-0:Nat):Int)-1)),(35,.int .i64 ((M-1-i:Nat):Int)),(36,.bool true),(39,.slice LA12 (M+k) lc12),(40,.int .i64 ((M-1-i:Nat):Int)),(41,.slice Aq (k+1) capq),(42,.int .i64 ((k+1:Nat):Int)),(43,.int .i64 (((M-1-i)+(k+1):Nat):Int)),(44,.int .i64 ((M-1-i+k:Nat):Int)),(45,.pointer (some pz32)),(46,.agg #[.bool sz32,.slice Bz32 nz32 cz32]),(47,.agg #[.bool s36,.slice A36 n36 c36]),(48,.slice (some ⟨g17,0,none⟩) M M),(49,.int .i64 ((M-1-i:Nat):Int)),(50,.agg #[.bool s36,.slice A36 n36 c36]),(51,.pointer (some pz51)),(52,.slice Aq (k+1) capq),(53,.int .i64 ((k+1:Nat):Int)),(54,.int .i64 ((j:Nat):Int))]) (fun⟨wj,j,ys⟩=>wj) (fun⟨wj,j,ys⟩=>(Ext w wj)∧(j≤k+1)∧(Bk wj g37 34 [.bool s36,.slice A36 n36 c36])∧(Zr wj w.heap.size s36 A36 n36 c36 ((rs.getD (M-1-i+k) 0)))∧(lbp≤wj.heap.size)∧(Lz none 17179869184 0 wj lbp Ap (M+k) capp ps)∧(∀p:Addr,Ap=some p→p.block≠g37)∧(lbq≤wj.heap.size)∧(Lz none 8589934592 0 wj lbq Aq (k+1) capq qs)∧(∀p:Addr,Aq=some p→p.block≠g37)∧(w.heap.size≤wj.heap.size)∧(Lz none 68719476736 w.heap.size wj w.heap.size LA12 (M+k) lc12 ys)∧(∀p:Addr,LA12=some p→p.block≠g37)∧(w.heap.size≤wj.heap.size)∧(Lz none 68719476736 w.heap.size wj w.heap.size (some ⟨g17,0,none⟩) M M (us.set (M-1-i) (rs.getD (M-1-i+k) 0)))∧(∀p:Addr,(some ⟨g17,0,none⟩)=some p→p.block≠g37)∧(∀p q:Addr,LA12=some p→Ap=some q→p.block≠q.block)∧(∀p q:Addr,LA12=some p→Aq=some q→p.block≠q.block)∧(∀p q:Addr,(some ⟨g17,0,none⟩)=some p→Ap=some q→p.block≠q.block)∧(∀p q:Addr,(some ⟨g17,0,none⟩)=some p→Aq=some q→p.block≠q.block)∧(∀p q:Addr,(some ⟨g17,0,none⟩)=some p→LA12=some q→p.block≠q.block)∧(DvJ rs qs (M-1-i) k j ys)) (fun⟨wj,j,ys⟩=>(k+1)-j)
   (⟨v52,0,rs⟩:World×Nat×List Int) ⟨hw5,(by omega),(hb48.updO uo54 ne45),(((z36.ext e39).updT hb40 u49).updOT own56 uo54),(Nat.le_trans (Nat.le_trans (Nat.le_trans (Nat.le_trans l_Apb e34.size) e39.size) u49.by_.size) uo54.size),(((l_Ap.ext (e34.trans e39)).updT hb40 u49 ne42).updO own56 uo54 d_l_someg170none_l_Ap),ne42,(Nat.le_trans (Nat.le_trans (Nat.le_trans (Nat.le_trans l_Aqb e34.size) e39.size) u49.by_.size) uo54.size),(((l_Aq.ext (e34.trans e39)).updT hb40 u49 ne43).updO own56 uo54 d_l_someg170none_l_Aq),ne43,(Nat.le_trans (Nat.le_trans (Nat.le_trans (Nat.le_trans l_LA12b e34.size) e39.size) u49.by_.size) uo54.size),(((l_LA12.ext (e34.trans e39)).updT hb40 u49 ne44).updO own56 uo54 d_l_someg170none_l_LA12),ne44,hlblz53,lz53,ne45,d_l_LA12_l_Ap,d_l_LA12_l_Aq,d_l_someg170none_l_Ap,d_l_someg170none_l_Aq,d_l_someg170none_l_LA12,(DvJ.start rs qs (M-1-i) k)⟩ rfl ⟨rfl,rfl,rfl,rfl,rfl,rfl,rfl,rfl,rfl,rfl,rfl,rfl,rfl,rfl,rfl,rfl,rfl,rfl,rfl,rfl,rfl,rfl,rfl,rfl,rfl,rfl,rfl,rfl,rfl,rfl,rfl,rfl,rfl,rfl,rfl,rfl,rfl,rfl,rfl,rfl,rfl,rfl,rfl,rfl,rfl,rfl,rfl,rfl,rfl,trivial⟩ ?_
  rintro⟨wj,j,ys⟩ ⟨hw1,hi_j,b_g37,z_g37,l_Apb,l_Ap,l_Ap_g37,l_Aqb,l_Aq,l_Aq_g37,l_LA12b,l_LA12,l_LA12_g37,l_someg170noneb,l_someg170none,l_someg170none_g37,d_l_LA12_l_Ap,d_l_LA12_l_Aq,d_l_someg170none_l_Ap,d_l_someg170none_l_Aq,d_l_someg170none_l_LA12,hJ⟩
  refine cw_re [(0,.slice Ap (M+k) capp),(1,.slice Aq (k+1) capq),(4,.slice (some ⟨g17,0,none⟩) M M),(5,.slice LA12 (M+k) lc12),(6,.int .i64 0),(7,.int .i64 ((M-1-i:Nat):Int)),(8,.pointer (some ⟨g37,0,none⟩)),(11,.slice Aq (k+1) capq),(12,.bool true),(13,.bool false),(14,.slice Ap (M+k) capp),(15,.slice LA12 (M+k) lc12),(16,.slice Aq (k+1) capq),(17,.slice Aq (k+1) capq),(18,.int .i64 ((k+1:Nat):Int)),(19,.slice Aq (k+1) capq),(20,.slice LA12 (M+k) lc12),(21,.int .i64 (((M+k):Nat):Int)),(22,.slice Aq (k+1) capq),(23,.int .i64 ((k+1:Nat):Int)),(24,.bool true),(25,.slice LA12 (M+k) lc12),(26,.int .i64 (((M+k):Nat):Int)),(27,.slice Aq (k+1) capq),(28,.int .i64 ((k+1:Nat):Int)),(29,.int .i64 (((M+k)-(k+1):Nat):Int)),(30,.int .i64 ((M:Nat):Int)),(31,.slice (some ⟨g17,0,none⟩) M M),(32,.slice (some ⟨g17,0,none⟩) M M),(33,.int .i64 ((M:Nat):Int)),(34,.int .i64 (((M-0:Nat):Int)-1)),(35,.int .i64 ((M-1-i:Nat):Int)),(36,.bool true),(39,.slice LA12 (M+k) lc12),(40,.int .i64 ((M-1-i:Nat):Int)),(41,.slice Aq (k+1) capq),(42,.int .i64 ((k+1:Nat):Int)),(43,.int .i64 (((M-1-i)+(k+1):Nat):Int)),(44,.int .i64 ((M-1-i+k:Nat):Int)),(45,.pointer (some pz32)),(46,.agg #[.bool sz32,.slice Bz32 nz32 cz32]),(47,.agg #[.bool s36,.slice A36 n36 c36]),(48,.slice (some ⟨g17,0,none⟩) M M),(49,.int .i64 ((M-1-i:Nat):Int)),(50,.agg #[.bool s36,.slice A36 n36 c36]),(51,.pointer (some pz51)),(52,.slice Aq (k+1) capq),(53,.int .i64 ((k+1:Nat):Int)),(54,.int .i64 ((j:Nat):Int))] wj rfl ⟨rfl,rfl,rfl,rfl,rfl,rfl,rfl,rfl,rfl,rfl,rfl,rfl,rfl,rfl,rfl,rfl,rfl,rfl,rfl,rfl,rfl,rfl,rfl,rfl,rfl,rfl,rfl,rfl,rfl,rfl,rfl,rfl,rfl,rfl,rfl,rfl,rfl,rfl,rfl,rfl,rfl,rfl,rfl,rfl,rfl,rfl,rfl,rfl,rfl,trivial⟩ ?_
  have blk58:=l_Ap.block
  have blk59:=l_Aq.block
  have blk60:=l_LA12.block
  have blk61:=l_someg170none.block
  refine cw_seq ?_
  by_cases hjk:j<k+1
  · 
   refine cw_region (wl_cmp rfl rfl rfl true (cb_lt_t (a:=j) (b:=k+1) rfl rfl (by omega)) (by decide) (ne_ (cw_seq (cw_true rfl (cw_skip (eo_then (cw_seq (cw_block (sr (mv 1 rfl ?_))))))))))
   obtain⟨pz62,sz62,Bz62,nz62,cz62,hpz62,ldz62,hKz62,ez62⟩:=(l_Aq).at (i:=j) (by omega)
   have zz62:=ez62.zr
   have Lz62:ln (qs.getD j 0)≤B:=(hql _)
   refine wl_idx rfl rfl rfl elemI aggInt.size j rfl (by omega) pz62 hpz62 (by decide) (wl_load rfl rfl (ldz62 _ (Ext.refl _) _ _ aggInt) (by decide) (wl_alloc rfl (z:= .agg #[F0,S0]) (vs:= [F0,S0]) (fun _=>by kernel_rfl) rfl (by decide) fun g63 v64 nb=>?_))
   have hb66:=nb.bk
   have ge67:w.heap.size≤g63:=by rw [←nb.at_];exact hw1.size
   have q68:g37<g63:=by rw [←nb.at_];exact b_g37.lt
   have ne69:∀p:Addr,Ap=some p→p.block≠g63:=fun p hp=>by have:=(l_Ap).block p hp;have:=nb.at_;omega
   have ne70:∀p:Addr,Aq=some p→p.block≠g63:=fun p hp=>by have:=(l_Aq).block p hp;have:=nb.at_;omega
   have ne71:∀p:Addr,LA12=some p→p.block≠g63:=fun p hp=>by have:=(l_LA12).block p hp;have:=nb.at_;omega
   have ne72:∀p:Addr,(some ⟨g17,0,none⟩)=some p→p.block≠g63:=fun p hp=>by have:=(l_someg170none).block p hp;have:=nb.at_;omega
   have e65:=nb.ext
   clear nb
   have hw2:=hw1.trans e65
   refine mv 1 rfl (so aggInt hb66 [.bool sz62,.slice Bz62 nz62 cz62] hw2 ge67 rfl rfl rfl rfl fun v73 hb75 u76 hw3=>(ne_ ?_))
   obtain⟨pz78,sz78,Bz78,nz78,cz78,hpz78,ldz78,hKz78,ez78⟩:=(((l_LA12.ext e65).updT hb66 u76 ne71)).at (i:=(M-1-i)+j) (by omega)
   have zz78:=ez78.zr
   have Lz78:ln (ys.getD ((M-1-i)+j) 0)≤68719476736:=(by rw [hJ.get];exact hB9 _)
   have L79:ln ((rs.getD (M-1-i+k) 0)*(qs.getD j 0))≤77309411328:=Nat.le_trans (ln_mul Lz32 Lz62) (by omega)
   have L81:ln ((ys.getD ((M-1-i)+j) 0)-((rs.getD (M-1-i+k) 0)*(qs.getD j 0)))≤68719476736:=by rw [hJ.get];exact Nat.le_trans (ln_sub (Nat.le_refl _) (ln_mul (Nat.le_refl _) (hql j))) (by have h1:=hB8 (M-1-i+j);have h2:=hB8 (M-1-i+k);omega)
   refine cw_draw mix 15 [] [Is (.slice LA12 (M+k) lc12),Is (.int .i64 ((M-1-i:Nat):Int)),Is (.int .i64 ((j:Nat):Int)),Is (.int .i64 (((M-1-i)+j:Nat):Int)),Is (.slice LA12 (M+k) lc12),Is (.int .i64 ((M-1-i:Nat):Int)),Is (.int .i64 ((j:Nat):Int)),Is (.int .i64 (((M-1-i)+j:Nat):Int)),Is (.pointer (some pz78)),Is (.agg #[.bool sz78,.slice Bz78 nz78 cz78]),Is (.agg #[.bool s36,.slice A36 n36 c36]),Is (.agg #[.bool sz62,.slice Bz62 nz62 cz62]),ZR w.heap.size ((rs.getD (M-1-i+k) 0)*(qs.getD j 0)),ZR w.heap.size ((ys.getD ((M-1-i)+j) 0)-((rs.getD (M-1-i+k) 0)*(qs.getD j 0))),Is (.pointer (some pz78))] [[],[],[],[1,2],[],[],[],[5,6],[4,7],[8],[],[],[10,11],[9,12],[0,3]] [[],[],[],[1,2],[],[],[],[5,6],[4,5,6,7],[4,5,6,7,8],[],[],[10,11],[4,5,6,7,8,9,10,11,12],[0,1,2,3,4,5,6,7,8,9,10,11,12,13],[0,1,2,3,4,5,6,7,8,9,10,11,12,13,14]] rfl
    (obs_cons rfl rfl (hob rfl rfl ?_) (obs_cons rfl rfl (hob rfl rfl ?_) (obs_cons rfl rfl (hob rfl rfl ?_) (obs_cons rfl rfl (hob rfl rfl ?_) (obs_cons rfl rfl (hob rfl rfl ?_) (obs_cons rfl rfl (hob rfl rfl ?_) (obs_cons rfl rfl (hob rfl rfl ?_) (obs_cons rfl rfl (hob rfl rfl ?_) (obs_cons rfl rfl (hob rfl rfl ?_) (obs_cons rfl rfl (hob rfl rfl ?_) (obs_cons rfl rfl (hob rfl rfl ?_) (obs_cons rfl rfl (hob rfl rfl ?_) (obs_cons rfl rfl (hob rfl rfl ?_) (obs_cons rfl rfl (hob rfl rfl ?_) (obs_cons rfl rfl (hob rfl rfl ?_) obs_nil))))))))))))))) ?_
   · 
    exact fun _ _=>deps_nil (mv 1 rfl (pi_done rfl (Ext.refl _) rfl))
   · 
    exact fun _ _=>deps_nil (mv 1 rfl (pi_done rfl (Ext.refl _) rfl))
   · 
    exact fun _ _=>deps_nil (mv 1 rfl (pi_done rfl (Ext.refl _) rfl))
   · 
    exact fun _ _=>dk rfl rfl (dk rfl rfl (deps_nil (wl_ar rfl rfl rfl (((M-1-i)+j:Nat):Int) (ai_add (a:=M-1-i) (b:=j) rfl rfl (by omega)) (by decide) (pi_done rfl (Ext.refl _) rfl))))
   · 
    exact fun _ _=>deps_nil (mv 1 rfl (pi_done rfl (Ext.refl _) rfl))
   · 
    exact fun _ _=>deps_nil (mv 1 rfl (pi_done rfl (Ext.refl _) rfl))
   · 
    exact fun _ _=>deps_nil (mv 1 rfl (pi_done rfl (Ext.refl _) rfl))
   · 
    exact fun _ _=>dk rfl rfl (dk rfl rfl (deps_nil (wl_ar rfl rfl rfl (((M-1-i)+j:Nat):Int) (ai_add (a:=M-1-i) (b:=j) rfl rfl (by omega)) (by decide) (pi_done rfl (Ext.refl _) rfl))))
   · 
    exact fun _ _=>dk rfl rfl (dk rfl rfl (deps_nil (wl_idx rfl rfl rfl elemI aggInt.size ((M-1-i)+j) rfl (by omega) pz78 hpz78 (by decide) (pi_done rfl (Ext.refl _) rfl))))
   · 
    exact fun _ e132=>dk rfl rfl (deps_nil (wl_load rfl rfl (ldz78 _ e132 _ _ aggInt) (by decide) (pi_done rfl (Ext.refl _) rfl)))
   · 
    exact fun _ e139=>deps_nil (lo aggInt (((b_g37.ext e65).updN u76 (by omega)).ext e139) [.bool s36,.slice A36 n36 c36] rfl rfl rfl (pi_done rfl (Ext.refl _) rfl))
   · 
    exact fun _ e141=>deps_nil (lo aggInt (hb75.ext e141) [.bool sz62,.slice Bz62 nz62 cz62] rfl rfl rfl (pi_done rfl (Ext.refl _) rfl))
   · 
    intro v142 e143
    have hw4:=hw3.trans e143
    refine dk rfl rfl (dk rfl rfl (deps_nil ?_))
    have L154:ln ((rs.getD (M-1-i+k) 0)*(qs.getD j 0))≤77309411328:=Nat.le_trans (ln_mul Lz32 Lz62) (by omega)
    refine cl (vs:= [.agg #[.bool s36,.slice A36 n36 c36],.agg #[.bool sz62,.slice Bz62 nz62 cz62]]) hw4 (g_zint_Mul hw4.size (((z_g37.ext e65).updT hb66 u76).ext e143).zi (z_g37.le (lx_ Lz32 rfl)) (((zz62.ext e65).updT hb66 u76).ext e143).zi (zz62.le (Nat.le_trans Lz62 (lx_ hBB rfl)))) rfl (by kernel_rfl) fun xr157 v155 r157 e156 hw5=>?_
    obtain⟨s158,A158,n158,c158,rfl,z158⟩:=r157
    exact pi_done rfl e156 ⟨_,_,_,_,rfl,z158⟩
   · 
    intro v159 e160
    have hw4:=hw3.trans e160
    refine dk rfl rfl (deps_cons rfl rfl fun x166 y167 h168 e169 f170=>?_)
    obtain⟨s171,A171,n171,c171,rfl,z171⟩:=h168
    have z171:=z171.ext f170
    refine deps_nil ?_
    have L172:ln ((ys.getD ((M-1-i)+j) 0)-((rs.getD (M-1-i+k) 0)*(qs.getD j 0)))≤68719476736:=by rw [hJ.get];exact Nat.le_trans (ln_sub (Nat.le_refl _) (ln_mul (Nat.le_refl _) (hql j))) (by have h1:=hB8 (M-1-i+j);have h2:=hB8 (M-1-i+k);omega)
    refine cl (vs:= [.agg #[.bool sz78,.slice Bz78 nz78 cz78],.agg #[.bool s171,.slice A171 n171 c171]]) hw4 (g_zint_Sub hw4.size (zz78.ext e160).zi (zz78.le (lx_ Lz78 rfl)) z171.zi (z171.le (lx_ L79 rfl))) rfl (by kernel_rfl) fun xr175 v173 r175 e174 hw5=>?_
    obtain⟨s176,A176,n176,c176,rfl,z176⟩:=r175
    exact pi_done rfl e174 ⟨_,_,_,_,rfl,z176⟩
   · 
    exact fun _ _=>dk rfl rfl (dk rfl rfl (deps_nil (wl_idx rfl rfl rfl elemI aggInt.size ((M-1-i)+j) rfl (by omega) pz78 hpz78 (by decide) (pi_done rfl (Ext.refl _) rfl))))
   · 
    intro v189 e190
    have hw4:=hw3.trans e190
    refine dk rfl rfl (dk rfl rfl (dk rfl rfl (dk rfl rfl (dk rfl rfl (dk rfl rfl (dk rfl rfl (dk rfl rfl (dk rfl rfl (dk rfl rfl (dk rfl rfl (dk rfl rfl (deps_cons rfl rfl fun x251 y252 h253 e254 f255=>?_))))))))))))
    obtain⟨s256,A256,n256,c256,rfl,z256⟩:=h253
    have z256:=z256.ext f255
    refine deps_cons rfl rfl fun x257 y258 h259 e260 f261=>?_
    obtain⟨s262,A262,n262,c262,rfl,z262⟩:=h259
    have z262:=z262.ext f261
    refine dk rfl rfl (deps_nil ?_)
    have lt273:=(((l_LA12.ext e65).updT hb66 u76 ne71).ext e190)
    obtain⟨us271,own272⟩:=lt273.own
    refine wl_setI (e:=⟨s262,A262,n262,c262⟩) (z:=(ys.getD ((M-1-i)+j) 0)-((rs.getD (M-1-i+k) 0)*(qs.getD j 0))) rfl rfl rfl hpz78 (by omega) lt273 (Or.inl z262) (z262.le (lx_ L81 rfl)) fun v268 lz269 uo270=>?_
    have hw5:=uo270.ext hw4 (fun p hp=>by have:=blk60 p hp;omega)
    have hlblz269:w.heap.size≤v268.heap.size:=Nat.le_trans (Nat.le_trans (Nat.le_trans (Nat.le_trans l_LA12b e65.size) u76.by_.size) e190.size) uo270.size
    refine wl_nil (eo_np (eo_block_normal (eo_then (cw_region (wl_ar rfl rfl rfl ((j+1:Nat):Int) (ai_add (a:=j) (b:=1) rfl rfl (by omega)) (by decide) (mv 1 rfl (wl_nil (eo_round (⟨v268,j+1,ys.set ((M-1-i)+j) ((ys.getD ((M-1-i)+j) 0)-((rs.getD (M-1-i+k) 0)*(qs.getD j 0)))⟩:World×Nat×List Int) ⟨hw5,(by omega),((((b_g37.ext e65).updN u76 (by omega)).ext e190).updO uo270 l_LA12_g37),((((z_g37.ext e65).updT hb66 u76).ext e190).updOT own272 uo270),(Nat.le_trans (Nat.le_trans (Nat.le_trans (Nat.le_trans l_Apb e65.size) u76.by_.size) e190.size) uo270.size),((((l_Ap.ext e65).updT hb66 u76 ne69).ext e190).updO own272 uo270 d_l_LA12_l_Ap),l_Ap_g37,(Nat.le_trans (Nat.le_trans (Nat.le_trans (Nat.le_trans l_Aqb e65.size) u76.by_.size) e190.size) uo270.size),((((l_Aq.ext e65).updT hb66 u76 ne70).ext e190).updO own272 uo270 d_l_LA12_l_Aq),l_Aq_g37,hlblz269,lz269,l_LA12_g37,(Nat.le_trans (Nat.le_trans (Nat.le_trans (Nat.le_trans l_someg170noneb e65.size) u76.by_.size) e190.size) uo270.size),((((l_someg170none.ext e65).updT hb66 u76 ne72).ext e190).updO own272 uo270 (fun p q hp hq e=>d_l_someg170none_l_LA12 q p hq hp e.symm)),l_someg170none_g37,d_l_LA12_l_Ap,d_l_LA12_l_Aq,d_l_someg170none_l_Ap,d_l_someg170none_l_Aq,d_l_someg170none_l_LA12,(hJ.next (by rw [l_LA12.len];omega))⟩ (show (k+1)-(j+1)<(k+1)-j by omega) rfl ⟨rfl,rfl,rfl,rfl,rfl,rfl,rfl,rfl,rfl,rfl,rfl,rfl,rfl,rfl,rfl,rfl,rfl,rfl,rfl,rfl,rfl,rfl,rfl,rfl,rfl,rfl,rfl,rfl,rfl,rfl,rfl,rfl,rfl,rfl,rfl,rfl,rfl,rfl,rfl,rfl,rfl,rfl,rfl,rfl,rfl,rfl,rfl,rfl,rfl,trivial⟩))))))))
  · 
   have hJ9:∀x,ys.getD x 0=rs.getD x 0-if M-1-i≤x∧x<M-1-i+(k+1) then rs.getD (M-1-i+k) 0*qs.getD (x-(M-1-i)) 0 else 0:=(show j=k+1 by omega)▸hJ
   refine cw_region (wl_cmp rfl rfl rfl false (cb_lt_f (a:=j) (b:=k+1) rfl rfl (by omega)) (by decide) (ne_ (cw_seq (cw_false rfl (cw_exit (eo_thenX (eo_loopX (eo_block_here (eo_block_normal (eo_then (cw_region (mv 1 rfl (wl_ar rfl rfl rfl (((M-(i+1):Nat):Int)-1) (ar_i64s (show ((M-1-i:Nat):Int)-1=((M-(i+1):Nat):Int)-1 by omega) (by omega) (by omega)) (by decide) ?_)))))))))))))
   refine mv 1 rfl (wl_nil (eo_round (⟨wj,i+1,ys,us.set (M-1-i) (rs.getD (M-1-i+k) 0)⟩:World×Nat×List Int×List Int) ⟨hw1,(by omega),l_Apb,l_Ap,l_Aqb,l_Aq,l_LA12b,l_LA12,l_someg170noneb,l_someg170none,d_l_LA12_l_Ap,d_l_LA12_l_Aq,d_l_someg170none_l_Ap,d_l_someg170none_l_Aq,d_l_someg170none_l_LA12,(hI.next hin hq1 hlq.len hql hJ9)⟩ (show M-(i+1)<M-i by omega) rfl ⟨rfl,rfl,rfl,rfl,rfl,rfl,rfl,rfl,rfl,rfl,rfl,rfl,rfl,rfl,rfl,rfl,rfl,rfl,rfl,rfl,rfl,rfl,rfl,rfl,rfl,rfl,rfl,rfl,rfl,rfl,trivial⟩))
 · 
  refine cw_region (mv 1 rfl (wl_cmp rfl rfl rfl false (ci_ge_f (by omega)) (by decide) (ne_ (cw_false rfl (cw_exit (eo_thenX (eo_loopX (eo_block_here (eo_then (cw_seq ?_))))))))))
  have hI9:DvI ps qs M k B M rs:=(show i=M by omega)▸hI
  refine cw_draw mix 5 [1,4] [Is (.slice (some ⟨g17,0,none⟩) M M),Is (.slice LA12 (M+k) lc12),Is (.slice LA12 (M+k) lc12),Is (.int .i64 0),Is (.slice LA12 0 lc12)] [[],[],[],[2],[1,3]] [[],[],[],[2],[1,2,3],[0,2,3],[0,1,2,3,4,5],[0,1,2,3,4,5,6]] rfl
   (obs_cons rfl rfl (hob rfl rfl ?_) (obs_float rfl rfl (fob rfl ?_) (obs_cons rfl rfl (hob rfl rfl ?_) (obs_cons rfl rfl (hob rfl rfl ?_) (obs_float rfl rfl (fob rfl ?_) obs_nil))))) ?_
  · 
   exact fun _ _=>deps_nil (mv 1 rfl (pi_done rfl (Ext.refl _) rfl))
  · 
   exact fun _ _=>deps_nil (⟨.slice LA12 (M+k) lc12,rfl,rfl,fun _=>by kernel_rfl,rfl⟩)
  · 
   exact fun _ _=>deps_nil (mv 1 rfl (pi_done rfl (Ext.refl _) rfl))
  · 
   intro v280 e281
   have hw2:=hw1.trans e281
   refine dk rfl rfl (deps_nil (cl (vs:= [.slice LA12 (M+k) lc12]) hw2 (g_chp_size (s:=0) (((l_LA12.ext e281).zf0).mono (by decide)) (by omega) (by omega) (fun x _ _=>hI9.done hr x) (Or.inl rfl)) rfl (by kernel_rfl) fun xr289 v287 r289 e288 hw3=>?_))
   obtain rfl:=r289
   exact pi_done rfl e288 rfl
  · 
   exact fun _ _=>dk rfl rfl (dk rfl rfl (deps_nil (⟨.slice LA12 0 lc12,rfl,rfl,fun w=>run_cutI rfl rfl elemI aggInt.size (Nat.zero_le _) _ w,rfl⟩)))
  · 
   intro v302 e303
   have hw2:=hw1.trans e303
   refine dk rfl rfl (dk rfl rfl (dk rfl rfl (dk rfl rfl (dk rfl rfl (deps_nil (mv 3 rfl (wl_nil (eo_np (eo_then (cw_ret (eo_ret [.slice (some ⟨g17,0,none⟩) M M,.slice LA12 0 lc12,I0] rfl ⟨rfl,rfl,rfl,trivial⟩ ?_)))))))))))
   exact⟨_,rfl,⟨_,_,_,rfl,⟨_,_,_,rfl,((l_someg170none.ext e303)).mono (Nat.le_refl _) hb hlb,trivial⟩,⟨_,_,rfl⟩,rfl⟩,hw2⟩
theorem gcdW_dvd:∀zs:List Int,∀z,z∈zs→gcdL zs∣z:=by
 intro zs
 suffices h:∀(zs:List Int) (g:Int),zs.foldl (fun g z=>(Int.gcd g z:Int)) g∣g∧∀z,z∈zs→zs.foldl (fun g z=>(Int.gcd g z:Int)) g∣z from fun z hz=>(h zs 0).2 z hz
 intro zs
 induction zs with
 | nil=>intro g;exact⟨Int.dvd_refl _,fun z hz=>by cases hz⟩
 | cons a r ih=>
  intro g
  obtain⟨h1,h2⟩:=ih (Int.gcd g a:Int)
  refine⟨Int.dvd_trans h1 (Int.gcd_dvd_left g a),fun z hz=>?_⟩
  rcases List.mem_cons.1 hz with rfl | hz
  ·exact Int.dvd_trans h1 (Int.gcd_dvd_right g z)
  ·exact h2 z hz
theorem dvd_gcdW {d:Int}:∀zs:List Int,(∀z,z∈zs→d∣z)→d∣gcdL zs:=by
 intro zs
 suffices h:∀(zs:List Int) (g:Int),d∣g→(∀z,z∈zs→d∣z)→d∣zs.foldl (fun g z=>(Int.gcd g z:Int)) g from h zs 0 (Int.dvd_zero _)
 intro zs
 induction zs with
 | nil=>intro g hg _;exact hg
 | cons a r ih=>intro g hg h;exact ih _ (Int.dvd_coe_gcd hg (h a (List.mem_cons_self ..))) fun z hz=>h z (List.mem_cons_of_mem _ hz)
theorem gcdW_get {zs:List Int}{k:Nat}(h:k<zs.length):gcdL zs∣zs.getD k 0:=gcdW_dvd zs _ (by rw [List.getD_eq_getElem?_getD,List.getElem?_eq_getElem h];exact List.getElem_mem h)
theorem dvd_gcdN {d:Int}{zs:List Int}(h:∀c,c<zs.length→d∣zs.getD c 0):d∣gcdL zs:=dvd_gcdW zs fun z hz=>by
 obtain⟨i,hi,rfl⟩:=List.mem_iff_getElem.1 hz
 have:=h i hi
 rwa [List.getD_eq_getElem?_getD,List.getElem?_eq_getElem hi] at this
theorem Lz.tight {K K' b lb:Nat}{w:World}{A:Option Addr}{n cap:Nat}{zs:List Int}(h:Lz none K b w lb A n cap zs) (hl:∀i,ln (zs.getD i 0)≤K'):Lz none K' b w lb A n cap zs:=by
 obtain⟨es,h1,h2,h3,h4⟩:=h
 exact⟨es,h1,h2,h3,fun i hi=>⟨by rw [(h4 i hi).2.zr.len];exact hl i,(h4 i hi).2⟩⟩
def lsu (rs vs:List Int) (h c:Nat):Int:=rs.getD h 0*vs.getD c 0-vs.getD h 0*rs.getD c 0
def LsP (N h:Nat) (rs vs ys:List Int):Prop:=(vs.getD h 0=0∧ys=vs)∨(vs.getD h 0≠0∧∃g:Int,g≠0∧(∀c,c<N→g*ys.getD c 0=lsu rs vs h c)∧∀p:Nat,1<p→∃c,c<N∧¬(p:Int)∣ys.getD c 0)
theorem ln_lsu {rs vs:List Int}{B:Nat}(hr:∀i,ln (rs.getD i 0)≤B) (hv:∀i,ln (vs.getD i 0)≤B) (h c:Nat):ln (lsu rs vs h c)≤2*B+1:=
 Nat.le_trans (ln_sub (ln_mul (hr h) (hv c)) (ln_mul (hv h) (hr c))) (by omega)
def LsA (rs vs:List Int) (h i:Nat) (us:List Int):Prop:=(∀c,c<i→us.getD c 0=lsu rs vs h c)∧∀c,i≤c→us.getD c 0=vs.getD c 0
theorem LsA.start (rs vs:List Int) (h:Nat):LsA rs vs h 0 vs:=⟨fun c hc=>absurd hc (Nat.not_lt_zero c),fun _ _=>rfl⟩
theorem LsA.next {rs vs us:List Int}{h i:Nat}(H:LsA rs vs h i us) (hl:i<us.length):LsA rs vs h (i+1) (us.set i (rs.getD h 0*us.getD i 0-vs.getD h 0*rs.getD i 0)):=by
 refine⟨fun c hc=>?_,fun c hc=>?_⟩
 ·rw [getD_set hl]
  by_cases e:c=i
  ·subst e;rw [if_pos rfl,H.2 c (Nat.le_refl _)];rfl
  ·rw [if_neg e];exact H.1 c (by omega)
 ·rw [getD_set hl,if_neg (by omega)];exact H.2 c (by omega)
theorem LsA.ln {rs vs us:List Int}{h i B:Nat}(H:LsA rs vs h i us) (hr:∀i,Go.Proofs.Ytnpbbknemflpnaa.ln (rs.getD i 0)≤B) (hv:∀i,Go.Proofs.Ytnpbbknemflpnaa.ln (vs.getD i 0)≤B) (c:Nat):Go.Proofs.Ytnpbbknemflpnaa.ln (us.getD c 0)≤2*B+1:=by
 rcases Nat.lt_or_ge c i with hc | hc
 ·rw [H.1 c hc];exact ln_lsu hr hv h c
 ·rw [H.2 c hc];exact Nat.le_trans (hv c) (by omega)
def LsB (us:List Int) (g:Int) (i:Nat) (ys:List Int):Prop:=(∀c,c<i→ys.getD c 0=(us.getD c 0).tdiv g)∧∀c,i≤c→ys.getD c 0=us.getD c 0
theorem LsB.start (us:List Int) (g:Int):LsB us g 0 us:=⟨fun c hc=>absurd hc (Nat.not_lt_zero c),fun _ _=>rfl⟩
theorem LsB.next {us ys:List Int}{g:Int}{i:Nat}(H:LsB us g i ys) (hl:i<ys.length):LsB us g (i+1) (ys.set i ((ys.getD i 0).tdiv g)):=by
 refine⟨fun c hc=>?_,fun c hc=>?_⟩
 ·rw [getD_set hl]
  by_cases e:c=i
  ·subst e;rw [if_pos rfl,H.2 c (Nat.le_refl _)]
  ·rw [if_neg e];exact H.1 c (by omega)
 ·rw [getD_set hl,if_neg (by omega)];exact H.2 c (by omega)
theorem LsB.done {rs vs us ys:List Int}{h N:Nat}(HA:LsA rs vs h N us) (hl:us.length=N) (hg:gcdL us≠0) (H:LsB us (gcdL us) N ys) (hv:vs.getD h 0≠0):LsP N h rs vs ys:=by
 have h1:∀c,c<N→gcdL us*ys.getD c 0=us.getD c 0:=fun c hc=>by
  rw [H.1 c hc];exact Int.mul_tdiv_cancel' (gcdW_get (by omega))
 refine Or.inr ⟨hv,gcdL us,hg,fun c hc=>by rw [h1 c hc,HA.1 c hc],fun p hp=>?_⟩
 refine Classical.byContradiction fun hno=>?_
 have h2:∀c,c<N→(p:Int)∣ys.getD c 0:=fun c hc=>Classical.byContradiction fun hn=>hno ⟨c,hc,hn⟩
 obtain⟨x,hx⟩:=dvd_gcdN (d:=gcdL us*p) (zs:=us) fun c hc=>by
  rw [←h1 c (by omega)];exact Int.mul_dvd_mul (Int.dvd_refl _) (h2 c (by omega))
 have h3:(p:Int)*x=1:=(Int.eq_of_mul_eq_mul_left hg (by rw [Int.mul_one,←Int.mul_assoc];exact hx)).symm
 have h4:=congrArg Int.natAbs h3
 rw [Int.natAbs_mul,Int.natAbs_natCast] at h4
 have:=Nat.eq_one_of_mul_eq_one_right h4
 omega
theorem lsg_ne {rs vs us:List Int}{h N:Nat}(HA:LsA rs vs h N us) (hl:us.length=N) (hz:∃c,c<N∧lsu rs vs h c≠0):gcdL us≠0:=fun e=>by
 obtain⟨c,hc,hn⟩:=hz
 have:=gcdW_get (zs:=us) (k:=c) (by omega)
 rw [e,HA.1 c hc] at this
 exact hn (Int.zero_dvd.1 this)
theorem LsP.lv {n:Nat}{X:Mx}{hs:List Nat}{j k:Nat}{rs vs ys:List Int}(hjk:j<k) (hk:k≤n) (hn:n≤64) (h:Lv n X hs j k fun c=>vs.getD c 0) (hr:Lv n X hs j j fun c=>rs.getD c 0) (hd:dt j (pwh n X hs)≠0)
  (hh:hs.getD j 0<n*n) (hx:rs.getD (hs.getD j 0) 0≠0) (H:LsP (n*n+n+1) (hs.getD j 0) rs vs ys):Lv n X hs (j+1) k fun c=>ys.getD c 0:=by
 rcases H with⟨h0,rfl⟩ | ⟨_,g,hg,he,hp⟩
 ·exact h.less hjk hk hn hr hd hh hx hx (fun c _=>by rw [h0,Int.zero_mul,Int.sub_zero]) h.prm
 ·exact h.less hjk hk hn hr hd hh hx hg he hp
theorem Lv.lsn {n:Nat}{X:Mx}{hs:List Nat}{j k h:Nat}{rs vs:List Int}(hjk:j<k) (hk:k≤n) (hv:Lv n X hs j k fun c=>vs.getD c 0) (hr:Lv n X hs j j fun c=>rs.getD c 0) (hx:rs.getD h 0≠0):∃c,c<n*n+n+1∧lsu rs vs h c≠0:=by
 refine⟨n*n+k,by omega,fun e=>?_⟩
 have e1:rs.getD (n*n+k) 0=0:=hr.zer k hjk hk
 unfold lsu at e
 rw [e1,Int.mul_zero,Int.sub_zero] at e
 rcases Int.mul_eq_zero.1 e with e2 | e2
 ·exact hx e2
 ·exact hv.top e2
theorem aggRel:AggT Try.prog 63 2:=⟨fun _=>by kernel_rfl,fun _=>by kernel_rfl⟩
theorem unRel:Try.prog.underlying 61=some (.slice 63):=by kernel_rfl
theorem infoRel:(Try.prog.info? 63).map (fun i=>(i.zero,i.size,i.bytes))=some (some (.agg #[.slice none 0 0,.int .i64 0]),2,32):=by kernel_rfl
def relv (ra:Nat→Option Addr) (rc hd:Nat→Nat) (N:Nat):Nat→List Value
 | 0=> []
 | k+1=>relv ra rc hd N k++ [.slice (ra k) N (rc k),.int .i64 ((hd k:Nat):Int)]
theorem relv_len (ra:Nat→Option Addr) (rc hd:Nat→Nat) (N:Nat):∀k,(relv ra rc hd N k).length=k*2
 | 0=>rfl
 | k+1=>by simp [relv,relv_len ra rc hd N k,Nat.add_mul]
theorem relv_get0 (ra:Nat→Option Addr) (rc hd:Nat→Nat) (N:Nat){i:Nat}:∀k,i<k→(relv ra rc hd N k)[i*2]?=some (.slice (ra i) N (rc i))∧(relv ra rc hd N k)[i*2+1]?=some (.int .i64 ((hd i:Nat):Int)):=by
 intro k
 induction k with
 | zero=>intro h;omega
 | succ k ih=>
  intro h
  have hl:=relv_len ra rc hd N k
  by_cases e:i=k
  ·subst e
   rw [relv,List.getElem?_append_right (by omega),List.getElem?_append_right (by omega),hl]
   simp [show i*2+1-i*2=1 by omega]
  ·rw [relv,List.getElem?_append_left (by omega),List.getElem?_append_left (by omega)]
   exact ih (by omega)
theorem relv_congr {ra ra':Nat→Option Addr}{rc rc' hd hd':Nat→Nat}{N:Nat}:∀k,(∀i,i<k→ra i=ra' i∧rc i=rc' i∧hd i=hd' i)→relv ra rc hd N k=relv ra' rc' hd' N k
 | 0,_=>rfl
 | k+1,h=>by
  obtain⟨h1,h2,h3⟩:=h k (by omega)
  rw [relv,relv,relv_congr k fun i hi=>h i (by omega),h1,h2,h3]
theorem Own.relAt {w:World}{lb:Nat}{SA:Option Addr}{k cap N:Nat}{ra:Nat→Option Addr}{rc hd:Nat→Nat}(h:Own w lb 63 2 SA k cap (relv ra rc hd N k)){i:Nat}(hi:i<k):
  ∃p,SA.map (·.add (i*2))=some p∧∀w',Ext w w'→∀(P:Program) (T:TypeId),AggT P T 2→(loadVar T p).run P w'= .ok (.agg #[.slice (ra i) N (rc i),.int .i64 ((hd i:Nat):Int)]) w':=by
 obtain⟨a,ha,hc⟩:=h.rv.get (i*2) (by omega)
 obtain⟨a',ha',hc'⟩:=h.rv.get (i*2+1) (by omega)
 rw [ha] at ha';cases ha'
 obtain⟨g0,g1⟩:=relv_get0 ra rc hd N (i:=i) k hi
 rw [List.getD_eq_getElem?_getD,g0] at hc
 rw [List.getD_eq_getElem?_getD,g1] at hc'
 refine⟨a.add (i*2),by rw [ha];rfl,fun w' e P T hT=>load_at hT [.slice (ra i) N (rc i),.int .i64 ((hd i:Nat):Int)] rfl (fun j hj=>?_)⟩
 rw [add_of_add]
 match j,hj with
 | 0,_=>exact e.cell hc
 | 1,_=>exact e.cell hc'
section
variable {P:Program}{w:World}
theorem run_copyI {dT sT ty e:TypeId}(hu:P.underlying dT=some (.slice e)) (hs:(P.info? e).map (·.size)=some 2){lb:Nat}{A B:Option Addr}{n cap m capm:Nat}{vs us:List Value}{T:TypeId}(hA:Own w lb T 2 A n cap vs) (hB:Rv w 2 B m capm us) (hmn:m≤n) (h1:∀v∈us,v.oneCell'=true):
  ∃w',(Builtin.copy_ #[dT,sT] ty #[.slice A n cap,.slice B m capm]).run P w= .ok (goInt m) w'∧Own w' lb T 2 A n cap (us++vs.drop (m*2))∧UpdO A w w':=by
 have hul:=hB.len
 have hmin:Nat.min m n=m:=Nat.min_eq_left hmn
 cases hq:P.info? e with
 | none=>simp [hq] at hs
 | some i=>
  have hi:i.size=2:=by simpa [hq] using hs
  have hf:(Builtin.firstCells 2 m (.slice B m capm)).run P w= .ok us.toArray w:=by
   cases B with
   | none=>
    have hm0:m=0:=Nat.eq_zero_of_not_pos fun h0=>by obtain⟨a,ha,_⟩:=hB.get 0 (by omega);cases ha
    subst hm0
    have:us= []:=List.eq_nil_of_length_eq_zero (by omega)
    subst this;rfl
   | some a=>exact run_firstCells_some (P:=P) w 2 m a m capm us hul (fun j v hj=>by
     have hjl:=(List.getElem?_eq_some_iff.1 hj).1
     obtain⟨a',ha',hc⟩:=hB.get j (by omega)
     cases ha'
     rw [hc,List.getD_eq_getElem?_getD,hj];rfl)
  rcases hA with⟨rfl,rfl,rfl,rfl⟩ | ⟨g,cs,rfl,hg,hk,hn,hcm,hcl,hv⟩
  ·have hm0:m=0:=by omega
   subst hm0
   have:us= []:=List.eq_nil_of_length_eq_zero (by omega)
   subst this
   exact⟨w,by simp [Builtin.copy_,run_underlying hu,Builtin.lenOf,sizeOf,typeInfo,hq,hi,hf],Own.nil _ _ _ _,UO.refl _ _⟩
  ·have hcn:m*2≤n*2:=Nat.mul_le_mul_right 2 hmn
   have hcc:n*2≤cap*2:=Nat.mul_le_mul_right 2 hn
   obtain⟨w',hst,hb2,hu2,hs2⟩:=store_cells (P:=P) us 0 0 w cs hk (by omega) h1
   rw [Nat.add_zero] at hb2
   refine⟨w',?_,Or.inr ⟨g,_,rfl,hg,hb2,hn,hcm,?_,?_⟩,hu2.updO⟩
   ·simp [Builtin.copy_,run_underlying hu,Builtin.lenOf,sizeOf,typeInfo,hq,hi,hmin,hf,hst]
   ·unfold overl
    simp only [List.length_append,List.length_take,List.length_drop]
    omega
   ·unfold overl
    rw [List.take_zero,List.nil_append,Nat.zero_add,List.take_append,List.take_of_length_le (by omega),←hv,List.drop_take,hul]
variable {Q:Exit→Act→World→Prop}{N:Nat}{l:Fr}{ops:Array Oper}{rest:List Oper}{d:Nat}{ty:TypeId}{pos:String}{af:Array Edge}{gd:Option (Nat×Bool)}
theorem zcells_one:∀es:List ZC,∀v∈zcells es,v.oneCell'=true
 | [],v,h=>by cases h
 | e::r,v,h=>by
  rcases List.mem_cons.1 h with rfl | h
  ·rfl
  ·rcases List.mem_cons.1 h with rfl | h
   ·rfl
   ·exact zcells_one r v h
theorem zcells_drop:∀(es:List ZC) (m:Nat),(zcells es).drop (m*2)=zcells (es.drop m)
 | [],m=>by simp [zcells]
 | e::r,0=>by simp
 | e::r,m+1=>by rw [show (m+1)*2=m*2+1+1 by omega,List.drop_succ_cons,zcells,List.drop_succ_cons,List.drop_succ_cons,zcells_drop r m]
theorem wl_copyI {K b lb lb':Nat}{A B:Option Addr}{n cap m capm:Nat}{zs ys:List Int}{x y:Operand}(hw:guardB ops l gd=some true) (hx:evo l x=some (.slice A n cap)) (hy:evo l y=some (.slice B m capm)) (hmn:m≤n)
  (h:Lz none K b w lb A n cap zs) (h':Lz none K b w lb' B m capm ys) (hd:d<N) (k:∀w',Lz none K b w' lb A n cap (ys++zs.drop m)→UpdO A w w'→wl Try.prog ops Q N rest ((d,.int .i64 (m:Int))::l) w'):
  wl Try.prog ops Q N (⟨some d,.call {callee:= .builtin .copy,args:= #[x,y],argTypes:= #[22,22]},ty,pos,af,gd⟩::rest) l w:=by
 obtain⟨es,h1,h2,h3,h4⟩:=h
 obtain⟨fs,h1',h2',h3',h4'⟩:=h'
 have hs:(Try.prog.info? 34).map (·.size)=some 2:=by kernel_rfl
 obtain⟨w',hr,ho,hu⟩:=run_copyI (P:=Try.prog) (dT:=22) (sT:=22) (ty:=ty) elemI hs h1 h1'.rv hmn (zcells_one fs)
 refine wl_val hw hd (fun a' ha=>?_) (k w' ⟨fs++es.drop m,?_,?_,?_,fun i hi=>?_⟩ hu)
 ·unfold execOp
  simp only [resolve,invoke,builtin,Sem.run_bind,Sem.run_pure,Result.andThen_ok,List.map_toArray,List.map_cons,List.map_nil,ha.ev hx,ha.ev hy]
  rw [hr];rfl
 ·rw [zcells_app,←zcells_drop];exact ho
 ·rw [List.length_append,List.length_drop];omega
 ·rw [List.length_append,List.length_drop];omega
 ·by_cases hi2:i<m
  ·rw [getD_app_l (by omega),getD_app_l (by omega)]
   exact⟨(h4' i hi2).1,(h4' i hi2).2.updOT h1 hu⟩
  ·have e1:(fs++es.drop m).getD i ZC.zero=es.getD i ZC.zero:=by
    rw [List.getD_eq_getElem?_getD,List.getElem?_append_right (by omega),List.getElem?_drop,List.getD_eq_getElem?_getD,show m+(i-fs.length)=i by omega]
   have e2:(ys++zs.drop m).getD i 0=zs.getD i 0:=by
    rw [List.getD_eq_getElem?_getD,List.getElem?_append_right (by omega),List.getElem?_drop,List.getD_eq_getElem?_getD,show m+(i-ys.length)=i by omega]
   rw [e1,e2]
   exact⟨(h4 i hi).1,(h4 i hi).2.updOT h1 hu⟩
end
def VObs (P:Program) (n:Nat) (ol:List Oper) (vs:List Value) (w0:World) (dss:List (List Nat)) (l:Fr):List Nat→Prop
 | []=>True
 | i::r=>(match ol[i]? with
  | some o=>∀w,Ext w0 w→RunD P n (dfr ol vs l (rch dss i)) o w (.value ((vs[i]?).getD undef)) w
  | none=>True)∧VObs P n ol vs w0 dss l r
def TwB (ol:List Oper) (T:TypeId) (zs us:List Value) (j s:Nat) (w0:World) (listed:Array Bool) (a:Act) (w:World) (g:Nat):Prop:=
 listed.getD j false=true→slotv a (dstOf ol j)= .pointer (some ⟨g,0,none⟩)∧w0.heap.size≤g∧Bk w g T (if listed.getD s false=true then us else zs)
def TwI (n:Nat) (ol:List Oper) (l:Fr) (vs:List Value) (T:TypeId) (zs us1 us2:List Value) (j1 s1 j2 s2:Nat) (w0:World) (listed:Array Bool) (a:Act) (w:World):Prop:=
 Rp n l a∧Ext w0 w∧(∀i,i<ol.length→i≠j1→i≠j2→listed.getD i false=true→∀d,dstOf ol i=some d→a.tmps.getD d undef=(vs[i]?).getD undef)∧
 ∃g1 g2,TwB ol T zs us1 j1 s1 w0 listed a w g1∧TwB ol T zs us2 j2 s2 w0 listed a w g2∧(listed.getD j1 false=true→listed.getD j2 false=true→g1≠g2)
def Fills (P:Program) (n:Nat) (ol:List Oper) (vs:List Value) (w0:World) (l:Fr) (T:TypeId) (zs us:List Value) (j s k:Nat):Prop:=
 match ol[s]? with
 | some o=>∀w g,Ext w0 w→Bk w g T zs→∃w',RunD P n (putl (dstOf ol j) (.pointer (some ⟨g,0,none⟩)) (putl (dstOf ol k) ((vs[k]?).getD undef) l)) o w .skip w'∧Bk w' g T us∧Upd g w w'
 | none=>False
def Makes (P:Program) (n:Nat) (ol:List Oper) (l:Fr) (T:TypeId) (zs:List Value) (j:Nat):Prop:=
 match ol[j]? with
 | some o=>∀w,RunD P n l o w (.value (.pointer (some ⟨w.heap.size,0,none⟩))) (w.alloc (.cells zs.toArray T))
 | none=>False
def twOk (N:Nat) (dss rl:List (List Nat)) (j1 s1 k1 j2 s2 k2:Nat) (is:List Nat):Bool:=
 (List.range N).all (fun i=>i==j1||i==j2||i==s1||i==s2||is.contains i)&&(List.range N).all (fun i=> !(rch dss i).contains j1&& !(rch dss i).contains j2)&&decide (j1<N)&&decide (j2<N)&&decide (k1<N)&&decide (k2<N)&&decide (s1<N)&&decide (s2<N)&&
 (rch rl s1).contains j1&&(rch rl s1).contains k1&&(rch rl s2).contains j2&&(rch rl s2).contains k2&&decide (j1≠j2)&&decide (s1≠s2)&&decide (j1≠s1)&&decide (j1≠s2)&&decide (j2≠s1)&&decide (j2≠s2)&&decide (k1≠j1)&&decide (k1≠j2)&&decide (k2≠j1)&&decide (k2≠j2)
section
variable {P:Program}{Q:Exit→Act→World→Prop}{n:Nat}{ol:List Oper}{vs:List Value}{w0 w:World}{dss rl:List (List Nat)}{l:Fr}{ps:List (Nat×Nat)}{T:TypeId}{zs us1 us2:List Value}{j1 j2 s1 s2 k1 k2:Nat}{st:List Nat}{listed:Array Bool}{a:Act}
theorem TwI.swap (h:TwI n ol l vs T zs us1 us2 j1 s1 j2 s2 w0 listed a w):TwI n ol l vs T zs us2 us1 j2 s2 j1 s1 w0 listed a w:=by
 obtain⟨h1,h2,h3,g1,g2,h4,h5,h6⟩:=h
 exact⟨h1,h2,fun i hi h h'=>h3 i hi h' h,g2,g1,h5,h4,fun h h' e=>h6 h' h e.symm⟩
theorem slot_other {i j d:Nat}{o:Oper}(hk:DetOk n ol st l dss rl ps) (ho:ol[i]?=some o) (hd:o.dst=some d) (hij:i≠j) (v:Value):slotv (a.put (some d) v) (dstOf ol j)=slotv a (dstOf ol j):=by
 obtain⟨_,hdn,hfar,hoth⟩:=hk.val i o ho d hd
 refine slotv_far ?_ v
 unfold dstOf
 cases hoj:ol[j]? with
 | none=>intro h;cases h
 | some oj=>exact hoth j oj hoj (Ne.symm hij)
theorem TwB.far {i j s d g:Nat}{us:List Value}{o:Oper}(hk:DetOk n ol st l dss rl ps) (h:TwB ol T zs us j s w0 listed a w g) (ho:ol[i]?=some o) (hd:o.dst=some d) (hij:i≠j) (his:i≠s) (v:Value){w':World}(e:Ext w w'):TwB ol T zs us j s w0 (listed.setIfInBounds i true) (a.put (some d) v) w' g:=by
 intro hl
 rw [Go.getD_set_ne false hij] at hl
 obtain⟨h1,h2,h3⟩:=h hl
 refine⟨(slot_other hk ho hd hij v).trans h1,h2,?_⟩
 rw [Go.getD_set_ne false his]
 exact h3.ext e
theorem vals_far {i d:Nat}{o:Oper}(hk:DetOk n ol st l dss rl ps) (h:∀i,i<ol.length→i≠j1→i≠j2→listed.getD i false=true→∀d,dstOf ol i=some d→a.tmps.getD d undef=(vs[i]?).getD undef) (ho:ol[i]?=some o) (hd:o.dst=some d) (hs:a.tmps.size=n){v:Value}(hv:i≠j1→i≠j2→v=(vs[i]?).getD undef):
  ∀k,k<ol.length→k≠j1→k≠j2→(listed.setIfInBounds i true).getD k false=true→∀e,dstOf ol k=some e→(a.put (some d) v).tmps.getD e undef=(vs[k]?).getD undef:=by
 intro k hk' h1 h2 hl e he
 obtain⟨_,hdn,hfar,hoth⟩:=hk.val i o ho d hd
 by_cases hik:i=k
 ·subst hik
  have e1:dstOf ol i=some d:=by unfold dstOf;rw [ho];exact hd
  rw [e1] at he
  cases he
  exact (slotv_put hs hdn v).trans (hv h1 h2)
 ·rw [Go.getD_set_ne false hik] at hl
  have:=slot_other (a:=a) hk ho hd hik v
  rw [he] at this
  exact this.trans (h k hk' h1 h2 hl e he)
theorem TwI.val {i d:Nat}{o:Oper}(hk:DetOk n ol st l dss rl ps) (h:TwI n ol l vs T zs us1 us2 j1 s1 j2 s2 w0 listed a w) (ho:ol[i]?=some o) (hd:o.dst=some d) (h1:i≠j1) (h2:i≠j2) (h3:i≠s1) (h4:i≠s2):
  TwI n ol l vs T zs us1 us2 j1 s1 j2 s2 w0 (listed.setIfInBounds i true) (a.put (some d) ((vs[i]?).getD undef)) w:=by
 obtain⟨hr,hx,hv,g1,g2,b1,b2,hne⟩:=h
 refine⟨hr.put_far (hk.val i o ho d hd).2.2.1 _,hx,vals_far hk hv ho hd hr.size (fun _ _=>rfl),g1,g2,b1.far hk ho hd h1 h3 _ (Ext.refl w),b2.far hk ho hd h2 h4 _ (Ext.refl w),fun e1 e2=>?_⟩
 rw [Go.getD_set_ne false h1] at e1
 rw [Go.getD_set_ne false h2] at e2
 exact hne e1 e2
theorem TwI.new {d:Nat}{o:Oper}(hk:DetOk n ol st l dss rl ps) (h:TwI n ol l vs T zs us1 us2 j1 s1 j2 s2 w0 listed a w) (ho:ol[j1]?=some o) (hd:o.dst=some d) (hs1:listed.getD s1 false=false) (h2:j1≠j2) (h3:j1≠s1) (h4:j1≠s2):
  TwI n ol l vs T zs us1 us2 j1 s1 j2 s2 w0 (listed.setIfInBounds j1 true) (a.put (some d) (.pointer (some ⟨w.heap.size,0,none⟩))) (w.alloc (.cells zs.toArray T)):=by
 obtain⟨hr,hx,hv,g1,g2,b1,b2,hne⟩:=h
 refine⟨hr.put_far (hk.val j1 o ho d hd).2.2.1 _,hx.alloc _,vals_far hk hv ho hd hr.size (fun h _=>absurd rfl h),w.heap.size,g2,fun _=>⟨?_,hx.size,?_⟩,b2.far hk ho hd h2 h4 _ ((Ext.refl w).alloc _),fun _ e2=>?_⟩
 ·have e1:dstOf ol j1=some d:=by unfold dstOf;rw [ho];exact hd
  rw [e1]
  exact slotv_put hr.size (hk.val j1 o ho d hd).2.1 _
 ·rw [Go.getD_set_ne false h3,hs1]
  exact Bk.new w T zs
 ·rw [Go.getD_set_ne false h2] at e2
  have:=(b2 e2).2.2.lt
  omega
theorem TwI.fill {g:Nat}{w':World}(h:TwI n ol l vs T zs us1 us2 j1 s1 j2 s2 w0 listed a w) (hj:listed.getD j1 false=true) (hg:slotv a (dstOf ol j1)= .pointer (some ⟨g,0,none⟩)) (hb:Bk w' g T us1) (hu:Upd g w w') (hN:s1<listed.size) (_h1:s1≠j1) (h2:s1≠j2) (h3:s1≠s2) (hd:dstOf ol s1=none):
  TwI n ol l vs T zs us1 us2 j1 s1 j2 s2 w0 (listed.setIfInBounds s1 true) a w':=by
 obtain⟨hr,hx,hv,g1,g2,b1,b2,hne⟩:=h
 obtain⟨c1,c2,c3⟩:=b1 hj
 have hgg:g=g1:=by
  rw [hg] at c1
  injection c1 with c1
  injection c1 with c1
  injection c1
 subst hgg
 refine⟨hr,hu.ext hx c2,fun i hi e1 e2 hl d hd'=>?_,g,g2,fun _=>⟨c1,c2,?_⟩,fun e2=>?_,fun e1 e2=>?_⟩
 ·by_cases his:s1=i
  ·subst his;rw [hd] at hd';cases hd'
  ·rw [Go.getD_set_ne false his] at hl
   exact hv i hi e1 e2 hl d hd'
 ·rw [if_pos (by simp [hN])];exact hb
 ·rw [Go.getD_set_ne false h2] at e2
  obtain⟨d1,d2,d3⟩:=b2 e2
  rw [Go.getD_set_ne false h3]
  exact⟨d1,d2,d3.upd hu (fun e=>hne hj e2 e.symm)⟩
 ·rw [Go.getD_set_ne false h2] at e2
  exact hne hj e2
theorem vobs_get {is:List Nat}(h:VObs P n ol vs w0 dss l is):∀i∈is,∀o,ol[i]?=some o→∀w,Ext w0 w→RunD P n (dfr ol vs l (rch dss i)) o w (.value ((vs[i]?).getD undef)) w:=by
 induction is with
 | nil=>intro i hi;cases hi
 | cons k r ih=>
  intro i hi o ho
  rcases List.mem_cons.1 hi with e | e
  ·subst e
   have:=h.1
   rw [ho] at this
   exact this
  ·exact ih h.2 i e o ho
def TwEnd (Q:Exit→Act→World→Prop) (n:Nat) (ol:List Oper) (vs:List Value) (l:Fr) (w0:World) (T:TypeId) (us1 us2:List Value) (j1 j2:Nat) (is:List Nat):Prop:=
 ∀g1 g2 w,Ext w0 w→g1≠g2→w0.heap.size≤g1→w0.heap.size≤g2→Bk w g1 T us1→Bk w g2 T us2→eo Q .normal n (putl (dstOf ol j1) (.pointer (some ⟨g1,0,none⟩)) (putl (dstOf ol j2) (.pointer (some ⟨g2,0,none⟩)) (dfr ol vs l is))) w
theorem twin_any {is:List Nat}(hk:DetOk n ol [s1,s2] l dss rl ps) (ht:twOk ol.length dss rl j1 s1 k1 j2 s2 k2 is=true) (hj1:j1 ∉ is) (hj2:j2 ∉ is) (his:∀i∈is,i<ol.length) (hv:VObs P n ol vs w0 dss l is) (hm1:Makes P n ol l T zs j1) (hm2:Makes P n ol l T zs j2)
  (hf1:Fills P n ol vs w0 l T zs us1 j1 s1 k1) (hf2:Fills P n ol vs w0 l T zs us2 j2 s2 k2) (hfin:TwEnd Q n ol vs l w0 T us1 us2 j1 j2 is):
  ∀(fuel:Nat) (listed:Array Bool) (a:Act) (w:World),unl ol.length listed≤fuel→listed.size=ol.length→Closed ol listed→TwI n ol l vs T zs us1 us2 j1 s1 j2 s2 w0 listed a w→wpAny P .any ol.toArray Q fuel listed a w:=by
 simp only [twOk,Bool.and_eq_true,decide_eq_true_eq,List.contains_iff_mem,ne_eq] at ht
 obtain⟨⟨⟨⟨⟨⟨⟨⟨⟨⟨⟨⟨⟨⟨⟨⟨⟨⟨⟨⟨⟨hall0,hnd⟩,l1⟩,l2⟩,l3⟩,l4⟩,l5⟩,l6⟩,r1⟩,r2⟩,r3⟩,r4⟩,n1⟩,n2⟩,n3⟩,n4⟩,n5⟩,n6⟩,n7⟩,n8⟩,n9⟩,n10⟩:=ht
 rw [List.all_eq_true] at hall0 hnd
 have fin:∀(listed:Array Bool) (a:Act) (w:World),(∀i,i<ol.length→listed.getD i false=true)→TwI n ol l vs T zs us1 us2 j1 s1 j2 s2 w0 listed a w→Q .normal a w:=by
  intro listed a w hall h
  obtain⟨hr,hx,hval,g1,g2,b1,b2,hne⟩:=h
  obtain⟨c1,c2,c3⟩:=b1 (hall _ l1)
  obtain⟨d1,d2,d3⟩:=b2 (hall _ l2)
  rw [if_pos (hall _ l5)] at c3
  rw [if_pos (hall _ l6)] at d3
  have hr1:Rp n (dfr ol vs l is) a:=hr.dfr is fun j hj d hd=>hval j (his j hj) (fun e=>hj1 (e▸hj)) (fun e=>hj2 (e▸hj)) (hall j (his j hj)) d hd
  refine hfin g1 g2 w hx (hne (hall _ l1) (hall _ l2)) c2 d2 c3 d3 a ?_
  have key:∀{l':Fr}{j:Nat}{v:Value},Rp n l' a→slotv a (dstOf ol j)=v→Rp n (putl (dstOf ol j) v l') a:=by
   intro l' j v h1 h2
   cases hd:dstOf ol j with
   | none=>exact h1
   | some d=>rw [hd] at h2;exact h1.cons h2
  exact key (key hr1 d1) c1
 intro fuel
 induction fuel with
 | zero=>
  intro listed a w hf hs hcl hI
  have hall:∀i,i<ol.length→listed.getD i false=true:=by
   intro i hi
   cases h:listed.getD i false with
   | true=>rfl
   | false=>have:=unl_set hi hs h;omega
  refine⟨?_,fin listed a w hall hI⟩
  refine List.eq_nil_iff_forall_not_mem.2 fun j hj=>?_
  obtain⟨h1,o,hoj,_⟩:=ready_iff.1 hj
  have hjl:j<ol.length:=(List.getElem?_eq_some_iff.1 hoj).1
  rw [getD_tf (by omega),hall j hjl] at h1
  cases h1
 | succ fuel ih=>
  intro listed a w hf hs hcl hI
  refine⟨fun h0=>?_,fun i hir=>?_⟩
  ·refine fin listed a w (fun i hi=>?_) hI
   have key:∀k,k≤ol.length→∀i,i<k→listed.getD i false=true:=by
    intro k
    induction k with
    | zero=>intro _ i hi;omega
    | succ k ihk=>
     intro hk' i hi
     have ih':=ihk (by omega)
     rcases Nat.lt_or_ge i k with h | h
     ·exact ih' i h
     ·have e:i=k:=by omega
      subst e
      cases hb:listed.getD i false with
      | true=>rfl
      | false=>
       have hrdy:i∈Region.ready .any ol.toArray listed:=ready_iff.2 ⟨by rw [getD_tf (by omega)];exact hb,_,List.getElem?_eq_getElem (by omega),fun e he hbb=>ih' _ (hk.back i _ (List.getElem?_eq_getElem (by omega)) e he hbb)⟩
       rw [h0] at hrdy;cases hrdy
   exact key ol.length (Nat.le_refl _) i hi
  ·obtain⟨hun,o,hoi,hall⟩:=ready_iff.1 hir
   have hil:i<ol.length:=(List.getElem?_eq_some_iff.1 hoi).1
   have hun':listed.getD i false=false:=by rw [←getD_tf (by omega)];exact hun
   have hrch:=closed_reach hk hcl i o hoi hall
   have hwant:Region.wanted o (yielded ol.toArray a.tmps)=true:=by simp [Region.wanted,hk.guard i o hoi]
   have hu:=unl_set hil hs hun'
   have notyet:∀s,s<ol.length→i∈rch rl s→listed.getD s false=false:=by
    intro s hsl hm
    cases hb:listed.getD s false with
    | false=>rfl
    | true=>
     have:=closed_reach hk hcl s _ (List.getElem?_eq_getElem hsl) (fun e he hbb=>hcl s _ (List.getElem?_eq_getElem hsl) hb e he hbb) i hm
     rw [hun'] at this;cases this
   have hr:=hI.1
   have hx:=hI.2.1
   have hval:=hI.2.2.1
   unfold wpOp
   rw [arr_get,hoi]
   simp only
   rw [if_pos hwant]
   refine Or.inl ?_
   unfold Oper.wp
   have hdst:i≠s1→i≠s2→∃d,o.dst=some d:=fun e1 e2=>by
    cases hd:o.dst with
    | none=>
     have:=hk.sto i o hoi hd
     simp at this
     rcases this with h | h
     ·exact absurd h e1
     ·exact absurd h e2
    | some d=>exact⟨d,rfl⟩
   have hnone:i∈ [s1,s2]→o.dst=none:=fun hm=>by
    cases hd:o.dst with
    | none=>rfl
    | some d=>exact absurd hm (hk.val i o hoi d hd).1
   have putRp:∀{l':Fr}{k:Nat}{v:Value},Rp n l' a→(∀d,dstOf ol k=some d→a.tmps.getD d undef=v)→Rp n (putl (dstOf ol k) v l') a:=by
    intro l' k v h1 h2
    cases hd:dstOf ol k with
    | none=>exact h1
    | some d=>exact h1.cons (h2 d hd)
   by_cases e1:i=j1
   ·subst e1
    obtain⟨d,hd⟩:=hdst n3 n4
    unfold Makes at hm1
    rw [hoi] at hm1
    rw [hm1 w a hr]
    simp only [Oper.upon,hd]
    exact ih _ _ _ (by omega) (by simpa using hs) (hcl.set hoi hall) (hI.new hk hoi hd (notyet s1 l5 r1) n1 n3 n4)
   by_cases e2:i=j2
   ·subst e2
    obtain⟨d,hd⟩:=hdst n5 n6
    unfold Makes at hm2
    rw [hoi] at hm2
    rw [hm2 w a hr]
    simp only [Oper.upon,hd]
    exact ih _ _ _ (by omega) (by simpa using hs) (hcl.set hoi hall) ((hI.swap.new hk hoi hd (notyet s2 l6 r3) (Ne.symm n1) n6 n5).swap)
   by_cases e3:i=s1
   ·subst e3
    have hd:=hnone (by simp)
    unfold Fills at hf1
    rw [hoi] at hf1
    obtain⟨g1,g2,b1,b2,hne⟩:=hI.2.2.2
    obtain⟨c1,c2,c3⟩:=b1 (hrch _ r1)
    rw [if_neg (by rw [hun'];exact Bool.false_ne_true)] at c3
    obtain⟨w',h1,h2,h3⟩:=hf1 w _ hx c3
    have hk1:Rp n (putl (dstOf ol k1) ((vs[k1]?).getD undef) l) a:=putRp hr fun d hdd=>hval k1 l3 n7 n8 (hrch _ r2) d hdd
    rw [h1 a (putRp hk1 fun d hdd=>by rw [hdd] at c1;exact c1)]
    simp only [Oper.upon,hd]
    exact ih _ _ _ (by omega) (by simpa using hs) (hcl.set hoi hall) (hI.fill (hrch _ r1) c1 h2 h3 (by omega) (Ne.symm n3) (Ne.symm n5) n2 (by unfold dstOf;rw [hoi];exact hd))
   by_cases e4:i=s2
   ·subst e4
    have hd:=hnone (by simp)
    unfold Fills at hf2
    rw [hoi] at hf2
    obtain⟨g1,g2,b1,b2,hne⟩:=hI.2.2.2
    obtain⟨c1,c2,c3⟩:=b2 (hrch _ r3)
    rw [if_neg (by rw [hun'];exact Bool.false_ne_true)] at c3
    obtain⟨w',h1,h2,h3⟩:=hf2 w _ hx c3
    have hk1:Rp n (putl (dstOf ol k2) ((vs[k2]?).getD undef) l) a:=putRp hr fun d hdd=>hval k2 l4 n9 n10 (hrch _ r4) d hdd
    rw [h1 a (putRp hk1 fun d hdd=>by rw [hdd] at c1;exact c1)]
    simp only [Oper.upon,hd]
    exact ih _ _ _ (by omega) (by simpa using hs) (hcl.set hoi hall) ((hI.swap.fill (hrch _ r3) c1 h2 h3 (by omega) (Ne.symm n6) (Ne.symm n4) (Ne.symm n2) (by unfold dstOf;rw [hoi];exact hd)).swap)
   have hmem:i∈is:=by
    have:=hall0 i (List.mem_range.2 hil)
    simp only [Bool.or_eq_true,beq_iff_eq,List.contains_iff_mem] at this
    rcases this with (((h | h) | h) | h) | h
    ·exact absurd h e1
    ·exact absurd h e2
    ·exact absurd h e3
    ·exact absurd h e4
    ·exact h
   obtain⟨d,hd⟩:=hdst e3 e4
   have hnd':=hnd i (List.mem_range.2 hil)
   simp only [Bool.and_eq_true,Bool.not_eq_true'] at hnd'
   have hacc:Rp n (dfr ol vs l (rch dss i)) a:=hr.dfr _ fun j hj d hd=>by
    have h1:=hk.deps i o hoi j hj
    have h2:=(hk.reach i o hoi j h1).1
    refine hval j (by omega) (fun e=>?_) (fun e=>?_) (hrch j h1) d hd
    ·subst e;rw [List.contains_iff_mem.2 hj] at hnd';exact absurd hnd'.1 (by simp)
    ·subst e;rw [List.contains_iff_mem.2 hj] at hnd';exact absurd hnd'.2 (by simp)
   rw [vobs_get hv i hmem o hoi w hx a hacc]
   simp only [Oper.upon,hd]
   exact ih _ _ _ (by omega) (by simpa using hs) (hcl.set hoi hall) (hI.val hk hoi hd e1 e2 e3 e4)
theorem cw_twin {id:Nat}(hmix:P.follows .mixedOrders=true) (T:TypeId) (zs us1 us2:List Value) (j1 s1 k1 j2 s2 k2:Nat) (vs:List Value) (is:List Nat) (dss rl:List (List Nat)) (ps:List (Nat×Nat)){w:World}(hk:detOk n ol [s1,s2] l dss rl ps=true) (ht:(twOk ol.length dss rl j1 s1 k1 j2 s2 k2 is&& !is.contains j1&& !is.contains j2&&is.all (fun i=>decide (i<ol.length)))=true)
  (hm1:Makes P n ol l T zs j1) (hm2:Makes P n ol l T zs j2) (hf1:Fills P n ol vs w l T zs us1 j1 s1 k1) (hf2:Fills P n ol vs w l T zs us2 j2 s2 k2) (hv:VObs P n ol vs w dss l is) (hfin:TwEnd Q n ol vs l w T us1 us2 j1 j2 is):cw P Q n (.region id ol.toArray true) l w:=fun a ha=>by
 refine wp_region_any hmix ?_
 simp only [Bool.and_eq_true,Bool.not_eq_true',List.all_eq_true,decide_eq_true_eq] at ht
 obtain⟨⟨⟨h1,h2⟩,h3⟩,h4⟩:=ht
 have hsz:(Array.replicate ol.toArray.size false).size=ol.length:=by simp
 have hfalse:∀i,(Array.replicate ol.toArray.size false).getD i false=false:=by
  intro i
  simp only [Array.getD_eq_getD_getElem?,Array.getElem?_replicate]
  split <;> rfl
 have hI:TwI n ol l vs T zs us1 us2 j1 s1 j2 s2 w (Array.replicate ol.toArray.size false) a w.drew:=by
  refine⟨ha,(Ext.refl w).drew,?_,0,0,?_,?_,?_⟩
  ·intro i _ _ _ h;rw [hfalse] at h;cases h
  ·intro h;rw [hfalse] at h;cases h
  ·intro h;rw [hfalse] at h;cases h
  ·intro h;rw [hfalse] at h;cases h
 refine twin_any (detOk_spec hk) h1 (fun h=>by rw [List.contains_iff_mem.2 h] at h2;cases h2) (fun h=>by rw [List.contains_iff_mem.2 h] at h3;cases h3) h4 hv hm1 hm2 hf1 hf2 hfin ol.toArray.size _ a _ ?_ hsz (fun i o _ h=>by rw [hfalse] at h;cases h) hI
 refine Nat.le_trans List.countP_le_length ?_
 simp
theorem vobs_cons {i:Nat}{is:List Nat}{o:Oper}{v:Value}(ho:ol[i]?=some o){acc:Fr}(hv:(vs[i]?).getD undef=v) (hacc:dfr ol vs l (rch dss i)=acc) (h:∀w,Ext w0 w→RunD P n acc o w (.value v) w) (h':VObs P n ol vs w0 dss l is):VObs P n ol vs w0 dss l (i::is):=by
 refine⟨?_,h'⟩
 rw [ho]
 simp only
 rw [hv,hacc]
 exact h
theorem makes {j d:Nat}{ty:TypeId}{pos:String}{af:Array Edge}{z:Value}(ho:ol[j]?=some ⟨some d,.alloc T,ty,pos,af,none⟩) (hz:∀w,(zeroValue T).run P w= .ok z w) (hv:z.cells=zs.toArray):Makes P n ol l T zs j:=by
 unfold Makes
 rw [ho]
 intro w a _
 have e:(Instr.alloc T true (.tuple #[])).run P w= .ok (.pointer (some ⟨w.heap.size,0,none⟩)) (w.alloc (.cells zs.toArray T)):=by
  show ((zeroValue T>>=fun z=>(newVar T z>>=fun r=>pure (Value.pointer (some r))):Sem Value)).run P w=_
  rw [Sem.run_bind,hz w]
  show ((newVar T z>>=fun r=>pure (Value.pointer (some r)):Sem Value)).run P w=_
  rw [Sem.run_bind,run_newVar hv];rfl
 show ((Instr.alloc T true (.tuple #[])>>=fun r=>pure (Next.value r):Sem Next)).run P w=_
 rw [Sem.run_bind,e];rfl
theorem fills {j s k dj dk K:Nat}{us:List Value}{ty:TypeId}{pos:String}{af:Array Edge}{x y:Operand}(ho:ol[s]?=some ⟨none,.store T x y,ty,pos,af,none⟩) (hj:dstOf ol j=some dj) (hkk:dstOf ol k=some dk) (hval:(vs[k]?).getD undef= .agg us.toArray)
  (hx:∀v u,evo ((dj,v)::(dk,u)::l) x=some v) (hy:∀v u,evo ((dj,v)::(dk,u)::l) y=some u) (hT:AggT P T K) (hlen:us.length=K) (hz:zs.length=K) (h1:us.all (·.oneCell')=true):Fills P n ol vs w0 l T zs us j s k:=by
 unfold Fills
 rw [ho]
 intro w g _ hb
 obtain⟨w',hr,hb2,hu,_⟩:=run_stored (P:=P) hT hlen hb (off:=0) (by omega) h1 us (by unfold overl;rw [List.take_zero,List.nil_append,Nat.zero_add,hlen,←hz,List.drop_length,List.append_nil])
 refine⟨w',?_,hb2,hu⟩
 rw [hj,hkk,hval]
 exact rd_store (hx _ _) (hy _ _) hr
end
end Go.Proofs.Ytnpbbknemflpnaa
