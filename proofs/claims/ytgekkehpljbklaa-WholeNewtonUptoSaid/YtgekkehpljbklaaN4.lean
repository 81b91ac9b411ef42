/- Parts Bst, Bof, Det, Nwt, New, LawN, joined. -/
import Derived.Test.YtgekkehpljbklaaN3

namespace Go.Proofs.Ytgekkehpljbklaa
open Go.RowKit
set_option maxHeartbeats 8000000 in
set_option maxRecDepth 20000 in
theorem g_brs_stepI {w:World}{lb n g:Nat}{RA NA:Option Addr}{rcap ncap:Nat}{ra:Nat→Option Addr}{rc:Nat→Nat}{ps:List Nat}{ns:List Int}{Z X:Mx}{tu:Bool}{z:Int}{k:Nat}{sl:Bool}{Al:Option Addr}{nl cl:Nat}(hlb:lb≤w.heap.size) (hA:Apt lb n g RA NA ra) (hB:Bk w g 75 [.slice RA n rcap,.slice NA n ncap,.bool tu,.bool sl,.slice Al nl cl,.int .i64 ((k:Nat):Int)]) (hz:Zr w 0 sl Al nl cl z) (hR:Own w lb 22 1 RA n rcap (ps.map (rwv ra rc n))) (hN:Own w lb 3 1 NA n ncap (ns.map I64)) (hC:Rcs 17179869184 lb n n ra rc w Z) (hn:n≤64) (hX:∀i j,i<n→j<n→ln (X i j)≤1048576) (hk:k<n) (hI0:Inv n X k ps Z tu z):
    Calls Try.prog 44 #[.pointer (some ⟨g,0,none⟩),.int .i64 ((k:Nat):Int)] w (fun e w'=>Bl lb w w'∧((e= .returned (.bool false)∧∀i,k≤i→i<n→Z (ps.getD i 0) k=0)∨∃qs Y tu' z',e= .returned (.bool true)∧Fld lb n g RA NA rcap ncap ra rc qs Y tu' z' (k+1) w'∧Inv n X (k+1) qs Y tu' z')):=by
 have hcap:=hR.rv.le
 have hncap:=hN.rv.le
 have hLz:ln z≤17179869184:=by rw [hI0.last];exact Nat.le_trans (ln_dt k _ fun a b ha hb=>pr_ln hI0.per hX a b (by omega) (by omega)) (by have:=Nat.mul_le_mul (show k≤64 by omega) (show 1048576+k≤1048640 by omega);omega)
 refine sx_enter Try.func44 rfl (n:=189) rfl (bq rfl) (args:= [.pointer (some ⟨g,0,none⟩),.int .i64 ((k:Nat):Int)]) ?_
 have hlt_g:=hB.lt
 refine cw_keep [(0,.pointer (some ⟨g,0,none⟩)),(1,.int .i64 ((k:Nat):Int))] ⟨rfl,rfl,trivial⟩ (sr (mv 1 rfl (ne_ (sr (mv 1 rfl (pf g 0 rfl (by kernel_rfl) (pf g 5 rfl (by kernel_rfl) (wl_load rfl rfl (load_cell cellInt hB rfl) (by decide) (mv 1 rfl (ne_ (sr (mv 2 rfl (wl_nil ?_)))))))))))))
 refine eo_then (cw_seq (cw_block ?_))
 refine cw_loop (T:=World×Nat) (fun⟨wp,p⟩=> [(0,.pointer (some ⟨g,0,none⟩)),(1,.int .i64 ((k:Nat):Int)),(4,.bool false),(5,.int .i64 ((k:Nat):Int)),(6,.int .i64 ((p:Nat):Int)),(13,.pointer (some ⟨g,0,none⟩)),(14,.pointer (some ⟨g,0,none⟩)),(15,.pointer (some ⟨g,5,none⟩)),(16,.int .i64 ((k:Nat):Int)),(17,.int .i64 ((k:Nat):Int))]) (fun⟨wp,p⟩=>wp) (fun⟨wp,p⟩=>(Bl lb w wp)∧(p≤n)∧(Bk wp g 75 [.slice RA n rcap,.slice NA n ncap,.bool tu,.bool sl,.slice Al nl cl,.int .i64 ((k:Nat):Int)])∧(Zr wp 0 sl Al nl cl (z))∧(Own wp lb 22 1 RA n rcap (ps.map (rwv ra rc n)))∧(Own wp lb 3 1 NA n ncap (ns.map I64))∧(Rcs 17179869184 lb n n ra rc wp Z)∧(k≤p)∧(∀i,k≤i→i<p→Z (ps.getD i 0) k=0)) (fun⟨wp,p⟩=>n-p)
  (⟨w,k⟩:World×Nat) ⟨(Bl.refl hlb),(by omega),hB,hz,hR,hN,hC,(Nat.le_refl k),(fun i h1 h2=>by omega)⟩ rfl ⟨rfl,rfl,rfl,rfl,rfl,rfl,rfl,rfl,rfl,rfl,trivial⟩ ?_
 rintro⟨wp,p⟩ ⟨hw1,hi_p,b_g,z_g_1,o_RAwp,o_NAwp,rc_wp,hkp,hz0⟩
 refine cw_re [(0,.pointer (some ⟨g,0,none⟩)),(1,.int .i64 ((k:Nat):Int)),(4,.bool false),(5,.int .i64 ((k:Nat):Int)),(6,.int .i64 ((p:Nat):Int)),(13,.pointer (some ⟨g,0,none⟩)),(14,.pointer (some ⟨g,0,none⟩)),(15,.pointer (some ⟨g,5,none⟩)),(16,.int .i64 ((k:Nat):Int)),(17,.int .i64 ((k:Nat):Int))] wp rfl ⟨rfl,rfl,rfl,rfl,rfl,rfl,rfl,rfl,rfl,rfl,trivial⟩ (cw_seq (cw_seq ?_))
 by_cases hpn:p<n
 · 
  by_cases hzp:Z (ps.getD p 0) k=0
  · 
   refine cw_region (mv 2 rfl (pf g 0 rfl (by kernel_rfl) (pf g 0 rfl (by kernel_rfl) (wl_load rfl rfl (load_cell cellRows b_g rfl) (by decide) (pu (v:= .int .i64 ((n:Nat):Int)) rfl (by kernel_rfl) (wl_cmp rfl rfl rfl true (cb_lt_t (a:=p) (b:=n) rfl rfl (by omega)) (by decide) (mv 2 rfl (pf g 0 rfl (by kernel_rfl) (pf g 0 rfl (by kernel_rfl) (wl_load rfl rfl (load_cell cellRows b_g rfl) (by decide) (mv 1 rfl ?_)))))))))))
   obtain⟨pz1,hpz1,hcz1⟩:=(o_RAwp).rowAt (i:=p) (by omega)
   refine wl_idx rfl rfl rfl unRows szInts p rfl (by omega) pz1 hpz1 (by decide) (wl_load rfl rfl (load_cell1 cellInts hcz1) (by decide) (mv 1 rfl ?_))
   obtain⟨pz2,sz2,Bz2,nz2,cz2,hpz2,ldz2,hKz2,zz2⟩:=(rc_wp).at (hI0.per.lt p (by omega)) (show k<n by omega)
   refine wl_idx rfl rfl rfl elemI aggInt.size k rfl (by omega) pz2 hpz2 (by decide) (wl_load rfl rfl (ldz2 _ (Ext.refl _) _ _ aggInt) (by decide) (wl_call rfl rfl (vs:= [.agg #[.bool sz2,.slice Bz2 nz2 cz2]]) (by kernel_rfl) (by decide) (g_zint_Sign zz2.zi (zz2.le (Nat.le_trans (zz2.ln_le hKz2) (by decide)))) ?_))
   rintro _ v3 ⟨xr5,rfl,r5,e4⟩
   refine ret_intro ?_
   have hw2:Bl lb w v3:=hw1.ext e4
   obtain rfl:=r5
   refine wl_cmp rfl rfl rfl true (scmp_eq_t hzp) (by decide) (pu (v:= .bool true) rfl (by kernel_rfl) (ne_ (cw_true rfl (cw_skip (eo_then (cw_block (cw_region (mv 1 rfl (wl_ar rfl rfl rfl ((p+1:Nat):Int) (ai_add (a:=p) (b:=1) rfl rfl (by omega)) (by decide) (mv 1 rfl (wl_nil (eo_block_normal (eo_round (⟨v3,p+1⟩:World×Nat) ⟨hw2,(by omega),(b_g.ext e4),(z_g_1.ext e4),(o_RAwp.ext e4),(o_NAwp.ext e4),(rc_wp.ext e4),(by omega),(fun i h1 h2=>if h:i<p then hz0 i h1 h else (show i=p by omega)▸hzp)⟩ (show n-(p+1)<n-p by omega) rfl ⟨rfl,rfl,rfl,rfl,rfl,rfl,rfl,rfl,rfl,rfl,trivial⟩)))))))))))))
  · 
   refine cw_region (mv 2 rfl (pf g 0 rfl (by kernel_rfl) (pf g 0 rfl (by kernel_rfl) (wl_load rfl rfl (load_cell cellRows b_g rfl) (by decide) (pu (v:= .int .i64 ((n:Nat):Int)) rfl (by kernel_rfl) (wl_cmp rfl rfl rfl true (cb_lt_t (a:=p) (b:=n) rfl rfl (by omega)) (by decide) (mv 2 rfl (pf g 0 rfl (by kernel_rfl) (pf g 0 rfl (by kernel_rfl) (wl_load rfl rfl (load_cell cellRows b_g rfl) (by decide) (mv 1 rfl ?_)))))))))))
   obtain⟨pz6,hpz6,hcz6⟩:=(o_RAwp).rowAt (i:=p) (by omega)
   refine wl_idx rfl rfl rfl unRows szInts p rfl (by omega) pz6 hpz6 (by decide) (wl_load rfl rfl (load_cell1 cellInts hcz6) (by decide) (mv 1 rfl ?_))
   obtain⟨pz7,sz7,Bz7,nz7,cz7,hpz7,ldz7,hKz7,zz7⟩:=(rc_wp).at (hI0.per.lt p (by omega)) (show k<n by omega)
   refine wl_idx rfl rfl rfl elemI aggInt.size k rfl (by omega) pz7 hpz7 (by decide) (wl_load rfl rfl (ldz7 _ (Ext.refl _) _ _ aggInt) (by decide) (wl_call rfl rfl (vs:= [.agg #[.bool sz7,.slice Bz7 nz7 cz7]]) (by kernel_rfl) (by decide) (g_zint_Sign zz7.zi (zz7.le (Nat.le_trans (zz7.ln_le hKz7) (by decide)))) ?_))
   rintro _ v8 ⟨xr10,rfl,r10,e9⟩
   refine ret_intro ?_
   have hw2:Bl lb w v8:=hw1.ext e9
   obtain rfl:=r10
   refine wl_cmp rfl rfl rfl false (scmp_eq_f hzp) (by decide) (pu (v:= .bool false) rfl (by kernel_rfl) (ne_ (cw_false rfl (cw_exit (eo_thenX (eo_loopX (eo_block_here (eo_then (cw_seq (sr (mv 2 rfl (pf g 0 rfl (by kernel_rfl) (pf g 0 rfl (by kernel_rfl) ?_)))))))))))))
   refine wl_load rfl rfl (load_cell cellRows (b_g.ext e9) rfl) (by decide) (pu (v:= .int .i64 ((n:Nat):Int)) rfl (by kernel_rfl) (wl_cmp rfl rfl rfl false (cb_eq_f (a:=p) (b:=n) rfl rfl (by omega)) (by decide) (ne_ (cw_false rfl (cw_skip (eo_then (cw_seq (cw_seq ?_))))))))
   by_cases hpk:p≠k
   · 
    refine cw_region (mv 2 rfl (wl_cmp rfl rfl rfl true (cb_ne_t (a:=p) (b:=k) rfl rfl (by omega)) (by decide) (ne_ (cw_true rfl (cw_seq (cw_keep [(0,.pointer (some ⟨g,0,none⟩)),(1,.int .i64 ((k:Nat):Int)),(4,.bool false),(5,.int .i64 ((k:Nat):Int)),(6,.int .i64 ((p:Nat):Int)),(13,.pointer (some ⟨g,0,none⟩)),(14,.pointer (some ⟨g,0,none⟩)),(15,.pointer (some ⟨g,5,none⟩)),(16,.int .i64 ((k:Nat):Int)),(17,.int .i64 ((k:Nat):Int)),(18,.int .i64 ((p:Nat):Int)),(19,.pointer (some ⟨g,0,none⟩)),(20,.pointer (some ⟨g,0,none⟩)),(21,.pointer (some ⟨g,0,none⟩)),(22,.slice RA n rcap),(23,.int .i64 ((n:Nat):Int)),(24,.bool true),(25,.bool true),(26,.pointer (some ⟨g,0,none⟩)),(27,.pointer (some ⟨g,0,none⟩)),(28,.pointer (some ⟨g,0,none⟩)),(29,.slice RA n rcap),(30,.int .i64 ((p:Nat):Int)),(31,.pointer (some pz6)),(32,.slice (ra (ps.getD p 0)) n (rc (ps.getD p 0))),(33,.int .i64 ((k:Nat):Int)),(34,.pointer (some pz7)),(35,.agg #[.bool sz7,.slice Bz7 nz7 cz7]),(36,.int .i64 (scmp (Z (ps.getD p 0) k) 0)),(37,.bool false),(38,.bool false),(41,.int .i64 ((p:Nat):Int)),(42,.pointer (some ⟨g,0,none⟩)),(43,.pointer (some ⟨g,0,none⟩)),(44,.pointer (some ⟨g,0,none⟩)),(45,.slice RA n rcap),(46,.int .i64 ((n:Nat):Int)),(47,.bool false),(48,.int .i64 ((p:Nat):Int)),(49,.int .i64 ((k:Nat):Int)),(50,.bool true)] ⟨rfl,rfl,rfl,rfl,rfl,rfl,rfl,rfl,rfl,rfl,rfl,rfl,rfl,rfl,rfl,rfl,rfl,rfl,rfl,rfl,rfl,rfl,rfl,rfl,rfl,rfl,rfl,rfl,rfl,rfl,rfl,rfl,rfl,rfl,rfl,rfl,rfl,rfl,rfl,rfl,rfl,trivial⟩ ?_))))))
    obtain⟨v11,hv,e12⟩:∃v,v=v8.drew∧Ext v8 v:=⟨_,rfl,(Ext.refl _).drew⟩
    have hw3:Bl lb w v11:=hw2.ext e12
    obtain⟨pz13,hpz13,hcz13⟩:=((o_RAwp.ext (e9.trans e12))).rowAt (i:=k) (by omega)
    have lt14:=(o_RAwp.ext (e9.trans e12))
    obtain⟨v15,hr16,own17,uo18⟩:=run_setRow lt14 (by omega) hpz6 (ps.getD k 0)
    have hw4:Bl lb w v15:=hw3.updO uo18 (fun p hp=>(lt14.block p hp).1)
    obtain⟨pz19,hpz19,hcz19⟩:=(own17).rowAt (i:=k) (by omega)
    have lt20:=own17
    obtain⟨v21,hr22,own23,uo24⟩:=run_setRow lt20 (by omega) hpz19 (ps.getD p 0)
    have hw5:Bl lb w v21:=hw4.updO uo24 (fun p hp=>(lt20.block p hp).1)
    refine cw_det mix (w:=v11) [.pointer (some ⟨g,0,none⟩),.pointer (some ⟨g,0,none⟩),.pointer (some ⟨g,0,none⟩),.slice RA n rcap,.int .i64 ((p:Nat):Int),.pointer (some ⟨g,0,none⟩),.pointer (some ⟨g,0,none⟩),.pointer (some ⟨g,0,none⟩),.slice RA n rcap,.int .i64 ((k:Nat):Int),.pointer (some ⟨g,0,none⟩),.pointer (some ⟨g,0,none⟩),.pointer (some ⟨g,0,none⟩),.slice RA n rcap,.int .i64 ((k:Nat):Int),.pointer (some pz13),.slice (ra (ps.getD k 0)) n (rc (ps.getD k 0)),.pointer (some ⟨g,0,none⟩),.pointer (some ⟨g,0,none⟩),.pointer (some ⟨g,0,none⟩),.slice RA n rcap,.int .i64 ((p:Nat):Int),.pointer (some pz6),.slice (ra (ps.getD p 0)) n (rc (ps.getD p 0)),.pointer (some pz6),undef,.pointer (some pz19),undef] [v11,v15,v21] [25,27] [[],[0],[1],[2],[],[],[5],[6],[7],[],[],[10],[11],[12],[],[13,14],[15],[],[17],[18],[19],[],[20,21],[22],[3,4],[16,24],[8,9],[23,26]] [[],[0],[0,1],[0,1,2],[],[],[5],[5,6],[5,6,7],[],[],[10],[10,11],[10,11,12],[],[10,11,12,13,14],[10,11,12,13,14,15],[],[17],[17,18],[17,18,19],[],[17,18,19,20,21],[17,18,19,20,21,22],[0,1,2,3,4,5,6,7,8,10,11,12,13,14,15,16,17,18,19,20,21,22,23],[0,1,2,3,4,5,6,7,8,10,11,12,13,14,15,16,17,18,19,20,21,22,23,24],[0,1,2,3,4,5,6,7,8,9,10,11,12,13,14,15,16,17,18,19,20,21,22,23,24,25],[0,1,2,3,4,5,6,7,8,9,10,11,12,13,14,15,16,17,18,19,20,21,22,23,24,25,26]] [(0,0),(1,0),(2,0),(3,0),(4,0),(5,0),(6,0),(7,0),(8,0),(9,0),(9,1),(10,0),(11,0),(12,0),(13,0),(14,0),(15,0),(16,0),(17,0),(18,0),(19,0),(20,0),(21,0),(22,0),(23,0),(24,0),(25,0),(26,1),(27,1)] rfl hv ?_ ?_
    · 
     refine dobs_val _ rfl rfl rfl rfl rfl (rd_move rfl) (dobs_val _ rfl rfl rfl rfl rfl (rd_pure rfl (by kernel_rfl)) (dobs_val _ rfl rfl rfl rfl rfl (rd_pure rfl (by kernel_rfl)) (dobs_val _ rfl rfl rfl rfl rfl (rd_load rfl (load_cell cellRows (b_g.ext (e9.trans e12)) rfl)) (dobs_val _ rfl rfl rfl rfl rfl (rd_move rfl) (dobs_val _ rfl rfl rfl rfl rfl (rd_move rfl) (dobs_val _ rfl rfl rfl rfl rfl (rd_pure rfl (by kernel_rfl)) (dobs_val _ rfl rfl rfl rfl rfl (rd_pure rfl (by kernel_rfl)) (dobs_val _ rfl rfl rfl rfl rfl (rd_load rfl (load_cell cellRows (b_g.ext (e9.trans e12)) rfl)) (dobs_val _ rfl rfl rfl rfl rfl (rd_move rfl) (dobs_val _ rfl rfl rfl rfl rfl (rd_move rfl) (dobs_val _ rfl rfl rfl rfl rfl (rd_move rfl) (dobs_val _ rfl rfl rfl rfl rfl (rd_pure rfl (by kernel_rfl)) (dobs_val _ rfl rfl rfl rfl rfl (rd_pure rfl (by kernel_rfl)) ?_)))))))))))))
     refine dobs_val _ rfl rfl rfl rfl rfl (rd_load rfl (load_cell cellRows (b_g.ext (e9.trans e12)) rfl)) (dobs_val _ rfl rfl rfl rfl rfl (rd_move rfl) (dobs_val _ rfl rfl rfl rfl rfl (rd_idx rfl rfl unRows szInts k rfl (by omega) pz13 hpz13) (dobs_val _ rfl rfl rfl rfl rfl (rd_load rfl (load_cell1 cellInts hcz13)) (dobs_val _ rfl rfl rfl rfl rfl (rd_move rfl) (dobs_val _ rfl rfl rfl rfl rfl (rd_pure rfl (by kernel_rfl)) (dobs_val _ rfl rfl rfl rfl rfl (rd_pure rfl (by kernel_rfl)) (dobs_val _ rfl rfl rfl rfl rfl (rd_load rfl (load_cell cellRows (b_g.ext (e9.trans e12)) rfl)) (dobs_val _ rfl rfl rfl rfl rfl (rd_move rfl) (dobs_val _ rfl rfl rfl rfl rfl (rd_idx rfl rfl unRows szInts p rfl (by omega) pz6 hpz6) (dobs_val _ rfl rfl rfl rfl rfl (rd_load rfl (load_cell1 cellInts ((e9.trans e12).cell hcz6))) (dobs_val _ rfl rfl rfl rfl rfl (rd_idx rfl rfl unRows szInts p rfl (by omega) pz6 hpz6) (dobs_sto _ rfl rfl rfl rfl rfl (rd_store rfl rfl hr16) (dobs_val _ rfl rfl rfl rfl rfl (rd_idx rfl rfl unRows szInts k rfl (by omega) pz19 hpz19) ?_)))))))))))))
     refine dobs_sto _ rfl rfl rfl rfl rfl (rd_store rfl rfl hr22) ?_
     exact dobs_nil
    clear hv
    refine eo_keep [(0,.pointer (some ⟨g,0,none⟩)),(1,.int .i64 ((k:Nat):Int)),(4,.bool false),(5,.int .i64 ((k:Nat):Int)),(6,.int .i64 ((p:Nat):Int)),(13,.pointer (some ⟨g,0,none⟩)),(14,.pointer (some ⟨g,0,none⟩)),(15,.pointer (some ⟨g,5,none⟩)),(16,.int .i64 ((k:Nat):Int)),(17,.int .i64 ((k:Nat):Int)),(18,.int .i64 ((p:Nat):Int)),(19,.pointer (some ⟨g,0,none⟩)),(20,.pointer (some ⟨g,0,none⟩)),(21,.pointer (some ⟨g,0,none⟩)),(22,.slice RA n rcap),(23,.int .i64 ((n:Nat):Int)),(24,.bool true),(25,.bool true),(26,.pointer (some ⟨g,0,none⟩)),(27,.pointer (some ⟨g,0,none⟩)),(28,.pointer (some ⟨g,0,none⟩)),(29,.slice RA n rcap),(30,.int .i64 ((p:Nat):Int)),(31,.pointer (some pz6)),(32,.slice (ra (ps.getD p 0)) n (rc (ps.getD p 0))),(33,.int .i64 ((k:Nat):Int)),(34,.pointer (some pz7)),(35,.agg #[.bool sz7,.slice Bz7 nz7 cz7]),(36,.int .i64 (scmp (Z (ps.getD p 0) k) 0)),(37,.bool false),(38,.bool false),(41,.int .i64 ((p:Nat):Int)),(42,.pointer (some ⟨g,0,none⟩)),(43,.pointer (some ⟨g,0,none⟩)),(44,.pointer (some ⟨g,0,none⟩)),(45,.slice RA n rcap),(46,.int .i64 ((n:Nat):Int)),(47,.bool false),(48,.int .i64 ((p:Nat):Int)),(49,.int .i64 ((k:Nat):Int)),(50,.bool true),(51,.pointer (some ⟨g,0,none⟩)),(52,.pointer (some ⟨g,0,none⟩)),(53,.pointer (some ⟨g,0,none⟩)),(54,.slice RA n rcap),(55,.int .i64 ((p:Nat):Int)),(56,.pointer (some ⟨g,0,none⟩)),(57,.pointer (some ⟨g,0,none⟩)),(58,.pointer (some ⟨g,0,none⟩)),(59,.slice RA n rcap),(60,.int .i64 ((k:Nat):Int)),(61,.pointer (some ⟨g,0,none⟩)),(62,.pointer (some ⟨g,0,none⟩)),(63,.pointer (some ⟨g,0,none⟩)),(64,.slice RA n rcap),(65,.int .i64 ((k:Nat):Int)),(66,.pointer (some pz13)),(67,.slice (ra (ps.getD k 0)) n (rc (ps.getD k 0))),(68,.pointer (some ⟨g,0,none⟩)),(69,.pointer (some ⟨g,0,none⟩)),(70,.pointer (some ⟨g,0,none⟩)),(71,.slice RA n rcap),(72,.int .i64 ((p:Nat):Int)),(73,.pointer (some pz6)),(74,.slice (ra (ps.getD p 0)) n (rc (ps.getD p 0))),(75,.pointer (some pz6)),(76,.pointer (some pz19))] ⟨rfl,rfl,rfl,rfl,rfl,rfl,rfl,rfl,rfl,rfl,rfl,rfl,rfl,rfl,rfl,rfl,rfl,rfl,rfl,rfl,rfl,rfl,rfl,rfl,rfl,rfl,rfl,rfl,rfl,rfl,rfl,rfl,rfl,rfl,rfl,rfl,rfl,rfl,rfl,rfl,rfl,rfl,rfl,rfl,rfl,rfl,rfl,rfl,rfl,rfl,rfl,rfl,rfl,rfl,rfl,rfl,rfl,rfl,rfl,rfl,rfl,rfl,rfl,rfl,rfl,rfl,rfl,trivial⟩ (eo_then (cw_seq (cw_keep [(0,.pointer (some ⟨g,0,none⟩)),(1,.int .i64 ((k:Nat):Int)),(4,.bool false),(5,.int .i64 ((k:Nat):Int)),(6,.int .i64 ((p:Nat):Int)),(13,.pointer (some ⟨g,0,none⟩)),(14,.pointer (some ⟨g,0,none⟩)),(15,.pointer (some ⟨g,5,none⟩)),(16,.int .i64 ((k:Nat):Int)),(17,.int .i64 ((k:Nat):Int)),(18,.int .i64 ((p:Nat):Int)),(19,.pointer (some ⟨g,0,none⟩)),(20,.pointer (some ⟨g,0,none⟩)),(21,.pointer (some ⟨g,0,none⟩)),(22,.slice RA n rcap),(23,.int .i64 ((n:Nat):Int)),(24,.bool true),(25,.bool true),(26,.pointer (some ⟨g,0,none⟩)),(27,.pointer (some ⟨g,0,none⟩)),(28,.pointer (some ⟨g,0,none⟩)),(29,.slice RA n rcap),(30,.int .i64 ((p:Nat):Int)),(31,.pointer (some pz6)),(32,.slice (ra (ps.getD p 0)) n (rc (ps.getD p 0))),(33,.int .i64 ((k:Nat):Int)),(34,.pointer (some pz7)),(35,.agg #[.bool sz7,.slice Bz7 nz7 cz7]),(36,.int .i64 (scmp (Z (ps.getD p 0) k) 0)),(37,.bool false),(38,.bool false),(41,.int .i64 ((p:Nat):Int)),(42,.pointer (some ⟨g,0,none⟩)),(43,.pointer (some ⟨g,0,none⟩)),(44,.pointer (some ⟨g,0,none⟩)),(45,.slice RA n rcap),(46,.int .i64 ((n:Nat):Int)),(47,.bool false),(48,.int .i64 ((p:Nat):Int)),(49,.int .i64 ((k:Nat):Int)),(50,.bool true),(51,.pointer (some ⟨g,0,none⟩)),(52,.pointer (some ⟨g,0,none⟩)),(53,.pointer (some ⟨g,0,none⟩)),(54,.slice RA n rcap),(55,.int .i64 ((p:Nat):Int)),(56,.pointer (some ⟨g,0,none⟩)),(57,.pointer (some ⟨g,0,none⟩)),(58,.pointer (some ⟨g,0,none⟩)),(59,.slice RA n rcap),(60,.int .i64 ((k:Nat):Int)),(61,.pointer (some ⟨g,0,none⟩)),(62,.pointer (some ⟨g,0,none⟩)),(63,.pointer (some ⟨g,0,none⟩)),(64,.slice RA n rcap),(65,.int .i64 ((k:Nat):Int)),(66,.pointer (some pz13)),(67,.slice (ra (ps.getD k 0)) n (rc (ps.getD k 0))),(68,.pointer (some ⟨g,0,none⟩)),(69,.pointer (some ⟨g,0,none⟩)),(70,.pointer (some ⟨g,0,none⟩)),(71,.slice RA n rcap),(72,.int .i64 ((p:Nat):Int)),(73,.pointer (some pz6)),(74,.slice (ra (ps.getD p 0)) n (rc (ps.getD p 0))),(75,.pointer (some pz6)),(76,.pointer (some pz19))] ⟨rfl,rfl,rfl,rfl,rfl,rfl,rfl,rfl,rfl,rfl,rfl,rfl,rfl,rfl,rfl,rfl,rfl,rfl,rfl,rfl,rfl,rfl,rfl,rfl,rfl,rfl,rfl,rfl,rfl,rfl,rfl,rfl,rfl,rfl,rfl,rfl,rfl,rfl,rfl,rfl,rfl,rfl,rfl,rfl,rfl,rfl,rfl,rfl,rfl,rfl,rfl,rfl,rfl,rfl,rfl,rfl,rfl,rfl,rfl,rfl,rfl,rfl,rfl,rfl,rfl,rfl,rfl,trivial⟩ ?_)))
    obtain⟨v25,hv,e26⟩:∃v,v=v21.drew∧Ext v21 v:=⟨_,rfl,(Ext.refl _).drew⟩
    have hw6:Bl lb w v25:=hw5.ext e26
    obtain⟨pz27,hpz27,hcz27⟩:=(((((o_NAwp.ext (e9.trans e12)).updO uo18 hA.RN).updO uo24 hA.RN).ext e26)).numAt (i:=k) (by omega)
    obtain⟨pz28,hpz28,hcz28⟩:=(((((o_NAwp.ext (e9.trans e12)).updO uo18 hA.RN).updO uo24 hA.RN).ext e26)).numAt (i:=p) (by omega)
    have lt29:=((((o_NAwp.ext (e9.trans e12)).updO uo18 hA.RN).updO uo24 hA.RN).ext e26)
    obtain⟨v30,hr31,own32,uo33⟩:=run_setNum lt29 (by omega) hpz28 (ns.getD k 0)
    have hw7:Bl lb w v30:=hw6.updO uo33 (fun p hp=>(lt29.block p hp).1)
    obtain⟨pz34,hpz34,hcz34⟩:=(own32).numAt (i:=k) (by omega)
    have lt35:=own32
    obtain⟨v36,hr37,own38,uo39⟩:=run_setNum lt35 (by omega) hpz34 (ns.getD p 0)
    have hw8:Bl lb w v36:=hw7.updO uo39 (fun p hp=>(lt35.block p hp).1)
    refine cw_det mix (w:=v25) [.pointer (some ⟨g,0,none⟩),.pointer (some ⟨g,0,none⟩),.pointer (some ⟨g,1,none⟩),.slice NA n ncap,.int .i64 ((p:Nat):Int),.pointer (some ⟨g,0,none⟩),.pointer (some ⟨g,0,none⟩),.pointer (some ⟨g,1,none⟩),.slice NA n ncap,.int .i64 ((k:Nat):Int),.pointer (some ⟨g,0,none⟩),.pointer (some ⟨g,0,none⟩),.pointer (some ⟨g,1,none⟩),.slice NA n ncap,.int .i64 ((k:Nat):Int),.pointer (some pz27),.int .i64 (ns.getD k 0),.pointer (some ⟨g,0,none⟩),.pointer (some ⟨g,0,none⟩),.pointer (some ⟨g,1,none⟩),.slice NA n ncap,.int .i64 ((p:Nat):Int),.pointer (some pz28),.int .i64 (ns.getD p 0),.pointer (some pz28),undef,.pointer (some pz34),undef] [v25,v30,v36] [25,27] [[],[0],[1],[2],[],[],[5],[6],[7],[],[],[10],[11],[12],[],[13,14],[15],[],[17],[18],[19],[],[20,21],[22],[3,4],[16,24],[8,9],[23,26]] [[],[0],[0,1],[0,1,2],[],[],[5],[5,6],[5,6,7],[],[],[10],[10,11],[10,11,12],[],[10,11,12,13,14],[10,11,12,13,14,15],[],[17],[17,18],[17,18,19],[],[17,18,19,20,21],[17,18,19,20,21,22],[0,1,2,3,4,5,6,7,8,10,11,12,13,14,15,16,17,18,19,20,21,22,23],[0,1,2,3,4,5,6,7,8,10,11,12,13,14,15,16,17,18,19,20,21,22,23,24],[0,1,2,3,4,5,6,7,8,9,10,11,12,13,14,15,16,17,18,19,20,21,22,23,24,25],[0,1,2,3,4,5,6,7,8,9,10,11,12,13,14,15,16,17,18,19,20,21,22,23,24,25,26]] [(0,0),(1,0),(2,0),(3,0),(4,0),(5,0),(6,0),(7,0),(8,0),(9,0),(9,1),(10,0),(11,0),(12,0),(13,0),(14,0),(15,0),(16,0),(17,0),(18,0),(19,0),(20,0),(21,0),(22,0),(23,0),(24,0),(25,0),(26,1),(27,1)] rfl hv ?_ ?_
    · 
     refine dobs_val _ rfl rfl rfl rfl rfl (rd_move rfl) (dobs_val _ rfl rfl rfl rfl rfl (rd_pure rfl (by kernel_rfl)) (dobs_val _ rfl rfl rfl rfl rfl (rd_pure rfl (by kernel_rfl)) (dobs_val _ rfl rfl rfl rfl rfl (rd_load rfl (load_cell cellNums ((((b_g.ext (e9.trans e12)).updO uo18 hA.Rg).updO uo24 hA.Rg).ext e26) rfl)) (dobs_val _ rfl rfl rfl rfl rfl (rd_move rfl) (dobs_val _ rfl rfl rfl rfl rfl (rd_move rfl) (dobs_val _ rfl rfl rfl rfl rfl (rd_pure rfl (by kernel_rfl)) (dobs_val _ rfl rfl rfl rfl rfl (rd_pure rfl (by kernel_rfl)) (dobs_val _ rfl rfl rfl rfl rfl (rd_load rfl (load_cell cellNums ((((b_g.ext (e9.trans e12)).updO uo18 hA.Rg).updO uo24 hA.Rg).ext e26) rfl)) (dobs_val _ rfl rfl rfl rfl rfl (rd_move rfl) (dobs_val _ rfl rfl rfl rfl rfl (rd_move rfl) (dobs_val _ rfl rfl rfl rfl rfl (rd_move rfl) (dobs_val _ rfl rfl rfl rfl rfl (rd_pure rfl (by kernel_rfl)) (dobs_val _ rfl rfl rfl rfl rfl (rd_pure rfl (by kernel_rfl)) ?_)))))))))))))
     refine dobs_val _ rfl rfl rfl rfl rfl (rd_load rfl (load_cell cellNums ((((b_g.ext (e9.trans e12)).updO uo18 hA.Rg).updO uo24 hA.Rg).ext e26) rfl)) (dobs_val _ rfl rfl rfl rfl rfl (rd_move rfl) (dobs_val _ rfl rfl rfl rfl rfl (rd_idx rfl rfl Try.underlying73 szInt k rfl (by omega) pz27 hpz27) (dobs_val _ rfl rfl rfl rfl rfl (rd_load rfl (load_cell1 cellInt hcz27)) (dobs_val _ rfl rfl rfl rfl rfl (rd_move rfl) (dobs_val _ rfl rfl rfl rfl rfl (rd_pure rfl (by kernel_rfl)) (dobs_val _ rfl rfl rfl rfl rfl (rd_pure rfl (by kernel_rfl)) (dobs_val _ rfl rfl rfl rfl rfl (rd_load rfl (load_cell cellNums ((((b_g.ext (e9.trans e12)).updO uo18 hA.Rg).updO uo24 hA.Rg).ext e26) rfl)) (dobs_val _ rfl rfl rfl rfl rfl (rd_move rfl) (dobs_val _ rfl rfl rfl rfl rfl (rd_idx rfl rfl Try.underlying73 szInt p rfl (by omega) pz28 hpz28) (dobs_val _ rfl rfl rfl rfl rfl (rd_load rfl (load_cell1 cellInt hcz28)) (dobs_val _ rfl rfl rfl rfl rfl (rd_idx rfl rfl Try.underlying73 szInt p rfl (by omega) pz28 hpz28) (dobs_sto _ rfl rfl rfl rfl rfl (rd_store rfl rfl hr31) (dobs_val _ rfl rfl rfl rfl rfl (rd_idx rfl rfl Try.underlying73 szInt k rfl (by omega) pz34 hpz34) ?_)))))))))))))
     refine dobs_sto _ rfl rfl rfl rfl rfl (rd_store rfl rfl hr37) ?_
     exact dobs_nil
    clear hv
    refine eo_keep [(0,.pointer (some ⟨g,0,none⟩)),(1,.int .i64 ((k:Nat):Int)),(4,.bool false),(5,.int .i64 ((k:Nat):Int)),(6,.int .i64 ((p:Nat):Int)),(13,.pointer (some ⟨g,0,none⟩)),(14,.pointer (some ⟨g,0,none⟩)),(15,.pointer (some ⟨g,5,none⟩)),(16,.int .i64 ((k:Nat):Int)),(17,.int .i64 ((k:Nat):Int)),(18,.int .i64 ((p:Nat):Int)),(19,.pointer (some ⟨g,0,none⟩)),(20,.pointer (some ⟨g,0,none⟩)),(21,.pointer (some ⟨g,0,none⟩)),(22,.slice RA n rcap),(23,.int .i64 ((n:Nat):Int)),(24,.bool true),(25,.bool true),(26,.pointer (some ⟨g,0,none⟩)),(27,.pointer (some ⟨g,0,none⟩)),(28,.pointer (some ⟨g,0,none⟩)),(29,.slice RA n rcap),(30,.int .i64 ((p:Nat):Int)),(31,.pointer (some pz6)),(32,.slice (ra (ps.getD p 0)) n (rc (ps.getD p 0))),(33,.int .i64 ((k:Nat):Int)),(34,.pointer (some pz7)),(35,.agg #[.bool sz7,.slice Bz7 nz7 cz7]),(36,.int .i64 (scmp (Z (ps.getD p 0) k) 0)),(37,.bool false),(38,.bool false),(41,.int .i64 ((p:Nat):Int)),(42,.pointer (some ⟨g,0,none⟩)),(43,.pointer (some ⟨g,0,none⟩)),(44,.pointer (some ⟨g,0,none⟩)),(45,.slice RA n rcap),(46,.int .i64 ((n:Nat):Int)),(47,.bool false),(48,.int .i64 ((p:Nat):Int)),(49,.int .i64 ((k:Nat):Int)),(50,.bool true),(51,.pointer (some ⟨g,0,none⟩)),(52,.pointer (some ⟨g,0,none⟩)),(53,.pointer (some ⟨g,0,none⟩)),(54,.slice RA n rcap),(55,.int .i64 ((p:Nat):Int)),(56,.pointer (some ⟨g,0,none⟩)),(57,.pointer (some ⟨g,0,none⟩)),(58,.pointer (some ⟨g,0,none⟩)),(59,.slice RA n rcap),(60,.int .i64 ((k:Nat):Int)),(61,.pointer (some ⟨g,0,none⟩)),(62,.pointer (some ⟨g,0,none⟩)),(63,.pointer (some ⟨g,0,none⟩)),(64,.slice RA n rcap),(65,.int .i64 ((k:Nat):Int)),(66,.pointer (some pz13)),(67,.slice (ra (ps.getD k 0)) n (rc (ps.getD k 0))),(68,.pointer (some ⟨g,0,none⟩)),(69,.pointer (some ⟨g,0,none⟩)),(70,.pointer (some ⟨g,0,none⟩)),(71,.slice RA n rcap),(72,.int .i64 ((p:Nat):Int)),(73,.pointer (some pz6)),(74,.slice (ra (ps.getD p 0)) n (rc (ps.getD p 0))),(75,.pointer (some pz6)),(76,.pointer (some pz19)),(77,.pointer (some ⟨g,0,none⟩)),(78,.pointer (some ⟨g,0,none⟩)),(79,.pointer (some ⟨g,1,none⟩)),(80,.slice NA n ncap),(81,.int .i64 ((p:Nat):Int)),(82,.pointer (some ⟨g,0,none⟩)),(83,.pointer (some ⟨g,0,none⟩)),(84,.pointer (some ⟨g,1,none⟩)),(85,.slice NA n ncap),(86,.int .i64 ((k:Nat):Int)),(87,.pointer (some ⟨g,0,none⟩)),(88,.pointer (some ⟨g,0,none⟩)),(89,.pointer (some ⟨g,1,none⟩)),(90,.slice NA n ncap),(91,.int .i64 ((k:Nat):Int)),(92,.pointer (some pz27)),(93,.int .i64 (ns.getD k 0)),(94,.pointer (some ⟨g,0,none⟩)),(95,.pointer (some ⟨g,0,none⟩)),(96,.pointer (some ⟨g,1,none⟩)),(97,.slice NA n ncap),(98,.int .i64 ((p:Nat):Int)),(99,.pointer (some pz28)),(100,.int .i64 (ns.getD p 0)),(101,.pointer (some pz28)),(102,.pointer (some pz34))] ⟨rfl,rfl,rfl,rfl,rfl,rfl,rfl,rfl,rfl,rfl,rfl,rfl,rfl,rfl,rfl,rfl,rfl,rfl,rfl,rfl,rfl,rfl,rfl,rfl,rfl,rfl,rfl,rfl,rfl,rfl,rfl,rfl,rfl,rfl,rfl,rfl,rfl,rfl,rfl,rfl,rfl,rfl,rfl,rfl,rfl,rfl,rfl,rfl,rfl,rfl,rfl,rfl,rfl,rfl,rfl,rfl,rfl,rfl,rfl,rfl,rfl,rfl,rfl,rfl,rfl,rfl,rfl,rfl,rfl,rfl,rfl,rfl,rfl,rfl,rfl,rfl,rfl,rfl,rfl,rfl,rfl,rfl,rfl,rfl,rfl,rfl,rfl,rfl,rfl,rfl,rfl,rfl,rfl,trivial⟩ (eo_then (cw_region (mv 2 rfl (pf g 0 rfl (by kernel_rfl) (pf g 2 rfl (by kernel_rfl) (wl_load rfl rfl (load_cell cellBool ((((((b_g.ext (e9.trans e12)).updO uo18 hA.Rg).updO uo24 hA.Rg).ext e26).updO uo33 hA.Ng).updO uo39 hA.Ng) rfl) (by decide) (pu (v:= .bool (!tu)) rfl (by kernel_rfl) (pf g 0 rfl (by kernel_rfl) (pf g 2 rfl (by kernel_rfl) ?_)))))))))
    have hb41:=((((((b_g.ext (e9.trans e12)).updO uo18 hA.Rg).updO uo24 hA.Rg).ext e26).updO uo33 hA.Ng).updO uo39 hA.Ng)
    refine wl_stored1 rfl rfl rfl szBool rfl hb41 (bq rfl) rfl [.slice RA n rcap,.slice NA n ncap,.bool (!tu),.bool sl,.slice Al nl cl,.int .i64 ((k:Nat):Int)] rfl fun v40 hb42 u43 hs44=>?_
    have hw9:Bl lb w v40:=hw8.upd u43 hA.lg
    refine ne_ (cw_seq ?_)
    obtain⟨qs,hqs⟩:∃qs,qs=swp ps p k:=⟨_,rfl⟩
    have hI:Inv n X k qs Z (!tu) z:=by rw [hqs];exact hI0.swp (by omega) hkp hpn hpk
    have hD:Z (qs.getD k 0) k≠0:=by rw [hqs,swp_get hI0.per.len hpn (by omega),if_pos rfl];exact hzp
    have ow45:Own v40 lb 22 1 RA n rcap (qs.map (rwv ra rc n)):=by rw [hqs];exact ((((own23.ext e26).updO uo33 (fun p q hp hq e=>hA.RN q p hq hp e.symm)).updO uo39 (fun p q hp hq e=>hA.RN q p hq hp e.symm)).upd u43 hA.Rg)
    have hDb:bm (pr X qs) k k k≠0:=by rw [←hI.ent k k (Nat.le_refl _) (by omega) (Nat.le_refl _) (by omega)];exact hD
    refine cw_region (mv 1 rfl (pf g 0 rfl (by kernel_rfl) (pf g 0 rfl (by kernel_rfl) (wl_load rfl rfl (load_cell cellRows hb42 rfl) (by decide) (mv 1 rfl ?_)))))
    obtain⟨pz46,hpz46,hcz46⟩:=(ow45).rowAt (i:=k) (by omega)
    refine wl_idx rfl rfl rfl unRows szInts k rfl (by omega) pz46 hpz46 (by decide) (wl_load rfl rfl (load_cell1 cellInts hcz46) (by decide) (mv 1 rfl (ne_ (cw_seq (sr (mv 1 rfl (pf g 0 rfl (by kernel_rfl) (pf g 0 rfl (by kernel_rfl) (wl_load rfl rfl (load_cell cellRows hb42 rfl) (by decide) (mv 1 rfl (wl_ar rfl rfl rfl ((k+1:Nat):Int) (ai_add (a:=k) (b:=1) rfl rfl (by omega)) (by decide) (wl_slice rfl rfl unRows szInts (lo:=k+1) (hi:=n) rfl rfl (by omega) hcap (v:= .slice (if rcap=k+1 then RA else RA.map (·.add ((k+1)*1))) (n-(k+1)) (rcap-(k+1))) rfl (by decide) (pu (v:= .int .i64 ((n-(k+1):Nat):Int)) rfl (by kernel_rfl) ?_)))))))))))))
    refine mv 1 rfl (ne_ (cw_block ?_))
    refine cw_loop (T:=World×Nat×Mx) (fun⟨wt,t,Y⟩=> [(0,.pointer (some ⟨g,0,none⟩)),(1,.int .i64 ((k:Nat):Int)),(4,.bool false),(5,.int .i64 ((k:Nat):Int)),(6,.int .i64 ((p:Nat):Int)),(7,.slice (ra (qs.getD k 0)) n (rc (qs.getD k 0))),(13,.pointer (some ⟨g,0,none⟩)),(14,.pointer (some ⟨g,0,none⟩)),(15,.pointer (some ⟨g,5,none⟩)),(16,.int .i64 ((k:Nat):Int)),(17,.int .i64 ((k:Nat):Int)),(18,.int .i64 ((p:Nat):Int)),(19,.pointer (some ⟨g,0,none⟩)),(20,.pointer (some ⟨g,0,none⟩)),(21,.pointer (some ⟨g,0,none⟩)),(22,.slice RA n rcap),(23,.int .i64 ((n:Nat):Int)),(24,.bool true),(25,.bool true),(26,.pointer (some ⟨g,0,none⟩)),(27,.pointer (some ⟨g,0,none⟩)),(28,.pointer (some ⟨g,0,none⟩)),(29,.slice RA n rcap),(30,.int .i64 ((p:Nat):Int)),(31,.pointer (some pz6)),(32,.slice (ra (ps.getD p 0)) n (rc (ps.getD p 0))),(33,.int .i64 ((k:Nat):Int)),(34,.pointer (some pz7)),(35,.agg #[.bool sz7,.slice Bz7 nz7 cz7]),(36,.int .i64 (scmp (Z (ps.getD p 0) k) 0)),(37,.bool false),(38,.bool false),(41,.int .i64 ((p:Nat):Int)),(42,.pointer (some ⟨g,0,none⟩)),(43,.pointer (some ⟨g,0,none⟩)),(44,.pointer (some ⟨g,0,none⟩)),(45,.slice RA n rcap),(46,.int .i64 ((n:Nat):Int)),(47,.bool false),(48,.int .i64 ((p:Nat):Int)),(49,.int .i64 ((k:Nat):Int)),(50,.bool true),(51,.pointer (some ⟨g,0,none⟩)),(52,.pointer (some ⟨g,0,none⟩)),(53,.pointer (some ⟨g,0,none⟩)),(54,.slice RA n rcap),(55,.int .i64 ((p:Nat):Int)),(56,.pointer (some ⟨g,0,none⟩)),(57,.pointer (some ⟨g,0,none⟩)),(58,.pointer (some ⟨g,0,none⟩)),(59,.slice RA n rcap),(60,.int .i64 ((k:Nat):Int)),(61,.pointer (some ⟨g,0,none⟩)),(62,.pointer (some ⟨g,0,none⟩)),(63,.pointer (some ⟨g,0,none⟩)),(64,.slice RA n rcap),(65,.int .i64 ((k:Nat):Int)),(66,.pointer (some pz13)),(67,.slice (ra (ps.getD k 0)) n (rc (ps.getD k 0))),(68,.pointer (some ⟨g,0,none⟩)),(69,.pointer (some ⟨g,0,none⟩)),(70,.pointer (some ⟨g,0,none⟩)),(71,.slice RA n rcap),(72,.int .i64 ((p:Nat):Int)),(73,.pointer (some pz6)),(74,.slice (ra (ps.getD p 0)) n (rc (ps.getD p 0))),(75,.pointer (some pz6)),(76,.pointer (some pz19)),(77,.pointer (some ⟨g,0,none⟩)),(78,.pointer (some ⟨g,0,none⟩)),(79,.pointer (some ⟨g,1,none⟩)),(80,.slice NA n ncap),(81,.int .i64 ((p:Nat):Int)),(82,.pointer (some ⟨g,0,none⟩)),(83,.pointer (some ⟨g,0,none⟩)),(84,.pointer (some ⟨g,1,none⟩)),(85,.slice NA n ncap),(86,.int .i64 ((k:Nat):Int)),(87,.pointer (some ⟨g,0,none⟩)),(88,.pointer (some ⟨g,0,none⟩)),(89,.pointer (some ⟨g,1,none⟩)),(90,.slice NA n ncap),(91,.int .i64 ((k:Nat):Int)),(92,.pointer (some pz27)),(93,.int .i64 (ns.getD k 0)),(94,.pointer (some ⟨g,0,none⟩)),(95,.pointer (some ⟨g,0,none⟩)),(96,.pointer (some ⟨g,1,none⟩)),(97,.slice NA n ncap),(98,.int .i64 ((p:Nat):Int)),(99,.pointer (some pz28)),(100,.int .i64 (ns.getD p 0)),(101,.pointer (some pz28)),(102,.pointer (some pz34)),(103,.pointer (some ⟨g,0,none⟩)),(104,.pointer (some ⟨g,0,none⟩)),(105,.pointer (some ⟨g,0,none⟩)),(106,.pointer (some ⟨g,2,none⟩)),(107,.bool tu),(108,.bool (!tu)),(109,.pointer (some ⟨g,0,none⟩)),(110,.pointer (some ⟨g,2,none⟩)),(111,.pointer (some ⟨g,0,none⟩)),(112,.pointer (some ⟨g,0,none⟩)),(113,.pointer (some ⟨g,0,none⟩)),(114,.slice RA n rcap),(115,.int .i64 ((k:Nat):Int)),(116,.pointer (some pz46)),(117,.slice (ra (qs.getD k 0)) n (rc (qs.getD k 0))),(118,.pointer (some ⟨g,0,none⟩)),(119,.pointer (some ⟨g,0,none⟩)),(120,.pointer (some ⟨g,0,none⟩)),(121,.slice RA n rcap),(122,.int .i64 ((k:Nat):Int)),(123,.int .i64 ((k+1:Nat):Int)),(124,.slice (if rcap=k+1 then RA else RA.map (·.add ((k+1)*1))) (n-(k+1)) (rcap-(k+1))),(125,.int .i64 ((n-(k+1):Nat):Int)),(126,.int .i64 ((t:Nat):Int))]) (fun⟨wt,t,Y⟩=>wt) (fun⟨wt,t,Y⟩=>(Bl lb w wt)∧(t≤n-(k+1))∧(Bk wt g 75 [.slice RA n rcap,.slice NA n ncap,.bool (!tu),.bool sl,.slice Al nl cl,.int .i64 ((k:Nat):Int)])∧(Zr wt 0 sl Al nl cl (z))∧(Own wt lb 22 1 RA n rcap (qs.map (rwv ra rc n)))∧(Own wt lb 3 1 NA n ncap (((ns.set p (ns.getD k 0)).set k (ns.getD p 0)).map I64))∧(Rcs 17179869184 lb n n ra rc wt Y)∧(Mid n k (pr X qs) qs Y (k+1+t) (k+1))) (fun⟨wt,t,Y⟩=>(n-(k+1))-t)
     (⟨v40,0,Z⟩:World×Nat×Mx) ⟨hw9,(by omega),hb42,(((((((z_g_1.ext (e9.trans e12)).updOT lt14 uo18).updOT lt20 uo24).ext e26).updOT lt29 uo33).updOT lt35 uo39).updT hb41 u43),ow45,(own38.upd u43 hA.Ng),(((((((rc_wp.ext (e9.trans e12)).updQ lt14 uo18 hA.Rr).updQ lt20 uo24 hA.Rr).ext e26).updQ lt29 uo33 hA.Nr).updQ lt35 uo39 hA.Nr).updT hb41 u43 hA.rg),(Mid.start hI)⟩ rfl ⟨rfl,rfl,rfl,rfl,rfl,rfl,rfl,rfl,rfl,rfl,rfl,rfl,rfl,rfl,rfl,rfl,rfl,rfl,rfl,rfl,rfl,rfl,rfl,rfl,rfl,rfl,rfl,rfl,rfl,rfl,rfl,rfl,rfl,rfl,rfl,rfl,rfl,rfl,rfl,rfl,rfl,rfl,rfl,rfl,rfl,rfl,rfl,rfl,rfl,rfl,rfl,rfl,rfl,rfl,rfl,rfl,rfl,rfl,rfl,rfl,rfl,rfl,rfl,rfl,rfl,rfl,rfl,rfl,rfl,rfl,rfl,rfl,rfl,rfl,rfl,rfl,rfl,rfl,rfl,rfl,rfl,rfl,rfl,rfl,rfl,rfl,rfl,rfl,rfl,rfl,rfl,rfl,rfl,rfl,rfl,rfl,rfl,rfl,rfl,rfl,rfl,rfl,rfl,rfl,rfl,rfl,rfl,rfl,rfl,rfl,rfl,rfl,rfl,rfl,rfl,rfl,rfl,rfl,trivial⟩ ?_
    rintro⟨wt,t,Y⟩ ⟨hw1,hi_t,b_g,z_g_1,o_RAwt,o_NAwt,rc_wt,hM⟩
    refine cw_re [(0,.pointer (some ⟨g,0,none⟩)),(1,.int .i64 ((k:Nat):Int)),(4,.bool false),(5,.int .i64 ((k:Nat):Int)),(6,.int .i64 ((p:Nat):Int)),(7,.slice (ra (qs.getD k 0)) n (rc (qs.getD k 0))),(13,.pointer (some ⟨g,0,none⟩)),(14,.pointer (some ⟨g,0,none⟩)),(15,.pointer (some ⟨g,5,none⟩)),(16,.int .i64 ((k:Nat):Int)),(17,.int .i64 ((k:Nat):Int)),(18,.int .i64 ((p:Nat):Int)),(19,.pointer (some ⟨g,0,none⟩)),(20,.pointer (some ⟨g,0,none⟩)),(21,.pointer (some ⟨g,0,none⟩)),(22,.slice RA n rcap),(23,.int .i64 ((n:Nat):Int)),(24,.bool true),(25,.bool true),(26,.pointer (some ⟨g,0,none⟩)),(27,.pointer (some ⟨g,0,none⟩)),(28,.pointer (some ⟨g,0,none⟩)),(29,.slice RA n rcap),(30,.int .i64 ((p:Nat):Int)),(31,.pointer (some pz6)),(32,.slice (ra (ps.getD p 0)) n (rc (ps.getD p 0))),(33,.int .i64 ((k:Nat):Int)),(34,.pointer (some pz7)),(35,.agg #[.bool sz7,.slice Bz7 nz7 cz7]),(36,.int .i64 (scmp (Z (ps.getD p 0) k) 0)),(37,.bool false),(38,.bool false),(41,.int .i64 ((p:Nat):Int)),(42,.pointer (some ⟨g,0,none⟩)),(43,.pointer (some ⟨g,0,none⟩)),(44,.pointer (some ⟨g,0,none⟩)),(45,.slice RA n rcap),(46,.int .i64 ((n:Nat):Int)),(47,.bool false),(48,.int .i64 ((p:Nat):Int)),(49,.int .i64 ((k:Nat):Int)),(50,.bool true),(51,.pointer (some ⟨g,0,none⟩)),(52,.pointer (some ⟨g,0,none⟩)),(53,.pointer (some ⟨g,0,none⟩)),(54,.slice RA n rcap),(55,.int .i64 ((p:Nat):Int)),(56,.pointer (some ⟨g,0,none⟩)),(57,.pointer (some ⟨g,0,none⟩)),(58,.pointer (some ⟨g,0,none⟩)),(59,.slice RA n rcap),(60,.int .i64 ((k:Nat):Int)),(61,.pointer (some ⟨g,0,none⟩)),(62,.pointer (some ⟨g,0,none⟩)),(63,.pointer (some ⟨g,0,none⟩)),(64,.slice RA n rcap),(65,.int .i64 ((k:Nat):Int)),(66,.pointer (some pz13)),(67,.slice (ra (ps.getD k 0)) n (rc (ps.getD k 0))),(68,.pointer (some ⟨g,0,none⟩)),(69,.pointer (some ⟨g,0,none⟩)),(70,.pointer (some ⟨g,0,none⟩)),(71,.slice RA n rcap),(72,.int .i64 ((p:Nat):Int)),(73,.pointer (some pz6)),(74,.slice (ra (ps.getD p 0)) n (rc (ps.getD p 0))),(75,.pointer (some pz6)),(76,.pointer (some pz19)),(77,.pointer (some ⟨g,0,none⟩)),(78,.pointer (some ⟨g,0,none⟩)),(79,.pointer (some ⟨g,1,none⟩)),(80,.slice NA n ncap),(81,.int .i64 ((p:Nat):Int)),(82,.pointer (some ⟨g,0,none⟩)),(83,.pointer (some ⟨g,0,none⟩)),(84,.pointer (some ⟨g,1,none⟩)),(85,.slice NA n ncap),(86,.int .i64 ((k:Nat):Int)),(87,.pointer (some ⟨g,0,none⟩)),(88,.pointer (some ⟨g,0,none⟩)),(89,.pointer (some ⟨g,1,none⟩)),(90,.slice NA n ncap),(91,.int .i64 ((k:Nat):Int)),(92,.pointer (some pz27)),(93,.int .i64 (ns.getD k 0)),(94,.pointer (some ⟨g,0,none⟩)),(95,.pointer (some ⟨g,0,none⟩)),(96,.pointer (some ⟨g,1,none⟩)),(97,.slice NA n ncap),(98,.int .i64 ((p:Nat):Int)),(99,.pointer (some pz28)),(100,.int .i64 (ns.getD p 0)),(101,.pointer (some pz28)),(102,.pointer (some pz34)),(103,.pointer (some ⟨g,0,none⟩)),(104,.pointer (some ⟨g,0,none⟩)),(105,.pointer (some ⟨g,0,none⟩)),(106,.pointer (some ⟨g,2,none⟩)),(107,.bool tu),(108,.bool (!tu)),(109,.pointer (some ⟨g,0,none⟩)),(110,.pointer (some ⟨g,2,none⟩)),(111,.pointer (some ⟨g,0,none⟩)),(112,.pointer (some ⟨g,0,none⟩)),(113,.pointer (some ⟨g,0,none⟩)),(114,.slice RA n rcap),(115,.int .i64 ((k:Nat):Int)),(116,.pointer (some pz46)),(117,.slice (ra (qs.getD k 0)) n (rc (qs.getD k 0))),(118,.pointer (some ⟨g,0,none⟩)),(119,.pointer (some ⟨g,0,none⟩)),(120,.pointer (some ⟨g,0,none⟩)),(121,.slice RA n rcap),(122,.int .i64 ((k:Nat):Int)),(123,.int .i64 ((k+1:Nat):Int)),(124,.slice (if rcap=k+1 then RA else RA.map (·.add ((k+1)*1))) (n-(k+1)) (rcap-(k+1))),(125,.int .i64 ((n-(k+1):Nat):Int)),(126,.int .i64 ((t:Nat):Int))] wt rfl ⟨rfl,rfl,rfl,rfl,rfl,rfl,rfl,rfl,rfl,rfl,rfl,rfl,rfl,rfl,rfl,rfl,rfl,rfl,rfl,rfl,rfl,rfl,rfl,rfl,rfl,rfl,rfl,rfl,rfl,rfl,rfl,rfl,rfl,rfl,rfl,rfl,rfl,rfl,rfl,rfl,rfl,rfl,rfl,rfl,rfl,rfl,rfl,rfl,rfl,rfl,rfl,rfl,rfl,rfl,rfl,rfl,rfl,rfl,rfl,rfl,rfl,rfl,rfl,rfl,rfl,rfl,rfl,rfl,rfl,rfl,rfl,rfl,rfl,rfl,rfl,rfl,rfl,rfl,rfl,rfl,rfl,rfl,rfl,rfl,rfl,rfl,rfl,rfl,rfl,rfl,rfl,rfl,rfl,rfl,rfl,rfl,rfl,rfl,rfl,rfl,rfl,rfl,rfl,rfl,rfl,rfl,rfl,rfl,rfl,rfl,rfl,rfl,rfl,rfl,rfl,rfl,rfl,rfl,trivial⟩ (cw_seq ?_)
    by_cases htn:t<n-(k+1)
    · 
     refine cw_region (wl_cmp rfl rfl rfl true (cb_lt_t (a:=t) (b:=n-(k+1)) rfl rfl (by omega)) (by decide) (ne_ (cw_seq (cw_true rfl (cw_skip (eo_then (cw_seq (cw_block (sr ?_)))))))))
     obtain⟨pz47,hpz47,hcz47⟩:=(o_RAwt).rowTail (lo:=k+1) (i:=t) (by omega)
     refine wl_idx rfl rfl rfl unRows szInts t rfl (by omega) pz47 hpz47 (by decide) (wl_load rfl rfl (load_cell1 cellInts hcz47) (by decide) (mv 1 rfl (ne_ (sr (mv 2 rfl ?_)))))
     obtain⟨pz48,sz48,Bz48,nz48,cz48,hpz48,ldz48,hKz48,zz48⟩:=(rc_wt).at (hI.per.lt (k+1+t) (by omega)) (show k<n by omega)
     refine wl_idx rfl rfl rfl elemI aggInt.size k rfl (by omega) pz48 hpz48 (by decide) (wl_load rfl rfl (ldz48 _ (Ext.refl _) _ _ aggInt) (by decide) (wl_alloc rfl (z:= .agg #[F0,S0]) (vs:= [F0,S0]) (fun _=>by kernel_rfl) rfl (by decide) fun g49 v50 nb=>?_))
     have hb52:=nb.bk
     have ge53:w.heap.size≤g49:=by rw [←nb.at_];exact hw1.size
     have q54:g<g49:=by rw [←nb.at_];exact b_g.lt
     have ne55:∀p:Addr,RA=some p→p.block≠g49:=fun p hp=>by have:=((o_RAwt).block p hp).2;have:=nb.at_;omega
     have ne56:∀p:Addr,NA=some p→p.block≠g49:=fun p hp=>by have:=((o_NAwt).block p hp).2;have:=nb.at_;omega
     have nr57:∀r,r<n→∀p:Addr,ra r=some p→p.block≠g49:=fun r hr p hp=>by have:=((rc_wt).lt r hr p hp).2;have:=nb.at_;omega
     have e51:=nb.ext
     clear nb
     have hw2:Bl lb w v50:=hw1.ext e51
     refine wl_stored rfl rfl rfl aggInt rfl hb52 (bq rfl) rfl [.bool sz48,.slice Bz48 nz48 cz48] rfl fun v58 hb60 u61 hs62=>?_
     have hw3:Bl lb w v58:=hw2.upd u61 (Nat.le_trans hlb ge53)
     refine ne_ (cw_seq (sr (mv 1 rfl (wl_ar rfl rfl rfl ((k+1:Nat):Int) (ai_add (a:=k) (b:=1) rfl rfl (by omega)) (by decide) (mv 1 rfl (ne_ (cw_block ?_)))))))
     refine cw_loop (T:=World×Nat×Mx) (fun⟨wj,j,V⟩=> [(0,.pointer (some ⟨g,0,none⟩)),(1,.int .i64 ((k:Nat):Int)),(4,.bool false),(5,.int .i64 ((k:Nat):Int)),(6,.int .i64 ((p:Nat):Int)),(7,.slice (ra (qs.getD k 0)) n (rc (qs.getD k 0))),(9,.slice (ra (qs.getD (k+1+t) 0)) n (rc (qs.getD (k+1+t) 0))),(10,.pointer (some ⟨g49,0,none⟩)),(11,.int .i64 ((j:Nat):Int)),(13,.pointer (some ⟨g,0,none⟩)),(14,.pointer (some ⟨g,0,none⟩)),(15,.pointer (some ⟨g,5,none⟩)),(16,.int .i64 ((k:Nat):Int)),(17,.int .i64 ((k:Nat):Int)),(18,.int .i64 ((p:Nat):Int)),(19,.pointer (some ⟨g,0,none⟩)),(20,.pointer (some ⟨g,0,none⟩)),(21,.pointer (some ⟨g,0,none⟩)),(22,.slice RA n rcap),(23,.int .i64 ((n:Nat):Int)),(24,.bool true),(25,.bool true),(26,.pointer (some ⟨g,0,none⟩)),(27,.pointer (some ⟨g,0,none⟩)),(28,.pointer (some ⟨g,0,none⟩)),(29,.slice RA n rcap),(30,.int .i64 ((p:Nat):Int)),(31,.pointer (some pz6)),(32,.slice (ra (ps.getD p 0)) n (rc (ps.getD p 0))),(33,.int .i64 ((k:Nat):Int)),(34,.pointer (some pz7)),(35,.agg #[.bool sz7,.slice Bz7 nz7 cz7]),(36,.int .i64 (scmp (Z (ps.getD p 0) k) 0)),(37,.bool false),(38,.bool false),(41,.int .i64 ((p:Nat):Int)),(42,.pointer (some ⟨g,0,none⟩)),(43,.pointer (some ⟨g,0,none⟩)),(44,.pointer (some ⟨g,0,none⟩)),(45,.slice RA n rcap),(46,.int .i64 ((n:Nat):Int)),(47,.bool false),(48,.int .i64 ((p:Nat):Int)),(49,.int .i64 ((k:Nat):Int)),(50,.bool true),(51,.pointer (some ⟨g,0,none⟩)),(52,.pointer (some ⟨g,0,none⟩)),(53,.pointer (some ⟨g,0,none⟩)),(54,.slice RA n rcap),(55,.int .i64 ((p:Nat):Int)),(56,.pointer (some ⟨g,0,none⟩)),(57,.pointer (some ⟨g,0,none⟩)),(58,.pointer (some ⟨g,0,none⟩)),(59,.slice RA n rcap),(60,.int .i64 ((k:Nat):Int)),(61,.pointer (some ⟨g,0,none⟩)),(62,.pointer (some ⟨g,0,none⟩)),(63,.pointer (some ⟨g,0,none⟩)),(64,.slice RA n rcap),(65,.int .i64 ((k:Nat):Int)),(66,.pointer (some pz13)),(67,.slice (ra (ps.getD k 0)) n (rc (ps.getD k 0))),(68,.pointer (some ⟨g,0,none⟩)),(69,.pointer (some ⟨g,0,none⟩)),(70,.pointer (some ⟨g,0,none⟩)),(71,.slice RA n rcap),(72,.int .i64 ((p:Nat):Int)),(73,.pointer (some pz6)),(74,.slice (ra (ps.getD p 0)) n (rc (ps.getD p 0))),(75,.pointer (some pz6)),(76,.pointer (some pz19)),(77,.pointer (some ⟨g,0,none⟩)),(78,.pointer (some ⟨g,0,none⟩)),(79,.pointer (some ⟨g,1,none⟩)),(80,.slice NA n ncap),(81,.int .i64 ((p:Nat):Int)),(82,.pointer (some ⟨g,0,none⟩)),(83,.pointer (some ⟨g,0,none⟩)),(84,.pointer (some ⟨g,1,none⟩)),(85,.slice NA n ncap),(86,.int .i64 ((k:Nat):Int)),(87,.pointer (some ⟨g,0,none⟩)),(88,.pointer (some ⟨g,0,none⟩)),(89,.pointer (some ⟨g,1,none⟩)),(90,.slice NA n ncap),(91,.int .i64 ((k:Nat):Int)),(92,.pointer (some pz27)),(93,.int .i64 (ns.getD k 0)),(94,.pointer (some ⟨g,0,none⟩)),(95,.pointer (some ⟨g,0,none⟩)),(96,.pointer (some ⟨g,1,none⟩)),(97,.slice NA n ncap),(98,.int .i64 ((p:Nat):Int)),(99,.pointer (some pz28)),(100,.int .i64 (ns.getD p 0)),(101,.pointer (some pz28)),(102,.pointer (some pz34)),(103,.pointer (some ⟨g,0,none⟩)),(104,.pointer (some ⟨g,0,none⟩)),(105,.pointer (some ⟨g,0,none⟩)),(106,.pointer (some ⟨g,2,none⟩)),(107,.bool tu),(108,.bool (!tu)),(109,.pointer (some ⟨g,0,none⟩)),(110,.pointer (some ⟨g,2,none⟩)),(111,.pointer (some ⟨g,0,none⟩)),(112,.pointer (some ⟨g,0,none⟩)),(113,.pointer (some ⟨g,0,none⟩)),(114,.slice RA n rcap),(115,.int .i64 ((k:Nat):Int)),(116,.pointer (some pz46)),(117,.slice (ra (qs.getD k 0)) n (rc (qs.getD k 0))),(118,.pointer (some ⟨g,0,none⟩)),(119,.pointer (some ⟨g,0,none⟩)),(120,.pointer (some ⟨g,0,none⟩)),(121,.slice RA n rcap),(122,.int .i64 ((k:Nat):Int)),(123,.int .i64 ((k+1:Nat):Int)),(124,.slice (if rcap=k+1 then RA else RA.map (·.add ((k+1)*1))) (n-(k+1)) (rcap-(k+1))),(125,.int .i64 ((n-(k+1):Nat):Int)),(126,.int .i64 ((t:Nat):Int)),(127,.bool true),(128,.pointer (some pz47)),(129,.slice (ra (qs.getD (k+1+t) 0)) n (rc (qs.getD (k+1+t) 0))),(130,.slice (ra (qs.getD (k+1+t) 0)) n (rc (qs.getD (k+1+t) 0))),(131,.int .i64 ((k:Nat):Int)),(132,.pointer (some pz48)),(133,.agg #[.bool sz48,.slice Bz48 nz48 cz48]),(134,.int .i64 ((k:Nat):Int)),(135,.int .i64 ((k+1:Nat):Int))]) (fun⟨wj,j,V⟩=>wj) (fun⟨wj,j,V⟩=>(Bl lb w wj)∧(j≤n)∧(Bk wj g 75 [.slice RA n rcap,.slice NA n ncap,.bool (!tu),.bool sl,.slice Al nl cl,.int .i64 ((k:Nat):Int)])∧(Zr wj 0 sl Al nl cl (z))∧(Bk wj g49 34 [.bool sz48,.slice Bz48 nz48 cz48])∧(Zr wj 0 sz48 Bz48 nz48 cz48 (Y (qs.getD (k+1+t) 0) k))∧(Own wj lb 22 1 RA n rcap (qs.map (rwv ra rc n)))∧(Own wj lb 3 1 NA n ncap (((ns.set p (ns.getD k 0)).set k (ns.getD p 0)).map I64))∧(Rcs 17179869184 lb n n ra rc wj V)∧(k<j)∧(Mid n k (pr X qs) qs V (k+1+t) j)) (fun⟨wj,j,V⟩=>n-j)
      (⟨v58,(k+1),Y⟩:World×Nat×Mx) ⟨hw3,(by omega),((b_g.ext e51).updN u61 (by omega)),((z_g_1.ext e51).updT hb52 u61),hb60,((zz48.ext e51).updT hb52 u61),((o_RAwt.ext e51).upd u61 ne55),((o_NAwt.ext e51).upd u61 ne56),((rc_wt.ext e51).updT hb52 u61 nr57),(by omega),hM⟩ rfl ⟨rfl,rfl,rfl,rfl,rfl,rfl,rfl,rfl,rfl,rfl,rfl,rfl,rfl,rfl,rfl,rfl,rfl,rfl,rfl,rfl,rfl,rfl,rfl,rfl,rfl,rfl,rfl,rfl,rfl,rfl,rfl,rfl,rfl,rfl,rfl,rfl,rfl,rfl,rfl,rfl,rfl,rfl,rfl,rfl,rfl,rfl,rfl,rfl,rfl,rfl,rfl,rfl,rfl,rfl,rfl,rfl,rfl,rfl,rfl,rfl,rfl,rfl,rfl,rfl,rfl,rfl,rfl,rfl,rfl,rfl,rfl,rfl,rfl,rfl,rfl,rfl,rfl,rfl,rfl,rfl,rfl,rfl,rfl,rfl,rfl,rfl,rfl,rfl,rfl,rfl,rfl,rfl,rfl,rfl,rfl,rfl,rfl,rfl,rfl,rfl,rfl,rfl,rfl,rfl,rfl,rfl,rfl,rfl,rfl,rfl,rfl,rfl,rfl,rfl,rfl,rfl,rfl,rfl,rfl,rfl,rfl,rfl,rfl,rfl,rfl,rfl,rfl,rfl,rfl,rfl,trivial⟩ ?_
     rintro⟨wj,j,V⟩ ⟨hw1,hi_j,b_g,z_g_1,b_g49,z_g49,o_RAwj,o_NAwj,rc_wj,hj1,hMV⟩
     refine cw_re [(0,.pointer (some ⟨g,0,none⟩)),(1,.int .i64 ((k:Nat):Int)),(4,.bool false),(5,.int .i64 ((k:Nat):Int)),(6,.int .i64 ((p:Nat):Int)),(7,.slice (ra (qs.getD k 0)) n (rc (qs.getD k 0))),(9,.slice (ra (qs.getD (k+1+t) 0)) n (rc (qs.getD (k+1+t) 0))),(10,.pointer (some ⟨g49,0,none⟩)),(11,.int .i64 ((j:Nat):Int)),(13,.pointer (some ⟨g,0,none⟩)),(14,.pointer (some ⟨g,0,none⟩)),(15,.pointer (some ⟨g,5,none⟩)),(16,.int .i64 ((k:Nat):Int)),(17,.int .i64 ((k:Nat):Int)),(18,.int .i64 ((p:Nat):Int)),(19,.pointer (some ⟨g,0,none⟩)),(20,.pointer (some ⟨g,0,none⟩)),(21,.pointer (some ⟨g,0,none⟩)),(22,.slice RA n rcap),(23,.int .i64 ((n:Nat):Int)),(24,.bool true),(25,.bool true),(26,.pointer (some ⟨g,0,none⟩)),(27,.pointer (some ⟨g,0,none⟩)),(28,.pointer (some ⟨g,0,none⟩)),(29,.slice RA n rcap),(30,.int .i64 ((p:Nat):Int)),(31,.pointer (some pz6)),(32,.slice (ra (ps.getD p 0)) n (rc (ps.getD p 0))),(33,.int .i64 ((k:Nat):Int)),(34,.pointer (some pz7)),(35,.agg #[.bool sz7,.slice Bz7 nz7 cz7]),(36,.int .i64 (scmp (Z (ps.getD p 0) k) 0)),(37,.bool false),(38,.bool false),(41,.int .i64 ((p:Nat):Int)),(42,.pointer (some ⟨g,0,none⟩)),(43,.pointer (some ⟨g,0,none⟩)),(44,.pointer (some ⟨g,0,none⟩)),(45,.slice RA n rcap),(46,.int .i64 ((n:Nat):Int)),(47,.bool false),(48,.int .i64 ((p:Nat):Int)),(49,.int .i64 ((k:Nat):Int)),(50,.bool true),(51,.pointer (some ⟨g,0,none⟩)),(52,.pointer (some ⟨g,0,none⟩)),(53,.pointer (some ⟨g,0,none⟩)),(54,.slice RA n rcap),(55,.int .i64 ((p:Nat):Int)),(56,.pointer (some ⟨g,0,none⟩)),(57,.pointer (some ⟨g,0,none⟩)),(58,.pointer (some ⟨g,0,none⟩)),(59,.slice RA n rcap),(60,.int .i64 ((k:Nat):Int)),(61,.pointer (some ⟨g,0,none⟩)),(62,.pointer (some ⟨g,0,none⟩)),(63,.pointer (some ⟨g,0,none⟩)),(64,.slice RA n rcap),(65,.int .i64 ((k:Nat):Int)),(66,.pointer (some pz13)),(67,.slice (ra (ps.getD k 0)) n (rc (ps.getD k 0))),(68,.pointer (some ⟨g,0,none⟩)),(69,.pointer (some ⟨g,0,none⟩)),(70,.pointer (some ⟨g,0,none⟩)),(71,.slice RA n rcap),(72,.int .i64 ((p:Nat):Int)),(73,.pointer (some pz6)),(74,.slice (ra (ps.getD p 0)) n (rc (ps.getD p 0))),(75,.pointer (some pz6)),(76,.pointer (some pz19)),(77,.pointer (some ⟨g,0,none⟩)),(78,.pointer (some ⟨g,0,none⟩)),(79,.pointer (some ⟨g,1,none⟩)),(80,.slice NA n ncap),(81,.int .i64 ((p:Nat):Int)),(82,.pointer (some ⟨g,0,none⟩)),(83,.pointer (some ⟨g,0,none⟩)),(84,.pointer (some ⟨g,1,none⟩)),(85,.slice NA n ncap),(86,.int .i64 ((k:Nat):Int)),(87,.pointer (some ⟨g,0,none⟩)),(88,.pointer (some ⟨g,0,none⟩)),(89,.pointer (some ⟨g,1,none⟩)),(90,.slice NA n ncap),(91,.int .i64 ((k:Nat):Int)),(92,.pointer (some pz27)),(93,.int .i64 (ns.getD k 0)),(94,.pointer (some ⟨g,0,none⟩)),(95,.pointer (some ⟨g,0,none⟩)),(96,.pointer (some ⟨g,1,none⟩)),(97,.slice NA n ncap),(98,.int .i64 ((p:Nat):Int)),(99,.pointer (some pz28)),(100,.int .i64 (ns.getD p 0)),(101,.pointer (some pz28)),(102,.pointer (some pz34)),(103,.pointer (some ⟨g,0,none⟩)),(104,.pointer (some ⟨g,0,none⟩)),(105,.pointer (some ⟨g,0,none⟩)),(106,.pointer (some ⟨g,2,none⟩)),(107,.bool tu),(108,.bool (!tu)),(109,.pointer (some ⟨g,0,none⟩)),(110,.pointer (some ⟨g,2,none⟩)),(111,.pointer (some ⟨g,0,none⟩)),(112,.pointer (some ⟨g,0,none⟩)),(113,.pointer (some ⟨g,0,none⟩)),(114,.slice RA n rcap),(115,.int .i64 ((k:Nat):Int)),(116,.pointer (some pz46)),(117,.slice (ra (qs.getD k 0)) n (rc (qs.getD k 0))),(118,.pointer (some ⟨g,0,none⟩)),(119,.pointer (some ⟨g,0,none⟩)),(120,.pointer (some ⟨g,0,none⟩)),(121,.slice RA n rcap),(122,.int .i64 ((k:Nat):Int)),(123,.int .i64 ((k+1:Nat):Int)),(124,.slice (if rcap=k+1 then RA else RA.map (·.add ((k+1)*1))) (n-(k+1)) (rcap-(k+1))),(125,.int .i64 ((n-(k+1):Nat):Int)),(126,.int .i64 ((t:Nat):Int)),(127,.bool true),(128,.pointer (some pz47)),(129,.slice (ra (qs.getD (k+1+t) 0)) n (rc (qs.getD (k+1+t) 0))),(130,.slice (ra (qs.getD (k+1+t) 0)) n (rc (qs.getD (k+1+t) 0))),(131,.int .i64 ((k:Nat):Int)),(132,.pointer (some pz48)),(133,.agg #[.bool sz48,.slice Bz48 nz48 cz48]),(134,.int .i64 ((k:Nat):Int)),(135,.int .i64 ((k+1:Nat):Int))] wj rfl ⟨rfl,rfl,rfl,rfl,rfl,rfl,rfl,rfl,rfl,rfl,rfl,rfl,rfl,rfl,rfl,rfl,rfl,rfl,rfl,rfl,rfl,rfl,rfl,rfl,rfl,rfl,rfl,rfl,rfl,rfl,rfl,rfl,rfl,rfl,rfl,rfl,rfl,rfl,rfl,rfl,rfl,rfl,rfl,rfl,rfl,rfl,rfl,rfl,rfl,rfl,rfl,rfl,rfl,rfl,rfl,rfl,rfl,rfl,rfl,rfl,rfl,rfl,rfl,rfl,rfl,rfl,rfl,rfl,rfl,rfl,rfl,rfl,rfl,rfl,rfl,rfl,rfl,rfl,rfl,rfl,rfl,rfl,rfl,rfl,rfl,rfl,rfl,rfl,rfl,rfl,rfl,rfl,rfl,rfl,rfl,rfl,rfl,rfl,rfl,rfl,rfl,rfl,rfl,rfl,rfl,rfl,rfl,rfl,rfl,rfl,rfl,rfl,rfl,rfl,rfl,rfl,rfl,rfl,rfl,rfl,rfl,rfl,rfl,rfl,rfl,rfl,rfl,rfl,rfl,rfl,trivial⟩ (cw_seq (cw_seq ?_))
     by_cases hjn:j<n
     · 
      refine cw_region (mv 2 rfl (pu (v:= .int .i64 ((n:Nat):Int)) rfl (by kernel_rfl) (wl_cmp rfl rfl rfl true (cb_lt_t (a:=j) (b:=n) rfl rfl (by omega)) (by decide) (ne_ (cw_true rfl (cw_skip (eo_then (cw_seq (cw_block (cw_seq ?_))))))))))
      obtain⟨pz63,sz63,Bz63,nz63,cz63,hpz63,ldz63,hKz63,zz63⟩:=(rc_wj).at (hI.per.lt k (by omega)) (show k<n by omega)
      obtain⟨pz64,sz64,Bz64,nz64,cz64,hpz64,ldz64,hKz64,zz64⟩:=(rc_wj).at (hI.per.lt (k+1+t) (by omega)) (show j<n by omega)
      have L65:ln ((V (qs.getD k 0) k)*(V (qs.getD (k+1+t) 0) j))≤34359738368:=Nat.le_trans (ln_mul (zz63.ln_le hKz63) (zz64.ln_le hKz64)) (by decide)
      obtain⟨pz67,sz67,Bz67,nz67,cz67,hpz67,ldz67,hKz67,zz67⟩:=(rc_wj).at (hI.per.lt k (by omega)) (show j<n by omega)
      have L68:ln ((Y (qs.getD (k+1+t) 0) k)*(V (qs.getD k 0) j))≤34359738368:=Nat.le_trans (ln_mul (zz48.ln_le hKz48) (zz67.ln_le hKz67)) (by decide)
      have L70:ln (((V (qs.getD k 0) k)*(V (qs.getD (k+1+t) 0) j))-((Y (qs.getD (k+1+t) 0) k)*(V (qs.getD k 0) j)))≤34359738369:=Nat.le_trans (ln_sub L65 L68) (by decide)
      refine cw_draw mix 17 [] [Is (.slice (ra (qs.getD k 0)) n (rc (qs.getD k 0))),Is (.int .i64 ((k:Nat):Int)),Is (.pointer (some pz63)),Is (.agg #[.bool sz63,.slice Bz63 nz63 cz63]),Is (.slice (ra (qs.getD (k+1+t) 0)) n (rc (qs.getD (k+1+t) 0))),Is (.int .i64 ((j:Nat):Int)),Is (.pointer (some pz64)),Is (.agg #[.bool sz64,.slice Bz64 nz64 cz64]),ZR w.heap.size ((V (qs.getD k 0) k)*(V (qs.getD (k+1+t) 0) j)),Is (.agg #[.bool sz48,.slice Bz48 nz48 cz48]),Is (.slice (ra (qs.getD k 0)) n (rc (qs.getD k 0))),Is (.int .i64 ((j:Nat):Int)),Is (.pointer (some pz67)),Is (.agg #[.bool sz67,.slice Bz67 nz67 cz67]),ZR w.heap.size ((Y (qs.getD (k+1+t) 0) k)*(V (qs.getD k 0) j)),ZR w.heap.size (((V (qs.getD k 0) k)*(V (qs.getD (k+1+t) 0) j))-((Y (qs.getD (k+1+t) 0) k)*(V (qs.getD k 0) j))),PR wj.heap.size 34 [F0,S0]] [[],[],[0,1],[2],[],[],[4,5],[6],[3,7],[],[],[],[10,11],[12],[9,13],[8,14],[]] [[],[],[0,1],[0,1,2],[],[],[4,5],[4,5,6],[0,1,2,3,4,5,6,7],[],[],[],[10,11],[10,11,12],[0,1,2,3,4,5,6,7,8,9,10,11,12,13],[0,1,2,3,4,5,6,7,8,9,10,11,12,13,14],[],[0,1,2,3,4,5,6,7,8,9,10,11,12,13,14,15,16]] rfl
       (obs_cons rfl rfl (hob rfl rfl ?_) (obs_cons rfl rfl (hob rfl rfl ?_) (obs_cons rfl rfl (hob rfl rfl ?_) (obs_cons rfl rfl (hob rfl rfl ?_) (obs_cons rfl rfl (hob rfl rfl ?_) (obs_cons rfl rfl (hob rfl rfl ?_) (obs_cons rfl rfl (hob rfl rfl ?_) (obs_cons rfl rfl (hob rfl rfl ?_) (obs_cons rfl rfl (hob rfl rfl ?_) (obs_cons rfl rfl (hob rfl rfl ?_) (obs_cons rfl rfl (hob rfl rfl ?_) (obs_cons rfl rfl (hob rfl rfl ?_) (obs_cons rfl rfl (hob rfl rfl ?_) (obs_cons rfl rfl (hob rfl rfl ?_) (obs_cons rfl rfl (hob rfl rfl ?_) (obs_cons rfl rfl (hob rfl rfl ?_) (obs_cons rfl rfl (hob rfl rfl ?_) obs_nil))))))))))))))))) ?_
      · 
       intro v72 e73
       have hw2:Bl lb w v72:=hw1.ext e73
       refine deps_nil (mv 1 rfl ?_)
       exact pi_done rfl (Ext.refl _) rfl
      · 
       intro v74 e75
       have hw2:Bl lb w v74:=hw1.ext e75
       refine deps_nil (mv 1 rfl ?_)
       exact pi_done rfl (Ext.refl _) rfl
      · 
       intro v76 e77
       have hw2:Bl lb w v76:=hw1.ext e77
       refine dk rfl rfl (dk rfl rfl (deps_nil (wl_idx rfl rfl rfl elemI aggInt.size k rfl (by omega) pz63 hpz63 (by decide) ?_)))
       exact pi_done rfl (Ext.refl _) rfl
      · 
       intro v88 e89
       have hw2:Bl lb w v88:=hw1.ext e89
       refine dk rfl rfl (deps_nil (wl_load rfl rfl (ldz63 _ e89 _ _ aggInt) (by decide) ?_))
       exact pi_done rfl (Ext.refl _) rfl
      · 
       intro v95 e96
       have hw2:Bl lb w v95:=hw1.ext e96
       refine deps_nil (mv 1 rfl ?_)
       exact pi_done rfl (Ext.refl _) rfl
      · 
       intro v97 e98
       have hw2:Bl lb w v97:=hw1.ext e98
       refine deps_nil (mv 1 rfl ?_)
       exact pi_done rfl (Ext.refl _) rfl
      · 
       intro v99 e100
       have hw2:Bl lb w v99:=hw1.ext e100
       refine dk rfl rfl (dk rfl rfl (deps_nil (wl_idx rfl rfl rfl elemI aggInt.size j rfl (by omega) pz64 hpz64 (by decide) ?_)))
       exact pi_done rfl (Ext.refl _) rfl
      · 
       intro v111 e112
       have hw2:Bl lb w v111:=hw1.ext e112
       refine dk rfl rfl (deps_nil (wl_load rfl rfl (ldz64 _ e112 _ _ aggInt) (by decide) ?_))
       exact pi_done rfl (Ext.refl _) rfl
      · 
       intro v118 e119
       have hw2:Bl lb w v118:=hw1.ext e119
       refine dk rfl rfl (dk rfl rfl (deps_nil ?_))
       have L130:ln ((V (qs.getD k 0) k)*(V (qs.getD (k+1+t) 0) j))≤34359738368:=Nat.le_trans (ln_mul (zz63.ln_le hKz63) (zz64.ln_le hKz64)) (by decide)
       refine wl_call rfl rfl (vs:= [.agg #[.bool sz63,.slice Bz63 nz63 cz63],.agg #[.bool sz64,.slice Bz64 nz64 cz64]]) (by kernel_rfl) (by decide) (g_zint_Mul hw2.size (zz63.ext e119).zi (zz63.le (Nat.le_trans (zz63.ln_le hKz63) (by decide))) (zz64.ext e119).zi (zz64.le (Nat.le_trans (zz64.ln_le hKz64) (by decide)))) ?_
       rintro _ v131 ⟨xr133,rfl,r133,e132⟩
       refine ret_intro ?_
       have hw3:Bl lb w v131:=hw2.ext e132
       obtain⟨s134,A134,n134,c134,rfl,z134⟩:=r133
       exact pi_done rfl e132 ⟨_,_,_,_,rfl,z134⟩
      · 
       intro v135 e136
       have hw2:Bl lb w v135:=hw1.ext e136
       refine deps_nil (lo aggInt (b_g49.ext e136) [.bool sz48,.slice Bz48 nz48 cz48] rfl rfl rfl ?_)
       exact pi_done rfl (Ext.refl _) rfl
      · 
       intro v137 e138
       have hw2:Bl lb w v137:=hw1.ext e138
       refine deps_nil (mv 1 rfl ?_)
       exact pi_done rfl (Ext.refl _) rfl
      · 
       intro v139 e140
       have hw2:Bl lb w v139:=hw1.ext e140
       refine deps_nil (mv 1 rfl ?_)
       exact pi_done rfl (Ext.refl _) rfl
      · 
       intro v141 e142
       have hw2:Bl lb w v141:=hw1.ext e142
       refine dk rfl rfl (dk rfl rfl (deps_nil (wl_idx rfl rfl rfl elemI aggInt.size j rfl (by omega) pz67 hpz67 (by decide) ?_)))
       exact pi_done rfl (Ext.refl _) rfl
      · 
       intro v153 e154
       have hw2:Bl lb w v153:=hw1.ext e154
       refine dk rfl rfl (deps_nil (wl_load rfl rfl (ldz67 _ e154 _ _ aggInt) (by decide) ?_))
       exact pi_done rfl (Ext.refl _) rfl
      · 
       intro v160 e161
       have hw2:Bl lb w v160:=hw1.ext e161
       refine dk rfl rfl (dk rfl rfl (deps_nil ?_))
       have L172:ln ((Y (qs.getD (k+1+t) 0) k)*(V (qs.getD k 0) j))≤34359738368:=Nat.le_trans (ln_mul (zz48.ln_le hKz48) (zz67.ln_le hKz67)) (by decide)
       refine wl_call rfl rfl (vs:= [.agg #[.bool sz48,.slice Bz48 nz48 cz48],.agg #[.bool sz67,.slice Bz67 nz67 cz67]]) (by kernel_rfl) (by decide) (g_zint_Mul hw2.size (z_g49.ext e161).zi (z_g49.le (Nat.le_trans (zz48.ln_le hKz48) (by decide))) (zz67.ext e161).zi (zz67.le (Nat.le_trans (zz67.ln_le hKz67) (by decide)))) ?_
       rintro _ v173 ⟨xr175,rfl,r175,e174⟩
       refine ret_intro ?_
       have hw3:Bl lb w v173:=hw2.ext e174
       obtain⟨s176,A176,n176,c176,rfl,z176⟩:=r175
       exact pi_done rfl e174 ⟨_,_,_,_,rfl,z176⟩
      · 
       intro v177 e178
       have hw2:Bl lb w v177:=hw1.ext e178
       refine deps_cons rfl rfl fun x179 y180 h181 e182 f183=>?_
       obtain⟨s184,A184,n184,c184,rfl,z184⟩:=h181
       have z184:=z184.ext f183
       refine deps_cons rfl rfl fun x185 y186 h187 e188 f189=>?_
       obtain⟨s190,A190,n190,c190,rfl,z190⟩:=h187
       have z190:=z190.ext f189
       refine deps_nil ?_
       have L191:ln (((V (qs.getD k 0) k)*(V (qs.getD (k+1+t) 0) j))-((Y (qs.getD (k+1+t) 0) k)*(V (qs.getD k 0) j)))≤34359738369:=Nat.le_trans (ln_sub L65 L68) (by decide)
       refine wl_call rfl rfl (vs:= [.agg #[.bool s184,.slice A184 n184 c184],.agg #[.bool s190,.slice A190 n190 c190]]) (by kernel_rfl) (by decide) (g_zint_Sub hw2.size z184.zi (z184.le (lx_ L65 rfl)) z190.zi (z190.le (lx_ L68 rfl))) ?_
       rintro _ v192 ⟨xr194,rfl,r194,e193⟩
       refine ret_intro ?_
       have hw3:Bl lb w v192:=hw2.ext e193
       obtain⟨s195,A195,n195,c195,rfl,z195⟩:=r194
       exact pi_done rfl e193 ⟨_,_,_,_,rfl,z195⟩
      · 
       intro v196 e197
       have hw2:Bl lb w v196:=hw1.ext e197
       refine deps_nil (wl_alloc rfl (z:= .agg #[F0,S0]) (vs:= [F0,S0]) (fun _=>by kernel_rfl) rfl (by decide) fun g198 v199 nb=>?_)
       exact pi_done rfl nb.ext ⟨_,rfl,by rw [←nb.at_];exact e197.size,nb.bk⟩
      · 
       intro v200 e201
       have hw2:Bl lb w v200:=hw1.ext e201
       refine dk rfl rfl (dk rfl rfl (dk rfl rfl (dk rfl rfl (dk rfl rfl (dk rfl rfl (dk rfl rfl (dk rfl rfl (deps_cons rfl rfl fun x242 y243 h244 e245 f246=>?_))))))))
       obtain⟨s247,A247,n247,c247,rfl,z247⟩:=h244
       have z247:=z247.ext f246
       refine dk rfl rfl (dk rfl rfl (dk rfl rfl (dk rfl rfl (dk rfl rfl (deps_cons rfl rfl fun x273 y274 h275 e276 f277=>?_)))))
       obtain⟨s278,A278,n278,c278,rfl,z278⟩:=h275
       have z278:=z278.ext f277
       refine deps_cons rfl rfl fun x279 y280 h281 e282 f283=>?_
       obtain⟨s284,A284,n284,c284,rfl,z284⟩:=h281
       have z284:=z284.ext f283
       refine deps_cons rfl rfl fun x285 y286 h287 e288 f289=>?_
       obtain⟨g290,rfl,ge292,hb291⟩:=h287
       have hb291:=hb291.ext f289
       have q293:g49<g290:=Nat.lt_of_lt_of_le b_g49.lt ge292
       have ne294:∀p:Addr,RA=some p→p.block≠g290:=fun p hp=>by have:=((o_RAwj).block p hp).2;have:=ge292;omega
       have ne295:∀p:Addr,NA=some p→p.block≠g290:=fun p hp=>by have:=((o_NAwj).block p hp).2;have:=ge292;omega
       have nr296:∀r,r<n→∀p:Addr,ra r=some p→p.block≠g290:=fun r hr p hp=>by have:=((rc_wj).lt r hr p hp).2;have:=ge292;omega
       have ge292:w.heap.size≤g290:=Nat.le_trans hw1.size ge292
       refine deps_nil (wl_stored rfl rfl rfl aggInt rfl hb291 (bq rfl) rfl [.bool s284,.slice A284 n284 c284] rfl fun v297 hb299 u300 hs301=>?_)
       have hw3:Bl lb w v297:=hw2.upd u300 (Nat.le_trans hlb ge292)
       refine wl_nil (eo_np (eo_then ?_))
       have hq:=hMV.quot hI.last hI.ne (by rw [hMV.old (Nat.le_refl _) (by omega) (Nat.le_refl _) (by omega) (Or.inl rfl)];exact hDb) (by omega) (by omega) hj1 hjn (hM.old (a:=k+1+t) (b:=k) (by omega) (by omega) (Nat.le_refl _) (by omega) (Or.inr (Or.inr ⟨rfl,Or.inl rfl⟩)))
       have hLq:ln (bm (pr X qs) (k+1) (k+1+t) j)≤17179869184:=Nat.le_trans (ln_bm hn (pr_ln hI.per hX) (by omega) (by omega) hjn) (by decide)
       obtain⟨pz307,sz307,Bz307,nz307,cz307,hpz307,ldz307,hKz307,zz307⟩:=(((rc_wj.ext e201).updT hb291 u300 nr296)).at (hI.per.lt (k+1+t) (by omega)) (show j<n by omega)
       refine cw_draw mix 12 [9,10] [Is (.slice (ra (qs.getD (k+1+t) 0)) n (rc (qs.getD (k+1+t) 0))),Is (.int .i64 ((j:Nat):Int)),Is (.agg #[.bool s284,.slice A284 n284 c284]),Is (.pointer (some ⟨g,0,none⟩)),Is (.pointer (some ⟨g,0,none⟩)),Is (.pointer (some ⟨g,3,none⟩)),Is (.agg #[.bool sl,.slice Al nl cl]),T2 (ZR w.heap.size (bm (pr X qs) (k+1) (k+1+t) j)) (Is (.int .i64 0)),T2 (ZR w.heap.size (bm (pr X qs) (k+1) (k+1+t) j)) (Is (.int .i64 0)),ZR w.heap.size (bm (pr X qs) (k+1) (k+1+t) j),Is (.int .i64 0),Is (.pointer (some pz307))] [[],[],[],[],[3],[4],[5],[2,6],[7],[8],[8],[0,1]] [[],[],[],[],[3],[3,4],[3,4,5],[2,3,4,5,6],[2,3,4,5,6,7],[2,3,4,5,6,7,8],[2,3,4,5,6,7,8],[0,1,2,3,4,5,6,7,8,9],[0,1,2,3,4,5,6,7,8,9,11]] rfl
        (obs_cons rfl rfl (hob rfl rfl ?_) (obs_cons rfl rfl (hob rfl rfl ?_) (obs_cons rfl rfl (hob rfl rfl ?_) (obs_cons rfl rfl (hob rfl rfl ?_) (obs_cons rfl rfl (hob rfl rfl ?_) (obs_cons rfl rfl (hob rfl rfl ?_) (obs_cons rfl rfl (hob rfl rfl ?_) (obs_cons rfl rfl (hob rfl rfl ?_) (obs_cons rfl rfl (hob rfl rfl ?_) (obs_float rfl rfl (fob rfl ?_) (obs_float rfl rfl (fob rfl ?_) (obs_cons rfl rfl (hob rfl rfl ?_) obs_nil)))))))))))) ?_
       · 
        intro v308 e309
        have hw4:Bl lb w v308:=hw3.ext e309
        refine deps_nil (mv 1 rfl ?_)
        exact pi_done rfl (Ext.refl _) rfl
       · 
        intro v310 e311
        have hw4:Bl lb w v310:=hw3.ext e311
        refine deps_nil (mv 1 rfl ?_)
        exact pi_done rfl (Ext.refl _) rfl
       · 
        intro v312 e313
        have hw4:Bl lb w v312:=hw3.ext e313
        refine deps_nil (lo aggInt (hb299.ext e313) [.bool s284,.slice A284 n284 c284] rfl rfl rfl ?_)
        exact pi_done rfl (Ext.refl _) rfl
       · 
        intro v314 e315
        have hw4:Bl lb w v314:=hw3.ext e315
        refine deps_nil (mv 1 rfl ?_)
        exact pi_done rfl (Ext.refl _) rfl
       · 
        intro v316 e317
        have hw4:Bl lb w v316:=hw3.ext e317
        refine dk rfl rfl (deps_nil (pf g 0 rfl (by kernel_rfl) ?_))
        exact pi_done rfl (Ext.refl _) rfl
       · 
        intro v323 e324
        have hw4:Bl lb w v323:=hw3.ext e324
        refine dk rfl rfl (deps_nil (pf g 3 rfl (by kernel_rfl) ?_))
        exact pi_done rfl (Ext.refl _) rfl
       · 
        intro v330 e331
        have hw4:Bl lb w v330:=hw3.ext e331
        refine dk rfl rfl (deps_nil (lo aggInt (((b_g.ext e201).updN u300 (by omega)).ext e331) [.bool sl,.slice Al nl cl] rfl rfl rfl ?_))
        exact pi_done rfl (Ext.refl _) rfl
       · 
        intro v337 e338
        have hw4:Bl lb w v337:=hw3.ext e338
        refine dk rfl rfl (dk rfl rfl (deps_nil (wl_call rfl rfl (vs:= [.agg #[.bool s284,.slice A284 n284 c284],.agg #[.bool sl,.slice Al nl cl]]) (by kernel_rfl) (by decide) ((g_zint_Exact hw4.size ((z284.updT hb291 u300).ext e338).zi (z284.le (lx_ L70 rfl)) (((z_g_1.ext e201).updT hb291 u300).ext e338).zi (z_g_1.le (lx_ hLz rfl)) hI.ne ⟨_,hq.1⟩).mono (Gv.imp (T2.imp (fun _ _ h=>ZR.cast h hq.2) Is.imp))) ?_)))
        rintro _ v349 ⟨xr351,rfl,r351,e350⟩
        refine ret_intro ?_
        have hw5:Bl lb w v349:=hw4.ext e350
        obtain⟨_,_,rfl,⟨s353,A353,n353,c353,rfl,z353⟩,rfl⟩:=r351
        exact pi_done rfl e350 ⟨_,_,rfl,⟨_,_,_,_,rfl,z353⟩,rfl⟩
       · 
        intro v354 e355
        have hw4:Bl lb w v354:=hw3.ext e355
        refine deps_cons rfl rfl fun x356 y357 h358 e359 f360=>?_
        obtain⟨_,_,rfl,⟨s362,A362,n362,c362,rfl,z362⟩,rfl⟩:=h358
        have z362:=z362.ext f360
        refine deps_nil (mv 1 rfl ?_)
        exact pi_done rfl (Ext.refl _) ⟨_,_,rfl,⟨_,_,_,_,rfl,z362⟩,rfl⟩
       · 
        intro v363 e364
        have hw4:Bl lb w v363:=hw3.ext e364
        refine deps_cons rfl rfl fun x365 y366 h367 e368 f369=>?_
        obtain⟨_,_,rfl,⟨s371,A371,n371,c371,rfl,z371⟩,rfl⟩:=h367
        have z371:=z371.ext f369
        refine deps_nil ?_
        exact⟨.agg #[.bool s371,.slice A371 n371 c371],rfl,rfl,fun _=>by kernel_rfl,⟨_,_,_,_,rfl,z371⟩⟩
       · 
        intro v372 e373
        have hw4:Bl lb w v372:=hw3.ext e373
        refine deps_cons rfl rfl fun x374 y375 h376 e377 f378=>?_
        obtain⟨_,_,rfl,⟨s380,A380,n380,c380,rfl,z380⟩,rfl⟩:=h376
        have z380:=z380.ext f378
        refine deps_nil ?_
        exact⟨.int .i64 0,rfl,rfl,fun _=>by kernel_rfl,rfl⟩
       · 
        intro v381 e382
        have hw4:Bl lb w v381:=hw3.ext e382
        refine dk rfl rfl (dk rfl rfl (deps_nil (wl_idx rfl rfl rfl elemI aggInt.size j rfl (by omega) pz307 hpz307 (by decide) ?_)))
        exact pi_done rfl (Ext.refl _) rfl
       · 
        intro v393 e394
        have hw4:Bl lb w v393:=hw3.ext e394
        refine dk rfl rfl (dk rfl rfl (dk rfl rfl (dk rfl rfl (dk rfl rfl (dk rfl rfl (dk rfl rfl (deps_cons rfl rfl fun x430 y431 h432 e433 f434=>?_)))))))
        obtain⟨_,_,rfl,⟨s436,A436,n436,c436,rfl,z436⟩,rfl⟩:=h432
        have z436:=z436.ext f434
        refine deps_cons rfl rfl fun x437 y438 h439 e440 f441=>?_
        obtain⟨_,_,rfl,⟨s443,A443,n443,c443,rfl,z443⟩,rfl⟩:=h439
        have z443:=z443.ext f441
        refine deps_cons rfl rfl fun x444 y445 h446 e447 f448=>?_
        obtain⟨s449,A449,n449,c449,rfl,z449⟩:=h446
        have z449:=z449.ext f448
        refine dk rfl rfl (dk rfl rfl (deps_nil ?_))
        have rt460:=(((rc_wj.ext e201).updT hb291 u300 nr296).ext e394)
        obtain⟨us462,own463⟩:=rt460.own (hI.per.lt (k+1+t) (by omega))
        refine wl_setR (e:=⟨s449,A449,n449,c449⟩) (z:=bm (pr X qs) (k+1) (k+1+t) j) rfl rfl rfl rt460 (hI.per.lt (k+1+t) (by omega)) (show j<n by omega) hpz307 (Zr.mono z449 (Nat.zero_le _)) (z449.le (lx_ hLq rfl)) fun v461 rc464 uo465=>?_
        have hw5:Bl lb w v461:=hw4.updO uo465 (fun p hp=>(own463.block p hp).1)
        refine wl_nil (eo_np (eo_block_normal (eo_then (cw_region (mv 1 rfl (wl_ar rfl rfl rfl ((j+1:Nat):Int) (ai_add (a:=j) (b:=1) rfl rfl (by omega)) (by decide) (mv 1 rfl (wl_nil (eo_round (⟨v461,j+1,ent V (qs.getD (k+1+t) 0) j (bm (pr X qs) (k+1) (k+1+t) j)⟩:World×Nat×Mx) ⟨hw5,(by omega),((((b_g.ext e201).updN u300 (by omega)).ext e394).updO uo465 (hA.rg (qs.getD (k+1+t) 0) (hI.per.lt (k+1+t) (by omega)))),((((z_g_1.ext e201).updT hb291 u300).ext e394).updOT own463 uo465),((((b_g49.ext e201).updN u300 (by omega)).ext e394).updO uo465 (nr57 (qs.getD (k+1+t) 0) (hI.per.lt (k+1+t) (by omega)))),((((z_g49.ext e201).updT hb291 u300).ext e394).updOT own463 uo465),((((o_RAwj.ext e201).upd u300 ne294).ext e394).updO uo465 (fun p q hp hq e=>hA.Rr (qs.getD (k+1+t) 0) (hI.per.lt (k+1+t) (by omega)) q p hq hp e.symm)),((((o_NAwj.ext e201).upd u300 ne295).ext e394).updO uo465 (fun p q hp hq e=>hA.Nr (qs.getD (k+1+t) 0) (hI.per.lt (k+1+t) (by omega)) q p hq hp e.symm)),rc464,(by omega),(hMV.next hI.per (by omega) (by omega) hj1 hjn rfl)⟩ (show n-(j+1)<n-j by omega) rfl ⟨rfl,rfl,rfl,rfl,rfl,rfl,rfl,rfl,rfl,rfl,rfl,rfl,rfl,rfl,rfl,rfl,rfl,rfl,rfl,rfl,rfl,rfl,rfl,rfl,rfl,rfl,rfl,rfl,rfl,rfl,rfl,rfl,rfl,rfl,rfl,rfl,rfl,rfl,rfl,rfl,rfl,rfl,rfl,rfl,rfl,rfl,rfl,rfl,rfl,rfl,rfl,rfl,rfl,rfl,rfl,rfl,rfl,rfl,rfl,rfl,rfl,rfl,rfl,rfl,rfl,rfl,rfl,rfl,rfl,rfl,rfl,rfl,rfl,rfl,rfl,rfl,rfl,rfl,rfl,rfl,rfl,rfl,rfl,rfl,rfl,rfl,rfl,rfl,rfl,rfl,rfl,rfl,rfl,rfl,rfl,rfl,rfl,rfl,rfl,rfl,rfl,rfl,rfl,rfl,rfl,rfl,rfl,rfl,rfl,rfl,rfl,rfl,rfl,rfl,rfl,rfl,rfl,rfl,rfl,rfl,rfl,rfl,rfl,rfl,rfl,rfl,rfl,rfl,rfl,rfl,trivial⟩)))))))))
     · 
      refine cw_region (mv 2 rfl (pu (v:= .int .i64 ((n:Nat):Int)) rfl (by kernel_rfl) (wl_cmp rfl rfl rfl false (cb_lt_f (a:=j) (b:=n) rfl rfl (by omega)) (by decide) (ne_ (cw_false rfl (cw_exit (eo_thenX (eo_loopX (eo_block_here (eo_then (cw_region (mv 2 rfl (pu (v:= .agg #[F0,S0]) rfl (by kernel_rfl) ?_)))))))))))))
      obtain⟨pz466,sz466,Bz466,nz466,cz466,hpz466,ldz466,hKz466,zz466⟩:=(rc_wj).at (hI.per.lt (k+1+t) (by omega)) (show k<n by omega)
      refine wl_idx rfl rfl rfl elemI aggInt.size k rfl (by omega) pz466 hpz466 (by decide) ?_
      have rt467:=rc_wj
      obtain⟨us469,own470⟩:=rt467.own (hI.per.lt (k+1+t) (by omega))
      refine wl_setR (e:=⟨false,none,0,0⟩) (z:=0) rfl rfl rfl rt467 (hI.per.lt (k+1+t) (by omega)) (show k<n by omega) hpz466 (Zr.mono (Zr.zero (w:=wj) (base:=w.heap.size)) (Nat.zero_le _)) (Nat.zero_le _) fun v468 rc471 uo472=>?_
      have hw2:Bl lb w v468:=hw1.updO uo472 (fun p hp=>(own470.block p hp).1)
      refine wl_nil (eo_block_normal (eo_then (cw_region (wl_ar rfl rfl rfl ((t+1:Nat):Int) (ai_add (a:=t) (b:=1) rfl rfl (by omega)) (by decide) (mv 1 rfl (wl_nil (eo_round (⟨v468,t+1,ent V (qs.getD (k+1+t) 0) k 0⟩:World×Nat×Mx) ⟨hw2,(by omega),(b_g.updO uo472 (hA.rg (qs.getD (k+1+t) 0) (hI.per.lt (k+1+t) (by omega)))),(z_g_1.updOT own470 uo472),(o_RAwj.updO uo472 (fun p q hp hq e=>hA.Rr (qs.getD (k+1+t) 0) (hI.per.lt (k+1+t) (by omega)) q p hq hp e.symm)),(o_NAwj.updO uo472 (fun p q hp hq e=>hA.Nr (qs.getD (k+1+t) 0) (hI.per.lt (k+1+t) (by omega)) q p hq hp e.symm)),rc471,(by have h9:Mid n k (pr X qs) qs V (k+1+t) n:=(show j=n by omega)▸hMV;exact h9.row hI.per (by omega) (by omega) 0)⟩ (show (n-(k+1))-(t+1)<(n-(k+1))-t by omega) rfl ⟨rfl,rfl,rfl,rfl,rfl,rfl,rfl,rfl,rfl,rfl,rfl,rfl,rfl,rfl,rfl,rfl,rfl,rfl,rfl,rfl,rfl,rfl,rfl,rfl,rfl,rfl,rfl,rfl,rfl,rfl,rfl,rfl,rfl,rfl,rfl,rfl,rfl,rfl,rfl,rfl,rfl,rfl,rfl,rfl,rfl,rfl,rfl,rfl,rfl,rfl,rfl,rfl,rfl,rfl,rfl,rfl,rfl,rfl,rfl,rfl,rfl,rfl,rfl,rfl,rfl,rfl,rfl,rfl,rfl,rfl,rfl,rfl,rfl,rfl,rfl,rfl,rfl,rfl,rfl,rfl,rfl,rfl,rfl,rfl,rfl,rfl,rfl,rfl,rfl,rfl,rfl,rfl,rfl,rfl,rfl,rfl,rfl,rfl,rfl,rfl,rfl,rfl,rfl,rfl,rfl,rfl,rfl,rfl,rfl,rfl,rfl,rfl,rfl,rfl,rfl,rfl,rfl,rfl,trivial⟩)))))))
    · 
     refine cw_region (wl_cmp rfl rfl rfl false (cb_lt_f (a:=t) (b:=n-(k+1)) rfl rfl (by omega)) (by decide) (ne_ (cw_seq (cw_false rfl (cw_exit (eo_thenX (eo_loopX (eo_block_here (eo_then (sr (mv 3 rfl ?_)))))))))))
     obtain⟨pz473,sz473,Bz473,nz473,cz473,hpz473,ldz473,hKz473,zz473⟩:=(rc_wt).at (hI.per.lt k (by omega)) (show k<n by omega)
     refine wl_idx rfl rfl rfl elemI aggInt.size k rfl (by omega) pz473 hpz473 (by decide) (wl_load rfl rfl (ldz473 _ (Ext.refl _) _ _ aggInt) (by decide) (pf g 0 rfl (by kernel_rfl) (pf g 3 rfl (by kernel_rfl) ?_)))
     have hb475:=b_g
     refine wl_stored rfl rfl rfl aggInt rfl hb475 (bq rfl) rfl [.slice RA n rcap,.slice NA n ncap,.bool (!tu),.bool sz473,.slice Bz473 nz473 cz473,.int .i64 ((k:Nat):Int)] rfl fun v474 hb476 u477 hs478=>?_
     have hw2:Bl lb w v474:=hw1.upd u477 hA.lg
     refine ne_ (sr (mv 1 rfl (pf g 0 rfl (by kernel_rfl) (pf g 5 rfl (by kernel_rfl) (wl_load rfl rfl (load_cell cellInt hb476 rfl) (by decide) (wl_ar rfl rfl rfl ((k+1:Nat):Int) (ai_add (a:=k) (b:=1) rfl rfl (by omega)) (by decide) (pf g 0 rfl (by kernel_rfl) (pf g 5 rfl (by kernel_rfl) (wl_stored1 rfl rfl rfl szInt rfl hb476 (bq rfl) rfl [.slice RA n rcap,.slice NA n ncap,.bool (!tu),.bool sz473,.slice Bz473 nz473 cz473,.int .i64 ((k+1:Nat):Int)] rfl fun v479 hb481 u482 hs483=>?_)))))))))
     have hw3:Bl lb w v479:=hw2.upd u482 hA.lg
     refine ne_ (sr (mv 1 rfl (ne_ (cw_ret (eo_ret [.bool true] rfl ⟨rfl,trivial⟩ ?_)))))
     have hM9:Mid n k (pr X qs) qs Y n (k+1):=(show k+1+t=n by omega)▸hM
     exact⟨hw3,Or.inr ⟨qs,Y,!tu,Y (qs.getD k 0) k,rfl,⟨_,_,_,_,_,hb481,((zz473.updT hb475 u477).updT hb476 u482),((o_RAwt.upd u477 hA.Rg).upd u482 hA.Rg),((o_NAwt.upd u477 hA.Ng).upd u482 hA.Ng),((rc_wt.updT hb475 u477 hA.rg).updT hb476 u482 hA.rg)⟩,hI.next (by omega) hM9 (by rw [hM9.old (Nat.le_refl _) (by omega) (Nat.le_refl _) (by omega) (Or.inl rfl)];exact hDb)⟩⟩
   · 
    refine cw_region (mv 2 rfl (wl_cmp rfl rfl rfl false (cb_ne_f (a:=p) (b:=k) rfl rfl (by omega)) (by decide) (ne_ (cw_false rfl (cw_skip (eo_then (cw_seq ?_)))))))
    obtain⟨qs,hqs⟩:∃qs,qs=ps:=⟨_,rfl⟩
    have hI:Inv n X k qs Z tu z:=by rw [hqs];exact hI0
    have hD:Z (qs.getD k 0) k≠0:=by rw [hqs];have e:p=k:=(by omega);rw [e] at hzp;exact hzp
    have ow484:Own v8 lb 22 1 RA n rcap (qs.map (rwv ra rc n)):=by rw [hqs];exact (o_RAwp.ext e9)
    have hDb:bm (pr X qs) k k k≠0:=by rw [←hI.ent k k (Nat.le_refl _) (by omega) (Nat.le_refl _) (by omega)];exact hD
    refine cw_region (mv 1 rfl (pf g 0 rfl (by kernel_rfl) (pf g 0 rfl (by kernel_rfl) (wl_load rfl rfl (load_cell cellRows (b_g.ext e9) rfl) (by decide) (mv 1 rfl ?_)))))
    obtain⟨pz485,hpz485,hcz485⟩:=(ow484).rowAt (i:=k) (by omega)
    refine wl_idx rfl rfl rfl unRows szInts k rfl (by omega) pz485 hpz485 (by decide) (wl_load rfl rfl (load_cell1 cellInts hcz485) (by decide) (mv 1 rfl (ne_ (cw_seq (sr (mv 1 rfl (pf g 0 rfl (by kernel_rfl) (pf g 0 rfl (by kernel_rfl) (wl_load rfl rfl (load_cell cellRows (b_g.ext e9) rfl) (by decide) (mv 1 rfl (wl_ar rfl rfl rfl ((k+1:Nat):Int) (ai_add (a:=k) (b:=1) rfl rfl (by omega)) (by decide) (wl_slice rfl rfl unRows szInts (lo:=k+1) (hi:=n) rfl rfl (by omega) hcap (v:= .slice (if rcap=k+1 then RA else RA.map (·.add ((k+1)*1))) (n-(k+1)) (rcap-(k+1))) rfl (by decide) (pu (v:= .int .i64 ((n-(k+1):Nat):Int)) rfl (by kernel_rfl) ?_)))))))))))))
    refine mv 1 rfl (ne_ (cw_block ?_))
    refine cw_loop (T:=World×Nat×Mx) (fun⟨wt,t,Y⟩=> [(0,.pointer (some ⟨g,0,none⟩)),(1,.int .i64 ((k:Nat):Int)),(4,.bool false),(5,.int .i64 ((k:Nat):Int)),(6,.int .i64 ((p:Nat):Int)),(7,.slice (ra (qs.getD k 0)) n (rc (qs.getD k 0))),(13,.pointer (some ⟨g,0,none⟩)),(14,.pointer (some ⟨g,0,none⟩)),(15,.pointer (some ⟨g,5,none⟩)),(16,.int .i64 ((k:Nat):Int)),(17,.int .i64 ((k:Nat):Int)),(18,.int .i64 ((p:Nat):Int)),(19,.pointer (some ⟨g,0,none⟩)),(20,.pointer (some ⟨g,0,none⟩)),(21,.pointer (some ⟨g,0,none⟩)),(22,.slice RA n rcap),(23,.int .i64 ((n:Nat):Int)),(24,.bool true),(25,.bool true),(26,.pointer (some ⟨g,0,none⟩)),(27,.pointer (some ⟨g,0,none⟩)),(28,.pointer (some ⟨g,0,none⟩)),(29,.slice RA n rcap),(30,.int .i64 ((p:Nat):Int)),(31,.pointer (some pz6)),(32,.slice (ra (ps.getD p 0)) n (rc (ps.getD p 0))),(33,.int .i64 ((k:Nat):Int)),(34,.pointer (some pz7)),(35,.agg #[.bool sz7,.slice Bz7 nz7 cz7]),(36,.int .i64 (scmp (Z (ps.getD p 0) k) 0)),(37,.bool false),(38,.bool false),(41,.int .i64 ((p:Nat):Int)),(42,.pointer (some ⟨g,0,none⟩)),(43,.pointer (some ⟨g,0,none⟩)),(44,.pointer (some ⟨g,0,none⟩)),(45,.slice RA n rcap),(46,.int .i64 ((n:Nat):Int)),(47,.bool false),(48,.int .i64 ((p:Nat):Int)),(49,.int .i64 ((k:Nat):Int)),(50,.bool false),(111,.pointer (some ⟨g,0,none⟩)),(112,.pointer (some ⟨g,0,none⟩)),(113,.pointer (some ⟨g,0,none⟩)),(114,.slice RA n rcap),(115,.int .i64 ((k:Nat):Int)),(116,.pointer (some pz485)),(117,.slice (ra (qs.getD k 0)) n (rc (qs.getD k 0))),(118,.pointer (some ⟨g,0,none⟩)),(119,.pointer (some ⟨g,0,none⟩)),(120,.pointer (some ⟨g,0,none⟩)),(121,.slice RA n rcap),(122,.int .i64 ((k:Nat):Int)),(123,.int .i64 ((k+1:Nat):Int)),(124,.slice (if rcap=k+1 then RA else RA.map (·.add ((k+1)*1))) (n-(k+1)) (rcap-(k+1))),(125,.int .i64 ((n-(k+1):Nat):Int)),(126,.int .i64 ((t:Nat):Int))]) (fun⟨wt,t,Y⟩=>wt) (fun⟨wt,t,Y⟩=>(Bl lb w wt)∧(t≤n-(k+1))∧(Bk wt g 75 [.slice RA n rcap,.slice NA n ncap,.bool tu,.bool sl,.slice Al nl cl,.int .i64 ((k:Nat):Int)])∧(Zr wt 0 sl Al nl cl (z))∧(Own wt lb 22 1 RA n rcap (qs.map (rwv ra rc n)))∧(Own wt lb 3 1 NA n ncap (ns.map I64))∧(Rcs 17179869184 lb n n ra rc wt Y)∧(Mid n k (pr X qs) qs Y (k+1+t) (k+1))) (fun⟨wt,t,Y⟩=>(n-(k+1))-t)
     (⟨v8,0,Z⟩:World×Nat×Mx) ⟨hw2,(by omega),(b_g.ext e9),(z_g_1.ext e9),ow484,(o_NAwp.ext e9),(rc_wp.ext e9),(Mid.start hI)⟩ rfl ⟨rfl,rfl,rfl,rfl,rfl,rfl,rfl,rfl,rfl,rfl,rfl,rfl,rfl,rfl,rfl,rfl,rfl,rfl,rfl,rfl,rfl,rfl,rfl,rfl,rfl,rfl,rfl,rfl,rfl,rfl,rfl,rfl,rfl,rfl,rfl,rfl,rfl,rfl,rfl,rfl,rfl,rfl,rfl,rfl,rfl,rfl,rfl,rfl,rfl,rfl,rfl,rfl,rfl,rfl,rfl,rfl,rfl,rfl,trivial⟩ ?_
    rintro⟨wt,t,Y⟩ ⟨hw1,hi_t,b_g,z_g_1,o_RAwt,o_NAwt,rc_wt,hM⟩
    refine cw_re [(0,.pointer (some ⟨g,0,none⟩)),(1,.int .i64 ((k:Nat):Int)),(4,.bool false),(5,.int .i64 ((k:Nat):Int)),(6,.int .i64 ((p:Nat):Int)),(7,.slice (ra (qs.getD k 0)) n (rc (qs.getD k 0))),(13,.pointer (some ⟨g,0,none⟩)),(14,.pointer (some ⟨g,0,none⟩)),(15,.pointer (some ⟨g,5,none⟩)),(16,.int .i64 ((k:Nat):Int)),(17,.int .i64 ((k:Nat):Int)),(18,.int .i64 ((p:Nat):Int)),(19,.pointer (some ⟨g,0,none⟩)),(20,.pointer (some ⟨g,0,none⟩)),(21,.pointer (some ⟨g,0,none⟩)),(22,.slice RA n rcap),(23,.int .i64 ((n:Nat):Int)),(24,.bool true),(25,.bool true),(26,.pointer (some ⟨g,0,none⟩)),(27,.pointer (some ⟨g,0,none⟩)),(28,.pointer (some ⟨g,0,none⟩)),(29,.slice RA n rcap),(30,.int .i64 ((p:Nat):Int)),(31,.pointer (some pz6)),(32,.slice (ra (ps.getD p 0)) n (rc (ps.getD p 0))),(33,.int .i64 ((k:Nat):Int)),(34,.pointer (some pz7)),(35,.agg #[.bool sz7,.slice Bz7 nz7 cz7]),(36,.int .i64 (scmp (Z (ps.getD p 0) k) 0)),(37,.bool false),(38,.bool false),(41,.int .i64 ((p:Nat):Int)),(42,.pointer (some ⟨g,0,none⟩)),(43,.pointer (some ⟨g,0,none⟩)),(44,.pointer (some ⟨g,0,none⟩)),(45,.slice RA n rcap),(46,.int .i64 ((n:Nat):Int)),(47,.bool false),(48,.int .i64 ((p:Nat):Int)),(49,.int .i64 ((k:Nat):Int)),(50,.bool false),(111,.pointer (some ⟨g,0,none⟩)),(112,.pointer (some ⟨g,0,none⟩)),(113,.pointer (some ⟨g,0,none⟩)),(114,.slice RA n rcap),(115,.int .i64 ((k:Nat):Int)),(116,.pointer (some pz485)),(117,.slice (ra (qs.getD k 0)) n (rc (qs.getD k 0))),(118,.pointer (some ⟨g,0,none⟩)),(119,.pointer (some ⟨g,0,none⟩)),(120,.pointer (some ⟨g,0,none⟩)),(121,.slice RA n rcap),(122,.int .i64 ((k:Nat):Int)),(123,.int .i64 ((k+1:Nat):Int)),(124,.slice (if rcap=k+1 then RA else RA.map (·.add ((k+1)*1))) (n-(k+1)) (rcap-(k+1))),(125,.int .i64 ((n-(k+1):Nat):Int)),(126,.int .i64 ((t:Nat):Int))] wt rfl ⟨rfl,rfl,rfl,rfl,rfl,rfl,rfl,rfl,rfl,rfl,rfl,rfl,rfl,rfl,rfl,rfl,rfl,rfl,rfl,rfl,rfl,rfl,rfl,rfl,rfl,rfl,rfl,rfl,rfl,rfl,rfl,rfl,rfl,rfl,rfl,rfl,rfl,rfl,rfl,rfl,rfl,rfl,rfl,rfl,rfl,rfl,rfl,rfl,rfl,rfl,rfl,rfl,rfl,rfl,rfl,rfl,rfl,rfl,trivial⟩ (cw_seq ?_)
    by_cases htn:t<n-(k+1)
    · 
     refine cw_region (wl_cmp rfl rfl rfl true (cb_lt_t (a:=t) (b:=n-(k+1)) rfl rfl (by omega)) (by decide) (ne_ (cw_seq (cw_true rfl (cw_skip (eo_then (cw_seq (cw_block (sr ?_)))))))))
     obtain⟨pz486,hpz486,hcz486⟩:=(o_RAwt).rowTail (lo:=k+1) (i:=t) (by omega)
     refine wl_idx rfl rfl rfl unRows szInts t rfl (by omega) pz486 hpz486 (by decide) (wl_load rfl rfl (load_cell1 cellInts hcz486) (by decide) (mv 1 rfl (ne_ (sr (mv 2 rfl ?_)))))
     obtain⟨pz487,sz487,Bz487,nz487,cz487,hpz487,ldz487,hKz487,zz487⟩:=(rc_wt).at (hI.per.lt (k+1+t) (by omega)) (show k<n by omega)
     refine wl_idx rfl rfl rfl elemI aggInt.size k rfl (by omega) pz487 hpz487 (by decide) (wl_load rfl rfl (ldz487 _ (Ext.refl _) _ _ aggInt) (by decide) (wl_alloc rfl (z:= .agg #[F0,S0]) (vs:= [F0,S0]) (fun _=>by kernel_rfl) rfl (by decide) fun g488 v489 nb=>?_))
     have hb491:=nb.bk
     have ge492:w.heap.size≤g488:=by rw [←nb.at_];exact hw1.size
     have q493:g<g488:=by rw [←nb.at_];exact b_g.lt
     have ne494:∀p:Addr,RA=some p→p.block≠g488:=fun p hp=>by have:=((o_RAwt).block p hp).2;have:=nb.at_;omega
     have ne495:∀p:Addr,NA=some p→p.block≠g488:=fun p hp=>by have:=((o_NAwt).block p hp).2;have:=nb.at_;omega
     have nr496:∀r,r<n→∀p:Addr,ra r=some p→p.block≠g488:=fun r hr p hp=>by have:=((rc_wt).lt r hr p hp).2;have:=nb.at_;omega
     have e490:=nb.ext
     clear nb
     have hw2:Bl lb w v489:=hw1.ext e490
     refine wl_stored rfl rfl rfl aggInt rfl hb491 (bq rfl) rfl [.bool sz487,.slice Bz487 nz487 cz487] rfl fun v497 hb499 u500 hs501=>?_
     have hw3:Bl lb w v497:=hw2.upd u500 (Nat.le_trans hlb ge492)
     refine ne_ (cw_seq (sr (mv 1 rfl (wl_ar rfl rfl rfl ((k+1:Nat):Int) (ai_add (a:=k) (b:=1) rfl rfl (by omega)) (by decide) (mv 1 rfl (ne_ (cw_block ?_)))))))
     refine cw_loop (T:=World×Nat×Mx) (fun⟨wj,j,V⟩=> [(0,.pointer (some ⟨g,0,none⟩)),(1,.int .i64 ((k:Nat):Int)),(4,.bool false),(5,.int .i64 ((k:Nat):Int)),(6,.int .i64 ((p:Nat):Int)),(7,.slice (ra (qs.getD k 0)) n (rc (qs.getD k 0))),(9,.slice (ra (qs.getD (k+1+t) 0)) n (rc (qs.getD (k+1+t) 0))),(10,.pointer (some ⟨g488,0,none⟩)),(11,.int .i64 ((j:Nat):Int)),(13,.pointer (some ⟨g,0,none⟩)),(14,.pointer (some ⟨g,0,none⟩)),(15,.pointer (some ⟨g,5,none⟩)),(16,.int .i64 ((k:Nat):Int)),(17,.int .i64 ((k:Nat):Int)),(18,.int .i64 ((p:Nat):Int)),(19,.pointer (some ⟨g,0,none⟩)),(20,.pointer (some ⟨g,0,none⟩)),(21,.pointer (some ⟨g,0,none⟩)),(22,.slice RA n rcap),(23,.int .i64 ((n:Nat):Int)),(24,.bool true),(25,.bool true),(26,.pointer (some ⟨g,0,none⟩)),(27,.pointer (some ⟨g,0,none⟩)),(28,.pointer (some ⟨g,0,none⟩)),(29,.slice RA n rcap),(30,.int .i64 ((p:Nat):Int)),(31,.pointer (some pz6)),(32,.slice (ra (ps.getD p 0)) n (rc (ps.getD p 0))),(33,.int .i64 ((k:Nat):Int)),(34,.pointer (some pz7)),(35,.agg #[.bool sz7,.slice Bz7 nz7 cz7]),(36,.int .i64 (scmp (Z (ps.getD p 0) k) 0)),(37,.bool false),(38,.bool false),(41,.int .i64 ((p:Nat):Int)),(42,.pointer (some ⟨g,0,none⟩)),(43,.pointer (some ⟨g,0,none⟩)),(44,.pointer (some ⟨g,0,none⟩)),(45,.slice RA n rcap),(46,.int .i64 ((n:Nat):Int)),(47,.bool false),(48,.int .i64 ((p:Nat):Int)),(49,.int .i64 ((k:Nat):Int)),(50,.bool false),(111,.pointer (some ⟨g,0,none⟩)),(112,.pointer (some ⟨g,0,none⟩)),(113,.pointer (some ⟨g,0,none⟩)),(114,.slice RA n rcap),(115,.int .i64 ((k:Nat):Int)),(116,.pointer (some pz485)),(117,.slice (ra (qs.getD k 0)) n (rc (qs.getD k 0))),(118,.pointer (some ⟨g,0,none⟩)),(119,.pointer (some ⟨g,0,none⟩)),(120,.pointer (some ⟨g,0,none⟩)),(121,.slice RA n rcap),(122,.int .i64 ((k:Nat):Int)),(123,.int .i64 ((k+1:Nat):Int)),(124,.slice (if rcap=k+1 then RA else RA.map (·.add ((k+1)*1))) (n-(k+1)) (rcap-(k+1))),(125,.int .i64 ((n-(k+1):Nat):Int)),(126,.int .i64 ((t:Nat):Int)),(127,.bool true),(128,.pointer (some pz486)),(129,.slice (ra (qs.getD (k+1+t) 0)) n (rc (qs.getD (k+1+t) 0))),(130,.slice (ra (qs.getD (k+1+t) 0)) n (rc (qs.getD (k+1+t) 0))),(131,.int .i64 ((k:Nat):Int)),(132,.pointer (some pz487)),(133,.agg #[.bool sz487,.slice Bz487 nz487 cz487]),(134,.int .i64 ((k:Nat):Int)),(135,.int .i64 ((k+1:Nat):Int))]) (fun⟨wj,j,V⟩=>wj) (fun⟨wj,j,V⟩=>(Bl lb w wj)∧(j≤n)∧(Bk wj g 75 [.slice RA n rcap,.slice NA n ncap,.bool tu,.bool sl,.slice Al nl cl,.int .i64 ((k:Nat):Int)])∧(Zr wj 0 sl Al nl cl (z))∧(Bk wj g488 34 [.bool sz487,.slice Bz487 nz487 cz487])∧(Zr wj 0 sz487 Bz487 nz487 cz487 (Y (qs.getD (k+1+t) 0) k))∧(Own wj lb 22 1 RA n rcap (qs.map (rwv ra rc n)))∧(Own wj lb 3 1 NA n ncap (ns.map I64))∧(Rcs 17179869184 lb n n ra rc wj V)∧(k<j)∧(Mid n k (pr X qs) qs V (k+1+t) j)) (fun⟨wj,j,V⟩=>n-j)
      (⟨v497,(k+1),Y⟩:World×Nat×Mx) ⟨hw3,(by omega),((b_g.ext e490).updN u500 (by omega)),((z_g_1.ext e490).updT hb491 u500),hb499,((zz487.ext e490).updT hb491 u500),((o_RAwt.ext e490).upd u500 ne494),((o_NAwt.ext e490).upd u500 ne495),((rc_wt.ext e490).updT hb491 u500 nr496),(by omega),hM⟩ rfl ⟨rfl,rfl,rfl,rfl,rfl,rfl,rfl,rfl,rfl,rfl,rfl,rfl,rfl,rfl,rfl,rfl,rfl,rfl,rfl,rfl,rfl,rfl,rfl,rfl,rfl,rfl,rfl,rfl,rfl,rfl,rfl,rfl,rfl,rfl,rfl,rfl,rfl,rfl,rfl,rfl,rfl,rfl,rfl,rfl,rfl,rfl,rfl,rfl,rfl,rfl,rfl,rfl,rfl,rfl,rfl,rfl,rfl,rfl,rfl,rfl,rfl,rfl,rfl,rfl,rfl,rfl,rfl,rfl,rfl,rfl,trivial⟩ ?_
     rintro⟨wj,j,V⟩ ⟨hw1,hi_j,b_g,z_g_1,b_g488,z_g488,o_RAwj,o_NAwj,rc_wj,hj1,hMV⟩
     refine cw_re [(0,.pointer (some ⟨g,0,none⟩)),(1,.int .i64 ((k:Nat):Int)),(4,.bool false),(5,.int .i64 ((k:Nat):Int)),(6,.int .i64 ((p:Nat):Int)),(7,.slice (ra (qs.getD k 0)) n (rc (qs.getD k 0))),(9,.slice (ra (qs.getD (k+1+t) 0)) n (rc (qs.getD (k+1+t) 0))),(10,.pointer (some ⟨g488,0,none⟩)),(11,.int .i64 ((j:Nat):Int)),(13,.pointer (some ⟨g,0,none⟩)),(14,.pointer (some ⟨g,0,none⟩)),(15,.pointer (some ⟨g,5,none⟩)),(16,.int .i64 ((k:Nat):Int)),(17,.int .i64 ((k:Nat):Int)),(18,.int .i64 ((p:Nat):Int)),(19,.pointer (some ⟨g,0,none⟩)),(20,.pointer (some ⟨g,0,none⟩)),(21,.pointer (some ⟨g,0,none⟩)),(22,.slice RA n rcap),(23,.int .i64 ((n:Nat):Int)),(24,.bool true),(25,.bool true),(26,.pointer (some ⟨g,0,none⟩)),(27,.pointer (some ⟨g,0,none⟩)),(28,.pointer (some ⟨g,0,none⟩)),(29,.slice RA n rcap),(30,.int .i64 ((p:Nat):Int)),(31,.pointer (some pz6)),(32,.slice (ra (ps.getD p 0)) n (rc (ps.getD p 0))),(33,.int .i64 ((k:Nat):Int)),(34,.pointer (some pz7)),(35,.agg #[.bool sz7,.slice Bz7 nz7 cz7]),(36,.int .i64 (scmp (Z (ps.getD p 0) k) 0)),(37,.bool false),(38,.bool false),(41,.int .i64 ((p:Nat):Int)),(42,.pointer (some ⟨g,0,none⟩)),(43,.pointer (some ⟨g,0,none⟩)),(44,.pointer (some ⟨g,0,none⟩)),(45,.slice RA n rcap),(46,.int .i64 ((n:Nat):Int)),(47,.bool false),(48,.int .i64 ((p:Nat):Int)),(49,.int .i64 ((k:Nat):Int)),(50,.bool false),(111,.pointer (some ⟨g,0,none⟩)),(112,.pointer (some ⟨g,0,none⟩)),(113,.pointer (some ⟨g,0,none⟩)),(114,.slice RA n rcap),(115,.int .i64 ((k:Nat):Int)),(116,.pointer (some pz485)),(117,.slice (ra (qs.getD k 0)) n (rc (qs.getD k 0))),(118,.pointer (some ⟨g,0,none⟩)),(119,.pointer (some ⟨g,0,none⟩)),(120,.pointer (some ⟨g,0,none⟩)),(121,.slice RA n rcap),(122,.int .i64 ((k:Nat):Int)),(123,.int .i64 ((k+1:Nat):Int)),(124,.slice (if rcap=k+1 then RA else RA.map (·.add ((k+1)*1))) (n-(k+1)) (rcap-(k+1))),(125,.int .i64 ((n-(k+1):Nat):Int)),(126,.int .i64 ((t:Nat):Int)),(127,.bool true),(128,.pointer (some pz486)),(129,.slice (ra (qs.getD (k+1+t) 0)) n (rc (qs.getD (k+1+t) 0))),(130,.slice (ra (qs.getD (k+1+t) 0)) n (rc (qs.getD (k+1+t) 0))),(131,.int .i64 ((k:Nat):Int)),(132,.pointer (some pz487)),(133,.agg #[.bool sz487,.slice Bz487 nz487 cz487]),(134,.int .i64 ((k:Nat):Int)),(135,.int .i64 ((k+1:Nat):Int))] wj rfl ⟨rfl,rfl,rfl,rfl,rfl,rfl,rfl,rfl,rfl,rfl,rfl,rfl,rfl,rfl,rfl,rfl,rfl,rfl,rfl,rfl,rfl,rfl,rfl,rfl,rfl,rfl,rfl,rfl,rfl,rfl,rfl,rfl,rfl,rfl,rfl,rfl,rfl,rfl,rfl,rfl,rfl,rfl,rfl,rfl,rfl,rfl,rfl,rfl,rfl,rfl,rfl,rfl,rfl,rfl,rfl,rfl,rfl,rfl,rfl,rfl,rfl,rfl,rfl,rfl,rfl,rfl,rfl,rfl,rfl,rfl,trivial⟩ (cw_seq (cw_seq ?_))
     by_cases hjn:j<n
     · 
      refine cw_region (mv 2 rfl (pu (v:= .int .i64 ((n:Nat):Int)) rfl (by kernel_rfl) (wl_cmp rfl rfl rfl true (cb_lt_t (a:=j) (b:=n) rfl rfl (by omega)) (by decide) (ne_ (cw_true rfl (cw_skip (eo_then (cw_seq (cw_block (cw_seq ?_))))))))))
      obtain⟨pz502,sz502,Bz502,nz502,cz502,hpz502,ldz502,hKz502,zz502⟩:=(rc_wj).at (hI.per.lt k (by omega)) (show k<n by omega)
      obtain⟨pz503,sz503,Bz503,nz503,cz503,hpz503,ldz503,hKz503,zz503⟩:=(rc_wj).at (hI.per.lt (k+1+t) (by omega)) (show j<n by omega)
      have L504:ln ((V (qs.getD k 0) k)*(V (qs.getD (k+1+t) 0) j))≤34359738368:=Nat.le_trans (ln_mul (zz502.ln_le hKz502) (zz503.ln_le hKz503)) (by decide)
      obtain⟨pz506,sz506,Bz506,nz506,cz506,hpz506,ldz506,hKz506,zz506⟩:=(rc_wj).at (hI.per.lt k (by omega)) (show j<n by omega)
      have L507:ln ((Y (qs.getD (k+1+t) 0) k)*(V (qs.getD k 0) j))≤34359738368:=Nat.le_trans (ln_mul (zz487.ln_le hKz487) (zz506.ln_le hKz506)) (by decide)
      have L509:ln (((V (qs.getD k 0) k)*(V (qs.getD (k+1+t) 0) j))-((Y (qs.getD (k+1+t) 0) k)*(V (qs.getD k 0) j)))≤34359738369:=Nat.le_trans (ln_sub L504 L507) (by decide)
      refine cw_draw mix 17 [] [Is (.slice (ra (qs.getD k 0)) n (rc (qs.getD k 0))),Is (.int .i64 ((k:Nat):Int)),Is (.pointer (some pz502)),Is (.agg #[.bool sz502,.slice Bz502 nz502 cz502]),Is (.slice (ra (qs.getD (k+1+t) 0)) n (rc (qs.getD (k+1+t) 0))),Is (.int .i64 ((j:Nat):Int)),Is (.pointer (some pz503)),Is (.agg #[.bool sz503,.slice Bz503 nz503 cz503]),ZR w.heap.size ((V (qs.getD k 0) k)*(V (qs.getD (k+1+t) 0) j)),Is (.agg #[.bool sz487,.slice Bz487 nz487 cz487]),Is (.slice (ra (qs.getD k 0)) n (rc (qs.getD k 0))),Is (.int .i64 ((j:Nat):Int)),Is (.pointer (some pz506)),Is (.agg #[.bool sz506,.slice Bz506 nz506 cz506]),ZR w.heap.size ((Y (qs.getD (k+1+t) 0) k)*(V (qs.getD k 0) j)),ZR w.heap.size (((V (qs.getD k 0) k)*(V (qs.getD (k+1+t) 0) j))-((Y (qs.getD (k+1+t) 0) k)*(V (qs.getD k 0) j))),PR wj.heap.size 34 [F0,S0]] [[],[],[0,1],[2],[],[],[4,5],[6],[3,7],[],[],[],[10,11],[12],[9,13],[8,14],[]] [[],[],[0,1],[0,1,2],[],[],[4,5],[4,5,6],[0,1,2,3,4,5,6,7],[],[],[],[10,11],[10,11,12],[0,1,2,3,4,5,6,7,8,9,10,11,12,13],[0,1,2,3,4,5,6,7,8,9,10,11,12,13,14],[],[0,1,2,3,4,5,6,7,8,9,10,11,12,13,14,15,16]] rfl
       (obs_cons rfl rfl (hob rfl rfl ?_) (obs_cons rfl rfl (hob rfl rfl ?_) (obs_cons rfl rfl (hob rfl rfl ?_) (obs_cons rfl rfl (hob rfl rfl ?_) (obs_cons rfl rfl (hob rfl rfl ?_) (obs_cons rfl rfl (hob rfl rfl ?_) (obs_cons rfl rfl (hob rfl rfl ?_) (obs_cons rfl rfl (hob rfl rfl ?_) (obs_cons rfl rfl (hob rfl rfl ?_) (obs_cons rfl rfl (hob rfl rfl ?_) (obs_cons rfl rfl (hob rfl rfl ?_) (obs_cons rfl rfl (hob rfl rfl ?_) (obs_cons rfl rfl (hob rfl rfl ?_) (obs_cons rfl rfl (hob rfl rfl ?_) (obs_cons rfl rfl (hob rfl rfl ?_) (obs_cons rfl rfl (hob rfl rfl ?_) (obs_cons rfl rfl (hob rfl rfl ?_) obs_nil))))))))))))))))) ?_
      · 
       intro v511 e512
       have hw2:Bl lb w v511:=hw1.ext e512
       refine deps_nil (mv 1 rfl ?_)
       exact pi_done rfl (Ext.refl _) rfl
      · 
       intro v513 e514
       have hw2:Bl lb w v513:=hw1.ext e514
       refine deps_nil (mv 1 rfl ?_)
       exact pi_done rfl (Ext.refl _) rfl
      · 
       intro v515 e516
       have hw2:Bl lb w v515:=hw1.ext e516
       refine dk rfl rfl (dk rfl rfl (deps_nil (wl_idx rfl rfl rfl elemI aggInt.size k rfl (by omega) pz502 hpz502 (by decide) ?_)))
       exact pi_done rfl (Ext.refl _) rfl
      · 
       intro v527 e528
       have hw2:Bl lb w v527:=hw1.ext e528
       refine dk rfl rfl (deps_nil (wl_load rfl rfl (ldz502 _ e528 _ _ aggInt) (by decide) ?_))
       exact pi_done rfl (Ext.refl _) rfl
      · 
       intro v534 e535
       have hw2:Bl lb w v534:=hw1.ext e535
       refine deps_nil (mv 1 rfl ?_)
       exact pi_done rfl (Ext.refl _) rfl
      · 
       intro v536 e537
       have hw2:Bl lb w v536:=hw1.ext e537
       refine deps_nil (mv 1 rfl ?_)
       exact pi_done rfl (Ext.refl _) rfl
      · 
       intro v538 e539
       have hw2:Bl lb w v538:=hw1.ext e539
       refine dk rfl rfl (dk rfl rfl (deps_nil (wl_idx rfl rfl rfl elemI aggInt.size j rfl (by omega) pz503 hpz503 (by decide) ?_)))
       exact pi_done rfl (Ext.refl _) rfl
      · 
       intro v550 e551
       have hw2:Bl lb w v550:=hw1.ext e551
       refine dk rfl rfl (deps_nil (wl_load rfl rfl (ldz503 _ e551 _ _ aggInt) (by decide) ?_))
       exact pi_done rfl (Ext.refl _) rfl
      · 
       intro v557 e558
       have hw2:Bl lb w v557:=hw1.ext e558
       refine dk rfl rfl (dk rfl rfl (deps_nil ?_))
       have L569:ln ((V (qs.getD k 0) k)*(V (qs.getD (k+1+t) 0) j))≤34359738368:=Nat.le_trans (ln_mul (zz502.ln_le hKz502) (zz503.ln_le hKz503)) (by decide)
       refine wl_call rfl rfl (vs:= [.agg #[.bool sz502,.slice Bz502 nz502 cz502],.agg #[.bool sz503,.slice Bz503 nz503 cz503]]) (by kernel_rfl) (by decide) (g_zint_Mul hw2.size (zz502.ext e558).zi (zz502.le (Nat.le_trans (zz502.ln_le hKz502) (by decide))) (zz503.ext e558).zi (zz503.le (Nat.le_trans (zz503.ln_le hKz503) (by decide)))) ?_
       rintro _ v570 ⟨xr572,rfl,r572,e571⟩
       refine ret_intro ?_
       have hw3:Bl lb w v570:=hw2.ext e571
       obtain⟨s573,A573,n573,c573,rfl,z573⟩:=r572
       exact pi_done rfl e571 ⟨_,_,_,_,rfl,z573⟩
      · 
       intro v574 e575
       have hw2:Bl lb w v574:=hw1.ext e575
       refine deps_nil (lo aggInt (b_g488.ext e575) [.bool sz487,.slice Bz487 nz487 cz487] rfl rfl rfl ?_)
       exact pi_done rfl (Ext.refl _) rfl
      · 
       intro v576 e577
       have hw2:Bl lb w v576:=hw1.ext e577
       refine deps_nil (mv 1 rfl ?_)
       exact pi_done rfl (Ext.refl _) rfl
      · 
       intro v578 e579
       have hw2:Bl lb w v578:=hw1.ext e579
       refine deps_nil (mv 1 rfl ?_)
       exact pi_done rfl (Ext.refl _) rfl
      · 
       intro v580 e581
       have hw2:Bl lb w v580:=hw1.ext e581
       refine dk rfl rfl (dk rfl rfl (deps_nil (wl_idx rfl rfl rfl elemI aggInt.size j rfl (by omega) pz506 hpz506 (by decide) ?_)))
       exact pi_done rfl (Ext.refl _) rfl
      · 
       intro v592 e593
       have hw2:Bl lb w v592:=hw1.ext e593
       refine dk rfl rfl (deps_nil (wl_load rfl rfl (ldz506 _ e593 _ _ aggInt) (by decide) ?_))
       exact pi_done rfl (Ext.refl _) rfl
      · 
       intro v599 e600
       have hw2:Bl lb w v599:=hw1.ext e600
       refine dk rfl rfl (dk rfl rfl (deps_nil ?_))
       have L611:ln ((Y (qs.getD (k+1+t) 0) k)*(V (qs.getD k 0) j))≤34359738368:=Nat.le_trans (ln_mul (zz487.ln_le hKz487) (zz506.ln_le hKz506)) (by decide)
       refine wl_call rfl rfl (vs:= [.agg #[.bool sz487,.slice Bz487 nz487 cz487],.agg #[.bool sz506,.slice Bz506 nz506 cz506]]) (by kernel_rfl) (by decide) (g_zint_Mul hw2.size (z_g488.ext e600).zi (z_g488.le (Nat.le_trans (zz487.ln_le hKz487) (by decide))) (zz506.ext e600).zi (zz506.le (Nat.le_trans (zz506.ln_le hKz506) (by decide)))) ?_
       rintro _ v612 ⟨xr614,rfl,r614,e613⟩
       refine ret_intro ?_
       have hw3:Bl lb w v612:=hw2.ext e613
       obtain⟨s615,A615,n615,c615,rfl,z615⟩:=r614
       exact pi_done rfl e613 ⟨_,_,_,_,rfl,z615⟩
      · 
       intro v616 e617
       have hw2:Bl lb w v616:=hw1.ext e617
       refine deps_cons rfl rfl fun x618 y619 h620 e621 f622=>?_
       obtain⟨s623,A623,n623,c623,rfl,z623⟩:=h620
       have z623:=z623.ext f622
       refine deps_cons rfl rfl fun x624 y625 h626 e627 f628=>?_
       obtain⟨s629,A629,n629,c629,rfl,z629⟩:=h626
       have z629:=z629.ext f628
       refine deps_nil ?_
       have L630:ln (((V (qs.getD k 0) k)*(V (qs.getD (k+1+t) 0) j))-((Y (qs.getD (k+1+t) 0) k)*(V (qs.getD k 0) j)))≤34359738369:=Nat.le_trans (ln_sub L504 L507) (by decide)
       refine wl_call rfl rfl (vs:= [.agg #[.bool s623,.slice A623 n623 c623],.agg #[.bool s629,.slice A629 n629 c629]]) (by kernel_rfl) (by decide) (g_zint_Sub hw2.size z623.zi (z623.le (lx_ L504 rfl)) z629.zi (z629.le (lx_ L507 rfl))) ?_
       rintro _ v631 ⟨xr633,rfl,r633,e632⟩
       refine ret_intro ?_
       have hw3:Bl lb w v631:=hw2.ext e632
       obtain⟨s634,A634,n634,c634,rfl,z634⟩:=r633
       exact pi_done rfl e632 ⟨_,_,_,_,rfl,z634⟩
      · 
       intro v635 e636
       have hw2:Bl lb w v635:=hw1.ext e636
       refine deps_nil (wl_alloc rfl (z:= .agg #[F0,S0]) (vs:= [F0,S0]) (fun _=>by kernel_rfl) rfl (by decide) fun g637 v638 nb=>?_)
       exact pi_done rfl nb.ext ⟨_,rfl,by rw [←nb.at_];exact e636.size,nb.bk⟩
      · 
       intro v639 e640
       have hw2:Bl lb w v639:=hw1.ext e640
       refine dk rfl rfl (dk rfl rfl (dk rfl rfl (dk rfl rfl (dk rfl rfl (dk rfl rfl (dk rfl rfl (dk rfl rfl (deps_cons rfl rfl fun x681 y682 h683 e684 f685=>?_))))))))
       obtain⟨s686,A686,n686,c686,rfl,z686⟩:=h683
       have z686:=z686.ext f685
       refine dk rfl rfl (dk rfl rfl (dk rfl rfl (dk rfl rfl (dk rfl rfl (deps_cons rfl rfl fun x712 y713 h714 e715 f716=>?_)))))
       obtain⟨s717,A717,n717,c717,rfl,z717⟩:=h714
       have z717:=z717.ext f716
       refine deps_cons rfl rfl fun x718 y719 h720 e721 f722=>?_
       obtain⟨s723,A723,n723,c723,rfl,z723⟩:=h720
       have z723:=z723.ext f722
       refine deps_cons rfl rfl fun x724 y725 h726 e727 f728=>?_
       obtain⟨g729,rfl,ge731,hb730⟩:=h726
       have hb730:=hb730.ext f728
       have q732:g488<g729:=Nat.lt_of_lt_of_le b_g488.lt ge731
       have ne733:∀p:Addr,RA=some p→p.block≠g729:=fun p hp=>by have:=((o_RAwj).block p hp).2;have:=ge731;omega
       have ne734:∀p:Addr,NA=some p→p.block≠g729:=fun p hp=>by have:=((o_NAwj).block p hp).2;have:=ge731;omega
       have nr735:∀r,r<n→∀p:Addr,ra r=some p→p.block≠g729:=fun r hr p hp=>by have:=((rc_wj).lt r hr p hp).2;have:=ge731;omega
       have ge731:w.heap.size≤g729:=Nat.le_trans hw1.size ge731
       refine deps_nil (wl_stored rfl rfl rfl aggInt rfl hb730 (bq rfl) rfl [.bool s723,.slice A723 n723 c723] rfl fun v736 hb738 u739 hs740=>?_)
       have hw3:Bl lb w v736:=hw2.upd u739 (Nat.le_trans hlb ge731)
       refine wl_nil (eo_np (eo_then ?_))
       have hq:=hMV.quot hI.last hI.ne (by rw [hMV.old (Nat.le_refl _) (by omega) (Nat.le_refl _) (by omega) (Or.inl rfl)];exact hDb) (by omega) (by omega) hj1 hjn (hM.old (a:=k+1+t) (b:=k) (by omega) (by omega) (Nat.le_refl _) (by omega) (Or.inr (Or.inr ⟨rfl,Or.inl rfl⟩)))
       have hLq:ln (bm (pr X qs) (k+1) (k+1+t) j)≤17179869184:=Nat.le_trans (ln_bm hn (pr_ln hI.per hX) (by omega) (by omega) hjn) (by decide)
       obtain⟨pz746,sz746,Bz746,nz746,cz746,hpz746,ldz746,hKz746,zz746⟩:=(((rc_wj.ext e640).updT hb730 u739 nr735)).at (hI.per.lt (k+1+t) (by omega)) (show j<n by omega)
       refine cw_draw mix 12 [9,10] [Is (.slice (ra (qs.getD (k+1+t) 0)) n (rc (qs.getD (k+1+t) 0))),Is (.int .i64 ((j:Nat):Int)),Is (.agg #[.bool s723,.slice A723 n723 c723]),Is (.pointer (some ⟨g,0,none⟩)),Is (.pointer (some ⟨g,0,none⟩)),Is (.pointer (some ⟨g,3,none⟩)),Is (.agg #[.bool sl,.slice Al nl cl]),T2 (ZR w.heap.size (bm (pr X qs) (k+1) (k+1+t) j)) (Is (.int .i64 0)),T2 (ZR w.heap.size (bm (pr X qs) (k+1) (k+1+t) j)) (Is (.int .i64 0)),ZR w.heap.size (bm (pr X qs) (k+1) (k+1+t) j),Is (.int .i64 0),Is (.pointer (some pz746))] [[],[],[],[],[3],[4],[5],[2,6],[7],[8],[8],[0,1]] [[],[],[],[],[3],[3,4],[3,4,5],[2,3,4,5,6],[2,3,4,5,6,7],[2,3,4,5,6,7,8],[2,3,4,5,6,7,8],[0,1,2,3,4,5,6,7,8,9],[0,1,2,3,4,5,6,7,8,9,11]] rfl
        (obs_cons rfl rfl (hob rfl rfl ?_) (obs_cons rfl rfl (hob rfl rfl ?_) (obs_cons rfl rfl (hob rfl rfl ?_) (obs_cons rfl rfl (hob rfl rfl ?_) (obs_cons rfl rfl (hob rfl rfl ?_) (obs_cons rfl rfl (hob rfl rfl ?_) (obs_cons rfl rfl (hob rfl rfl ?_) (obs_cons rfl rfl (hob rfl rfl ?_) (obs_cons rfl rfl (hob rfl rfl ?_) (obs_float rfl rfl (fob rfl ?_) (obs_float rfl rfl (fob rfl ?_) (obs_cons rfl rfl (hob rfl rfl ?_) obs_nil)))))))))))) ?_
       · 
        intro v747 e748
        have hw4:Bl lb w v747:=hw3.ext e748
        refine deps_nil (mv 1 rfl ?_)
        exact pi_done rfl (Ext.refl _) rfl
       · 
        intro v749 e750
        have hw4:Bl lb w v749:=hw3.ext e750
        refine deps_nil (mv 1 rfl ?_)
        exact pi_done rfl (Ext.refl _) rfl
       · 
        intro v751 e752
        have hw4:Bl lb w v751:=hw3.ext e752
        refine deps_nil (lo aggInt (hb738.ext e752) [.bool s723,.slice A723 n723 c723] rfl rfl rfl ?_)
        exact pi_done rfl (Ext.refl _) rfl
       · 
        intro v753 e754
        have hw4:Bl lb w v753:=hw3.ext e754
        refine deps_nil (mv 1 rfl ?_)
        exact pi_done rfl (Ext.refl _) rfl
       · 
        intro v755 e756
        have hw4:Bl lb w v755:=hw3.ext e756
        refine dk rfl rfl (deps_nil (pf g 0 rfl (by kernel_rfl) ?_))
        exact pi_done rfl (Ext.refl _) rfl
       · 
        intro v762 e763
        have hw4:Bl lb w v762:=hw3.ext e763
        refine dk rfl rfl (deps_nil (pf g 3 rfl (by kernel_rfl) ?_))
        exact pi_done rfl (Ext.refl _) rfl
       · 
        intro v769 e770
        have hw4:Bl lb w v769:=hw3.ext e770
        refine dk rfl rfl (deps_nil (lo aggInt (((b_g.ext e640).updN u739 (by omega)).ext e770) [.bool sl,.slice Al nl cl] rfl rfl rfl ?_))
        exact pi_done rfl (Ext.refl _) rfl
       · 
        intro v776 e777
        have hw4:Bl lb w v776:=hw3.ext e777
        refine dk rfl rfl (dk rfl rfl (deps_nil (wl_call rfl rfl (vs:= [.agg #[.bool s723,.slice A723 n723 c723],.agg #[.bool sl,.slice Al nl cl]]) (by kernel_rfl) (by decide) ((g_zint_Exact hw4.size ((z723.updT hb730 u739).ext e777).zi (z723.le (lx_ L509 rfl)) (((z_g_1.ext e640).updT hb730 u739).ext e777).zi (z_g_1.le (lx_ hLz rfl)) hI.ne ⟨_,hq.1⟩).mono (Gv.imp (T2.imp (fun _ _ h=>ZR.cast h hq.2) Is.imp))) ?_)))
        rintro _ v788 ⟨xr790,rfl,r790,e789⟩
        refine ret_intro ?_
        have hw5:Bl lb w v788:=hw4.ext e789
        obtain⟨_,_,rfl,⟨s792,A792,n792,c792,rfl,z792⟩,rfl⟩:=r790
        exact pi_done rfl e789 ⟨_,_,rfl,⟨_,_,_,_,rfl,z792⟩,rfl⟩
       · 
        intro v793 e794
        have hw4:Bl lb w v793:=hw3.ext e794
        refine deps_cons rfl rfl fun x795 y796 h797 e798 f799=>?_
        obtain⟨_,_,rfl,⟨s801,A801,n801,c801,rfl,z801⟩,rfl⟩:=h797
        have z801:=z801.ext f799
        refine deps_nil (mv 1 rfl ?_)
        exact pi_done rfl (Ext.refl _) ⟨_,_,rfl,⟨_,_,_,_,rfl,z801⟩,rfl⟩
       · 
        intro v802 e803
        have hw4:Bl lb w v802:=hw3.ext e803
        refine deps_cons rfl rfl fun x804 y805 h806 e807 f808=>?_
        obtain⟨_,_,rfl,⟨s810,A810,n810,c810,rfl,z810⟩,rfl⟩:=h806
        have z810:=z810.ext f808
        refine deps_nil ?_
        exact⟨.agg #[.bool s810,.slice A810 n810 c810],rfl,rfl,fun _=>by kernel_rfl,⟨_,_,_,_,rfl,z810⟩⟩
       · 
        intro v811 e812
        have hw4:Bl lb w v811:=hw3.ext e812
        refine deps_cons rfl rfl fun x813 y814 h815 e816 f817=>?_
        obtain⟨_,_,rfl,⟨s819,A819,n819,c819,rfl,z819⟩,rfl⟩:=h815
        have z819:=z819.ext f817
        refine deps_nil ?_
        exact⟨.int .i64 0,rfl,rfl,fun _=>by kernel_rfl,rfl⟩
       · 
        intro v820 e821
        have hw4:Bl lb w v820:=hw3.ext e821
        refine dk rfl rfl (dk rfl rfl (deps_nil (wl_idx rfl rfl rfl elemI aggInt.size j rfl (by omega) pz746 hpz746 (by decide) ?_)))
        exact pi_done rfl (Ext.refl _) rfl
       · 
        intro v832 e833
        have hw4:Bl lb w v832:=hw3.ext e833
        refine dk rfl rfl (dk rfl rfl (dk rfl rfl (dk rfl rfl (dk rfl rfl (dk rfl rfl (dk rfl rfl (deps_cons rfl rfl fun x869 y870 h871 e872 f873=>?_)))))))
        obtain⟨_,_,rfl,⟨s875,A875,n875,c875,rfl,z875⟩,rfl⟩:=h871
        have z875:=z875.ext f873
        refine deps_cons rfl rfl fun x876 y877 h878 e879 f880=>?_
        obtain⟨_,_,rfl,⟨s882,A882,n882,c882,rfl,z882⟩,rfl⟩:=h878
        have z882:=z882.ext f880
        refine deps_cons rfl rfl fun x883 y884 h885 e886 f887=>?_
        obtain⟨s888,A888,n888,c888,rfl,z888⟩:=h885
        have z888:=z888.ext f887
        refine dk rfl rfl (dk rfl rfl (deps_nil ?_))
        have rt899:=(((rc_wj.ext e640).updT hb730 u739 nr735).ext e833)
        obtain⟨us901,own902⟩:=rt899.own (hI.per.lt (k+1+t) (by omega))
        refine wl_setR (e:=⟨s888,A888,n888,c888⟩) (z:=bm (pr X qs) (k+1) (k+1+t) j) rfl rfl rfl rt899 (hI.per.lt (k+1+t) (by omega)) (show j<n by omega) hpz746 (Zr.mono z888 (Nat.zero_le _)) (z888.le (lx_ hLq rfl)) fun v900 rc903 uo904=>?_
        have hw5:Bl lb w v900:=hw4.updO uo904 (fun p hp=>(own902.block p hp).1)
        refine wl_nil (eo_np (eo_block_normal (eo_then (cw_region (mv 1 rfl (wl_ar rfl rfl rfl ((j+1:Nat):Int) (ai_add (a:=j) (b:=1) rfl rfl (by omega)) (by decide) (mv 1 rfl (wl_nil (eo_round (⟨v900,j+1,ent V (qs.getD (k+1+t) 0) j (bm (pr X qs) (k+1) (k+1+t) j)⟩:World×Nat×Mx) ⟨hw5,(by omega),((((b_g.ext e640).updN u739 (by omega)).ext e833).updO uo904 (hA.rg (qs.getD (k+1+t) 0) (hI.per.lt (k+1+t) (by omega)))),((((z_g_1.ext e640).updT hb730 u739).ext e833).updOT own902 uo904),((((b_g488.ext e640).updN u739 (by omega)).ext e833).updO uo904 (nr496 (qs.getD (k+1+t) 0) (hI.per.lt (k+1+t) (by omega)))),((((z_g488.ext e640).updT hb730 u739).ext e833).updOT own902 uo904),((((o_RAwj.ext e640).upd u739 ne733).ext e833).updO uo904 (fun p q hp hq e=>hA.Rr (qs.getD (k+1+t) 0) (hI.per.lt (k+1+t) (by omega)) q p hq hp e.symm)),((((o_NAwj.ext e640).upd u739 ne734).ext e833).updO uo904 (fun p q hp hq e=>hA.Nr (qs.getD (k+1+t) 0) (hI.per.lt (k+1+t) (by omega)) q p hq hp e.symm)),rc903,(by omega),(hMV.next hI.per (by omega) (by omega) hj1 hjn rfl)⟩ (show n-(j+1)<n-j by omega) rfl ⟨rfl,rfl,rfl,rfl,rfl,rfl,rfl,rfl,rfl,rfl,rfl,rfl,rfl,rfl,rfl,rfl,rfl,rfl,rfl,rfl,rfl,rfl,rfl,rfl,rfl,rfl,rfl,rfl,rfl,rfl,rfl,rfl,rfl,rfl,rfl,rfl,rfl,rfl,rfl,rfl,rfl,rfl,rfl,rfl,rfl,rfl,rfl,rfl,rfl,rfl,rfl,rfl,rfl,rfl,rfl,rfl,rfl,rfl,rfl,rfl,rfl,rfl,rfl,rfl,rfl,rfl,rfl,rfl,rfl,rfl,trivial⟩)))))))))
     · 
      refine cw_region (mv 2 rfl (pu (v:= .int .i64 ((n:Nat):Int)) rfl (by kernel_rfl) (wl_cmp rfl rfl rfl false (cb_lt_f (a:=j) (b:=n) rfl rfl (by omega)) (by decide) (ne_ (cw_false rfl (cw_exit (eo_thenX (eo_loopX (eo_block_here (eo_then (cw_region (mv 2 rfl (pu (v:= .agg #[F0,S0]) rfl (by kernel_rfl) ?_)))))))))))))
      obtain⟨pz905,sz905,Bz905,nz905,cz905,hpz905,ldz905,hKz905,zz905⟩:=(rc_wj).at (hI.per.lt (k+1+t) (by omega)) (show k<n by omega)
      refine wl_idx rfl rfl rfl elemI aggInt.size k rfl (by omega) pz905 hpz905 (by decide) ?_
      have rt906:=rc_wj
      obtain⟨us908,own909⟩:=rt906.own (hI.per.lt (k+1+t) (by omega))
      refine wl_setR (e:=⟨false,none,0,0⟩) (z:=0) rfl rfl rfl rt906 (hI.per.lt (k+1+t) (by omega)) (show k<n by omega) hpz905 (Zr.mono (Zr.zero (w:=wj) (base:=w.heap.size)) (Nat.zero_le _)) (Nat.zero_le _) fun v907 rc910 uo911=>?_
      have hw2:Bl lb w v907:=hw1.updO uo911 (fun p hp=>(own909.block p hp).1)
      refine wl_nil (eo_block_normal (eo_then (cw_region (wl_ar rfl rfl rfl ((t+1:Nat):Int) (ai_add (a:=t) (b:=1) rfl rfl (by omega)) (by decide) (mv 1 rfl (wl_nil (eo_round (⟨v907,t+1,ent V (qs.getD (k+1+t) 0) k 0⟩:World×Nat×Mx) ⟨hw2,(by omega),(b_g.updO uo911 (hA.rg (qs.getD (k+1+t) 0) (hI.per.lt (k+1+t) (by omega)))),(z_g_1.updOT own909 uo911),(o_RAwj.updO uo911 (fun p q hp hq e=>hA.Rr (qs.getD (k+1+t) 0) (hI.per.lt (k+1+t) (by omega)) q p hq hp e.symm)),(o_NAwj.updO uo911 (fun p q hp hq e=>hA.Nr (qs.getD (k+1+t) 0) (hI.per.lt (k+1+t) (by omega)) q p hq hp e.symm)),rc910,(by have h9:Mid n k (pr X qs) qs V (k+1+t) n:=(show j=n by omega)▸hMV;exact h9.row hI.per (by omega) (by omega) 0)⟩ (show (n-(k+1))-(t+1)<(n-(k+1))-t by omega) rfl ⟨rfl,rfl,rfl,rfl,rfl,rfl,rfl,rfl,rfl,rfl,rfl,rfl,rfl,rfl,rfl,rfl,rfl,rfl,rfl,rfl,rfl,rfl,rfl,rfl,rfl,rfl,rfl,rfl,rfl,rfl,rfl,rfl,rfl,rfl,rfl,rfl,rfl,rfl,rfl,rfl,rfl,rfl,rfl,rfl,rfl,rfl,rfl,rfl,rfl,rfl,rfl,rfl,rfl,rfl,rfl,rfl,rfl,rfl,trivial⟩)))))))
    · 
     refine cw_region (wl_cmp rfl rfl rfl false (cb_lt_f (a:=t) (b:=n-(k+1)) rfl rfl (by omega)) (by decide) (ne_ (cw_seq (cw_false rfl (cw_exit (eo_thenX (eo_loopX (eo_block_here (eo_then (sr (mv 3 rfl ?_)))))))))))
     obtain⟨pz912,sz912,Bz912,nz912,cz912,hpz912,ldz912,hKz912,zz912⟩:=(rc_wt).at (hI.per.lt k (by omega)) (show k<n by omega)
     refine wl_idx rfl rfl rfl elemI aggInt.size k rfl (by omega) pz912 hpz912 (by decide) (wl_load rfl rfl (ldz912 _ (Ext.refl _) _ _ aggInt) (by decide) (pf g 0 rfl (by kernel_rfl) (pf g 3 rfl (by kernel_rfl) ?_)))
     have hb914:=b_g
     refine wl_stored rfl rfl rfl aggInt rfl hb914 (bq rfl) rfl [.slice RA n rcap,.slice NA n ncap,.bool tu,.bool sz912,.slice Bz912 nz912 cz912,.int .i64 ((k:Nat):Int)] rfl fun v913 hb915 u916 hs917=>?_
     have hw2:Bl lb w v913:=hw1.upd u916 hA.lg
     refine ne_ (sr (mv 1 rfl (pf g 0 rfl (by kernel_rfl) (pf g 5 rfl (by kernel_rfl) (wl_load rfl rfl (load_cell cellInt hb915 rfl) (by decide) (wl_ar rfl rfl rfl ((k+1:Nat):Int) (ai_add (a:=k) (b:=1) rfl rfl (by omega)) (by decide) (pf g 0 rfl (by kernel_rfl) (pf g 5 rfl (by kernel_rfl) (wl_stored1 rfl rfl rfl szInt rfl hb915 (bq rfl) rfl [.slice RA n rcap,.slice NA n ncap,.bool tu,.bool sz912,.slice Bz912 nz912 cz912,.int .i64 ((k+1:Nat):Int)] rfl fun v918 hb920 u921 hs922=>?_)))))))))
     have hw3:Bl lb w v918:=hw2.upd u921 hA.lg
     refine ne_ (sr (mv 1 rfl (ne_ (cw_ret (eo_ret [.bool true] rfl ⟨rfl,trivial⟩ ?_)))))
     have hM9:Mid n k (pr X qs) qs Y n (k+1):=(show k+1+t=n by omega)▸hM
     exact⟨hw3,Or.inr ⟨qs,Y,tu,Y (qs.getD k 0) k,rfl,⟨_,_,_,_,_,hb920,((zz912.updT hb914 u916).updT hb915 u921),((o_RAwt.upd u916 hA.Rg).upd u921 hA.Rg),((o_NAwt.upd u916 hA.Ng).upd u921 hA.Ng),((rc_wt.updT hb914 u916 hA.rg).updT hb915 u921 hA.rg)⟩,hI.next (by omega) hM9 (by rw [hM9.old (Nat.le_refl _) (by omega) (Nat.le_refl _) (by omega) (Or.inl rfl)];exact hDb)⟩⟩
 · 
  refine cw_region (mv 2 rfl (pf g 0 rfl (by kernel_rfl) (pf g 0 rfl (by kernel_rfl) (wl_load rfl rfl (load_cell cellRows b_g rfl) (by decide) (pu (v:= .int .i64 ((n:Nat):Int)) rfl (by kernel_rfl) (wl_cmp rfl rfl rfl false (cb_lt_f (a:=p) (b:=n) rfl rfl (by omega)) (by decide) (mv 13 rfl (pu (v:= .bool false) rfl (by kernel_rfl) (ne_ (cw_false rfl (cw_exit (eo_thenX (eo_loopX ?_)))))))))))))
  refine eo_block_here (eo_then (cw_seq (sr (mv 2 rfl (pf g 0 rfl (by kernel_rfl) (pf g 0 rfl (by kernel_rfl) (wl_load rfl rfl (load_cell cellRows b_g rfl) (by decide) (pu (v:= .int .i64 ((n:Nat):Int)) rfl (by kernel_rfl) (wl_cmp rfl rfl rfl true (cb_eq_t (a:=p) (b:=n) rfl rfl (by omega)) (by decide) (ne_ (cw_true rfl (sr (mv 1 rfl ?_)))))))))))))
  refine ne_ (cw_ret (eo_thenR (eo_ret [F0] rfl ⟨rfl,trivial⟩ ?_)))
  exact⟨hw1,Or.inl ⟨rfl,fun i h1 h2=>hz0 i h1 (by omega)⟩⟩
theorem cellPF:∀w,(isAgg 69).run Try.prog w= .ok false w:=fun _=>by kernel_rfl
theorem szPF:∀w,(sizeOf 69).run Try.prog w= .ok 1 w:=fun _=>by kernel_rfl
theorem szRows:∀w,(sizeOf 72).run Try.prog w= .ok 1 w:=fun _=>by kernel_rfl
theorem szNums:∀w,(sizeOf 73).run Try.prog w= .ok 1 w:=fun _=>by kernel_rfl
structure OfC (B L M gf gp gm:Nat) (Al Am:Option Addr):Prop where
 bf:B≤gf
 fp:gp≠gf
 fm:gm≠gf
 fM:gf<M
 fL:gf<L
 pL:gp<L
 mL:gm<L
 al:∀p,Al=some p→p.block<L
 am:∀p,Am=some p→p.block<L
 BL:B≤L
structure OfS (w0:World) (n K L M gf gp gm:Nat) (sl:Bool) (Al:Option Addr) (nl cl:Nat) (Am:Option Addr) (capm:Nat) (xs:List Int) (W:World):Prop where
 ext:Ext w0 W
 sz:L≤W.heap.size
 z:Zr W w0.heap.size sl Al nl cl 1
 p:Bk W gp 69 [.pointer (some ⟨gf,0,none⟩)]
 m:Bk W gm 24 [.int .i64 (n:Int),.int .i64 (n:Int),.slice Am (n*n) capm]
 l:Lz none K 0 W M Am (n*n) capm xs
section
variable {w0:World}{n K L M gf gp gm:Nat}{sl:Bool}{Al:Option Addr}{nl cl:Nat}{Am:Option Addr}{capm:Nat}{xs:List Int}{W W':World}
theorem OfS.ex (s:OfS w0 n K L M gf gp gm sl Al nl cl Am capm xs W) (e:Ext W W'):OfS w0 n K L M gf gp gm sl Al nl cl Am capm xs W':=⟨s.ext.trans e,Nat.le_trans s.sz e.size,s.z.ext e,s.p.ext e,s.m.ext e,s.l.ext e⟩
theorem OfS.nc (s:OfS w0 n K L M gf gp gm sl Al nl cl Am capm xs W) (c:Nc W W') (b:Below L W W') (hB:w0.heap.size≤L):OfS w0 n K L M gf gp gm sl Al nl cl Am capm xs W':=⟨⟨s.ext.below.trans (b.mono hB)⟩,Nat.le_trans s.sz c.size,s.z.nc c,s.p.nc c,s.m.nc c,s.l.nc c⟩
theorem OfS.updR {A:Option Addr}{T:TypeId}{k c:Nat}{us:List Value}(s:OfS w0 n K L M gf gp gm sl Al nl cl Am capm xs W) (C:OfC w0.heap.size L M gf gp gm Al Am) (ho:Own W L T 1 A k c us) (u:UpdO A W W') (hT:57≠T:=by decide):OfS w0 n K L M gf gp gm sl Al nl cl Am capm xs W':=
 ⟨u.ext s.ext (fun p hp=>Nat.le_trans C.BL (ho.block p hp).1),Nat.le_trans s.sz u.size,s.z.updOT ho u hT,s.p.updO u (fun p hp e=>by have:=(ho.block p hp).1;have:=C.pL;omega),s.m.updO u (fun p hp e=>by have:=(ho.block p hp).1;have:=C.mL;omega),
  s.l.updQ ho u (fun p q hp hq e=>by have:=(ho.block p hp).1;have:=C.am q hq;omega) hT⟩
theorem OfS.updF {us:List Value}(s:OfS w0 n K L M gf gp gm sl Al nl cl Am capm xs W) (C:OfC w0.heap.size L M gf gp gm Al Am) (hb:Bk W gf 75 us) (u:Upd gf W W'):OfS w0 n K L M gf gp gm sl Al nl cl Am capm xs W':=
 ⟨u.ext s.ext C.bf,Nat.le_trans s.sz u.size,s.z.updT hb u,s.p.updN u C.fp,s.m.updN u C.fm,s.l.updT hb u (fun p hp e=>by have:=(s.l.block p hp).1;have:=C.fM;omega)⟩
end
structure OfM (n L gf:Nat) (sl:Bool) (Al:Option Addr) (nl cl:Nat) (X:Mx) (kr kn b:Nat) (RA NA:Option Addr) (rcap ncap:Nat) (ra:Nat→Option Addr) (rc:Nat→Nat) (W:World):Prop where
 f:Bk W gf 75 [.slice RA kr rcap,.slice NA kn ncap,.bool false,.bool sl,.slice Al nl cl,.int .i64 0]
 R:Own W L 22 1 RA kr rcap ((List.range kr).map (rwv ra rc n))
 N:Own W L 3 1 NA kn ncap (((List.range kn).map (fun i:Nat=>(i:Int))).map I64)
 C:Rcs 17179869184 L kr n ra rc W X
 RN:∀p q,RA=some p→NA=some q→p.block≠q.block
 Rr:∀r,r<kr→∀p q,RA=some p→ra r=some q→p.block≠q.block
 Nr:∀r,r<kr→∀p q,NA=some p→ra r=some q→p.block≠q.block
 Rb:∀p,RA=some p→p.block<b
 Nb:∀p,NA=some p→p.block<b
 rb:∀r,r<kr→∀p,ra r=some p→p.block<b
def OfI (w0:World) (n K L M gf gp gm:Nat) (sl:Bool) (Al:Option Addr) (nl cl:Nat) (Am:Option Addr) (capm:Nat) (xs:List Int) (X:Mx) (k b:Nat) (W:World):Prop:=
 L≤b∧OfS w0 n K L M gf gp gm sl Al nl cl Am capm xs W∧∃RA NA rcap ncap ra rc,OfM n L gf sl Al nl cl X k k b RA NA rcap ncap ra rc W
theorem Rcs.low {K lb lb' n m:Nat}{ra:Nat→Option Addr}{rc:Nat→Nat}{w:World}{Z:Mx}(h:Rcs K lb n m ra rc w Z) (hl:lb'≤lb):Rcs K lb' n m ra rc w Z:=⟨fun r hr=>by obtain⟨zs,h1,h2⟩:=h.row r hr;exact⟨zs,h1.mono (Nat.le_refl _) (Nat.le_refl _) hl,h2⟩,h.dis⟩
theorem rows_succ {k n lc:Nat}{ra:Nat→Option Addr}{rc:Nat→Nat}{LA:Option Addr}:(List.range k).map (rwv ra rc n)++ [.slice LA n lc]=(List.range (k+1)).map (rwv (fun r=>if r=k then LA else ra r) (fun r=>if r=k then lc else rc r) n):=by
 rw [List.range_succ,List.map_append]
 congr 1
 ·refine List.map_congr_left fun r hr=>?_
  have:=List.mem_range.1 hr
  unfold rwv
  simp only [if_neg (show¬r=k by omega)]
 ·simp [rwv]
theorem nums_succ {k:Nat}:((List.range k).map (fun i:Nat=>(i:Int))).map I64++ [.int .i64 (k:Int)]=((List.range (k+1)).map (fun i:Nat=>(i:Int))).map I64:=by
 rw [List.range_succ,List.map_append,List.map_append];rfl
set_option maxHeartbeats 4000000 in
theorem g_brs_of {w:World}{n K:Nat}{Aa:Option Addr}{na capa:Nat}{xs:List Int}(hxa:ZF w Aa na capa K xs) (hn:n≤64) (hna:na=n*n){X:Mx}(hX:En n n X xs) (hKB:K≤17179869184):
  Calls Try.prog 43 #[.agg #[.int .i64 ((n:Nat):Int),.int .i64 ((n:Nat):Int),.slice Aa na capa]] w (Gv w (fun v w'=>∃g RA NA rcap ncap ra rc,v= .pointer (some ⟨g,0,none⟩)∧Apt w.heap.size n g RA NA ra∧Fld w.heap.size n g RA NA rcap ncap ra rc (List.range n) X false 1 0 w')):=by
 have hlb:w.heap.size≤w.heap.size:=Nat.le_refl _
 have hxa0:=hxa
 obtain⟨msa,hla,hma⟩:=hxa
 refine sx_enterM Try.func43 rfl (n:=34) rfl (bq rfl) (args:= [.agg #[.int .i64 ((n:Nat):Int),.int .i64 ((n:Nat):Int),.slice Aa na capa]]) (cw_keep [(0,.agg #[.int .i64 ((n:Nat):Int),.int .i64 ((n:Nat):Int),.slice Aa na capa])] ⟨rfl,trivial⟩ (sr (bx [.int .i64 ((n:Nat):Int),.int .i64 ((n:Nat):Int),.slice Aa na capa] (Ext.refl w) rfl rfl rfl fun g1 v2 hb4 ge5 e3 hw1=>(mv 1 rfl (ne_ (sr (cl (vs:= [.int .i64 1]) hw1 (g_zint_Of hw1.size (by decide) (by decide)) rfl (by kernel_rfl) fun xr8 v6 r8 e7 hw2=>?_)))))))
 obtain⟨s9,A9,n9,c9,rfl,z9⟩:=r8
 refine pu (v:= .agg #[S0,S0,F0,.bool s9,.slice A9 n9 c9,I0]) rfl (by kernel_rfl) (bxq [S0,S0,F0,.bool s9,.slice A9 n9 c9,I0] hw2 (hb4.ext e7).lt rfl rfl rfl fun g10 v11 hb13 ge14 q15 e12 hw3=>(wl_alloc rfl (z:= .pointer none) (vs:= [.pointer none]) (fun _=>by kernel_rfl) rfl (by decide) fun g16 v17 nb=>?_))
 have hb19:=nb.bk
 have ge20:w.heap.size≤g16:=by rw [←nb.at_];exact hw3.size
 have q21:g10<g16:=by rw [←nb.at_];exact hb13.lt
 have e18:=nb.ext
 clear nb
 have hw4:=hw3.trans e18
 refine wl_stored1 rfl rfl rfl szPF rfl hb19 (bq rfl) rfl [.pointer (some ⟨g10,0,none⟩)] rfl fun v22 hb24 u25 hs26=>?_
 have hw5:=u25.ext hw4 ge20
 refine ne_ (cw_seq (sr (lo aggMat ((hb4.ext (e7.trans (e12.trans e18))).updN u25 (by omega)) [.int .i64 ((n:Nat):Int),.int .i64 ((n:Nat):Int),.slice Aa na capa] rfl rfl rfl (cl (vs:= [.agg #[.int .i64 ((n:Nat):Int),.int .i64 ((n:Nat):Int),.slice Aa na capa]]) hw5 (g_mat_Lines (hxa0.ext hw5) hn hn hna hKB) rfl (by kernel_rfl) fun xr29 v27 r29 e28 hw6=>?_))))
 obtain⟨gm,Am,capm,rfl,hgm,hbm,hzm⟩:=r29
 refine ne_ (cw_block ?_)
 have hf0:=(hb13.ext e18).updN u25 (by omega)
 have hf1:=hf0.ext e28
 have hp1:=hb24.ext e28
 have hz1:=((z9.ext (e12.trans e18)).updT hb19 u25).ext e28
 have C:OfC w.heap.size v27.heap.size v22.heap.size g10 g16 gm A9 Am:=⟨ge14,by omega,(by have:=hf0.lt;omega),hf0.lt,hf1.lt,hp1.lt,hbm.lt,fun p hp=>(hz1.own.block p hp).2,fun p hp=>(hzm.block p hp).2,hw6.size⟩
 have S0:OfS w n K v27.heap.size v22.heap.size g10 g16 gm s9 A9 n9 c9 Am capm xs v27:=⟨hw6,Nat.le_refl _,hz1,hp1,by rw [←hna];exact hbm,by rw [←hna];exact hzm⟩
 refine cw_keep [(3,.pointer (some ⟨g16,0,none⟩)),(10,.func (.func 86) #[] #[.pointer (some ⟨gm,0,none⟩)])] ⟨rfl,rfl,trivial⟩ ?_
 refine cw_lines (A:=Am) (cap:=capm) (gm:=gm) (xs:=xs) (X:=X) (K:=K) (r:=n) (c:=n) (p0:=11) (p1:=12) rfl rfl (by decide) (by decide) hn hn hKB hX (OfI w n K v27.heap.size v22.heap.size g10 g16 gm s9 A9 n9 c9 Am capm xs X) ?_ ?_ ?_ ?_ ?_
  (fun v0 v1=>(5,v1)::(4,v0)::(12,v1)::(11,v0):: [(3,.pointer (some ⟨g16,0,none⟩)),(10,.func (.func 86) #[] #[.pointer (some ⟨gm,0,none⟩)])]) ?_ ?_ ?_
 ·rintro k b W ⟨_,S,_⟩
  exact⟨S.m,S.l.zf0⟩
 ·rintro k b V W ⟨hb,S,RA,NA,rcap,ncap,ra,rc,R⟩ x
  exact⟨hb,S.ex x,RA,NA,rcap,ncap,ra,rc,R.f.ext x,R.R.ext x,R.N.ext x,R.C.ext x,R.RN,R.Rr,R.Nr,R.Rb,R.Nb,R.rb⟩
 ·rintro k b W ⟨hb,S,RA,NA,rcap,ncap,ra,rc,R⟩
  exact⟨S.sz,S,RA,NA,rcap,ncap,ra,rc,R.f,R.R,R.N,R.C,R.RN,R.Rr,R.Nr,fun p hp=>(R.R.block p hp).2,fun p hp=>(R.N.block p hp).2,fun r hr p hp=>(R.C.lt r hr p hp).2⟩
 ·rintro k b V W ⟨hb,S,RA,NA,rcap,ncap,ra,rc,R⟩ x hbl
  exact⟨hb,S.nc x hbl C.BL,RA,NA,rcap,ncap,ra,rc,R.f.nc x,R.R.nc x,R.N.nc x,R.C.nc x,R.RN,R.Rr,R.Nr,R.Rb,R.Nb,R.rb⟩
 ·exact⟨Nat.le_refl _,S0,none,none,0,0,fun _=>none,fun _=>0,hf1,Own.nil _ _ _ _,Own.nil _ _ _ _,⟨fun r hr=>(by omega),fun r s hr=>(by omega)⟩,fun p q hp=>(by cases hp),fun r hr=>(by omega),fun r hr=>(by omega),fun p hp=>(by cases hp),fun p hp=>(by cases hp),fun r hr=>(by omega)⟩
 ·intro lp v0 v1 Kp W hk
  refine ci_seq (ci_region (Wd.round _ _ _) (then_lets (then_lets (fun⟨_,_,h⟩=>h))) rfl (mv 1 rfl (wl_nil (eo_thenI (ci_region (Wd.round _ _ _) (then_lets (fun⟨_,_,h⟩=>h)) rfl (mv 1 rfl (wl_nil ?_)))))))
  exact hk
 ·rintro lp k b W LA lc zs Q9 hk ⟨hLb,S,RA,NA,rcap,ncap,ra,rc,R⟩ hb hz hze hNL hQ
  have hf:=R.f
  have hp:=S.p
  have hsz:=S.sz
  have hAb:∀p,RA=some p→p.block<W.heap.size:=fun p hp=>(R.R.block p hp).2
  have hAp:∀p,RA=some p→p.block≠g16:=fun p hp e=>by have:=(R.R.block p hp).1;have:=C.pL;omega
  have hAf:∀p,RA=some p→p.block≠g10:=fun p hp e=>by have:=(R.R.block p hp).1;have:=C.fL;omega
  have hO:=R.R
  refine ci_block (ci_seq ?_)
  refine ci_drawE (E:=EA v27.heap.size 22 RA k rcap ((List.range k).map (rwv ra rc n)) (.slice LA n lc)) EA.dr (Wd.round _ _ _) (then_lets (block_lets hNL)) rfl mix 8 [Is (.pointer (some ⟨g10,0,none⟩)),Is (.pointer (some ⟨g10,0,none⟩)),Is (.pointer (some ⟨g10,0,none⟩)),Is (.pointer (some ⟨g10,0,none⟩)),Is (.slice RA k rcap),Is (.slice LA n lc),BsR 22 (.slice LA n lc) W.heap.size,ApR v27.heap.size 22 RA k rcap ((List.range k).map (rwv ra rc n)) (.slice LA n lc) W.heap.size] [[],[],[1],[2],[3],[],[5],[4,6]] [[],[],[1],[1,2],[1,2,3],[],[5],[1,2,3,4,5,6],[0,1,2,3,4,5,6,7],[0,1,2,3,4,5,6,7,8],[0,1,2,3,4,5,6,7,8,9]] rfl
   (obse_cons rfl (hobe rfl ?_) (obse_cons rfl (hobe rfl ?_) (obse_cons rfl (hobe rfl ?_) (obse_cons rfl (hobe rfl ?_) (obse_cons rfl (hobe rfl ?_) (obse_cons rfl (hobe rfl ?_) (obse_cons rfl (hobe rfl ?_) (obse_cons rfl (hobe rfl ?_) obse_nil)))))))) ?_
  ·intro v e
   refine depe_nil (wl_load rfl rfl (load_cell cellPF (hp.updO e.u hAp) rfl) (by decide) ?_)
   exact pie_done rfl (EA.dr.refl _) rfl
  ·intro v e
   refine depe_nil (wl_load rfl rfl (load_cell cellPF (hp.updO e.u hAp) rfl) (by decide) ?_)
   exact pie_done rfl (EA.dr.refl _) rfl
  ·intro v e
   refine depe_cons rfl rfl fun x0 y0 h0 e0 f0=>?_
   obtain rfl:=h0
   refine depe_nil (pf g10 0 rfl (by kernel_rfl) ?_)
   exact pie_done rfl (EA.dr.refl _) rfl
  ·intro v e
   refine depe_cons rfl rfl fun x0 y0 h0 e0 f0=>?_
   obtain rfl:=h0
   refine depe_nil (pf g10 0 rfl (by kernel_rfl) ?_)
   exact pie_done rfl (EA.dr.refl _) rfl
  ·intro v e
   refine depe_cons rfl rfl fun x0 y0 h0 e0 f0=>?_
   obtain rfl:=h0
   refine depe_nil (wl_load rfl rfl (load_cell cellRows (hf.updO e.u hAf) rfl) (by decide) ?_)
   exact pie_done rfl (EA.dr.refl _) rfl
  ·intro v e
   refine depe_nil (mv 1 rfl ?_)
   exact pie_done rfl (EA.dr.refl _) rfl
  ·intro v e
   refine depe_cons rfl rfl fun x0 y0 h0 e0 f0=>?_
   obtain rfl:=h0
   refine depe_nil (wl_bslice rfl rfl (by decide) (k:=1) (e:=22) [.slice LA n lc] (fun _=>by kernel_rfl) fun g w2 nb=>?_)
   exact pie_done rfl (EA.of_ext nb.ext) ⟨g,rfl,by rw [←nb.at_];exact e.u.size,nb.bk⟩
  ·intro v e
   refine depe_cons rfl rfl fun x0 y0 h0 e0 f0=>?_
   obtain rfl:=h0
   refine depe_cons rfl rfl fun x1 y1 h1 e1 f1=>?_
   obtain⟨g,rfl,hg,hbg⟩:=h1.lift f1 hAb
   refine depe_nil ?_
   have ho:=e.o1 hO
   refine wl_appC (z:= .slice none 0 0) (s:=1) (bytes:=24) (e:=22) rfl rfl rfl (by kernel_rfl) (by kernel_rfl) rfl (by decide) (by decide) ho (Nat.le_trans hsz e.u.size) [.slice LA n lc] rfl (one_news3 _ hbg) rfl (by omega) (by decide) fun A1 c1 w2 ho2 hc2=>?_
   exact pie_done rfl (EA.app ho ho2 hc2) ⟨_,_,rfl,ho2,hc2.imp (fun h=>⟨h.1,h.2.1⟩) (fun h p hp=>Nat.le_trans e.u.size (h.2 p hp))⟩
  intro w1 e1
  refine depe_cons rfl rfl fun x0 y0 h0 e10 f0=>?_
  obtain rfl:=h0
  refine depe_cons rfl rfl fun x1 y1 h1 e11 f1=>?_
  obtain rfl:=h1
  refine depe_cons rfl rfl fun x2 y2 h2 e12 f2=>?_
  obtain rfl:=h2
  refine depe_cons rfl rfl fun x3 y3 h3 e13 f3=>?_
  obtain rfl:=h3
  refine depe_cons rfl rfl fun x4 y4 h4 e14 f4=>?_
  obtain rfl:=h4
  refine depe_cons rfl rfl fun x5 y5 h5 e15 f5=>?_
  obtain rfl:=h5
  refine depe_cons rfl rfl fun x6 y6 h6 e16 f6=>?_
  obtain⟨g9,rfl,hg9,hbg9⟩:=h6
  refine depe_cons rfl rfl fun x7 y7 h7 e17 f7=>?_
  obtain⟨A1,c1,rfl,ho1,hc1⟩:=h7.lift f7 hAb
  refine depe_nil (pf g10 0 rfl (by kernel_rfl) (pf g10 0 rfl (by kernel_rfl) ?_))
  have hf1:=hf.updO e1.u hAf
  refine wl_stored1 rfl rfl rfl szRows rfl hf1 (bq rfl) rfl [.slice A1 (k+1) c1,.slice NA k ncap,F0,.bool s9,.slice A9 n9 c9,I0] rfl fun w2 hf2 u2 hs2=>(wl_nil (eo_np (eo_thenI ?_)))
  have S2:=(S.updR C hO e1.u).updF C hf1 u2
  have hz2:=(hz.updQ hO e1.u (fun p q hp hq e=>by have:=R.Rb p hp;have:=(hz.block q hq).1;omega)).updT hf1 u2 (fun p hp e=>by have:=(hz.block p hp).1;have:=C.fL;omega)
  have hR2:=ho1.updT hf1 (by decide) u2
  have hN2:=(R.N.updO e1.u R.RN).updT hf1 (by decide) u2
  have hC2:=(R.C.updQ hO e1.u R.Rr).updT hf1 u2 (fun r hr p hp e=>by have:=(R.C.lt r hr p hp).1;have:=C.fL;omega)
  have hsz2:W.heap.size≤w2.heap.size:=Nat.le_trans e1.u.size u2.by_.size
  have R2:OfM n v27.heap.size g10 s9 A9 n9 c9 X (k+1) k w2.heap.size A1 NA c1 ncap (fun r=>if r=k then LA else ra r) (fun r=>if r=k then lc else rc r) w2:=by
   refine⟨hf2,?_,hN2,⟨fun r hr=>?_,fun r s hr hs hrs p q hp hq=>?_⟩,fun p q hp hq=>?_,fun r hr p q hp hq=>?_,fun r hr p q hp hq=>?_,fun p hp=>(hR2.block p hp).2,fun p hp=>(hN2.block p hp).2,fun r hr p hp=>?_⟩
   ·rw [←rows_succ];exact hR2
   ·by_cases e:r=k
    ·subst e
     simp only
     exact⟨zs,hz2.mono hKB (Nat.le_refl _) hLb,hze⟩
    ·simp only [if_neg e]
     exact hC2.row r (by omega)
   ·split at hp
    ·split at hq
     ·omega
     ·have:=(hz.block p hp).1;have:=R.rb s (by omega) q hq;omega
    ·split at hq
     ·have:=(hz.block q hq).1;have:=R.rb r (by omega) p hp;omega
     ·exact R.C.dis r s (by omega) (by omega) hrs p q hp hq
   ·rcases hc1 with⟨rfl,rfl⟩ | h
    ·exact R.RN p q hp hq
    ·have:=h p hp;have:=(R.N.block q hq).2;omega
   ·rcases hc1 with⟨rfl,rfl⟩ | h
    ·split at hq
     ·have:=R.Rb p hp;have:=(hz.block q hq).1;omega
     ·exact R.Rr r (by omega) p q hp hq
    ·split at hq
     ·have:=h p hp;have:=(hz.block q hq).2;omega
     ·have:=h p hp;have:=(R.C.lt r (by omega) q hq).2;omega
   ·split at hq
    ·have:=R.Nb p hp;have:=(hz.block q hq).1;omega
    ·exact R.Nr r (by omega) p q hp hq
   ·split at hp
    ·exact (hz2.block p hp).2
    ·exact (hC2.lt r (by omega) p hp).2
  have hkf:KeepsFrom v27.heap.size W w2:=(e1.u.kf hO).trans (u2.kf hf1)
  clear hf1 hf2 hR2 hN2 hC2 e1 u2 hO hAf hAp hAb hf hp hsz
  generalize (fun r=>if r=k then LA else ra r)=ra2 at R2
  generalize (fun r=>if r=k then lc else rc r)=rc2 at R2
  have hf:=R2.f
  have hp:=S2.p
  have hsz:=S2.sz
  have hAb:∀p,NA=some p→p.block<w2.heap.size:=fun p hp=>(R2.N.block p hp).2
  have hAp:∀p,NA=some p→p.block≠g16:=fun p hp e=>by have:=(R2.N.block p hp).1;have:=C.pL;omega
  have hAf:∀p,NA=some p→p.block≠g10:=fun p hp e=>by have:=(R2.N.block p hp).1;have:=C.fL;omega
  have hO:=R2.N
  generalize A1=RAx at*
  generalize c1=rcx at*
  refine ci_drawE (E:=EA v27.heap.size 3 NA k ncap (((List.range k).map (fun i:Nat=>(i:Int))).map I64) (.int .i64 (k:Int))) EA.dr (Wd.round _ _ _) (block_lets hNL) rfl mix 8 [Is (.pointer (some ⟨g10,0,none⟩)),Is (.pointer (some ⟨g10,0,none⟩)),Is (.pointer (some ⟨g10,0,none⟩)),Is (.pointer (some ⟨g10,1,none⟩)),Is (.slice NA k ncap),Is (.int .i64 (k:Int)),BsR 3 (.int .i64 (k:Int)) w2.heap.size,ApR v27.heap.size 3 NA k ncap (((List.range k).map (fun i:Nat=>(i:Int))).map I64) (.int .i64 (k:Int)) w2.heap.size] [[],[],[1],[2],[3],[],[5],[4,6]] [[],[],[1],[1,2],[1,2,3],[],[5],[1,2,3,4,5,6],[0,1,2,3,4,5,6,7],[0,1,2,3,4,5,6,7,8],[0,1,2,3,4,5,6,7,8,9]] rfl
   (obse_cons rfl (hobe rfl ?_) (obse_cons rfl (hobe rfl ?_) (obse_cons rfl (hobe rfl ?_) (obse_cons rfl (hobe rfl ?_) (obse_cons rfl (hobe rfl ?_) (obse_cons rfl (hobe rfl ?_) (obse_cons rfl (hobe rfl ?_) (obse_cons rfl (hobe rfl ?_) obse_nil)))))))) ?_
  ·intro v e
   refine depe_nil (wl_load rfl rfl (load_cell cellPF (hp.updO e.u hAp) rfl) (by decide) ?_)
   exact pie_done rfl (EA.dr.refl _) rfl
  ·intro v e
   refine depe_nil (wl_load rfl rfl (load_cell cellPF (hp.updO e.u hAp) rfl) (by decide) ?_)
   exact pie_done rfl (EA.dr.refl _) rfl
  ·intro v e
   refine depe_cons rfl rfl fun x0 y0 h0 e0 f0=>?_
   obtain rfl:=h0
   refine depe_nil (pf g10 0 rfl (by kernel_rfl) ?_)
   exact pie_done rfl (EA.dr.refl _) rfl
  ·intro v e
   refine depe_cons rfl rfl fun x0 y0 h0 e0 f0=>?_
   obtain rfl:=h0
   refine depe_nil (pf g10 1 rfl (by kernel_rfl) ?_)
   exact pie_done rfl (EA.dr.refl _) rfl
  ·intro v e
   refine depe_cons rfl rfl fun x0 y0 h0 e0 f0=>?_
   obtain rfl:=h0
   refine depe_nil (wl_load rfl rfl (load_cell cellNums (hf.updO e.u hAf) rfl) (by decide) ?_)
   exact pie_done rfl (EA.dr.refl _) rfl
  ·intro v e
   refine depe_nil (mv 1 rfl ?_)
   exact pie_done rfl (EA.dr.refl _) rfl
  ·intro v e
   refine depe_cons rfl rfl fun x0 y0 h0 e0 f0=>?_
   obtain rfl:=h0
   refine depe_nil (wl_bslice rfl rfl (by decide) (k:=1) (e:=3) [.int .i64 (k:Int)] (fun _=>by kernel_rfl) fun g w5 nb=>?_)
   exact pie_done rfl (EA.of_ext nb.ext) ⟨g,rfl,by rw [←nb.at_];exact e.u.size,nb.bk⟩
  ·intro v e
   refine depe_cons rfl rfl fun x0 y0 h0 e0 f0=>?_
   obtain rfl:=h0
   refine depe_cons rfl rfl fun x1 y1 h1 e1 f1=>?_
   obtain⟨g,rfl,hg,hbg⟩:=h1.lift f1 hAb
   refine depe_nil ?_
   have ho:=e.o1 hO
   refine wl_appC (z:= .int .i64 0) (s:=1) (bytes:=8) (e:=3) rfl rfl rfl (by kernel_rfl) (by kernel_rfl) rfl (by decide) (by decide) ho (Nat.le_trans hsz e.u.size) [.int .i64 (k:Int)] rfl (one_news3 _ hbg) rfl (by omega) (by decide) fun A1 c1 w5 ho2 hc2=>?_
   exact pie_done rfl (EA.app ho ho2 hc2) ⟨_,_,rfl,ho2,hc2.imp (fun h=>⟨h.1,h.2.1⟩) (fun h p hp=>Nat.le_trans e.u.size (h.2 p hp))⟩
  intro w3 e1
  refine depe_cons rfl rfl fun x0 y0 h0 e10 f0=>?_
  obtain rfl:=h0
  refine depe_cons rfl rfl fun x1 y1 h1 e11 f1=>?_
  obtain rfl:=h1
  refine depe_cons rfl rfl fun x2 y2 h2 e12 f2=>?_
  obtain rfl:=h2
  refine depe_cons rfl rfl fun x3 y3 h3 e13 f3=>?_
  obtain rfl:=h3
  refine depe_cons rfl rfl fun x4 y4 h4 e14 f4=>?_
  obtain rfl:=h4
  refine depe_cons rfl rfl fun x5 y5 h5 e15 f5=>?_
  obtain rfl:=h5
  refine depe_cons rfl rfl fun x6 y6 h6 e16 f6=>?_
  obtain⟨g9,rfl,hg9,hbg9⟩:=h6
  refine depe_cons rfl rfl fun x7 y7 h7 e17 f7=>?_
  obtain⟨A1,c1,rfl,ho1,hc1⟩:=h7.lift f7 hAb
  refine depe_nil (pf g10 0 rfl (by kernel_rfl) (pf g10 1 rfl (by kernel_rfl) ?_))
  have hf1:=hf.updO e1.u hAf
  refine wl_stored1 rfl rfl rfl szNums rfl hf1 (bq rfl) rfl [.slice RAx (k+1) rcx,.slice A1 (k+1) c1,F0,.bool s9,.slice A9 n9 c9,I0] rfl fun w4 hf2 u2 hs2=>(wl_nil (eo_np (eo_block_normal ?_)))
  have S4:=(S2.updR C hO e1.u).updF C hf1 u2
  have hN4:=ho1.updT hf1 (by decide) u2
  have hR4:=(R2.R.updO e1.u (fun p q hp hq e=>R2.RN q p hq hp e.symm)).updT hf1 (by decide) u2
  have hC4:=(R2.C.updQ hO e1.u R2.Nr).updT hf1 u2 (fun r hr p hp e=>by have:=(R2.C.lt r hr p hp).1;have:=C.fL;omega)
  rw [nums_succ] at hN4
  refine fun a ha=>hQ _ _ (hkf.trans ((e1.u.kf hO).trans (u2.kf hf1))) ⟨S4.sz,S4,_,_,_,_,_,_,hf2,hR4,hN4,hC4,fun p q hp hq=>?_,fun r hr p q hp hq=>R2.Rr r hr p q hp hq,fun r hr p q hp hq=>?_,fun p hp=>(hR4.block p hp).2,fun p hp=>(hN4.block p hp).2,fun r hr p hp=>(hC4.lt r hr p hp).2⟩
  ·rcases hc1 with⟨rfl,rfl⟩ | h
   ·exact R2.RN p q hp hq
   ·have:=h q hq;have:=(R2.R.block p hp).2;omega
  ·rcases hc1 with⟨rfl,rfl⟩ | h
   ·exact R2.Nr r hr p q hp hq
   ·have:=h p hp;have:=(R2.C.lt r hr q hq).2;omega
 ·rintro D b W hD ⟨hb,S,RA,NA,rcap,ncap,ra,rc,R⟩ hK a ha
  have hm:w.heap.size≤v27.heap.size:=C.BL
  have hnc:=Nc.put (.deferred none) hK rfl
  have hbl:=below_put hD W (Array.getElem?_eq_some_iff.1 hK).1 (.deferred none)
  have S9:=S.nc hnc hbl hm
  have f9:=R.f.nc hnc
  have R9:=(R.R.nc hnc).mono hm
  have N9:=(R.N.nc hnc).mono hm
  have C9:=(R.C.nc hnc).low hm
  have hA:Apt w.heap.size n g10 RA NA ra:=⟨C.bf,fun p hp e=>by have:=(R.R.block p hp).1;have:=C.fL;omega,fun p hp e=>by have:=(R.N.block p hp).1;have:=C.fL;omega,fun r hr p hp e=>by have:=(R.C.lt r hr p hp).1;have:=C.fL;omega,R.RN,R.Rr,R.Nr⟩
  show Code.wp _ (Code.seq _ _) _ _ _
  refine wp_seq ((wpIn_wide (n:=9)).1 (wpIn_region_lit ?_))
  have ea:({a with defers:= [{target:= .collected D,args:= #[]}]}:Act)=dfd [{target:= .collected D,args:= #[]}] a:=by
   unfold dfd;rw [ha.nod];rfl
  rw [ea]
  refine list_df _ _ _ _ (wlW_wl (n:=34) (l:= [(3,.pointer (some ⟨g16,0,none⟩)),(10,.func (.func 86) #[] #[.pointer (some ⟨gm,0,none⟩)])]) ?_ rfl ?_ a ha)
  ·rintro⟨_,_,h⟩
   obtain⟨_,h,_⟩:=h
   cases h
  refine wl_load rfl rfl (load_cell cellPF S.p rfl) (by decide) (mv 1 rfl (wl_nil ?_))
  intro a2 ha2
  show Code.wp _ .ret _ _ _
  refine wp_ret ?_
  show LeavesInM _ _ _ _ _ _ (a2.defers++ [{target:= .collected D,args:= #[]}]) _ _
  rw [ha2.nod]
  show LeavesInM _ _ _ _ _ _ [{target:= .collected D,args:= #[]}] _ _
  unfold LeavesInM LeavesInM
  refine⟨by simp,.inl ⟨_,_,rfl,run_takeDeferred hK,_,results_tmp rfl _ _ _,?_⟩⟩
  refine⟨_,congrArg _ (ha2.val 2 _ rfl),?_,S9.ext⟩
  exact⟨_,RA,NA,rcap,ncap,ra,rc,rfl,hA,_,_,_,_,_,f9,S9.z.mono (Nat.zero_le _),R9,N9,C9⟩
set_option maxHeartbeats 4000000 in
set_option maxRecDepth 20000 in
theorem g_brs_Det {w:World}{b:Nat}(hb:b≤w.heap.size){n:Nat}{X:Mx}{Aa:Option Addr}{na capa:Nat}{xs:List Int}(hxa:ZF w Aa na capa 1048576 xs) (hna:na=n*n) (hn:n≤64) (hX:En n n X xs):
    Calls Try.prog 15 #[.agg #[.int .i64 ((n:Nat):Int),.int .i64 ((n:Nat):Int),.slice Aa na capa]] w (Gv w (T2 (ZR b (dt n X)) (Is (.int .i64 0)))):=by
 have hXl:∀i j,i<n→j<n→ln (X i j)≤1048576:=fun i j hi hj=>hX.ln hxa hi hj
 obtain⟨msa,hla,hma⟩:=hxa
 refine sx_enter Try.func15 rfl (n:=46) rfl (bq rfl) (args:= [.agg #[.int .i64 ((n:Nat):Int),.int .i64 ((n:Nat):Int),.slice Aa na capa]]) (cw_keep [(0,.agg #[.int .i64 ((n:Nat):Int),.int .i64 ((n:Nat):Int),.slice Aa na capa])] ⟨rfl,trivial⟩ (sr (bx [.int .i64 ((n:Nat):Int),.int .i64 ((n:Nat):Int),.slice Aa na capa] (Ext.refl w) rfl rfl rfl fun g1 v2 hb4 ge5 e3 hw1=>(alq [F0,S0] hw1 hb4.lt (fun _=>by kernel_rfl) rfl fun g6 v7 hb9 ge10 q11 e8 hw2=>(mv 1 rfl (ne_ (cw_seq (sr (lo aggMat (hb4.ext e8) [.int .i64 ((n:Nat):Int),.int .i64 ((n:Nat):Int),.slice Aa na capa] rfl rfl rfl (cl (vs:= [.agg #[.int .i64 ((n:Nat):Int),.int .i64 ((n:Nat):Int),.slice Aa na capa]]) hw2 (g_mat_Check_yes (snd_mk hn hn hna)) rfl (by kernel_rfl) fun xr14 v12 r14 e13 hw3=>?_))))))))))
 obtain rfl:=r14
 refine mv 1 rfl (ne_ (sr (mv 1 rfl (wl_cmp rfl rfl rfl false (by decide) (by decide) (ne_ (cw_false rfl (cw_skip (eo_then (cw_seq (sr (pf g1 0 rfl (by kernel_rfl) (wl_load rfl rfl (load_cell cellInt (hb4.ext (e8.trans e13)) rfl) (by decide) (pf g1 1 rfl (by kernel_rfl) ?_)))))))))))))
 refine wl_load rfl rfl (load_cell cellInt (hb4.ext (e8.trans e13)) rfl) (by decide) (wl_cmp rfl rfl rfl false (cb_ne_f (a:=n) (b:=n) rfl rfl (by omega)) (by decide) (ne_ (cw_false rfl (cw_skip (eo_then (sr (lo aggMat (hb4.ext (e8.trans e13)) [.int .i64 ((n:Nat):Int),.int .i64 ((n:Nat):Int),.slice Aa na capa] rfl rfl rfl ?_)))))))
 obtain⟨lb9,hlb9⟩:∃l,l=v12.heap.size:=⟨_,rfl⟩
 have hlow:w.heap.size≤lb9:=by rw [hlb9];exact hw3.size
 have hlo_g1:g1<lb9:=by rw [hlb9];exact ((hb4.ext (e8.trans e13))).lt
 have hlo_g6:g6<lb9:=by rw [hlb9];exact ((hb9.ext e13)).lt
 refine wl_call rfl rfl (vs:= [.agg #[.int .i64 ((n:Nat):Int),.int .i64 ((n:Nat):Int),.slice Aa na capa]]) (by kernel_rfl) (by decide) (g_brs_of (K:=1048576) ((show ZF w _ _ _ _ _ from⟨msa,hla,hma⟩).ext hw3) hn hna hX (by decide)) ?_
 rintro _ wof ⟨_,rfl,⟨gf,RA,NA,rcap,ncap,ra,rc,rfl,hA,hF0⟩,eof⟩
 refine ret_intro ?_
 rw [←hlb9] at hA hF0
 have hlb0:lb9≤wof.heap.size:=by rw [hlb9];exact eof.size
 have hw4:=hw3.trans eof
 refine mv 1 rfl (ne_ (cw_seq (sr (pf g1 1 rfl (by kernel_rfl) (wl_load rfl rfl (load_cell cellInt (hb4.ext (e8.trans (e13.trans eof))) rfl) (by decide) (mv 1 rfl (ne_ (cw_block ?_))))))))
 refine cw_loop (T:=World×Nat×List Nat×Mx×Bool×Int) (fun⟨wr,k,ps,Z,tu,z⟩=> [(0,.agg #[.int .i64 ((n:Nat):Int),.int .i64 ((n:Nat):Int),.slice Aa na capa]),(1,.pointer (some ⟨g1,0,none⟩)),(2,.pointer (some ⟨g6,0,none⟩)),(3,.int .i64 0),(4,.int .i64 0),(5,.pointer (some ⟨gf,0,none⟩)),(7,.agg #[.int .i64 ((n:Nat):Int),.int .i64 ((n:Nat):Int),.slice Aa na capa]),(8,.int .i64 0),(9,.int .i64 0),(10,.bool false),(13,.pointer (some ⟨g1,0,none⟩)),(14,.int .i64 ((n:Nat):Int)),(15,.pointer (some ⟨g1,1,none⟩)),(16,.int .i64 ((n:Nat):Int)),(17,.bool false),(19,.agg #[.int .i64 ((n:Nat):Int),.int .i64 ((n:Nat):Int),.slice Aa na capa]),(20,.pointer (some ⟨gf,0,none⟩)),(21,.pointer (some ⟨g1,1,none⟩)),(22,.int .i64 ((n:Nat):Int)),(23,.int .i64 ((k:Nat):Int))]) (fun⟨wr,k,ps,Z,tu,z⟩=>wr) (fun⟨wr,k,ps,Z,tu,z⟩=>(Ext w wr)∧(k≤n)∧(Bk wr g1 24 [.int .i64 ((n:Nat):Int),.int .i64 ((n:Nat):Int),.slice Aa na capa])∧(Bk wr g6 34 [F0,S0])∧(lb9≤wr.heap.size)∧(Fld lb9 n gf RA NA rcap ncap ra rc ps Z tu z k wr)∧(Inv n X k ps Z tu z)) (fun⟨wr,k,ps,Z,tu,z⟩=>n-k)
  (⟨wof,0,(List.range n),X,false,1⟩:World×Nat×List Nat×Mx×Bool×Int) ⟨hw4,(by omega),(hb4.ext (e8.trans (e13.trans eof))),(hb9.ext (e13.trans eof)),hlb0,hF0,(Inv.start (fun _ _ _ _=>rfl))⟩ rfl ⟨rfl,rfl,rfl,rfl,rfl,rfl,rfl,rfl,rfl,rfl,rfl,rfl,rfl,rfl,rfl,rfl,rfl,rfl,rfl,rfl,trivial⟩ ?_
 rintro⟨wr,k,ps,Z,tu,z⟩ ⟨hw1,hi_k,b_g1,b_g6,hlbw,hF,hI⟩
 refine cw_re [(0,.agg #[.int .i64 ((n:Nat):Int),.int .i64 ((n:Nat):Int),.slice Aa na capa]),(1,.pointer (some ⟨g1,0,none⟩)),(2,.pointer (some ⟨g6,0,none⟩)),(3,.int .i64 0),(4,.int .i64 0),(5,.pointer (some ⟨gf,0,none⟩)),(7,.agg #[.int .i64 ((n:Nat):Int),.int .i64 ((n:Nat):Int),.slice Aa na capa]),(8,.int .i64 0),(9,.int .i64 0),(10,.bool false),(13,.pointer (some ⟨g1,0,none⟩)),(14,.int .i64 ((n:Nat):Int)),(15,.pointer (some ⟨g1,1,none⟩)),(16,.int .i64 ((n:Nat):Int)),(17,.bool false),(19,.agg #[.int .i64 ((n:Nat):Int),.int .i64 ((n:Nat):Int),.slice Aa na capa]),(20,.pointer (some ⟨gf,0,none⟩)),(21,.pointer (some ⟨g1,1,none⟩)),(22,.int .i64 ((n:Nat):Int)),(23,.int .i64 ((k:Nat):Int))] wr rfl ⟨rfl,rfl,rfl,rfl,rfl,rfl,rfl,rfl,rfl,rfl,rfl,rfl,rfl,rfl,rfl,rfl,rfl,rfl,rfl,rfl,trivial⟩ (cw_seq ?_)
 by_cases hkn:k<n
 · 
  refine cw_region (wl_cmp rfl rfl rfl true (cb_lt_t (a:=k) (b:=n) rfl rfl (by omega)) (by decide) (ne_ (cw_seq (cw_true rfl (cw_skip (eo_then (cw_seq (cw_block (sr (mv 2 rfl (ne_ (sr (mv 1 rfl ?_)))))))))))))
  refine mv 1 rfl ?_
  obtain⟨sl9,Al9,nl9,cl9,ns9,hB9,hz9,hR9,hN9,hC9⟩:=hF
  refine wl_call rfl rfl (vs:= [.pointer (some ⟨gf,0,none⟩),.int .i64 ((k:Nat):Int)]) (by kernel_rfl) (by decide) (g_brs_stepI hlbw hA hB9 hz9 hR9 hN9 hC9 hn hXl hkn hI) ?_
  rintro e wst ⟨hbl,hc⟩
  rcases hc with⟨rfl,hz0⟩ | ⟨ps2,Z2,tu2,z2,rfl,hF2,hI2⟩
  · 
   refine ret_intro ?_
   have hw2:=hbl.toExt hw1 hlow
   refine pu (v:= .bool true) rfl (by kernel_rfl) (ne_ (cw_true rfl (sr (pu (v:= .agg #[F0,S0]) rfl (by kernel_rfl) ?_))))
   have hb16:=(b_g6.bl hbl hlo_g6)
   refine so aggInt hb16 [F0,S0] hw2 ge10 rfl rfl rfl rfl fun v15 hb17 u18 hw3=>(mv 1 rfl (ne_ (cw_ret (eo_block_ret (eo_thenR (eo_loopR (eo_block_ret (eo_thenR (eo_ret [.agg #[F0,S0],I0] rfl ⟨⟨_,rfl,load_agg aggInt hb17 [F0,S0] rfl (bq rfl) rfl⟩,rfl,trivial⟩ ?_)))))))))
   exact⟨_,rfl,⟨_,_,rfl,⟨_,_,_,_,rfl,(((Zr.zero (w:=v15) (base:=w.heap.size))).cast (hI.none hkn hz0).symm).mono hb⟩,rfl⟩,hw3⟩
  · 
   refine ret_intro ?_
   have hw2:=hbl.toExt hw1 hlow
   refine pu (v:= .bool false) rfl (by kernel_rfl) (ne_ (cw_false rfl (cw_skip (eo_block_normal (eo_then (cw_region (wl_ar rfl rfl rfl ((k+1:Nat):Int) (ai_add (a:=k) (b:=1) rfl rfl (by omega)) (by decide) (mv 1 rfl (wl_nil (eo_round (⟨wst,k+1,ps2,Z2,tu2,z2⟩:World×Nat×List Nat×Mx×Bool×Int) ⟨hw2,(by omega),(b_g1.bl hbl hlo_g1),(b_g6.bl hbl hlo_g6),(Nat.le_trans hlbw hbl.size),hF2,hI2⟩ (show n-(k+1)<n-k by omega) rfl ⟨rfl,rfl,rfl,rfl,rfl,rfl,rfl,rfl,rfl,rfl,rfl,rfl,rfl,rfl,rfl,rfl,rfl,rfl,rfl,rfl,trivial⟩))))))))))
 · 
  refine cw_region (wl_cmp rfl rfl rfl false (cb_lt_f (a:=k) (b:=n) rfl rfl (by omega)) (by decide) (ne_ (cw_seq (cw_false rfl (cw_exit (eo_thenX (eo_loopX (eo_block_here (eo_then (cw_seq (cw_seq ?_)))))))))))
  have hI9:Inv n X n ps Z tu z:=(show k=n by omega)▸hI
  have hdt:=hI9.full
  have hLz:ln z≤17179869184:=by rw [hI9.last];exact Nat.le_trans (ln_dt n _ fun a b ha hb=>pr_ln hI9.per hXl a b ha hb) (by have:=Nat.mul_le_mul (show n≤64 by omega) (show 1048576+n≤1048640 by omega);omega)
  obtain⟨sl9,Al9,nl9,cl9,ns9,hB9,hz9,hR9,hN9,hC9⟩:=hF
  have hgf:=hA.lg
  by_cases htu:tu=true
  · 
   subst htu
   refine cw_region (mv 1 rfl (pf gf 0 rfl (by kernel_rfl) (pf gf 2 rfl (by kernel_rfl) (wl_load rfl rfl (load_cell cellBool hB9 rfl) (by decide) (ne_ (cw_true rfl (sr (mv 1 rfl (pf gf 0 rfl (by kernel_rfl) (pf gf 3 rfl (by kernel_rfl) (lo aggInt hB9 [.bool sl9,.slice Al9 nl9 cl9] rfl rfl rfl ?_)))))))))))
   have L20:ln (-z)≤17179869184:=(by rw [ln_neg];exact hLz)
   refine cl (vs:= [.agg #[.bool sl9,.slice Al9 nl9 cl9]]) hw1 (g_zint_Neg hw1.size hz9.zi (hz9.le (lx_ hLz rfl))) rfl (by kernel_rfl) fun xr23 v21 r23 e22 hw2=>?_
   obtain⟨s24,A24,n24,c24,rfl,z24⟩:=r23
   have hb26:=(b_g6.ext e22)
   refine so aggInt hb26 [.bool s24,.slice A24 n24 c24] hw2 ge10 rfl rfl rfl rfl fun v25 hb27 u28 hw3=>(mv 1 rfl (ne_ (cw_ret (eo_thenR (eo_ret [.agg #[.bool s24,.slice A24 n24 c24],I0] rfl ⟨⟨_,rfl,load_agg aggInt hb27 [.bool s24,.slice A24 n24 c24] rfl (bq rfl) rfl⟩,rfl,trivial⟩ ?_)))))
   exact⟨_,rfl,⟨_,_,rfl,⟨_,_,_,_,rfl,(((z24.updT hb26 u28)).cast (by rw [hdt];rfl)).mono hb⟩,rfl⟩,hw3⟩
  · 
   obtain rfl:tu=false:=by simpa using htu
   refine cw_region (mv 1 rfl (pf gf 0 rfl (by kernel_rfl) (pf gf 2 rfl (by kernel_rfl) (wl_load rfl rfl (load_cell cellBool hB9 rfl) (by decide) (ne_ (cw_false rfl (cw_skip (eo_then (sr (mv 1 rfl (pf gf 0 rfl (by kernel_rfl) (pf gf 3 rfl (by kernel_rfl) (lo aggInt hB9 [.bool sl9,.slice Al9 nl9 cl9] rfl rfl rfl ?_)))))))))))))
   refine cl (vs:= [.agg #[.bool sl9,.slice Al9 nl9 cl9]]) hw1 (g_zint_Least hw1.size hz9.zi (hz9.le (lx_ hLz rfl))) rfl (by kernel_rfl) fun xr32 v30 r32 e31 hw2=>?_
   obtain⟨s33,A33,n33,c33,rfl,z33⟩:=r32
   have hb35:=(b_g6.ext e31)
   refine so aggInt hb35 [.bool s33,.slice A33 n33 c33] hw2 ge10 rfl rfl rfl rfl fun v34 hb36 u37 hw3=>(mv 1 rfl (ne_ (cw_ret (eo_ret [.agg #[.bool s33,.slice A33 n33 c33],I0] rfl ⟨⟨_,rfl,load_agg aggInt hb36 [.bool s33,.slice A33 n33 c33] rfl (bq rfl) rfl⟩,rfl,trivial⟩ ?_))))
   exact⟨_,rfl,⟨_,_,rfl,⟨_,_,_,_,rfl,(((z33.updT hb35 u37)).cast (by rw [hdt];rfl)).mono hb⟩,rfl⟩,hw3⟩
end Go.Proofs.Ytgekkehpljbklaa

namespace Go.Proofs.Ytgekkehpljbklaa
def acn (cs ts:List Int) (n k i:Nat):Int:=(k:Int)*cs.getD (n-k) 0+sm i fun j=>cs.getD (n-k+(j+1)) 0*ts.getD j 0
theorem acn_0 (cs ts:List Int) (n k:Nat):(k:Int)*cs.getD (n-k) 0=acn cs ts n k (1-1):=(Int.add_zero _).symm
theorem acn_s (cs ts:List Int) (n k:Nat){i:Nat}(hi:1≤i):acn cs ts n k (i-1)+cs.getD (n-k+i) 0*ts.getD (i-1) 0=acn cs ts n k (i+1-1):=by
 obtain⟨j,rfl⟩:∃j,i=j+1:=⟨i-1,by omega⟩
 simp only [Nat.add_sub_cancel]
 unfold acn
 rw [Int.add_assoc];rfl
theorem acn_end {n k:Nat}{X:Mx}{d:Nat→Int}{cs ts:List Int}(hd:Chp n X d) (hc:Chl n d cs) (ht:Trl n X n ts) (hk:k≤n):acn cs ts n k (k+1-1)=0:=by
 have h:=hd.nw k
 rw [cv_comm,cv_eq,sm_front] at h
 rw [Nat.add_sub_cancel]
 unfold acn
 rw [hc k hk]
 refine Eq.trans ?_ h
 rw [show tp n X 0=0 from rfl,Int.zero_mul,Int.zero_add]
 congr 1
 refine sm_congr fun j hj=>?_
 rw [ht j (by omega),show n-k+(j+1)=n-(k-(j+1)) by omega,hc _ (by omega),Int.mul_comm]
 rfl
theorem ln_acn {n k i K:Nat}{cs ts:List Int}(hk:k≤64) (hc:∀j,ln (cs.getD j 0)≤K) (ht:∀j,ln (ts.getD j 0)≤K):ln (acn cs ts n k i)≤2*K+2+i:=by
 induction i with
 | zero=>
  unfold acn
  rw [show sm 0 _=0 from rfl,Int.add_zero]
  exact Nat.le_trans (ln_mul (ln_w1 (by omega) (by omega)) (hc _)) (by omega)
 | succ i ih=>
  have e:=acn_s cs ts n k (i:=i+1) (by omega)
  rw [Nat.add_sub_cancel,Nat.add_sub_cancel] at e
  rw [←e]
  exact Nat.le_trans (ln_add ih (ln_mul (hc _) (ht _))) (by omega)
end Go.Proofs.Ytgekkehpljbklaa

namespace Go.Proofs.Ytgekkehpljbklaa
open Go.RowKit
theorem dt_22:dt 2 (fun i j=>([2,4,6,8]:List Int).getD (i*2+j) 0)= -((8:Nat):Int):=by decide
set_option maxHeartbeats 4000000 in
set_option maxRecDepth 20000 in
theorem g_top_detWakes {w:World}:
    Calls Try.prog 6 #[] w (Gv w (Is (.bool true))):=by
 have hlb:w.heap.size≤w.heap.size:=Nat.le_refl _
 refine sx_enter Try.func6 rfl (n:=15) rfl (bq rfl) (args:= []) (cw_keep [] trivial (sr (mv 1 rfl (ne_ (sr (cl (vs:= []) (Ext.refl w) (g_top_two (Ext.refl w).size hlb) rfl (by kernel_rfl) fun xr3 v1 r3 e2 hw1=>?_))))))
 obtain⟨lv4,rfl,⟨LA5,lc5,rfl,lz5⟩⟩:=r3
 have blk6:=lz5.block
 refine cl (vs:= [.agg #[.int .i64 2,.int .i64 2,.slice LA5 4 lc5]]) hw1 ((g_brs_Det (n:=2) (X:=(fun i j=>([2,4,6,8]:List Int).getD (i*2+j) 0)) hw1.size ((lz5.zf0).mono (by decide)) rfl (by decide) (fun i j _ _=>rfl)).mono (Gv.imp (T2.imp (fun _ _ h=>ZR.cast h dt_22) Is.imp))) rfl (by kernel_rfl) fun xr9 v7 r9 e8 hw2=>?_
 obtain⟨_,_,rfl,⟨s11,A11,n11,c11,rfl,z11⟩,rfl⟩:=r9
 refine mv 1 rfl (pu (v:= .agg #[.bool s11,.slice A11 n11 c11]) rfl (by kernel_rfl) (pu (v:= .int .i64 0) rfl (by kernel_rfl) (wl_alloc rfl (z:= .agg #[F0,S0]) (vs:= [F0,S0]) (fun _=>by kernel_rfl) rfl (by decide) fun g12 v13 nb=>?_)))
 have hb15:=nb.bk
 have ge16:w.heap.size≤g12:=by rw [←nb.at_];exact hw2.size
 have ne17:∀p:Addr,LA5=some p→p.block≠g12:=fun p hp=>by have:=((lz5.ext e8)).block p hp;have:=nb.at_;omega
 have e14:=nb.ext
 clear nb
 have hw3:=hw2.trans e14
 refine so aggInt hb15 [.bool s11,.slice A11 n11 c11] hw3 ge16 rfl rfl rfl rfl fun v18 hb20 u21 hw4=>(mv 1 rfl (ne_ (cw_seq ?_)))
 refine cw_draw mix 7 [] [Is (.int .i64 0),Is (.bool true),Is (.bool true),Is (.agg #[.bool s11,.slice A11 n11 c11]),ZR w.heap.size (-((8:Nat):Int)),Is (.bool true),Is (.bool true)] [[],[0],[1],[2],[2],[2,3,4],[2,5]] [[],[0],[0,1],[0,1,2],[0,1,2],[0,1,2,3,4],[0,1,2,3,4,5],[0,1,2,3,4,5,6]] rfl
  (obs_cons rfl rfl (hob rfl rfl ?_) (obs_cons rfl rfl (hob rfl rfl ?_) (obs_cons rfl rfl (hob rfl rfl ?_) (obs_cons rfl rfl (hob rfl rfl ?_) (obs_cons rfl rfl (hob rfl rfl ?_) (obs_cons rfl rfl (hob rfl rfl ?_) (obs_cons rfl rfl (hob rfl rfl ?_) obs_nil))))))) ?_
 · 
  exact fun _ _=>deps_nil (mv 1 rfl (pi_done rfl (Ext.refl _) rfl))
 · 
  exact fun _ _=>dk rfl rfl (deps_nil (wl_cmp rfl rfl rfl true (by decide) (by decide) (pi_done rfl (Ext.refl _) rfl)))
 · 
  exact fun _ _=>dk rfl rfl (deps_nil (mv 1 rfl (pi_done rfl (Ext.refl _) rfl)))
 · 
  exact fun _ e41=>dk rfl rfl (deps_nil (lo aggInt (hb20.ext e41) [.bool s11,.slice A11 n11 c11] rfl rfl rfl (pi_done rfl (Ext.refl _) rfl)))
 · 
  intro v47 e48
  have hw5:=hw4.trans e48
  refine dk rfl rfl (deps_nil (cl (vs:= [.int .u64 8]) hw5 ((g_top_minus (x:=8) hw5.size (by decide) (by decide))) rfl (by kernel_rfl) fun xr56 v54 r56 e55 hw6=>?_))
  obtain⟨s57,A57,n57,c57,rfl,z57⟩:=r56
  exact pi_done rfl e55 ⟨_,_,_,_,rfl,z57⟩
 · 
  intro v58 e59
  have hw5:=hw4.trans e59
  refine dk rfl rfl (dk rfl rfl (deps_cons rfl rfl fun x70 y71 h72 e73 f74=>?_))
  obtain⟨s75,A75,n75,c75,rfl,z75⟩:=h72
  have z75:=z75.ext f74
  refine deps_nil (cl (vs:= [.agg #[.bool s11,.slice A11 n11 c11],.agg #[.bool s75,.slice A75 n75 c75]]) hw5 (g_top_sameInt (((z11.ext e14).updT hb15 u21).ext e59) z75) rfl (by kernel_rfl) fun xr78 v76 r78 e77 hw6=>?_)
  obtain rfl:=r78
  exact pi_done rfl e77 rfl
 · 
  exact fun _ _=>dk rfl rfl (dk rfl rfl (deps_nil (pu (v:= .bool true) rfl (by kernel_rfl) (pi_done rfl (Ext.refl _) rfl))))
 · 
  intro v91 e92
  have hw5:=hw4.trans e92
  refine dk rfl rfl (dk rfl rfl (dk rfl rfl (dk rfl rfl (deps_cons rfl rfl fun x113 y114 h115 e116 f117=>?_))))
  obtain⟨s118,A118,n118,c118,rfl,z118⟩:=h115
  have z118:=z118.ext f117
  refine dk rfl rfl (dk rfl rfl (deps_nil (mv 1 rfl (wl_nil (eo_np (eo_then (cw_ret (eo_ret [.bool true] rfl ⟨rfl,trivial⟩ ?_))))))))
  exact⟨_,rfl,rfl,hw5⟩
set_option maxHeartbeats 4000000 in
set_option maxRecDepth 20000 in
theorem g_chp_Char_bad {w:World}{R C:Int}{na capa:Nat}{Aa:Option Addr}(hs:¬Snd R C na):
    Calls Try.prog 7 #[.agg #[.int .i64 R,.int .i64 C,.slice Aa na capa]] w (Gv w (T2 (Is (.slice none 0 0)) (Is (.int .i64 1)))):=by
 refine sx_enter Try.func7 rfl (n:=67) rfl (bq rfl) (args:= [.agg #[.int .i64 R,.int .i64 C,.slice Aa na capa]]) (cw_keep [(0,.agg #[.int .i64 R,.int .i64 C,.slice Aa na capa])] ⟨rfl,trivial⟩ (sr (bx [.int .i64 R,.int .i64 C,.slice Aa na capa] (Ext.refl w) rfl rfl rfl fun g1 v2 hb4 ge5 e3 hw1=>(mv 2 rfl (ne_ (cw_seq (sr (lo aggMat hb4 [.int .i64 R,.int .i64 C,.slice Aa na capa] rfl rfl rfl (cl (vs:= [.agg #[.int .i64 R,.int .i64 C,.slice Aa na capa]]) hw1 (g_chp_square_bad hs) rfl (by kernel_rfl) fun xr8 v6 r8 e7 hw2=>?_)))))))))
 obtain rfl:=r8
 refine mv 1 rfl (ne_ (sr (mv 1 rfl (wl_cmp rfl rfl rfl true (by decide) (by decide) (ne_ (cw_true rfl (sr (mv 3 rfl (ne_ (cw_ret (eo_thenR (eo_ret [S0,.int .i64 1] rfl ⟨rfl,rfl,trivial⟩ ?_))))))))))))
 exact⟨_,rfl,⟨_,_,rfl,rfl,rfl⟩,hw2⟩
set_option maxHeartbeats 4000000 in
set_option maxRecDepth 20000 in
theorem g_chp_Char_unfit {w:World}{R C:Int}{na capa:Nat}{Aa:Option Addr}(hs:Snd R C na) (hRC:R≠C):
    Calls Try.prog 7 #[.agg #[.int .i64 R,.int .i64 C,.slice Aa na capa]] w (Gv w (T2 (Is (.slice none 0 0)) (Is (.int .i64 2)))):=by
 refine sx_enter Try.func7 rfl (n:=67) rfl (bq rfl) (args:= [.agg #[.int .i64 R,.int .i64 C,.slice Aa na capa]]) (cw_keep [(0,.agg #[.int .i64 R,.int .i64 C,.slice Aa na capa])] ⟨rfl,trivial⟩ (sr (bx [.int .i64 R,.int .i64 C,.slice Aa na capa] (Ext.refl w) rfl rfl rfl fun g1 v2 hb4 ge5 e3 hw1=>(mv 2 rfl (ne_ (cw_seq (sr (lo aggMat hb4 [.int .i64 R,.int .i64 C,.slice Aa na capa] rfl rfl rfl (cl (vs:= [.agg #[.int .i64 R,.int .i64 C,.slice Aa na capa]]) hw1 (g_chp_square_unfit hs hRC) rfl (by kernel_rfl) fun xr8 v6 r8 e7 hw2=>?_)))))))))
 obtain rfl:=r8
 refine mv 1 rfl (ne_ (sr (mv 1 rfl (wl_cmp rfl rfl rfl true (by decide) (by decide) (ne_ (cw_true rfl (sr (mv 3 rfl (ne_ (cw_ret (eo_thenR (eo_ret [S0,.int .i64 2] rfl ⟨rfl,rfl,trivial⟩ ?_))))))))))))
 exact⟨_,rfl,⟨_,_,rfl,rfl,rfl⟩,hw2⟩
set_option maxHeartbeats 4000000 in
set_option maxRecDepth 20000 in
theorem g_top_WholeNewton_bad {w:World}{R C:Int}{Aa:Option Addr}{na capa:Nat}{xs:List Int}(hxa:ZF w Aa na capa 1048576 xs) (hna1:na≤1048576) (hs:¬Snd R C na):
    Calls Try.prog 3 #[.agg #[.int .i64 R,.int .i64 C,.slice Aa na capa]] w (Gv w (Is (.bool true))):=by
 have hlb:w.heap.size≤w.heap.size:=Nat.le_refl _
 have hxa0:=hxa
 obtain⟨msa,hla,hma⟩:=hxa
 refine sx_enter Try.func3 rfl (n:=97) rfl (bq rfl) (args:= [.agg #[.int .i64 R,.int .i64 C,.slice Aa na capa]]) (cw_keep [(0,.agg #[.int .i64 R,.int .i64 C,.slice Aa na capa])] ⟨rfl,trivial⟩ (sr (bx [.int .i64 R,.int .i64 C,.slice Aa na capa] (Ext.refl w) rfl rfl rfl fun g1 v2 hb4 ge5 e3 hw1=>(mv 1 rfl (ne_ (cw_seq (sr (wl_call rfl rfl (vs:= []) (by kernel_rfl) (by decide) g_top_detWakes ?_))))))))
 rintro _ v6 ⟨xr8,rfl,r8,e7⟩
 refine ret_intro ?_
 have hw2:=hw1.trans e7
 obtain rfl:=r8
 refine pu (v:= .bool false) rfl (by kernel_rfl) (ne_ (cw_false rfl (cw_skip (eo_then (sr (lo aggMat (hb4.ext e7) [.int .i64 R,.int .i64 C,.slice Aa na capa] rfl rfl rfl ?_))))))
 obtain⟨lb9,hlb9,hlelb9,hgl9,hq9_0⟩:∃lb,lb≤v6.heap.size∧v6.heap.size≤lb∧w.heap.size≤lb∧g1<lb:=⟨v6.heap.size,Nat.le_refl _,Nat.le_refl _,hw2.size,(hb4.ext e7).lt⟩
 refine cl (vs:= [.agg #[.int .i64 R,.int .i64 C,.slice Aa na capa]]) hw2 (g_top_copyMat (w0:=w) hw2.size hlb9 hw2 ((show ZF w _ _ _ _ _ from⟨msa,hla,hma⟩).ext hw2) (by omega)) rfl (by kernel_rfl) fun xr12 v10 r12 e11 hw3=>?_
 obtain⟨lv13,rfl,⟨LA14,lc14,rfl,lz14⟩⟩:=r12
 have blk15:=lz14.block
 refine cl (vs:= [.agg #[.int .i64 R,.int .i64 C,.slice LA14 na lc14]]) hw3 (g_chp_Char_bad hs) rfl (by kernel_rfl) fun xr18 v16 r18 e17 hw4=>?_
 obtain⟨_,_,rfl,rfl,rfl⟩:=r18
 refine mv 1 rfl (pu (v:= .slice none 0 0) rfl (by kernel_rfl) (pu (v:= .int .i64 1) rfl (by kernel_rfl) (mv 2 rfl (ne_ (cw_seq (sr (lo aggMat (hb4.ext (e7.trans (e11.trans e17))) [.int .i64 R,.int .i64 C,.slice Aa na capa] rfl rfl rfl (cl (vs:= [.agg #[.int .i64 R,.int .i64 C,.slice Aa na capa]]) hw4 (g_top_sound_f hs) rfl (by kernel_rfl) fun xr22 v20 r22 e21 hw5=>?_))))))))
 obtain rfl:=r22
 refine pu (v:= .bool true) rfl (by kernel_rfl) (mv 6 rfl (pu (v:= .bool true) rfl (by kernel_rfl) (ne_ (cw_true rfl (sr (mv 1 rfl (wl_cmp rfl rfl rfl true (by decide) (by decide) (mv 1 rfl (ne_ (cw_ret (eo_thenR (eo_ret [.bool true] rfl ⟨rfl,trivial⟩ ?_))))))))))))
 exact⟨_,rfl,rfl,hw5⟩
set_option maxHeartbeats 4000000 in
set_option maxRecDepth 20000 in
theorem g_top_WholeNewton_unfit {w:World}{R C:Int}{Aa:Option Addr}{na capa:Nat}{xs:List Int}(hxa:ZF w Aa na capa 1048576 xs) (hna1:na≤1048576) (hs:Snd R C na) (hRC:R≠C):
    Calls Try.prog 3 #[.agg #[.int .i64 R,.int .i64 C,.slice Aa na capa]] w (Gv w (Is (.bool true))):=by
 have hlb:w.heap.size≤w.heap.size:=Nat.le_refl _
 have hxa0:=hxa
 obtain⟨msa,hla,hma⟩:=hxa
 refine sx_enter Try.func3 rfl (n:=97) rfl (bq rfl) (args:= [.agg #[.int .i64 R,.int .i64 C,.slice Aa na capa]]) (cw_keep [(0,.agg #[.int .i64 R,.int .i64 C,.slice Aa na capa])] ⟨rfl,trivial⟩ (sr (bx [.int .i64 R,.int .i64 C,.slice Aa na capa] (Ext.refl w) rfl rfl rfl fun g1 v2 hb4 ge5 e3 hw1=>(mv 1 rfl (ne_ (cw_seq (sr (wl_call rfl rfl (vs:= []) (by kernel_rfl) (by decide) g_top_detWakes ?_))))))))
 rintro _ v6 ⟨xr8,rfl,r8,e7⟩
 refine ret_intro ?_
 have hw2:=hw1.trans e7
 obtain rfl:=r8
 refine pu (v:= .bool false) rfl (by kernel_rfl) (ne_ (cw_false rfl (cw_skip (eo_then (sr (lo aggMat (hb4.ext e7) [.int .i64 R,.int .i64 C,.slice Aa na capa] rfl rfl rfl ?_))))))
 obtain⟨lb9,hlb9,hlelb9,hgl9,hq9_0⟩:∃lb,lb≤v6.heap.size∧v6.heap.size≤lb∧w.heap.size≤lb∧g1<lb:=⟨v6.heap.size,Nat.le_refl _,Nat.le_refl _,hw2.size,(hb4.ext e7).lt⟩
 refine cl (vs:= [.agg #[.int .i64 R,.int .i64 C,.slice Aa na capa]]) hw2 (g_top_copyMat (w0:=w) hw2.size hlb9 hw2 ((show ZF w _ _ _ _ _ from⟨msa,hla,hma⟩).ext hw2) (by omega)) rfl (by kernel_rfl) fun xr12 v10 r12 e11 hw3=>?_
 obtain⟨lv13,rfl,⟨LA14,lc14,rfl,lz14⟩⟩:=r12
 have blk15:=lz14.block
 refine cl (vs:= [.agg #[.int .i64 R,.int .i64 C,.slice LA14 na lc14]]) hw3 (g_chp_Char_unfit hs hRC) rfl (by kernel_rfl) fun xr18 v16 r18 e17 hw4=>?_
 obtain⟨_,_,rfl,rfl,rfl⟩:=r18
 refine mv 1 rfl (pu (v:= .slice none 0 0) rfl (by kernel_rfl) (pu (v:= .int .i64 2) rfl (by kernel_rfl) (mv 2 rfl (ne_ (cw_seq (sr (lo aggMat (hb4.ext (e7.trans (e11.trans e17))) [.int .i64 R,.int .i64 C,.slice Aa na capa] rfl rfl rfl (cl (vs:= [.agg #[.int .i64 R,.int .i64 C,.slice Aa na capa]]) hw4 (g_top_sound_t hs) rfl (by kernel_rfl) fun xr22 v20 r22 e21 hw5=>?_))))))))
 obtain rfl:=r22
 refine pu (v:= .bool false) rfl (by kernel_rfl) (mv 1 rfl (pf g1 0 rfl (by kernel_rfl) (wl_load rfl rfl (load_cell cellInt (hb4.ext (e7.trans (e11.trans (e17.trans e21)))) rfl) (by decide) (pf g1 1 rfl (by kernel_rfl) (wl_load rfl rfl (load_cell cellInt (hb4.ext (e7.trans (e11.trans (e17.trans e21)))) rfl) (by decide) (wl_cmp rfl rfl rfl true (ci_ne_t hRC) (by decide) (pu (v:= .bool true) rfl (by kernel_rfl) (ne_ (cw_true rfl (sr (mv 1 rfl (wl_cmp rfl rfl rfl true (by decide) (by decide) (mv 1 rfl ?_)))))))))))))
 refine ne_ (cw_ret (eo_thenR (eo_ret [.bool true] rfl ⟨rfl,trivial⟩ ?_)))
 exact⟨_,rfl,rfl,hw5⟩
set_option maxHeartbeats 4000000 in
set_option maxRecDepth 20000 in
theorem g_top_WholeNewton_ok {w:World}{n:Nat}{X:Mx}{d:Nat→Int}{Aa:Option Addr}{na capa:Nat}{xs:List Int}(hxa:ZF w Aa na capa 1048576 xs) (hna1:na≤1048576) (hna:na=n*n) (hn:n≤64) (hX:En n n X xs) (hd:Chp n X d):
    Calls Try.prog 3 #[.agg #[.int .i64 ((n:Nat):Int),.int .i64 ((n:Nat):Int),.slice Aa na capa]] w (Gv w (Is (.bool true))):=by
 have hs:Snd ((n:Nat):Int) ((n:Nat):Int) na:=snd_mk hn hn hna
 have hlb:w.heap.size≤w.heap.size:=Nat.le_refl _
 have hxa0:=hxa
 obtain⟨msa,hla,hma⟩:=hxa
 refine sx_enter Try.func3 rfl (n:=97) rfl (bq rfl) (args:= [.agg #[.int .i64 ((n:Nat):Int),.int .i64 ((n:Nat):Int),.slice Aa na capa]]) (cw_keep [(0,.agg #[.int .i64 ((n:Nat):Int),.int .i64 ((n:Nat):Int),.slice Aa na capa])] ⟨rfl,trivial⟩ (sr (bx [.int .i64 ((n:Nat):Int),.int .i64 ((n:Nat):Int),.slice Aa na capa] (Ext.refl w) rfl rfl rfl fun g1 v2 hb4 ge5 e3 hw1=>(mv 1 rfl (ne_ (cw_seq (sr (wl_call rfl rfl (vs:= []) (by kernel_rfl) (by decide) g_top_detWakes ?_))))))))
 rintro _ v6 ⟨xr8,rfl,r8,e7⟩
 refine ret_intro ?_
 have hw2:=hw1.trans e7
 obtain rfl:=r8
 refine pu (v:= .bool false) rfl (by kernel_rfl) (ne_ (cw_false rfl (cw_skip (eo_then (sr (lo aggMat (hb4.ext e7) [.int .i64 ((n:Nat):Int),.int .i64 ((n:Nat):Int),.slice Aa na capa] rfl rfl rfl ?_))))))
 obtain⟨lb9,hlb9,hlelb9,hgl9,hq9_0⟩:∃lb,lb≤v6.heap.size∧v6.heap.size≤lb∧w.heap.size≤lb∧g1<lb:=⟨v6.heap.size,Nat.le_refl _,Nat.le_refl _,hw2.size,(hb4.ext e7).lt⟩
 refine cl (vs:= [.agg #[.int .i64 ((n:Nat):Int),.int .i64 ((n:Nat):Int),.slice Aa na capa]]) hw2 (g_top_copyMat (w0:=w) hw2.size hlb9 hw2 ((show ZF w _ _ _ _ _ from⟨msa,hla,hma⟩).ext hw2) (by omega)) rfl (by kernel_rfl) fun xr12 v10 r12 e11 hw3=>?_
 obtain⟨lv13,rfl,⟨LA14,lc14,rfl,lz14⟩⟩:=r12
 have blk15:=lz14.block
 refine cl (vs:= [.agg #[.int .i64 ((n:Nat):Int),.int .i64 ((n:Nat):Int),.slice LA14 na lc14]]) hw3 (g_chp_Char (d:=d) (X:=X) hw3.size (Nat.le_trans hlb9 e11.size) ((lz14).zf hw3) hna hn hX hd) rfl (by kernel_rfl) fun xr18 v16 r18 e17 hw4=>?_
 obtain⟨_,_,rfl,⟨LA20,lc20,zs20,rfl,lz20,hz20⟩,r19_1⟩:=r18
 have blk21:=lz20.block
 obtain rfl:=r19_1
 refine mv 1 rfl (pu (v:= .slice LA20 (n+1) lc20) rfl (by kernel_rfl) (pu (v:= .int .i64 0) rfl (by kernel_rfl) (mv 2 rfl (ne_ (cw_seq (sr (lo aggMat (hb4.ext (e7.trans (e11.trans e17))) [.int .i64 ((n:Nat):Int),.int .i64 ((n:Nat):Int),.slice Aa na capa] rfl rfl rfl (cl (vs:= [.agg #[.int .i64 ((n:Nat):Int),.int .i64 ((n:Nat):Int),.slice Aa na capa]]) hw4 (g_top_sound_t hs) rfl (by kernel_rfl) fun xr24 v22 r24 e23 hw5=>?_))))))))
 obtain rfl:=r24
 refine pu (v:= .bool false) rfl (by kernel_rfl) (mv 1 rfl (pf g1 0 rfl (by kernel_rfl) (wl_load rfl rfl (load_cell cellInt (hb4.ext (e7.trans (e11.trans (e17.trans e23)))) rfl) (by decide) (pf g1 1 rfl (by kernel_rfl) (wl_load rfl rfl (load_cell cellInt (hb4.ext (e7.trans (e11.trans (e17.trans e23)))) rfl) (by decide) (wl_cmp rfl rfl rfl false (cb_ne_f (a:=n) (b:=n) rfl rfl (by omega)) (by decide) (pu (v:= .bool false) rfl (by kernel_rfl) (ne_ (cw_false rfl (cw_skip (eo_then (sr (pf g1 0 rfl (by kernel_rfl) ?_)))))))))))))
 refine wl_load rfl rfl (load_cell cellInt (hb4.ext (e7.trans (e11.trans (e17.trans e23)))) rfl) (by decide) (mv 1 rfl (ne_ (sr (lo aggMat (hb4.ext (e7.trans (e11.trans (e17.trans e23)))) [.int .i64 ((n:Nat):Int),.int .i64 ((n:Nat):Int),.slice Aa na capa] rfl rfl rfl ?_))))
 obtain⟨lb25,hlb25,hlelb25,hgl25,hq25_0⟩:∃lb,lb≤v22.heap.size∧v22.heap.size≤lb∧w.heap.size≤lb∧g1<lb:=⟨v22.heap.size,Nat.le_refl _,Nat.le_refl _,hw5.size,(hb4.ext (e7.trans (e11.trans (e17.trans e23)))).lt⟩
 have hql26:∀p:Addr,LA14=some p→p.block<lb25:=fun p hp=>Nat.lt_of_lt_of_le (((lz14.ext (e17.trans e23))).block p hp).2 hlelb25
 have hql27:∀p:Addr,LA20=some p→p.block<lb25:=fun p hp=>Nat.lt_of_lt_of_le (((lz20.ext e23)).block p hp).2 hlelb25
 refine cl (vs:= [.agg #[.int .i64 ((n:Nat):Int),.int .i64 ((n:Nat):Int),.slice Aa na capa]]) hw5 (g_top_copyMat (w0:=w) hw5.size hlb25 hw5 ((show ZF w _ _ _ _ _ from⟨msa,hla,hma⟩).ext hw5) (by omega)) rfl (by kernel_rfl) fun xr30 v28 r30 e29 hw6=>?_
 obtain⟨lv31,rfl,⟨LA32,lc32,rfl,lz32⟩⟩:=r30
 have blk33:=lz32.block
 refine mv 1 rfl (cl (vs:= [.agg #[.int .i64 ((n:Nat):Int),.int .i64 ((n:Nat):Int),.slice LA32 na lc32],.int .i64 ((n:Nat):Int)]) hw6 (g_chp_Traces (X:=X) hw6.size (Nat.le_trans hlb25 e29.size) ((lz32).zf hw6) hna hn hn hX) rfl (by kernel_rfl) fun xr36 v34 r36 e35 hw7=>?_)
 obtain⟨_,_,rfl,⟨LA38,lc38,zs38,rfl,lz38,hz38⟩,r37_1⟩:=r36
 have blk39:=lz38.block
 obtain rfl:=r37_1
 refine mv 1 rfl (pu (v:= .slice LA38 n lc38) rfl (by kernel_rfl) (pu (v:= .int .i64 0) rfl (by kernel_rfl) (mv 2 rfl (ne_ (cw_seq (sr (mv 1 rfl (wl_cmp rfl rfl rfl false (by decide) (by decide) (mv 2 rfl (wl_cmp rfl rfl rfl false (by decide) (by decide) (pu (v:= .bool false) rfl (by kernel_rfl) (mv 2 rfl (pu (v:= .int .i64 (((n+1):Nat):Int)) rfl (by kernel_rfl) ?_)))))))))))))
 refine mv 1 rfl (wl_ar rfl rfl rfl ((n+1:Nat):Int) (ai_add (a:=n) (b:=1) rfl rfl (by omega)) (by decide) (wl_cmp rfl rfl rfl false (cb_ne_f (a:=n+1) (b:=n+1) rfl rfl (by omega)) (by decide) (pu (v:= .bool false) rfl (by kernel_rfl) (mv 2 rfl (pu (v:= .int .i64 ((n:Nat):Int)) rfl (by kernel_rfl) (mv 1 rfl (wl_cmp rfl rfl rfl false (cb_ne_f (a:=n) (b:=n) rfl rfl (by omega)) (by decide) (pu (v:= .bool false) rfl (by kernel_rfl) (ne_ (cw_false rfl (cw_skip (eo_then (cw_seq ?_)))))))))))))
 refine sr (mv 1 rfl (ne_ (cw_block ?_)))
 have hLc:∀j,ln (List.getD zs20 j 0)≤17179869184:=fun j=>((lz20.ext (e23.trans (e29.trans e35))).zf0).ln j
 have hLt:∀j,ln (List.getD zs38 j 0)≤17179869184:=fun j=>(lz38.zf0).ln j
 refine cw_loop (T:=World×Nat) (fun⟨wr,k⟩=> [(0,.agg #[.int .i64 ((n:Nat):Int),.int .i64 ((n:Nat):Int),.slice Aa na capa]),(1,.pointer (some ⟨g1,0,none⟩)),(2,.bool false),(3,.slice LA20 (n+1) lc20),(4,.int .i64 0),(5,.int .i64 ((n:Nat):Int)),(6,.slice LA38 n lc38),(7,.int .i64 0),(8,.int .i64 ((k:Nat):Int)),(11,.bool true),(12,.bool false),(13,.tuple #[.slice LA20 (n+1) lc20,I0]),(14,.agg #[.int .i64 ((n:Nat):Int),.int .i64 ((n:Nat):Int),.slice Aa na capa]),(15,.agg #[.int .i64 ((n:Nat):Int),.int .i64 ((n:Nat):Int),.slice LA14 na lc14]),(16,.tuple #[.slice LA20 (n+1) lc20,I0]),(17,.slice LA20 (n+1) lc20),(18,.int .i64 0),(19,.agg #[.int .i64 ((n:Nat):Int),.int .i64 ((n:Nat):Int),.slice Aa na capa]),(20,.bool true),(21,.bool false),(22,.bool false),(23,.pointer (some ⟨g1,0,none⟩)),(24,.int .i64 ((n:Nat):Int)),(25,.pointer (some ⟨g1,1,none⟩)),(26,.int .i64 ((n:Nat):Int)),(27,.bool false),(28,.bool false),(31,.pointer (some ⟨g1,0,none⟩)),(32,.int .i64 ((n:Nat):Int)),(33,.tuple #[.slice LA38 n lc38,I0]),(34,.agg #[.int .i64 ((n:Nat):Int),.int .i64 ((n:Nat):Int),.slice Aa na capa]),(35,.agg #[.int .i64 ((n:Nat):Int),.int .i64 ((n:Nat):Int),.slice LA32 na lc32]),(36,.int .i64 ((n:Nat):Int)),(37,.tuple #[.slice LA38 n lc38,I0]),(38,.slice LA38 n lc38),(39,.int .i64 0),(40,.int .i64 0),(41,.bool false),(42,.bool false),(43,.int .i64 0),(44,.bool false),(45,.bool false),(46,.bool false),(47,.slice LA20 (n+1) lc20),(48,.int .i64 (((n+1):Nat):Int)),(49,.int .i64 ((n:Nat):Int)),(50,.int .i64 ((n+1:Nat):Int)),(51,.bool false),(52,.bool false),(53,.bool false),(54,.slice LA38 n lc38),(55,.int .i64 ((n:Nat):Int)),(56,.int .i64 ((n:Nat):Int)),(57,.bool false),(58,.bool false)]) (fun⟨wr,k⟩=>wr) (fun⟨wr,k⟩=>(Ext w wr)∧(k≤n+1)∧(Bk wr g1 24 [.int .i64 ((n:Nat):Int),.int .i64 ((n:Nat):Int),.slice Aa na capa])∧(lb9≤wr.heap.size)∧(Lz (some w) 1048576 w.heap.size wr lb9 LA14 na _ xs)∧(∀p:Addr,LA14=some p→p.block≠g1)∧(lb9≤wr.heap.size)∧(Lz none 17179869184 w.heap.size wr lb9 LA20 (n+1) lc20 zs20)∧(∀p:Addr,LA20=some p→p.block≠g1)∧(lb25≤wr.heap.size)∧(Lz (some w) 1048576 w.heap.size wr lb25 LA32 na _ xs)∧(∀p:Addr,LA32=some p→p.block≠g1)∧(lb25≤wr.heap.size)∧(Lz none 17179869184 w.heap.size wr lb25 LA38 n lc38 zs38)∧(∀p:Addr,LA38=some p→p.block≠g1)∧(∀p q:Addr,LA32=some p→LA14=some q→p.block≠q.block)∧(∀p q:Addr,LA32=some p→LA20=some q→p.block≠q.block)∧(∀p q:Addr,LA38=some p→LA14=some q→p.block≠q.block)∧(∀p q:Addr,LA38=some p→LA20=some q→p.block≠q.block)∧(1≤k)) (fun⟨wr,k⟩=>(n+1)-k)
  (⟨v34,1⟩:World×Nat) ⟨hw7,(by omega),(hb4.ext (e7.trans (e11.trans (e17.trans (e23.trans (e29.trans e35)))))),(Nat.le_trans (Nat.le_trans (Nat.le_trans (Nat.le_trans (Nat.le_trans hlb9 e11.size) e17.size) e23.size) e29.size) e35.size),(lz14.ext (e17.trans (e23.trans (e29.trans e35)))),(show∀p:Addr,LA14=some p→p.block≠g1 from fun p hp=>by have:=blk15 p hp;omega),(Nat.le_trans (Nat.le_trans (Nat.le_trans (Nat.le_trans (Nat.le_trans hlb9 e11.size) e17.size) e23.size) e29.size) e35.size),(lz20.ext (e23.trans (e29.trans e35))),(show∀p:Addr,LA20=some p→p.block≠g1 from fun p hp=>by have:=blk21 p hp;omega),(Nat.le_trans (Nat.le_trans hlb25 e29.size) e35.size),(lz32.ext e35),(show∀p:Addr,LA32=some p→p.block≠g1 from fun p hp=>by have:=blk33 p hp;omega),(Nat.le_trans (Nat.le_trans hlb25 e29.size) e35.size),lz38,(show∀p:Addr,LA38=some p→p.block≠g1 from fun p hp=>by have:=blk39 p hp;omega),(show∀p q:Addr,LA32=some p→LA14=some q→p.block≠q.block from fun p q hp hq=>by have:=blk33 p hp;have:=hql26 q hq;omega),(show∀p q:Addr,LA32=some p→LA20=some q→p.block≠q.block from fun p q hp hq=>by have:=blk33 p hp;have:=hql27 q hq;omega),(show∀p q:Addr,LA38=some p→LA14=some q→p.block≠q.block from fun p q hp hq=>by have:=blk39 p hp;have:=hql26 q hq;omega),(show∀p q:Addr,LA38=some p→LA20=some q→p.block≠q.block from fun p q hp hq=>by have:=blk39 p hp;have:=hql27 q hq;omega),(Nat.le_refl 1)⟩ rfl ⟨rfl,rfl,rfl,rfl,rfl,rfl,rfl,rfl,rfl,rfl,rfl,rfl,rfl,rfl,rfl,rfl,rfl,rfl,rfl,rfl,rfl,rfl,rfl,rfl,rfl,rfl,rfl,rfl,rfl,rfl,rfl,rfl,rfl,rfl,rfl,rfl,rfl,rfl,rfl,rfl,rfl,rfl,rfl,rfl,rfl,rfl,rfl,rfl,rfl,rfl,rfl,rfl,rfl,rfl,rfl,trivial⟩ ?_
 rintro⟨wr,k⟩ ⟨hw1,hi_k,b_g1,l_LA14b,l_LA14,l_LA14_g1,l_LA20b,l_LA20,l_LA20_g1,l_LA32b,l_LA32,l_LA32_g1,l_LA38b,l_LA38,l_LA38_g1,d_l_LA32_l_LA14,d_l_LA32_l_LA20,d_l_LA38_l_LA14,d_l_LA38_l_LA20,hk1⟩
 refine cw_re [(0,.agg #[.int .i64 ((n:Nat):Int),.int .i64 ((n:Nat):Int),.slice Aa na capa]),(1,.pointer (some ⟨g1,0,none⟩)),(2,.bool false),(3,.slice LA20 (n+1) lc20),(4,.int .i64 0),(5,.int .i64 ((n:Nat):Int)),(6,.slice LA38 n lc38),(7,.int .i64 0),(8,.int .i64 ((k:Nat):Int)),(11,.bool true),(12,.bool false),(13,.tuple #[.slice LA20 (n+1) lc20,I0]),(14,.agg #[.int .i64 ((n:Nat):Int),.int .i64 ((n:Nat):Int),.slice Aa na capa]),(15,.agg #[.int .i64 ((n:Nat):Int),.int .i64 ((n:Nat):Int),.slice LA14 na lc14]),(16,.tuple #[.slice LA20 (n+1) lc20,I0]),(17,.slice LA20 (n+1) lc20),(18,.int .i64 0),(19,.agg #[.int .i64 ((n:Nat):Int),.int .i64 ((n:Nat):Int),.slice Aa na capa]),(20,.bool true),(21,.bool false),(22,.bool false),(23,.pointer (some ⟨g1,0,none⟩)),(24,.int .i64 ((n:Nat):Int)),(25,.pointer (some ⟨g1,1,none⟩)),(26,.int .i64 ((n:Nat):Int)),(27,.bool false),(28,.bool false),(31,.pointer (some ⟨g1,0,none⟩)),(32,.int .i64 ((n:Nat):Int)),(33,.tuple #[.slice LA38 n lc38,I0]),(34,.agg #[.int .i64 ((n:Nat):Int),.int .i64 ((n:Nat):Int),.slice Aa na capa]),(35,.agg #[.int .i64 ((n:Nat):Int),.int .i64 ((n:Nat):Int),.slice LA32 na lc32]),(36,.int .i64 ((n:Nat):Int)),(37,.tuple #[.slice LA38 n lc38,I0]),(38,.slice LA38 n lc38),(39,.int .i64 0),(40,.int .i64 0),(41,.bool false),(42,.bool false),(43,.int .i64 0),(44,.bool false),(45,.bool false),(46,.bool false),(47,.slice LA20 (n+1) lc20),(48,.int .i64 (((n+1):Nat):Int)),(49,.int .i64 ((n:Nat):Int)),(50,.int .i64 ((n+1:Nat):Int)),(51,.bool false),(52,.bool false),(53,.bool false),(54,.slice LA38 n lc38),(55,.int .i64 ((n:Nat):Int)),(56,.int .i64 ((n:Nat):Int)),(57,.bool false),(58,.bool false)] wr rfl ⟨rfl,rfl,rfl,rfl,rfl,rfl,rfl,rfl,rfl,rfl,rfl,rfl,rfl,rfl,rfl,rfl,rfl,rfl,rfl,rfl,rfl,rfl,rfl,rfl,rfl,rfl,rfl,rfl,rfl,rfl,rfl,rfl,rfl,rfl,rfl,rfl,rfl,rfl,rfl,rfl,rfl,rfl,rfl,rfl,rfl,rfl,rfl,rfl,rfl,rfl,rfl,rfl,rfl,rfl,rfl,trivial⟩ ?_
 have blk40:=l_LA14.block
 have blk41:=l_LA20.block
 have blk42:=l_LA32.block
 have blk43:=l_LA38.block
 refine cw_seq (cw_seq ?_)
 by_cases hkn:k≤n
 · 
  refine cw_region (mv 2 rfl (wl_cmp rfl rfl rfl true (cb_le_t (a:=k) (b:=n) rfl rfl (by omega)) (by decide) (ne_ (cw_true rfl (cw_skip (eo_then (cw_seq (cw_block (cw_seq ?_)))))))))
  obtain⟨pz45,sz45,Bz45,nz45,cz45,hpz45,ldz45,hKz45,ez45⟩:=(l_LA20).at (i:=n-k) (by omega)
  have zz45:=ez45.zr
  have Lz45:ln (zs20.getD (n-k) 0)≤17179869184:=zz45.ln_le hKz45
  have L46:ln (((k:Nat):Int)*(zs20.getD (n-k) 0))≤17179869185:=Nat.le_trans (ln_mul (ln_w1 (by omega) (by omega)) Lz45) (by decide)
  refine cw_draw mix 10 [] [Is (.int .i64 ((k:Nat):Int)),ZR w.heap.size (((k:Nat):Int)),Is (.slice LA20 (n+1) lc20),Is (.int .i64 ((n:Nat):Int)),Is (.int .i64 ((k:Nat):Int)),Is (.int .i64 ((n-k:Nat):Int)),Is (.pointer (some pz45)),Is (.agg #[.bool sz45,.slice Bz45 nz45 cz45]),ZR w.heap.size (((k:Nat):Int)*(zs20.getD (n-k) 0)),PR wr.heap.size 34 [F0,S0]] [[],[0],[],[],[],[3,4],[2,5],[6],[1,7],[]] [[],[0],[],[],[],[3,4],[2,3,4,5],[2,3,4,5,6],[0,1,2,3,4,5,6,7],[],[0,1,2,3,4,5,6,7,8,9]] rfl
   (obs_cons rfl rfl (hob rfl rfl ?_) (obs_cons rfl rfl (hob rfl rfl ?_) (obs_cons rfl rfl (hob rfl rfl ?_) (obs_cons rfl rfl (hob rfl rfl ?_) (obs_cons rfl rfl (hob rfl rfl ?_) (obs_cons rfl rfl (hob rfl rfl ?_) (obs_cons rfl rfl (hob rfl rfl ?_) (obs_cons rfl rfl (hob rfl rfl ?_) (obs_cons rfl rfl (hob rfl rfl ?_) (obs_cons rfl rfl (hob rfl rfl ?_) obs_nil)))))))))) ?_
  · 
   exact fun _ _=>deps_nil (mv 1 rfl (pi_done rfl (Ext.refl _) rfl))
  · 
   intro v50 e51
   have hw2:=hw1.trans e51
   refine dk rfl rfl (deps_nil (cl (vs:= [.int .i64 ((k:Nat):Int)]) hw2 (g_zint_Of hw2.size (by omega) (by omega)) rfl (by kernel_rfl) fun xr59 v57 r59 e58 hw3=>?_))
   obtain⟨s60,A60,n60,c60,rfl,z60⟩:=r59
   exact pi_done rfl e58 ⟨_,_,_,_,rfl,z60⟩
  · 
   exact fun _ _=>deps_nil (mv 1 rfl (pi_done rfl (Ext.refl _) rfl))
  · 
   exact fun _ _=>deps_nil (mv 1 rfl (pi_done rfl (Ext.refl _) rfl))
  · 
   exact fun _ _=>deps_nil (mv 1 rfl (pi_done rfl (Ext.refl _) rfl))
  · 
   exact fun _ _=>dk rfl rfl (dk rfl rfl (deps_nil (wl_ar rfl rfl rfl ((n-k:Nat):Int) (ai_sub (a:=n) (b:=k) rfl rfl (by omega) (by omega)) (by decide) (pi_done rfl (Ext.refl _) rfl))))
  · 
   exact fun _ _=>dk rfl rfl (dk rfl rfl (deps_nil (wl_idx rfl rfl rfl elemI aggInt.size (n-k) rfl (by omega) pz45 hpz45 (by decide) (pi_done rfl (Ext.refl _) rfl))))
  · 
   exact fun _ e92=>dk rfl rfl (deps_nil (wl_load rfl rfl (ldz45 _ e92 _ _ aggInt) (by decide) (pi_done rfl (Ext.refl _) rfl)))
  · 
   intro v98 e99
   have hw2:=hw1.trans e99
   refine deps_cons rfl rfl fun x100 y101 h102 e103 f104=>?_
   obtain⟨s105,A105,n105,c105,rfl,z105⟩:=h102
   have z105:=z105.ext f104
   refine dk rfl rfl (deps_nil ?_)
   have L111:ln (((k:Nat):Int)*(zs20.getD (n-k) 0))≤17179869185:=Nat.le_trans (ln_mul (ln_w1 (by omega) (by omega)) Lz45) (by decide)
   refine cl (vs:= [.agg #[.bool s105,.slice A105 n105 c105],.agg #[.bool sz45,.slice Bz45 nz45 cz45]]) hw2 (g_zint_Mul hw2.size z105.zi (z105.le (Nat.le_trans (ln_w1 (by omega) (by omega)) (by decide))) (zz45.ext e99).zi (zz45.le (lx_ Lz45 rfl))) rfl (by kernel_rfl) fun xr114 v112 r114 e113 hw3=>?_
   obtain⟨s115,A115,n115,c115,rfl,z115⟩:=r114
   exact pi_done rfl e113 ⟨_,_,_,_,rfl,z115⟩
  · 
   intro v116 e117
   refine deps_nil (wl_alloc rfl (z:= .agg #[F0,S0]) (vs:= [F0,S0]) (fun _=>by kernel_rfl) rfl (by decide) fun g118 v119 nb=>?_)
   exact pi_done rfl nb.ext ⟨_,rfl,by rw [←nb.at_];exact e117.size,nb.bk⟩
  · 
   intro v120 e121
   have hw2:=hw1.trans e121
   refine dk rfl rfl (deps_cons rfl rfl fun x127 y128 h129 e130 f131=>?_)
   obtain⟨s132,A132,n132,c132,rfl,z132⟩:=h129
   have z132:=z132.ext f131
   refine dk rfl rfl (dk rfl rfl (dk rfl rfl (dk rfl rfl (dk rfl rfl (dk rfl rfl (deps_cons rfl rfl fun x163 y164 h165 e166 f167=>?_))))))
   obtain⟨s168,A168,n168,c168,rfl,z168⟩:=h165
   have z168:=z168.ext f167
   refine deps_cons rfl rfl fun x169 y170 h171 e172 f173=>?_
   obtain⟨g174,rfl,ge176,hb175⟩:=h171
   have hb175:=hb175.ext f173
   have q177:g1<g174:=Nat.lt_of_lt_of_le b_g1.lt ge176
   have ne178:∀p:Addr,LA14=some p→p.block≠g174:=fun p hp=>by have:=(l_LA14).block p hp;have:=ge176;omega
   have ne179:∀p:Addr,LA20=some p→p.block≠g174:=fun p hp=>by have:=(l_LA20).block p hp;have:=ge176;omega
   have ne180:∀p:Addr,LA32=some p→p.block≠g174:=fun p hp=>by have:=(l_LA32).block p hp;have:=ge176;omega
   have ne181:∀p:Addr,LA38=some p→p.block≠g174:=fun p hp=>by have:=(l_LA38).block p hp;have:=ge176;omega
   have ge176:w.heap.size≤g174:=Nat.le_trans hw1.size ge176
   refine deps_nil (so aggInt hb175 [.bool s168,.slice A168 n168 c168] hw2 ge176 rfl rfl rfl rfl fun v182 hb184 u185 hw3=>(wl_nil (eo_np (eo_then (cw_seq (sr (mv 1 rfl (ne_ (cw_block ?_)))))))))
   have hz8:=((z168.updT hb175 u185)).cast (acn_0 zs20 zs38 n k)
   refine cw_loop (T:=World×Nat×Bool×Option Addr×Nat×Nat) (fun⟨wi,i,sv,Av,nv,cv⟩=> [(0,.agg #[.int .i64 ((n:Nat):Int),.int .i64 ((n:Nat):Int),.slice Aa na capa]),(1,.pointer (some ⟨g1,0,none⟩)),(2,.bool false),(3,.slice LA20 (n+1) lc20),(4,.int .i64 0),(5,.int .i64 ((n:Nat):Int)),(6,.slice LA38 n lc38),(7,.int .i64 0),(8,.int .i64 ((k:Nat):Int)),(9,.pointer (some ⟨g174,0,none⟩)),(10,.int .i64 ((i:Nat):Int)),(11,.bool true),(12,.bool false),(13,.tuple #[.slice LA20 (n+1) lc20,I0]),(14,.agg #[.int .i64 ((n:Nat):Int),.int .i64 ((n:Nat):Int),.slice Aa na capa]),(15,.agg #[.int .i64 ((n:Nat):Int),.int .i64 ((n:Nat):Int),.slice LA14 na lc14]),(16,.tuple #[.slice LA20 (n+1) lc20,I0]),(17,.slice LA20 (n+1) lc20),(18,.int .i64 0),(19,.agg #[.int .i64 ((n:Nat):Int),.int .i64 ((n:Nat):Int),.slice Aa na capa]),(20,.bool true),(21,.bool false),(22,.bool false),(23,.pointer (some ⟨g1,0,none⟩)),(24,.int .i64 ((n:Nat):Int)),(25,.pointer (some ⟨g1,1,none⟩)),(26,.int .i64 ((n:Nat):Int)),(27,.bool false),(28,.bool false),(31,.pointer (some ⟨g1,0,none⟩)),(32,.int .i64 ((n:Nat):Int)),(33,.tuple #[.slice LA38 n lc38,I0]),(34,.agg #[.int .i64 ((n:Nat):Int),.int .i64 ((n:Nat):Int),.slice Aa na capa]),(35,.agg #[.int .i64 ((n:Nat):Int),.int .i64 ((n:Nat):Int),.slice LA32 na lc32]),(36,.int .i64 ((n:Nat):Int)),(37,.tuple #[.slice LA38 n lc38,I0]),(38,.slice LA38 n lc38),(39,.int .i64 0),(40,.int .i64 0),(41,.bool false),(42,.bool false),(43,.int .i64 0),(44,.bool false),(45,.bool false),(46,.bool false),(47,.slice LA20 (n+1) lc20),(48,.int .i64 (((n+1):Nat):Int)),(49,.int .i64 ((n:Nat):Int)),(50,.int .i64 ((n+1:Nat):Int)),(51,.bool false),(52,.bool false),(53,.bool false),(54,.slice LA38 n lc38),(55,.int .i64 ((n:Nat):Int)),(56,.int .i64 ((n:Nat):Int)),(57,.bool false),(58,.bool false),(59,.int .i64 ((k:Nat):Int)),(60,.int .i64 ((n:Nat):Int)),(61,.bool true),(64,.int .i64 ((k:Nat):Int)),(65,.agg #[.bool s132,.slice A132 n132 c132]),(66,.slice LA20 (n+1) lc20),(67,.int .i64 ((n:Nat):Int)),(68,.int .i64 ((k:Nat):Int)),(69,.int .i64 ((n-k:Nat):Int)),(70,.pointer (some pz45)),(71,.agg #[.bool sz45,.slice Bz45 nz45 cz45]),(72,.agg #[.bool s168,.slice A168 n168 c168])]) (fun⟨wi,i,sv,Av,nv,cv⟩=>wi) (fun⟨wi,i,sv,Av,nv,cv⟩=>(Ext w wi)∧(i≤k+1)∧(Bk wi g1 24 [.int .i64 ((n:Nat):Int),.int .i64 ((n:Nat):Int),.slice Aa na capa])∧(Bk wi g174 34 [.bool sv,.slice Av nv cv])∧(Zr wi w.heap.size sv Av nv cv (acn zs20 zs38 n k (i-1)))∧(lb9≤wi.heap.size)∧(Lz (some w) 1048576 w.heap.size wi lb9 LA14 na _ xs)∧(∀p:Addr,LA14=some p→p.block≠g1)∧(∀p:Addr,LA14=some p→p.block≠g174)∧(lb9≤wi.heap.size)∧(Lz none 17179869184 w.heap.size wi lb9 LA20 (n+1) lc20 zs20)∧(∀p:Addr,LA20=some p→p.block≠g1)∧(∀p:Addr,LA20=some p→p.block≠g174)∧(lb25≤wi.heap.size)∧(Lz (some w) 1048576 w.heap.size wi lb25 LA32 na _ xs)∧(∀p:Addr,LA32=some p→p.block≠g1)∧(∀p:Addr,LA32=some p→p.block≠g174)∧(lb25≤wi.heap.size)∧(Lz none 17179869184 w.heap.size wi lb25 LA38 n lc38 zs38)∧(∀p:Addr,LA38=some p→p.block≠g1)∧(∀p:Addr,LA38=some p→p.block≠g174)∧(∀p q:Addr,LA32=some p→LA14=some q→p.block≠q.block)∧(∀p q:Addr,LA32=some p→LA20=some q→p.block≠q.block)∧(∀p q:Addr,LA38=some p→LA14=some q→p.block≠q.block)∧(∀p q:Addr,LA38=some p→LA20=some q→p.block≠q.block)∧(1≤i)) (fun⟨wi,i,sv,Av,nv,cv⟩=>(k+1)-i)
    (⟨v182,1,s168,A168,n168,c168⟩:World×Nat×Bool×Option Addr×Nat×Nat) ⟨hw3,(by omega),((b_g1.ext e121).updN u185 (by omega)),hb184,hz8,(Nat.le_trans (Nat.le_trans l_LA14b e121.size) u185.by_.size),((l_LA14.ext e121).updT hb175 u185 ne178),l_LA14_g1,ne178,(Nat.le_trans (Nat.le_trans l_LA20b e121.size) u185.by_.size),((l_LA20.ext e121).updT hb175 u185 ne179),l_LA20_g1,ne179,(Nat.le_trans (Nat.le_trans l_LA32b e121.size) u185.by_.size),((l_LA32.ext e121).updT hb175 u185 ne180),l_LA32_g1,ne180,(Nat.le_trans (Nat.le_trans l_LA38b e121.size) u185.by_.size),((l_LA38.ext e121).updT hb175 u185 ne181),l_LA38_g1,ne181,d_l_LA32_l_LA14,d_l_LA32_l_LA20,d_l_LA38_l_LA14,d_l_LA38_l_LA20,(Nat.le_refl 1)⟩ rfl ⟨rfl,rfl,rfl,rfl,rfl,rfl,rfl,rfl,rfl,rfl,rfl,rfl,rfl,rfl,rfl,rfl,rfl,rfl,rfl,rfl,rfl,rfl,rfl,rfl,rfl,rfl,rfl,rfl,rfl,rfl,rfl,rfl,rfl,rfl,rfl,rfl,rfl,rfl,rfl,rfl,rfl,rfl,rfl,rfl,rfl,rfl,rfl,rfl,rfl,rfl,rfl,rfl,rfl,rfl,rfl,rfl,rfl,rfl,rfl,rfl,rfl,rfl,rfl,rfl,rfl,rfl,rfl,rfl,rfl,trivial⟩ ?_
   rintro⟨wi,i,sv,Av,nv,cv⟩ ⟨hw1,hi_i,b_g1,b_g174,z_g174,l_LA14b,l_LA14,l_LA14_g1,l_LA14_g174,l_LA20b,l_LA20,l_LA20_g1,l_LA20_g174,l_LA32b,l_LA32,l_LA32_g1,l_LA32_g174,l_LA38b,l_LA38,l_LA38_g1,l_LA38_g174,d_l_LA32_l_LA14,d_l_LA32_l_LA20,d_l_LA38_l_LA14,d_l_LA38_l_LA20,hi1⟩
   refine cw_re [(0,.agg #[.int .i64 ((n:Nat):Int),.int .i64 ((n:Nat):Int),.slice Aa na capa]),(1,.pointer (some ⟨g1,0,none⟩)),(2,.bool false),(3,.slice LA20 (n+1) lc20),(4,.int .i64 0),(5,.int .i64 ((n:Nat):Int)),(6,.slice LA38 n lc38),(7,.int .i64 0),(8,.int .i64 ((k:Nat):Int)),(9,.pointer (some ⟨g174,0,none⟩)),(10,.int .i64 ((i:Nat):Int)),(11,.bool true),(12,.bool false),(13,.tuple #[.slice LA20 (n+1) lc20,I0]),(14,.agg #[.int .i64 ((n:Nat):Int),.int .i64 ((n:Nat):Int),.slice Aa na capa]),(15,.agg #[.int .i64 ((n:Nat):Int),.int .i64 ((n:Nat):Int),.slice LA14 na lc14]),(16,.tuple #[.slice LA20 (n+1) lc20,I0]),(17,.slice LA20 (n+1) lc20),(18,.int .i64 0),(19,.agg #[.int .i64 ((n:Nat):Int),.int .i64 ((n:Nat):Int),.slice Aa na capa]),(20,.bool true),(21,.bool false),(22,.bool false),(23,.pointer (some ⟨g1,0,none⟩)),(24,.int .i64 ((n:Nat):Int)),(25,.pointer (some ⟨g1,1,none⟩)),(26,.int .i64 ((n:Nat):Int)),(27,.bool false),(28,.bool false),(31,.pointer (some ⟨g1,0,none⟩)),(32,.int .i64 ((n:Nat):Int)),(33,.tuple #[.slice LA38 n lc38,I0]),(34,.agg #[.int .i64 ((n:Nat):Int),.int .i64 ((n:Nat):Int),.slice Aa na capa]),(35,.agg #[.int .i64 ((n:Nat):Int),.int .i64 ((n:Nat):Int),.slice LA32 na lc32]),(36,.int .i64 ((n:Nat):Int)),(37,.tuple #[.slice LA38 n lc38,I0]),(38,.slice LA38 n lc38),(39,.int .i64 0),(40,.int .i64 0),(41,.bool false),(42,.bool false),(43,.int .i64 0),(44,.bool false),(45,.bool false),(46,.bool false),(47,.slice LA20 (n+1) lc20),(48,.int .i64 (((n+1):Nat):Int)),(49,.int .i64 ((n:Nat):Int)),(50,.int .i64 ((n+1:Nat):Int)),(51,.bool false),(52,.bool false),(53,.bool false),(54,.slice LA38 n lc38),(55,.int .i64 ((n:Nat):Int)),(56,.int .i64 ((n:Nat):Int)),(57,.bool false),(58,.bool false),(59,.int .i64 ((k:Nat):Int)),(60,.int .i64 ((n:Nat):Int)),(61,.bool true),(64,.int .i64 ((k:Nat):Int)),(65,.agg #[.bool s132,.slice A132 n132 c132]),(66,.slice LA20 (n+1) lc20),(67,.int .i64 ((n:Nat):Int)),(68,.int .i64 ((k:Nat):Int)),(69,.int .i64 ((n-k:Nat):Int)),(70,.pointer (some pz45)),(71,.agg #[.bool sz45,.slice Bz45 nz45 cz45]),(72,.agg #[.bool s168,.slice A168 n168 c168])] wi rfl ⟨rfl,rfl,rfl,rfl,rfl,rfl,rfl,rfl,rfl,rfl,rfl,rfl,rfl,rfl,rfl,rfl,rfl,rfl,rfl,rfl,rfl,rfl,rfl,rfl,rfl,rfl,rfl,rfl,rfl,rfl,rfl,rfl,rfl,rfl,rfl,rfl,rfl,rfl,rfl,rfl,rfl,rfl,rfl,rfl,rfl,rfl,rfl,rfl,rfl,rfl,rfl,rfl,rfl,rfl,rfl,rfl,rfl,rfl,rfl,rfl,rfl,rfl,rfl,rfl,rfl,rfl,rfl,rfl,rfl,trivial⟩ ?_
   have blk187:=l_LA14.block
   have blk188:=l_LA20.block
   have blk189:=l_LA32.block
   have blk190:=l_LA38.block
   have hLa:ln (acn zs20 zs38 n k (i-1))≤34359738434:=Nat.le_trans (ln_acn (K:=17179869184) (by omega) hLc hLt) (by omega)
   refine cw_seq (cw_seq ?_)
   by_cases hik:i≤k
   · 
    refine cw_region (mv 2 rfl (wl_cmp rfl rfl rfl true (cb_le_t (a:=i) (b:=k) rfl rfl (by omega)) (by decide) (ne_ (cw_true rfl (cw_skip (eo_then (cw_seq (cw_block ?_))))))))
    obtain⟨pz191,sz191,Bz191,nz191,cz191,hpz191,ldz191,hKz191,ez191⟩:=(l_LA20).at (i:=(n-k)+i) (by omega)
    have zz191:=ez191.zr
    have Lz191:ln (zs20.getD ((n-k)+i) 0)≤17179869184:=zz191.ln_le hKz191
    obtain⟨pz192,sz192,Bz192,nz192,cz192,hpz192,ldz192,hKz192,ez192⟩:=(l_LA38).at (i:=i-1) (by omega)
    have zz192:=ez192.zr
    have Lz192:ln (zs38.getD (i-1) 0)≤17179869184:=zz192.ln_le hKz192
    have L193:ln ((zs20.getD ((n-k)+i) 0)*(zs38.getD (i-1) 0))≤34359738368:=Nat.le_trans (ln_mul Lz191 Lz192) (by decide)
    have L195:ln ((acn zs20 zs38 n k (i-1))+((zs20.getD ((n-k)+i) 0)*(zs38.getD (i-1) 0)))≤34359738435:=Nat.le_trans (ln_add hLa L193) (by decide)
    refine cw_draw mix 16 [] [Is (.agg #[.bool sv,.slice Av nv cv]),Is (.slice LA20 (n+1) lc20),Is (.int .i64 ((n:Nat):Int)),Is (.int .i64 ((k:Nat):Int)),Is (.int .i64 ((n-k:Nat):Int)),Is (.int .i64 ((i:Nat):Int)),Is (.int .i64 (((n-k)+i:Nat):Int)),Is (.pointer (some pz191)),Is (.agg #[.bool sz191,.slice Bz191 nz191 cz191]),Is (.slice LA38 n lc38),Is (.int .i64 ((i:Nat):Int)),Is (.int .i64 ((i-1:Nat):Int)),Is (.pointer (some pz192)),Is (.agg #[.bool sz192,.slice Bz192 nz192 cz192]),ZR w.heap.size ((zs20.getD ((n-k)+i) 0)*(zs38.getD (i-1) 0)),ZR w.heap.size ((acn zs20 zs38 n k (i-1))+((zs20.getD ((n-k)+i) 0)*(zs38.getD (i-1) 0)))] [[],[],[],[],[2,3],[],[4,5],[1,6],[7],[],[],[10],[9,11],[12],[8,13],[0,14]] [[],[],[],[],[2,3],[],[2,3,4,5],[1,2,3,4,5,6],[1,2,3,4,5,6,7],[],[],[10],[9,10,11],[9,10,11,12],[1,2,3,4,5,6,7,8,9,10,11,12,13],[0,1,2,3,4,5,6,7,8,9,10,11,12,13,14],[0,1,2,3,4,5,6,7,8,9,10,11,12,13,14,15]] rfl
     (obs_cons rfl rfl (hob rfl rfl ?_) (obs_cons rfl rfl (hob rfl rfl ?_) (obs_cons rfl rfl (hob rfl rfl ?_) (obs_cons rfl rfl (hob rfl rfl ?_) (obs_cons rfl rfl (hob rfl rfl ?_) (obs_cons rfl rfl (hob rfl rfl ?_) (obs_cons rfl rfl (hob rfl rfl ?_) (obs_cons rfl rfl (hob rfl rfl ?_) (obs_cons rfl rfl (hob rfl rfl ?_) (obs_cons rfl rfl (hob rfl rfl ?_) (obs_cons rfl rfl (hob rfl rfl ?_) (obs_cons rfl rfl (hob rfl rfl ?_) (obs_cons rfl rfl (hob rfl rfl ?_) (obs_cons rfl rfl (hob rfl rfl ?_) (obs_cons rfl rfl (hob rfl rfl ?_) (obs_cons rfl rfl (hob rfl rfl ?_) obs_nil)))))))))))))))) ?_
    · 
     exact fun _ e198=>deps_nil (lo aggInt (b_g174.ext e198) [.bool sv,.slice Av nv cv] rfl rfl rfl (pi_done rfl (Ext.refl _) rfl))
    · 
     exact fun _ _=>deps_nil (mv 1 rfl (pi_done rfl (Ext.refl _) rfl))
    · 
     exact fun _ _=>deps_nil (mv 1 rfl (pi_done rfl (Ext.refl _) rfl))
    · 
     exact fun _ _=>deps_nil (mv 1 rfl (pi_done rfl (Ext.refl _) rfl))
    · 
     exact fun _ _=>dk rfl rfl (dk rfl rfl (deps_nil (wl_ar rfl rfl rfl ((n-k:Nat):Int) (ai_sub (a:=n) (b:=k) rfl rfl (by omega) (by omega)) (by decide) (pi_done rfl (Ext.refl _) rfl))))
    · 
     exact fun _ _=>deps_nil (mv 1 rfl (pi_done rfl (Ext.refl _) rfl))
    · 
     exact fun _ _=>dk rfl rfl (dk rfl rfl (deps_nil (wl_ar rfl rfl rfl (((n-k)+i:Nat):Int) (ai_add (a:=n-k) (b:=i) rfl rfl (by omega)) (by decide) (pi_done rfl (Ext.refl _) rfl))))
    · 
     exact fun _ _=>dk rfl rfl (dk rfl rfl (deps_nil (wl_idx rfl rfl rfl elemI aggInt.size ((n-k)+i) rfl (by omega) pz191 hpz191 (by decide) (pi_done rfl (Ext.refl _) rfl))))
    · 
     exact fun _ e244=>dk rfl rfl (deps_nil (wl_load rfl rfl (ldz191 _ e244 _ _ aggInt) (by decide) (pi_done rfl (Ext.refl _) rfl)))
    · 
     exact fun _ _=>deps_nil (mv 1 rfl (pi_done rfl (Ext.refl _) rfl))
    · 
     exact fun _ _=>deps_nil (mv 1 rfl (pi_done rfl (Ext.refl _) rfl))
    · 
     exact fun _ _=>dk rfl rfl (deps_nil (wl_ar rfl rfl rfl ((i-1:Nat):Int) (ai_sub (a:=i) (b:=1) rfl rfl (by omega) (by omega)) (by decide) (pi_done rfl (Ext.refl _) rfl)))
    · 
     exact fun _ _=>dk rfl rfl (dk rfl rfl (deps_nil (wl_idx rfl rfl rfl elemI aggInt.size (i-1) rfl (by omega) pz192 hpz192 (by decide) (pi_done rfl (Ext.refl _) rfl))))
    · 
     exact fun _ e274=>dk rfl rfl (deps_nil (wl_load rfl rfl (ldz192 _ e274 _ _ aggInt) (by decide) (pi_done rfl (Ext.refl _) rfl)))
    · 
     intro v280 e281
     have hw2:=hw1.trans e281
     refine dk rfl rfl (dk rfl rfl (deps_nil ?_))
     have L292:ln ((zs20.getD ((n-k)+i) 0)*(zs38.getD (i-1) 0))≤34359738368:=Nat.le_trans (ln_mul Lz191 Lz192) (by decide)
     refine cl (vs:= [.agg #[.bool sz191,.slice Bz191 nz191 cz191],.agg #[.bool sz192,.slice Bz192 nz192 cz192]]) hw2 (g_zint_Mul hw2.size (zz191.ext e281).zi (zz191.le (lx_ Lz191 rfl)) (zz192.ext e281).zi (zz192.le (lx_ Lz192 rfl))) rfl (by kernel_rfl) fun xr295 v293 r295 e294 hw3=>?_
     obtain⟨s296,A296,n296,c296,rfl,z296⟩:=r295
     exact pi_done rfl e294 ⟨_,_,_,_,rfl,z296⟩
    · 
     intro v297 e298
     have hw2:=hw1.trans e298
     refine dk rfl rfl (deps_cons rfl rfl fun x304 y305 h306 e307 f308=>?_)
     obtain⟨s309,A309,n309,c309,rfl,z309⟩:=h306
     have z309:=z309.ext f308
     refine deps_nil ?_
     have L310:ln ((acn zs20 zs38 n k (i-1))+((zs20.getD ((n-k)+i) 0)*(zs38.getD (i-1) 0)))≤34359738435:=Nat.le_trans (ln_add hLa L193) (by decide)
     refine cl (vs:= [.agg #[.bool sv,.slice Av nv cv],.agg #[.bool s309,.slice A309 n309 c309]]) hw2 (g_zint_Add hw2.size (z_g174.ext e298).zi (z_g174.le (lx_ hLa rfl)) z309.zi (z309.le (lx_ L193 rfl))) rfl (by kernel_rfl) fun xr313 v311 r313 e312 hw3=>?_
     obtain⟨s314,A314,n314,c314,rfl,z314⟩:=r313
     exact pi_done rfl e312 ⟨_,_,_,_,rfl,z314⟩
    · 
     intro v315 e316
     have hw2:=hw1.trans e316
     refine dk rfl rfl (dk rfl rfl (dk rfl rfl (dk rfl rfl (dk rfl rfl (dk rfl rfl (dk rfl rfl (dk rfl rfl (dk rfl rfl (dk rfl rfl (dk rfl rfl (dk rfl rfl (dk rfl rfl (dk rfl rfl ?_)))))))))))))
     refine deps_cons rfl rfl fun x387 y388 h389 e390 f391=>?_
     obtain⟨s392,A392,n392,c392,rfl,z392⟩:=h389
     have z392:=z392.ext f391
     refine deps_cons rfl rfl fun x393 y394 h395 e396 f397=>?_
     obtain⟨s398,A398,n398,c398,rfl,z398⟩:=h395
     have z398:=z398.ext f397
     refine deps_nil ?_
     have hb400:=(b_g174.ext e316)
     refine so aggInt hb400 [.bool s398,.slice A398 n398 c398] hw2 ge176 rfl rfl rfl rfl fun v399 hb401 u402 hw3=>(wl_nil (eo_np (eo_block_normal (eo_then (cw_region (mv 1 rfl (wl_ar rfl rfl rfl ((i+1:Nat):Int) (ai_add (a:=i) (b:=1) rfl rfl (by omega)) (by decide) (mv 1 rfl (wl_nil ?_)))))))))
     have hz7:=((z398.updT hb400 u402)).cast (acn_s zs20 zs38 n k hi1)
     refine eo_round (⟨v399,i+1,s398,A398,n398,c398⟩:World×Nat×Bool×Option Addr×Nat×Nat) ⟨hw3,(by omega),((b_g1.ext e316).updN u402 (by omega)),hb401,hz7,(Nat.le_trans (Nat.le_trans l_LA14b e316.size) u402.by_.size),((l_LA14.ext e316).updT hb400 u402 l_LA14_g174),l_LA14_g1,l_LA14_g174,(Nat.le_trans (Nat.le_trans l_LA20b e316.size) u402.by_.size),((l_LA20.ext e316).updT hb400 u402 l_LA20_g174),l_LA20_g1,l_LA20_g174,(Nat.le_trans (Nat.le_trans l_LA32b e316.size) u402.by_.size),((l_LA32.ext e316).updT hb400 u402 l_LA32_g174),l_LA32_g1,l_LA32_g174,(Nat.le_trans (Nat.le_trans l_LA38b e316.size) u402.by_.size),((l_LA38.ext e316).updT hb400 u402 l_LA38_g174),l_LA38_g1,l_LA38_g174,d_l_LA32_l_LA14,d_l_LA32_l_LA20,d_l_LA38_l_LA14,d_l_LA38_l_LA20,(by omega)⟩ (show (k+1)-(i+1)<(k+1)-i by omega) rfl ⟨rfl,rfl,rfl,rfl,rfl,rfl,rfl,rfl,rfl,rfl,rfl,rfl,rfl,rfl,rfl,rfl,rfl,rfl,rfl,rfl,rfl,rfl,rfl,rfl,rfl,rfl,rfl,rfl,rfl,rfl,rfl,rfl,rfl,rfl,rfl,rfl,rfl,rfl,rfl,rfl,rfl,rfl,rfl,rfl,rfl,rfl,rfl,rfl,rfl,rfl,rfl,rfl,rfl,rfl,rfl,rfl,rfl,rfl,rfl,rfl,rfl,rfl,rfl,rfl,rfl,rfl,rfl,rfl,rfl,trivial⟩
   · 
    refine cw_region (mv 2 rfl (wl_cmp rfl rfl rfl false (cb_le_f (a:=i) (b:=k) rfl rfl (by omega)) (by decide) (ne_ (cw_false rfl (cw_exit (eo_thenX (eo_loopX (eo_block_here (eo_then (sr (lo aggInt b_g174 [.bool sv,.slice Av nv cv] rfl rfl rfl ?_)))))))))))
    have hzz:=(z_g174).cast (show acn zs20 zs38 n k (i-1)=0 from by rw [show i=k+1 by omega];exact acn_end hd hz20 hz38 (by omega))
    refine cl (vs:= [.agg #[.bool sv,.slice Av nv cv]]) hw1 (g_top_isZero_t hzz rfl) rfl (by kernel_rfl) fun xr406 v404 r406 e405 hw2=>?_
    obtain rfl:=r406
    refine pu (v:= .bool false) rfl (by kernel_rfl) (ne_ (cw_false rfl (cw_skip (eo_block_normal (eo_then (cw_region (mv 1 rfl (wl_ar rfl rfl rfl ((k+1:Nat):Int) (ai_add (a:=k) (b:=1) rfl rfl (by omega)) (by decide) (mv 1 rfl (wl_nil (eo_round (⟨v404,k+1⟩:World×Nat) ⟨hw2,(by omega),(b_g1.ext e405),(Nat.le_trans l_LA14b e405.size),(l_LA14.ext e405),l_LA14_g1,(Nat.le_trans l_LA20b e405.size),(l_LA20.ext e405),l_LA20_g1,(Nat.le_trans l_LA32b e405.size),(l_LA32.ext e405),l_LA32_g1,(Nat.le_trans l_LA38b e405.size),(l_LA38.ext e405),l_LA38_g1,d_l_LA32_l_LA14,d_l_LA32_l_LA20,d_l_LA38_l_LA14,d_l_LA38_l_LA20,(by omega)⟩ (show (n+1)-(k+1)<(n+1)-k by omega) rfl ⟨rfl,rfl,rfl,rfl,rfl,rfl,rfl,rfl,rfl,rfl,rfl,rfl,rfl,rfl,rfl,rfl,rfl,rfl,rfl,rfl,rfl,rfl,rfl,rfl,rfl,rfl,rfl,rfl,rfl,rfl,rfl,rfl,rfl,rfl,rfl,rfl,rfl,rfl,rfl,rfl,rfl,rfl,rfl,rfl,rfl,rfl,rfl,rfl,rfl,rfl,rfl,rfl,rfl,rfl,rfl,trivial⟩)))))))))))
 · 
  refine cw_region (mv 2 rfl (wl_cmp rfl rfl rfl false (cb_le_f (a:=k) (b:=n) rfl rfl (by omega)) (by decide) (ne_ (cw_false rfl (cw_exit (eo_thenX (eo_loopX (eo_block_here (eo_then (sr (mv 1 rfl (ne_ (cw_ret ?_)))))))))))))
  refine eo_ret [.bool true] rfl ⟨rfl,trivial⟩ ?_
  exact⟨_,rfl,rfl,hw1⟩
theorem law_WholeNewton {w:World}{R C:Int}{Aa:Option Addr}{na capa:Nat}{xs:List Int}(hxa:ZF w Aa na capa 1048576 xs) (hna1:na≤1048576):
  Calls Try.prog 3 #[.agg #[.int .i64 R,.int .i64 C,.slice Aa na capa]] w (fun e w'=>e= .returned (.bool true)∧Ext w w'):=by
 have key:Calls Try.prog 3 #[.agg #[.int .i64 R,.int .i64 C,.slice Aa na capa]] w (Gv w (Is (.bool true))):=by
  by_cases hs:Snd R C na
  ·by_cases hRC:R=C
   ·subst hRC
    obtain⟨n,rfl⟩:=Int.eq_ofNat_of_zero_le hs.1.1
    have hn:n≤64:=by have:=hs.1.2;omega
    have hna:na=n*n:=by have:=hs.2.2;exact_mod_cast this
    obtain⟨d,hd⟩:=chp_ex n (fun i j=>xs.getD (i*n+j) 0)
    exact g_top_WholeNewton_ok hxa hna1 hna hn (fun _ _ _ _=>rfl) hd
   ·exact g_top_WholeNewton_unfit hxa hna1 hs hRC
  ·exact g_top_WholeNewton_bad hxa hna1 hs
 refine key.mono fun e w' h=>?_
 obtain⟨v,rfl,h1,h2⟩:=h
 exact⟨by rw [show v=_ from h1],h2⟩
end Go.Proofs.Ytgekkehpljbklaa
