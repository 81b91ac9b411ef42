/- Parts Ow4, Owc, Ow5, Owd, Ow6, New, Ow7, LawO, joined. -/
import Derived.Test.YtnpbbknemflpnaaO4

namespace Go.Proofs.Ytnpbbknemflpnaa
open Go.RowKit
set_option maxHeartbeats 8000000 in
set_option maxRecDepth 20000 in
theorem g_chp_less {w:World}{lb lbr N h vc rc:Nat}{VA RA:Option Addr}{vs rs:List Int}(hlv:Lz none 68719476736 0 w lb VA N vc vs) (hlb:lb≤w.heap.size) (hlr:Lz none 68719476736 0 w lbr RA N rc rs) (hlbr:lbr≤w.heap.size) (hdi:∀p q:Addr,VA=some p→RA=some q→p.block≠q.block) (hN:N≤8192) (hh:h<N) (hvb:∀i,ln (vs.getD i 0)≤4362346691) (hrb:∀i,ln (rs.getD i 0)≤4362346691) (hz:vs.getD h 0≠0→∃c,c<N∧lsu rs vs h c≠0):
    Calls Try.prog 35 #[.agg #[.slice RA N rc,.int .i64 ((h:Nat):Int)],.slice VA N vc] w (fun e w'=>∃ys,e= .returned (.tuple #[])∧Lz none 68719476736 0 w' lb VA N vc ys∧LsP N h rs vs ys∧UpdO VA w w'):=by
 refine sx_enter Try.func35 rfl (n:=69) rfl (bq rfl) (args:= [.agg #[.slice RA N rc,.int .i64 ((h:Nat):Int)],.slice VA N vc]) ?_
 have blk1:=hlv.block
 have blk2:=hlr.block
 refine cw_keep [(0,.agg #[.slice RA N rc,.int .i64 ((h:Nat):Int)]),(1,.slice VA N vc)] ⟨rfl,rfl,trivial⟩ (sr (wl_box rfl rfl (vs:= [.slice RA N rc,.int .i64 ((h:Nat):Int)]) rfl (by decide) fun g3 v4 nb=>?_))
 have hb6:=nb.bk
 have ge7:w.heap.size≤g3:=by rw [←nb.at_];exact (UO.refl VA w).size
 have ne8:∀p:Addr,VA=some p→p.block≠g3:=fun p hp=>by have:=(hlv).block p hp;have:=nb.at_;omega
 have ne9:∀p:Addr,RA=some p→p.block≠g3:=fun p hp=>by have:=(hlr).block p hp;have:=nb.at_;omega
 have e5:=nb.ext
 clear nb
 have hw1:UpdO VA w v4:=UO.ext (UO.refl VA w) e5
 refine ne_ (cw_seq (cw_keep [(0,.agg #[.slice RA N rc,.int .i64 ((h:Nat):Int)]),(1,.slice VA N vc),(2,.pointer (some ⟨g3,0,none⟩))] ⟨rfl,rfl,rfl,trivial⟩ ?_))
 obtain⟨pz10,sz10,Bz10,nz10,cz10,hpz10,ldz10,hKz10,ez10⟩:=((hlr.ext e5)).at (i:=h) (by omega)
 have zz10:=ez10.zr
 have Lz10:ln (rs.getD h 0)≤4362346691:=(hrb _)
 obtain⟨pz11,sz11,Bz11,nz11,cz11,hpz11,ldz11,hKz11,ez11⟩:=((hlv.ext e5)).at (i:=h) (by omega)
 have zz11:=ez11.zr
 have Lz11:ln (vs.getD h 0)≤4362346691:=(hvb _)
 refine cw_twin mix 34 [F0,S0] [.bool sz10,.slice Bz10 nz10 cz10] [.bool sz11,.slice Bz11 nz11 cz11] 11 13 5 12 14 10 [.pointer (some ⟨g3,0,none⟩),.slice RA N rc,.pointer (some ⟨g3,1,none⟩),.int .i64 ((h:Nat):Int),.pointer (some pz10),.agg #[.bool sz10,.slice Bz10 nz10 cz10],.slice VA N vc,.pointer (some ⟨g3,1,none⟩),.int .i64 ((h:Nat):Int),.pointer (some pz11),.agg #[.bool sz11,.slice Bz11 nz11 cz11],undef,undef,undef,undef] [0,1,2,3,4,5,6,7,8,9,10] [[],[0],[],[2],[1,3],[4],[],[],[7],[6,8],[9],[],[],[],[]] [[],[0],[],[2],[0,1,2,3],[0,1,2,3,4],[],[],[7],[6,7,8],[6,7,8,9],[],[],[0,1,2,3,4,5,11,12],[0,1,2,3,4,5,6,7,8,9,10,11,12,13]] [(0,0),(0,1),(0,2),(1,0),(1,1),(1,2),(2,0),(2,1),(2,2),(3,0),(3,1),(3,2),(4,0),(4,1),(4,2),(5,0),(5,1),(5,2),(6,0),(6,1),(6,2),(7,0),(7,1),(7,2),(8,0),(8,1),(8,2),(9,0),(9,1),(9,2),(10,0),(10,1),(10,2),(11,0),(11,1),(11,2),(12,0),(12,1),(12,2),(13,0),(13,1),(13,2),(14,0),(14,1),(14,2)] rfl rfl (makes rfl (z:= .agg #[F0,S0]) (fun _=>by kernel_rfl) rfl) (makes rfl (z:= .agg #[F0,S0]) (fun _=>by kernel_rfl) rfl) (fills rfl rfl rfl rfl (fun _ _=>rfl) (fun _ _=>rfl) aggInt rfl rfl rfl) (fills rfl rfl rfl rfl (fun _ _=>rfl) (fun _ _=>rfl) aggInt rfl rfl rfl) ?_ ?_
 · 
  refine vobs_cons rfl rfl rfl (fun v12 e13=>(rd_pure rfl (by kernel_rfl))) (vobs_cons rfl rfl rfl (fun v14 e15=>(rd_load rfl (load_cell cellInts (hb6.ext e15) rfl))) (vobs_cons rfl rfl rfl (fun v16 e17=>(rd_pure rfl (by kernel_rfl))) (vobs_cons rfl rfl rfl (fun v18 e19=>(rd_load rfl (load_cell cellInt (hb6.ext e19) rfl))) (vobs_cons rfl rfl rfl (fun v20 e21=>(rd_idx rfl rfl elemI aggInt.size h rfl (by omega) pz10 hpz10)) (vobs_cons rfl rfl rfl (fun v22 e23=>(rd_load rfl (ldz10 _ e23 _ _ aggInt))) (vobs_cons rfl rfl rfl (fun v24 e25=>(rd_move rfl)) (vobs_cons rfl rfl rfl (fun v26 e27=>(rd_pure rfl (by kernel_rfl))) (vobs_cons rfl rfl rfl (fun v28 e29=>(rd_load rfl (load_cell cellInt (hb6.ext e29) rfl))) (vobs_cons rfl rfl rfl (fun v30 e31=>(rd_idx rfl rfl elemI aggInt.size h rfl (by omega) pz11 hpz11)) (vobs_cons rfl rfl rfl (fun v32 e33=>(rd_load rfl (ldz11 _ e33 _ _ aggInt))) ?_))))))))))
  exact trivial
 · 
  intro g34 g35 v36 e37 q38 ge39 ge40 hb41 hb42
  have q43:g3<g34:=Nat.lt_of_lt_of_le hb6.lt ge39
  have ne44:∀p:Addr,VA=some p→p.block≠g34:=fun p hp=>by have:=((hlv.ext e5)).block p hp;have:=ge39;omega
  have ne45:∀p:Addr,RA=some p→p.block≠g34:=fun p hp=>by have:=((hlr.ext e5)).block p hp;have:=ge39;omega
  have ge39:w.heap.size≤g34:=Nat.le_trans hw1.size ge39
  have q46:g3<g35:=Nat.lt_of_lt_of_le hb6.lt ge40
  have ne47:∀p:Addr,VA=some p→p.block≠g35:=fun p hp=>by have:=((hlv.ext e5)).block p hp;have:=ge40;omega
  have ne48:∀p:Addr,RA=some p→p.block≠g35:=fun p hp=>by have:=((hlr.ext e5)).block p hp;have:=ge40;omega
  have ge40:w.heap.size≤g35:=Nat.le_trans hw1.size ge40
  have hw2:UpdO VA w v36:=UO.ext hw1 e37
  refine eo_keep [(0,.agg #[.slice RA N rc,.int .i64 ((h:Nat):Int)]),(1,.slice VA N vc),(2,.pointer (some ⟨g3,0,none⟩)),(9,.pointer (some ⟨g3,0,none⟩)),(10,.slice RA N rc),(11,.pointer (some ⟨g3,1,none⟩)),(12,.int .i64 ((h:Nat):Int)),(13,.pointer (some pz10)),(14,.agg #[.bool sz10,.slice Bz10 nz10 cz10]),(15,.slice VA N vc),(16,.pointer (some ⟨g3,1,none⟩)),(17,.int .i64 ((h:Nat):Int)),(18,.pointer (some pz11)),(19,.agg #[.bool sz11,.slice Bz11 nz11 cz11]),(4,.pointer (some ⟨g34,0,none⟩)),(5,.pointer (some ⟨g35,0,none⟩))] ⟨rfl,rfl,rfl,rfl,rfl,rfl,rfl,rfl,rfl,rfl,rfl,rfl,rfl,rfl,rfl,rfl,trivial⟩ (eo_then (cw_seq (cw_seq ?_)))
  by_cases hv0:vs.getD h 0=0
  · 
   refine cw_region (lo aggInt hb42 [.bool sz11,.slice Bz11 nz11 cz11] rfl rfl rfl (wl_call rfl rfl (vs:= [.agg #[.bool sz11,.slice Bz11 nz11 cz11]]) (by kernel_rfl) (by decide) (g_zint_Sign (zz11.ext e37).zi (zz11.le (lx_ Lz11 rfl))) ?_))
   rintro _ v49 ⟨xr51,rfl,r51,e50⟩
   refine ret_intro ?_
   have hw3:UpdO VA w v49:=UO.ext hw2 e50
   obtain rfl:=r51
   refine wl_cmp rfl rfl rfl true (scmp_eq_t hv0) (by decide) (ne_ (cw_true rfl (cw_ret (eo_thenR (eo_ret [] rfl trivial ?_)))))
   exact⟨vs,rfl,(hlv.ext (e5.trans (e37.trans e50))),(Or.inl ⟨hv0,rfl⟩),hw3⟩
  · 
   refine cw_region (lo aggInt hb42 [.bool sz11,.slice Bz11 nz11 cz11] rfl rfl rfl (wl_call rfl rfl (vs:= [.agg #[.bool sz11,.slice Bz11 nz11 cz11]]) (by kernel_rfl) (by decide) (g_zint_Sign (zz11.ext e37).zi (zz11.le (lx_ Lz11 rfl))) ?_))
   rintro _ v52 ⟨xr54,rfl,r54,e53⟩
   refine ret_intro ?_
   have hw3:UpdO VA w v52:=UO.ext hw2 e53
   obtain rfl:=r54
   refine wl_cmp rfl rfl rfl false (scmp_eq_f hv0) (by decide) (ne_ (cw_false rfl (cw_skip (eo_then (cw_seq (sr (mv 1 rfl (pu (v:= .int .i64 ((N:Nat):Int)) rfl (by kernel_rfl) (mv 1 rfl (ne_ (cw_block ?_)))))))))))
   refine cw_loop (T:=World×Nat×List Int) (fun⟨wr,i,us⟩=> [(0,.agg #[.slice RA N rc,.int .i64 ((h:Nat):Int)]),(1,.slice VA N vc),(2,.pointer (some ⟨g3,0,none⟩)),(4,.pointer (some ⟨g34,0,none⟩)),(5,.pointer (some ⟨g35,0,none⟩)),(9,.pointer (some ⟨g3,0,none⟩)),(10,.slice RA N rc),(11,.pointer (some ⟨g3,1,none⟩)),(12,.int .i64 ((h:Nat):Int)),(13,.pointer (some pz10)),(14,.agg #[.bool sz10,.slice Bz10 nz10 cz10]),(15,.slice VA N vc),(16,.pointer (some ⟨g3,1,none⟩)),(17,.int .i64 ((h:Nat):Int)),(18,.pointer (some pz11)),(19,.agg #[.bool sz11,.slice Bz11 nz11 cz11]),(20,.agg #[.bool sz11,.slice Bz11 nz11 cz11]),(21,.int .i64 (scmp (vs.getD h 0) 0)),(22,.bool false),(23,.slice VA N vc),(24,.int .i64 ((N:Nat):Int)),(25,.int .i64 ((i:Nat):Int))]) (fun⟨wr,i,us⟩=>wr) (fun⟨wr,i,us⟩=>(UpdO VA w wr)∧(i≤N)∧(Bk wr g3 63 [.slice RA N rc,.int .i64 ((h:Nat):Int)])∧(Bk wr g34 34 [.bool sz10,.slice Bz10 nz10 cz10])∧(Zr wr 0 sz10 Bz10 nz10 cz10 (rs.getD h 0))∧(Bk wr g35 34 [.bool sz11,.slice Bz11 nz11 cz11])∧(Zr wr 0 sz11 Bz11 nz11 cz11 (vs.getD h 0))∧(lb≤wr.heap.size)∧(Lz none 68719476736 0 wr lb VA N vc us)∧(∀p:Addr,VA=some p→p.block≠g3)∧(∀p:Addr,VA=some p→p.block≠g34)∧(∀p:Addr,VA=some p→p.block≠g35)∧(lbr≤wr.heap.size)∧(Lz none 68719476736 0 wr lbr RA N rc rs)∧(∀p:Addr,RA=some p→p.block≠g3)∧(∀p:Addr,RA=some p→p.block≠g34)∧(∀p:Addr,RA=some p→p.block≠g35)∧(∀p q:Addr,RA=some p→VA=some q→p.block≠q.block)∧(LsA rs vs h i us)) (fun⟨wr,i,us⟩=>N-i)
    (⟨v52,0,vs⟩:World×Nat×List Int) ⟨hw3,(by omega),(hb6.ext (e37.trans e53)),(hb41.ext e53),(zz10.ext (e37.trans e53)),(hb42.ext e53),(zz11.ext (e37.trans e53)),(Nat.le_trans (Nat.le_trans (Nat.le_trans hlb e5.size) e37.size) e53.size),(hlv.ext (e5.trans (e37.trans e53))),ne8,ne44,ne47,(Nat.le_trans (Nat.le_trans (Nat.le_trans hlbr e5.size) e37.size) e53.size),(hlr.ext (e5.trans (e37.trans e53))),ne9,ne45,ne48,(fun p q hp hq e=>hdi q p hq hp e.symm),(LsA.start rs vs h)⟩ rfl ⟨rfl,rfl,rfl,rfl,rfl,rfl,rfl,rfl,rfl,rfl,rfl,rfl,rfl,rfl,rfl,rfl,rfl,rfl,rfl,rfl,rfl,rfl,trivial⟩ ?_
   rintro⟨wr,i,us⟩ ⟨hw1,hi_i,b_g3,b_g34,z_g34,b_g35,z_g35,l_VAb,l_VA,l_VA_g3,l_VA_g34,l_VA_g35,l_RAb,l_RA,l_RA_g3,l_RA_g34,l_RA_g35,d_l_RA_l_VA,hA⟩
   refine cw_re [(0,.agg #[.slice RA N rc,.int .i64 ((h:Nat):Int)]),(1,.slice VA N vc),(2,.pointer (some ⟨g3,0,none⟩)),(4,.pointer (some ⟨g34,0,none⟩)),(5,.pointer (some ⟨g35,0,none⟩)),(9,.pointer (some ⟨g3,0,none⟩)),(10,.slice RA N rc),(11,.pointer (some ⟨g3,1,none⟩)),(12,.int .i64 ((h:Nat):Int)),(13,.pointer (some pz10)),(14,.agg #[.bool sz10,.slice Bz10 nz10 cz10]),(15,.slice VA N vc),(16,.pointer (some ⟨g3,1,none⟩)),(17,.int .i64 ((h:Nat):Int)),(18,.pointer (some pz11)),(19,.agg #[.bool sz11,.slice Bz11 nz11 cz11]),(20,.agg #[.bool sz11,.slice Bz11 nz11 cz11]),(21,.int .i64 (scmp (vs.getD h 0) 0)),(22,.bool false),(23,.slice VA N vc),(24,.int .i64 ((N:Nat):Int)),(25,.int .i64 ((i:Nat):Int))] wr rfl ⟨rfl,rfl,rfl,rfl,rfl,rfl,rfl,rfl,rfl,rfl,rfl,rfl,rfl,rfl,rfl,rfl,rfl,rfl,rfl,rfl,rfl,rfl,trivial⟩ ?_
   have blk55:=l_VA.block
   have blk56:=l_RA.block
   refine cw_seq ?_
   by_cases hiN:i<N
   · 
    refine cw_region (wl_cmp rfl rfl rfl true (cb_lt_t (a:=i) (b:=N) rfl rfl (by omega)) (by decide) (ne_ (cw_seq (cw_true rfl (cw_skip (eo_then (cw_seq (cw_block (sr (mv 2 rfl (ne_ ?_)))))))))))
    obtain⟨pz57,sz57,Bz57,nz57,cz57,hpz57,ldz57,hKz57,ez57⟩:=(l_VA).at (i:=i) (by omega)
    have zz57:=ez57.zr
    have Lz57:ln (us.getD i 0)≤4362346691:=(by rw [hA.2 _ (Nat.le_refl _)];exact hvb _)
    have L58:ln ((rs.getD h 0)*(us.getD i 0))≤8724693382:=Nat.le_trans (ln_mul Lz10 Lz57) (by decide)
    obtain⟨pz60,sz60,Bz60,nz60,cz60,hpz60,ldz60,hKz60,ez60⟩:=(l_RA).at (i:=i) (by omega)
    have zz60:=ez60.zr
    have Lz60:ln (rs.getD i 0)≤4362346691:=(hrb _)
    have L61:ln ((vs.getD h 0)*(rs.getD i 0))≤8724693382:=Nat.le_trans (ln_mul Lz11 Lz60) (by decide)
    have L63:ln (((rs.getD h 0)*(us.getD i 0))-((vs.getD h 0)*(rs.getD i 0)))≤8724693383:=Nat.le_trans (ln_sub L58 L61) (by decide)
    refine cw_draw mix 17 [] [Is (.slice VA N vc),Is (.int .i64 ((i:Nat):Int)),Is (.agg #[.bool sz10,.slice Bz10 nz10 cz10]),Is (.slice VA N vc),Is (.int .i64 ((i:Nat):Int)),Is (.pointer (some pz57)),Is (.agg #[.bool sz57,.slice Bz57 nz57 cz57]),ZR w.heap.size ((rs.getD h 0)*(us.getD i 0)),Is (.agg #[.bool sz11,.slice Bz11 nz11 cz11]),Is (.pointer (some ⟨g3,0,none⟩)),Is (.slice RA N rc),Is (.int .i64 ((i:Nat):Int)),Is (.pointer (some pz60)),Is (.agg #[.bool sz60,.slice Bz60 nz60 cz60]),ZR w.heap.size ((vs.getD h 0)*(rs.getD i 0)),ZR w.heap.size (((rs.getD h 0)*(us.getD i 0))-((vs.getD h 0)*(rs.getD i 0))),Is (.pointer (some pz57))] [[],[],[],[],[],[3,4],[5],[2,6],[],[],[9],[],[10,11],[12],[8,13],[7,14],[0,1]] [[],[],[],[],[],[3,4],[3,4,5],[2,3,4,5,6],[],[],[9],[],[9,10,11],[9,10,11,12],[2,3,4,5,6,7,8,9,10,11,12,13],[2,3,4,5,6,7,8,9,10,11,12,13,14],[0,1,2,3,4,5,6,7,8,9,10,11,12,13,14,15],[0,1,2,3,4,5,6,7,8,9,10,11,12,13,14,15,16]] rfl
     (obs_cons rfl rfl (hob rfl rfl ?_) (obs_cons rfl rfl (hob rfl rfl ?_) (obs_cons rfl rfl (hob rfl rfl ?_) (obs_cons rfl rfl (hob rfl rfl ?_) (obs_cons rfl rfl (hob rfl rfl ?_) (obs_cons rfl rfl (hob rfl rfl ?_) (obs_cons rfl rfl (hob rfl rfl ?_) (obs_cons rfl rfl (hob rfl rfl ?_) (obs_cons rfl rfl (hob rfl rfl ?_) (obs_cons rfl rfl (hob rfl rfl ?_) (obs_cons rfl rfl (hob rfl rfl ?_) (obs_cons rfl rfl (hob rfl rfl ?_) (obs_cons rfl rfl (hob rfl rfl ?_) (obs_cons rfl rfl (hob rfl rfl ?_) (obs_cons rfl rfl (hob rfl rfl ?_) (obs_cons rfl rfl (hob rfl rfl ?_) (obs_cons rfl rfl (hob rfl rfl ?_) obs_nil))))))))))))))))) ?_
    · 
     intro v65 e66
     have hw2:UpdO VA w v65:=UO.ext hw1 e66
     refine deps_nil (mv 1 rfl ?_)
     exact pi_done rfl (Ext.refl _) rfl
    · 
     intro v67 e68
     have hw2:UpdO VA w v67:=UO.ext hw1 e68
     refine deps_nil (mv 1 rfl ?_)
     exact pi_done rfl (Ext.refl _) rfl
    · 
     intro v69 e70
     have hw2:UpdO VA w v69:=UO.ext hw1 e70
     refine deps_nil (lo aggInt (b_g34.ext e70) [.bool sz10,.slice Bz10 nz10 cz10] rfl rfl rfl ?_)
     exact pi_done rfl (Ext.refl _) rfl
    · 
     intro v71 e72
     have hw2:UpdO VA w v71:=UO.ext hw1 e72
     refine deps_nil (mv 1 rfl ?_)
     exact pi_done rfl (Ext.refl _) rfl
    · 
     intro v73 e74
     have hw2:UpdO VA w v73:=UO.ext hw1 e74
     refine deps_nil (mv 1 rfl ?_)
     exact pi_done rfl (Ext.refl _) rfl
    · 
     intro v75 e76
     have hw2:UpdO VA w v75:=UO.ext hw1 e76
     refine dk rfl rfl (dk rfl rfl (deps_nil (wl_idx rfl rfl rfl elemI aggInt.size i rfl (by omega) pz57 hpz57 (by decide) ?_)))
     exact pi_done rfl (Ext.refl _) rfl
    · 
     intro v87 e88
     have hw2:UpdO VA w v87:=UO.ext hw1 e88
     refine dk rfl rfl (deps_nil (wl_load rfl rfl (ldz57 _ e88 _ _ aggInt) (by decide) ?_))
     exact pi_done rfl (Ext.refl _) rfl
    · 
     intro v94 e95
     have hw2:UpdO VA w v94:=UO.ext hw1 e95
     refine dk rfl rfl (dk rfl rfl (deps_nil ?_))
     have L106:ln ((rs.getD h 0)*(us.getD i 0))≤8724693382:=Nat.le_trans (ln_mul Lz10 Lz57) (by decide)
     refine wl_call rfl rfl (vs:= [.agg #[.bool sz10,.slice Bz10 nz10 cz10],.agg #[.bool sz57,.slice Bz57 nz57 cz57]]) (by kernel_rfl) (by decide) (g_zint_Mul hw2.size (z_g34.ext e95).zi (z_g34.le (lx_ Lz10 rfl)) (zz57.ext e95).zi (zz57.le (lx_ Lz57 rfl))) ?_
     rintro _ v107 ⟨xr109,rfl,r109,e108⟩
     refine ret_intro ?_
     have hw3:UpdO VA w v107:=UO.ext hw2 e108
     obtain⟨s110,A110,n110,c110,rfl,z110⟩:=r109
     exact pi_done rfl e108 ⟨_,_,_,_,rfl,z110⟩
    · 
     intro v111 e112
     have hw2:UpdO VA w v111:=UO.ext hw1 e112
     refine deps_nil (lo aggInt (b_g35.ext e112) [.bool sz11,.slice Bz11 nz11 cz11] rfl rfl rfl ?_)
     exact pi_done rfl (Ext.refl _) rfl
    · 
     intro v113 e114
     have hw2:UpdO VA w v113:=UO.ext hw1 e114
     refine deps_nil (pf g3 0 rfl (by kernel_rfl) ?_)
     exact pi_done rfl (Ext.refl _) rfl
    · 
     intro v115 e116
     have hw2:UpdO VA w v115:=UO.ext hw1 e116
     refine dk rfl rfl (deps_nil (wl_load rfl rfl (load_cell cellInts (b_g3.ext e116) rfl) (by decide) ?_))
     exact pi_done rfl (Ext.refl _) rfl
    · 
     intro v122 e123
     have hw2:UpdO VA w v122:=UO.ext hw1 e123
     refine deps_nil (mv 1 rfl ?_)
     exact pi_done rfl (Ext.refl _) rfl
    · 
     intro v124 e125
     have hw2:UpdO VA w v124:=UO.ext hw1 e125
     refine dk rfl rfl (dk rfl rfl (deps_nil (wl_idx rfl rfl rfl elemI aggInt.size i rfl (by omega) pz60 hpz60 (by decide) ?_)))
     exact pi_done rfl (Ext.refl _) rfl
    · 
     intro v136 e137
     have hw2:UpdO VA w v136:=UO.ext hw1 e137
     refine dk rfl rfl (deps_nil (wl_load rfl rfl (ldz60 _ e137 _ _ aggInt) (by decide) ?_))
     exact pi_done rfl (Ext.refl _) rfl
    · 
     intro v143 e144
     have hw2:UpdO VA w v143:=UO.ext hw1 e144
     refine dk rfl rfl (dk rfl rfl (deps_nil ?_))
     have L155:ln ((vs.getD h 0)*(rs.getD i 0))≤8724693382:=Nat.le_trans (ln_mul Lz11 Lz60) (by decide)
     refine wl_call rfl rfl (vs:= [.agg #[.bool sz11,.slice Bz11 nz11 cz11],.agg #[.bool sz60,.slice Bz60 nz60 cz60]]) (by kernel_rfl) (by decide) (g_zint_Mul hw2.size (z_g35.ext e144).zi (z_g35.le (lx_ Lz11 rfl)) (zz60.ext e144).zi (zz60.le (lx_ Lz60 rfl))) ?_
     rintro _ v156 ⟨xr158,rfl,r158,e157⟩
     refine ret_intro ?_
     have hw3:UpdO VA w v156:=UO.ext hw2 e157
     obtain⟨s159,A159,n159,c159,rfl,z159⟩:=r158
     exact pi_done rfl e157 ⟨_,_,_,_,rfl,z159⟩
    · 
     intro v160 e161
     have hw2:UpdO VA w v160:=UO.ext hw1 e161
     refine deps_cons rfl rfl fun x162 y163 h164 e165 f166=>?_
     obtain⟨s167,A167,n167,c167,rfl,z167⟩:=h164
     have z167:=z167.ext f166
     refine deps_cons rfl rfl fun x168 y169 h170 e171 f172=>?_
     obtain⟨s173,A173,n173,c173,rfl,z173⟩:=h170
     have z173:=z173.ext f172
     refine deps_nil ?_
     have L174:ln (((rs.getD h 0)*(us.getD i 0))-((vs.getD h 0)*(rs.getD i 0)))≤8724693383:=Nat.le_trans (ln_sub L58 L61) (by decide)
     refine wl_call rfl rfl (vs:= [.agg #[.bool s167,.slice A167 n167 c167],.agg #[.bool s173,.slice A173 n173 c173]]) (by kernel_rfl) (by decide) (g_zint_Sub hw2.size z167.zi (z167.le (lx_ L58 rfl)) z173.zi (z173.le (lx_ L61 rfl))) ?_
     rintro _ v175 ⟨xr177,rfl,r177,e176⟩
     refine ret_intro ?_
     have hw3:UpdO VA w v175:=UO.ext hw2 e176
     obtain⟨s178,A178,n178,c178,rfl,z178⟩:=r177
     exact pi_done rfl e176 ⟨_,_,_,_,rfl,z178⟩
    · 
     intro v179 e180
     have hw2:UpdO VA w v179:=UO.ext hw1 e180
     refine dk rfl rfl (dk rfl rfl (deps_nil (wl_idx rfl rfl rfl elemI aggInt.size i rfl (by omega) pz57 hpz57 (by decide) ?_)))
     exact pi_done rfl (Ext.refl _) rfl
    · 
     intro v191 e192
     have hw2:UpdO VA w v191:=UO.ext hw1 e192
     refine dk rfl rfl (dk rfl rfl (dk rfl rfl (dk rfl rfl (dk rfl rfl (dk rfl rfl (dk rfl rfl (deps_cons rfl rfl fun x228 y229 h230 e231 f232=>?_)))))))
     obtain⟨s233,A233,n233,c233,rfl,z233⟩:=h230
     have z233:=z233.ext f232
     refine dk rfl rfl (dk rfl rfl (dk rfl rfl (dk rfl rfl (dk rfl rfl (dk rfl rfl (deps_cons rfl rfl fun x264 y265 h266 e267 f268=>?_))))))
     obtain⟨s269,A269,n269,c269,rfl,z269⟩:=h266
     have z269:=z269.ext f268
     refine deps_cons rfl rfl fun x270 y271 h272 e273 f274=>?_
     obtain⟨s275,A275,n275,c275,rfl,z275⟩:=h272
     have z275:=z275.ext f274
     refine dk rfl rfl (deps_nil ?_)
     have lt286:=(l_VA.ext e192)
     obtain⟨us284,own285⟩:=lt286.own
     refine wl_setI (e:=⟨s275,A275,n275,c275⟩) (z:=((rs.getD h 0)*(us.getD i 0))-((vs.getD h 0)*(rs.getD i 0))) rfl rfl rfl hpz57 (by omega) lt286 (Or.inl (z275.mono (Nat.zero_le _))) (z275.le (lx_ L63 rfl)) fun v281 lz282 uo283=>?_
     have hw3:UpdO VA w v281:=UO.trans hw2 uo283
     have hlblz282:lb≤v281.heap.size:=Nat.le_trans (Nat.le_trans l_VAb e192.size) uo283.size
     refine wl_nil (eo_np (eo_block_normal (eo_then (cw_region (wl_ar rfl rfl rfl ((i+1:Nat):Int) (ai_add (a:=i) (b:=1) rfl rfl (by omega)) (by decide) (mv 1 rfl (wl_nil (eo_round (⟨v281,i+1,us.set i (((rs.getD h 0)*(us.getD i 0))-((vs.getD h 0)*(rs.getD i 0)))⟩:World×Nat×List Int) ⟨hw3,(by omega),((b_g3.ext e192).updO uo283 l_VA_g3),((b_g34.ext e192).updO uo283 l_VA_g34),((z_g34.ext e192).updOT own285 uo283),((b_g35.ext e192).updO uo283 l_VA_g35),((z_g35.ext e192).updOT own285 uo283),hlblz282,lz282,l_VA_g3,l_VA_g34,l_VA_g35,(Nat.le_trans (Nat.le_trans l_RAb e192.size) uo283.size),((l_RA.ext e192).updO own285 uo283 (fun p q hp hq e=>d_l_RA_l_VA q p hq hp e.symm)),l_RA_g3,l_RA_g34,l_RA_g35,d_l_RA_l_VA,(hA.next (by rw [l_VA.len];exact hiN))⟩ (show N-(i+1)<N-i by omega) rfl ⟨rfl,rfl,rfl,rfl,rfl,rfl,rfl,rfl,rfl,rfl,rfl,rfl,rfl,rfl,rfl,rfl,rfl,rfl,rfl,rfl,rfl,rfl,trivial⟩))))))))
   · 
    refine cw_region (wl_cmp rfl rfl rfl false (cb_lt_f (a:=i) (b:=N) rfl rfl (by omega)) (by decide) (ne_ (cw_seq (cw_false rfl (cw_exit (eo_thenX (eo_loopX (eo_block_here (eo_then (cw_seq ?_))))))))))
    have hA9:LsA rs vs h N us:=(show i=N by omega)▸hA
    have hul:us.length=N:=l_VA.len
    have hg0:gcdL us≠0:=lsg_ne hA9 hul (hz hv0)
    have hub:∀c,ln (us.getD c 0)≤8724693383:=hA9.ln hrb hvb
    have lt287:=Lz.tight (K':=17179869184) (l_VA) (fun c=>Nat.le_trans (hub c) (by decide))
    obtain⟨msu,hlu,hmu⟩:=lt287.zf0
    refine cw_region (mv 1 rfl (wl_call rfl rfl (vs:= [.slice VA N vc]) (by kernel_rfl) (by decide) (g_bezout_GcdAll hw1.size hlu (by omega) hmu) ?_))
    rintro _ v288 ⟨xr290,rfl,r290,e289⟩
    refine ret_intro ?_
    have hw2:UpdO VA w v288:=UO.ext hw1 e289
    obtain⟨s291,A291,n291,c291,rfl,z291⟩:=r290
    refine wl_alloc rfl (z:= .agg #[F0,S0]) (vs:= [F0,S0]) (fun _=>by kernel_rfl) rfl (by decide) fun g292 v293 nb=>?_
    have hb295:=nb.bk
    have ge296:w.heap.size≤g292:=by rw [←nb.at_];exact hw2.size
    have q297:g34<g292:=by rw [←nb.at_];exact (b_g34.ext e289).lt
    have q298:g35<g292:=by rw [←nb.at_];exact (b_g35.ext e289).lt
    have ne299:∀p:Addr,VA=some p→p.block≠g292:=fun p hp=>by have:=((l_VA.ext e289)).block p hp;have:=nb.at_;omega
    have ne300:∀p:Addr,RA=some p→p.block≠g292:=fun p hp=>by have:=((l_RA.ext e289)).block p hp;have:=nb.at_;omega
    have e294:=nb.ext
    clear nb
    have hw3:UpdO VA w v293:=UO.ext hw2 e294
    refine wl_stored rfl rfl rfl aggInt rfl hb295 (bq rfl) rfl [.bool s291,.slice A291 n291 c291] rfl fun v301 hb303 u304 hs305=>?_
    have hw4:UpdO VA w v301:=UO.upd hw3 u304 ge296
    refine ne_ (cw_seq (sr (lo aggInt hb303 [.bool s291,.slice A291 n291 c291] rfl rfl rfl (wl_call rfl rfl (vs:= [.agg #[.bool s291,.slice A291 n291 c291]]) (by kernel_rfl) (by decide) (g_zint_Sign ((z291.ext e294).updT hb295 u304).zi (z291.le (Nat.le_trans (by have h9:=ln_gcdL hub us.length;rw [List.take_length] at h9;exact h9) (by decide)))) ?_))))
    rintro _ v306 ⟨xr308,rfl,r308,e307⟩
    refine ret_intro ?_
    have hw5:UpdO VA w v306:=UO.ext hw4 e307
    obtain rfl:=r308
    refine wl_cmp rfl rfl rfl false (scmp_eq_f hg0) (by decide) (ne_ (cw_false rfl (cw_skip (eo_then (sr (mv 1 rfl (pu (v:= .int .i64 ((N:Nat):Int)) rfl (by kernel_rfl) (mv 1 rfl (ne_ (cw_block ?_))))))))))
    refine cw_loop (T:=World×Nat×List Int) (fun⟨wj,j,ys⟩=> [(0,.agg #[.slice RA N rc,.int .i64 ((h:Nat):Int)]),(1,.slice VA N vc),(2,.pointer (some ⟨g3,0,none⟩)),(4,.pointer (some ⟨g34,0,none⟩)),(5,.pointer (some ⟨g35,0,none⟩)),(7,.pointer (some ⟨g292,0,none⟩)),(9,.pointer (some ⟨g3,0,none⟩)),(10,.slice RA N rc),(11,.pointer (some ⟨g3,1,none⟩)),(12,.int .i64 ((h:Nat):Int)),(13,.pointer (some pz10)),(14,.agg #[.bool sz10,.slice Bz10 nz10 cz10]),(15,.slice VA N vc),(16,.pointer (some ⟨g3,1,none⟩)),(17,.int .i64 ((h:Nat):Int)),(18,.pointer (some pz11)),(19,.agg #[.bool sz11,.slice Bz11 nz11 cz11]),(20,.agg #[.bool sz11,.slice Bz11 nz11 cz11]),(21,.int .i64 (scmp (vs.getD h 0) 0)),(22,.bool false),(23,.slice VA N vc),(24,.int .i64 ((N:Nat):Int)),(25,.int .i64 ((i:Nat):Int)),(26,.bool false),(46,.slice VA N vc),(47,.agg #[.bool s291,.slice A291 n291 c291]),(48,.agg #[.bool s291,.slice A291 n291 c291]),(49,.int .i64 (scmp (gcdL us) 0)),(50,.bool false),(51,.slice VA N vc),(52,.int .i64 ((N:Nat):Int)),(53,.int .i64 ((j:Nat):Int))]) (fun⟨wj,j,ys⟩=>wj) (fun⟨wj,j,ys⟩=>(UpdO VA w wj)∧(j≤N)∧(Bk wj g3 63 [.slice RA N rc,.int .i64 ((h:Nat):Int)])∧(Bk wj g34 34 [.bool sz10,.slice Bz10 nz10 cz10])∧(Zr wj 0 sz10 Bz10 nz10 cz10 (rs.getD h 0))∧(Bk wj g35 34 [.bool sz11,.slice Bz11 nz11 cz11])∧(Zr wj 0 sz11 Bz11 nz11 cz11 (vs.getD h 0))∧(Bk wj g292 34 [.bool s291,.slice A291 n291 c291])∧(Zr wj w.heap.size s291 A291 n291 c291 (gcdL us))∧(lb≤wj.heap.size)∧(Lz none 68719476736 0 wj lb VA N vc ys)∧(∀p:Addr,VA=some p→p.block≠g3)∧(∀p:Addr,VA=some p→p.block≠g34)∧(∀p:Addr,VA=some p→p.block≠g35)∧(∀p:Addr,VA=some p→p.block≠g292)∧(lbr≤wj.heap.size)∧(Lz none 68719476736 0 wj lbr RA N rc rs)∧(∀p:Addr,RA=some p→p.block≠g3)∧(∀p:Addr,RA=some p→p.block≠g34)∧(∀p:Addr,RA=some p→p.block≠g35)∧(∀p:Addr,RA=some p→p.block≠g292)∧(∀p q:Addr,RA=some p→VA=some q→p.block≠q.block)∧(LsB us (gcdL us) j ys)) (fun⟨wj,j,ys⟩=>N-j)
     (⟨v306,0,us⟩:World×Nat×List Int) ⟨hw5,(by omega),(((b_g3.ext (e289.trans e294)).updN u304 (by omega)).ext e307),(((b_g34.ext (e289.trans e294)).updN u304 (by omega)).ext e307),(((z_g34.ext (e289.trans e294)).updT hb295 u304).ext e307),(((b_g35.ext (e289.trans e294)).updN u304 (by omega)).ext e307),(((z_g35.ext (e289.trans e294)).updT hb295 u304).ext e307),(hb303.ext e307),(((z291.ext e294).updT hb295 u304).ext e307),(Nat.le_trans (Nat.le_trans (Nat.le_trans (Nat.le_trans l_VAb e289.size) e294.size) u304.by_.size) e307.size),(((l_VA.ext (e289.trans e294)).updT hb295 u304 ne299).ext e307),l_VA_g3,l_VA_g34,l_VA_g35,ne299,(Nat.le_trans (Nat.le_trans (Nat.le_trans (Nat.le_trans l_RAb e289.size) e294.size) u304.by_.size) e307.size),(((l_RA.ext (e289.trans e294)).updT hb295 u304 ne300).ext e307),l_RA_g3,l_RA_g34,l_RA_g35,ne300,d_l_RA_l_VA,(LsB.start us _)⟩ rfl ⟨rfl,rfl,rfl,rfl,rfl,rfl,rfl,rfl,rfl,rfl,rfl,rfl,rfl,rfl,rfl,rfl,rfl,rfl,rfl,rfl,rfl,rfl,rfl,rfl,rfl,rfl,rfl,rfl,rfl,rfl,rfl,rfl,trivial⟩ ?_
    rintro⟨wj,j,ys⟩ ⟨hw1,hi_j,b_g3,b_g34,z_g34,b_g35,z_g35,b_g292,z_g292,l_VAb,l_VA,l_VA_g3,l_VA_g34,l_VA_g35,l_VA_g292,l_RAb,l_RA,l_RA_g3,l_RA_g34,l_RA_g35,l_RA_g292,d_l_RA_l_VA,hC⟩
    refine cw_re [(0,.agg #[.slice RA N rc,.int .i64 ((h:Nat):Int)]),(1,.slice VA N vc),(2,.pointer (some ⟨g3,0,none⟩)),(4,.pointer (some ⟨g34,0,none⟩)),(5,.pointer (some ⟨g35,0,none⟩)),(7,.pointer (some ⟨g292,0,none⟩)),(9,.pointer (some ⟨g3,0,none⟩)),(10,.slice RA N rc),(11,.pointer (some ⟨g3,1,none⟩)),(12,.int .i64 ((h:Nat):Int)),(13,.pointer (some pz10)),(14,.agg #[.bool sz10,.slice Bz10 nz10 cz10]),(15,.slice VA N vc),(16,.pointer (some ⟨g3,1,none⟩)),(17,.int .i64 ((h:Nat):Int)),(18,.pointer (some pz11)),(19,.agg #[.bool sz11,.slice Bz11 nz11 cz11]),(20,.agg #[.bool sz11,.slice Bz11 nz11 cz11]),(21,.int .i64 (scmp (vs.getD h 0) 0)),(22,.bool false),(23,.slice VA N vc),(24,.int .i64 ((N:Nat):Int)),(25,.int .i64 ((i:Nat):Int)),(26,.bool false),(46,.slice VA N vc),(47,.agg #[.bool s291,.slice A291 n291 c291]),(48,.agg #[.bool s291,.slice A291 n291 c291]),(49,.int .i64 (scmp (gcdL us) 0)),(50,.bool false),(51,.slice VA N vc),(52,.int .i64 ((N:Nat):Int)),(53,.int .i64 ((j:Nat):Int))] wj rfl ⟨rfl,rfl,rfl,rfl,rfl,rfl,rfl,rfl,rfl,rfl,rfl,rfl,rfl,rfl,rfl,rfl,rfl,rfl,rfl,rfl,rfl,rfl,rfl,rfl,rfl,rfl,rfl,rfl,rfl,rfl,rfl,rfl,trivial⟩ ?_
    have blk309:=l_VA.block
    have blk310:=l_RA.block
    refine cw_seq ?_
    by_cases hjN:j<N
    · 
     refine cw_region (wl_cmp rfl rfl rfl true (cb_lt_t (a:=j) (b:=N) rfl rfl (by omega)) (by decide) (ne_ (cw_seq (cw_true rfl (cw_skip (eo_then (cw_seq (cw_block (sr (mv 2 rfl (ne_ ?_)))))))))))
     have hyj:List.getD ys j 0=List.getD us j 0:=hC.2 j (Nat.le_refl _)
     obtain⟨pz311,sz311,Bz311,nz311,cz311,hpz311,ldz311,hKz311,ez311⟩:=(l_VA).at (i:=j) (by omega)
     have zz311:=ez311.zr
     have Lz311:ln (ys.getD j 0)≤8724693383:=(by rw [hC.2 _ (Nat.le_refl _)];exact hub _)
     have L312:ln ((ys.getD j 0).tdiv (gcdL us))≤8724693383:=Nat.le_trans (ln_tdiv _ _) Lz311
     refine cw_draw mix 12 [9,10] [Is (.slice VA N vc),Is (.int .i64 ((j:Nat):Int)),Is (.slice VA N vc),Is (.int .i64 ((j:Nat):Int)),Is (.pointer (some pz311)),Is (.agg #[.bool sz311,.slice Bz311 nz311 cz311]),Is (.agg #[.bool s291,.slice A291 n291 c291]),T2 (ZR w.heap.size ((ys.getD j 0).tdiv (gcdL us))) (Is (.int .i64 0)),T2 (ZR w.heap.size ((ys.getD j 0).tdiv (gcdL us))) (Is (.int .i64 0)),ZR w.heap.size ((ys.getD j 0).tdiv (gcdL us)),Is (.int .i64 0),Is (.pointer (some pz311))] [[],[],[],[],[2,3],[4],[],[5,6],[7],[8],[8],[0,1]] [[],[],[],[],[2,3],[2,3,4],[],[2,3,4,5,6],[2,3,4,5,6,7],[2,3,4,5,6,7,8],[2,3,4,5,6,7,8],[0,1,2,3,4,5,6,7,8,9],[0,1,2,3,4,5,6,7,8,9,11]] rfl
      (obs_cons rfl rfl (hob rfl rfl ?_) (obs_cons rfl rfl (hob rfl rfl ?_) (obs_cons rfl rfl (hob rfl rfl ?_) (obs_cons rfl rfl (hob rfl rfl ?_) (obs_cons rfl rfl (hob rfl rfl ?_) (obs_cons rfl rfl (hob rfl rfl ?_) (obs_cons rfl rfl (hob rfl rfl ?_) (obs_cons rfl rfl (hob rfl rfl ?_) (obs_cons rfl rfl (hob rfl rfl ?_) (obs_float rfl rfl (fob rfl ?_) (obs_float rfl rfl (fob rfl ?_) (obs_cons rfl rfl (hob rfl rfl ?_) obs_nil)))))))))))) ?_
     · 
      intro v318 e319
      have hw2:UpdO VA w v318:=UO.ext hw1 e319
      refine deps_nil (mv 1 rfl ?_)
      exact pi_done rfl (Ext.refl _) rfl
     · 
      intro v320 e321
      have hw2:UpdO VA w v320:=UO.ext hw1 e321
      refine deps_nil (mv 1 rfl ?_)
      exact pi_done rfl (Ext.refl _) rfl
     · 
      intro v322 e323
      have hw2:UpdO VA w v322:=UO.ext hw1 e323
      refine deps_nil (mv 1 rfl ?_)
      exact pi_done rfl (Ext.refl _) rfl
     · 
      intro v324 e325
      have hw2:UpdO VA w v324:=UO.ext hw1 e325
      refine deps_nil (mv 1 rfl ?_)
      exact pi_done rfl (Ext.refl _) rfl
     · 
      intro v326 e327
      have hw2:UpdO VA w v326:=UO.ext hw1 e327
      refine dk rfl rfl (dk rfl rfl (deps_nil (wl_idx rfl rfl rfl elemI aggInt.size j rfl (by omega) pz311 hpz311 (by decide) ?_)))
      exact pi_done rfl (Ext.refl _) rfl
     · 
      intro v338 e339
      have hw2:UpdO VA w v338:=UO.ext hw1 e339
      refine dk rfl rfl (deps_nil (wl_load rfl rfl (ldz311 _ e339 _ _ aggInt) (by decide) ?_))
      exact pi_done rfl (Ext.refl _) rfl
     · 
      intro v345 e346
      have hw2:UpdO VA w v345:=UO.ext hw1 e346
      refine deps_nil (lo aggInt (b_g292.ext e346) [.bool s291,.slice A291 n291 c291] rfl rfl rfl ?_)
      exact pi_done rfl (Ext.refl _) rfl
     · 
      intro v347 e348
      have hw2:UpdO VA w v347:=UO.ext hw1 e348
      refine dk rfl rfl (dk rfl rfl (deps_nil ?_))
      have L359:ln ((ys.getD j 0).tdiv (gcdL us))≤8724693383:=Nat.le_trans (ln_tdiv _ _) Lz311
      refine wl_call rfl rfl (vs:= [.agg #[.bool sz311,.slice Bz311 nz311 cz311],.agg #[.bool s291,.slice A291 n291 c291]]) (by kernel_rfl) (by decide) (g_zint_Exact hw2.size (zz311.ext e348).zi (zz311.le (lx_ Lz311 rfl)) (z_g292.ext e348).zi (z_g292.le (Nat.le_trans (by have h9:=ln_gcdL hub us.length;rw [List.take_length] at h9;exact h9) (by decide))) hg0 (by rw [hyj];exact gcdW_get (by omega))) ?_
      rintro _ v360 ⟨xr362,rfl,r362,e361⟩
      refine ret_intro ?_
      have hw3:UpdO VA w v360:=UO.ext hw2 e361
      obtain⟨_,_,rfl,⟨s364,A364,n364,c364,rfl,z364⟩,rfl⟩:=r362
      exact pi_done rfl e361 ⟨_,_,rfl,⟨_,_,_,_,rfl,z364⟩,rfl⟩
     · 
      intro v365 e366
      have hw2:UpdO VA w v365:=UO.ext hw1 e366
      refine deps_cons rfl rfl fun x367 y368 h369 e370 f371=>?_
      obtain⟨_,_,rfl,⟨s373,A373,n373,c373,rfl,z373⟩,rfl⟩:=h369
      have z373:=z373.ext f371
      refine deps_nil (mv 1 rfl ?_)
      exact pi_done rfl (Ext.refl _) ⟨_,_,rfl,⟨_,_,_,_,rfl,z373⟩,rfl⟩
     · 
      intro v374 e375
      have hw2:UpdO VA w v374:=UO.ext hw1 e375
      refine deps_cons rfl rfl fun x376 y377 h378 e379 f380=>?_
      obtain⟨_,_,rfl,⟨s382,A382,n382,c382,rfl,z382⟩,rfl⟩:=h378
      have z382:=z382.ext f380
      refine deps_nil ?_
      exact⟨.agg #[.bool s382,.slice A382 n382 c382],rfl,rfl,fun _=>by kernel_rfl,⟨_,_,_,_,rfl,z382⟩⟩
     · 
      intro v383 e384
      have hw2:UpdO VA w v383:=UO.ext hw1 e384
      refine deps_cons rfl rfl fun x385 y386 h387 e388 f389=>?_
      obtain⟨_,_,rfl,⟨s391,A391,n391,c391,rfl,z391⟩,rfl⟩:=h387
      have z391:=z391.ext f389
      refine deps_nil ?_
      exact⟨.int .i64 0,rfl,rfl,fun _=>by kernel_rfl,rfl⟩
     · 
      intro v392 e393
      have hw2:UpdO VA w v392:=UO.ext hw1 e393
      refine dk rfl rfl (dk rfl rfl (deps_nil (wl_idx rfl rfl rfl elemI aggInt.size j rfl (by omega) pz311 hpz311 (by decide) ?_)))
      exact pi_done rfl (Ext.refl _) rfl
     · 
      intro v404 e405
      have hw2:UpdO VA w v404:=UO.ext hw1 e405
      refine dk rfl rfl (dk rfl rfl (dk rfl rfl (dk rfl rfl (dk rfl rfl (dk rfl rfl (dk rfl rfl (deps_cons rfl rfl fun x441 y442 h443 e444 f445=>?_)))))))
      obtain⟨_,_,rfl,⟨s447,A447,n447,c447,rfl,z447⟩,rfl⟩:=h443
      have z447:=z447.ext f445
      refine deps_cons rfl rfl fun x448 y449 h450 e451 f452=>?_
      obtain⟨_,_,rfl,⟨s454,A454,n454,c454,rfl,z454⟩,rfl⟩:=h450
      have z454:=z454.ext f452
      refine deps_cons rfl rfl fun x455 y456 h457 e458 f459=>?_
      obtain⟨s460,A460,n460,c460,rfl,z460⟩:=h457
      have z460:=z460.ext f459
      refine dk rfl rfl (dk rfl rfl (deps_nil ?_))
      have lt476:=(l_VA.ext e405)
      obtain⟨us474,own475⟩:=lt476.own
      refine wl_setI (e:=⟨s460,A460,n460,c460⟩) (z:=(ys.getD j 0).tdiv (gcdL us)) rfl rfl rfl hpz311 (by omega) lt476 (Or.inl (z460.mono (Nat.zero_le _))) (z460.le (lx_ L312 rfl)) fun v471 lz472 uo473=>?_
      have hw3:UpdO VA w v471:=UO.trans hw2 uo473
      have hlblz472:lb≤v471.heap.size:=Nat.le_trans (Nat.le_trans l_VAb e405.size) uo473.size
      refine wl_nil (eo_np (eo_block_normal (eo_then (cw_region (wl_ar rfl rfl rfl ((j+1:Nat):Int) (ai_add (a:=j) (b:=1) rfl rfl (by omega)) (by decide) (mv 1 rfl (wl_nil (eo_round (⟨v471,j+1,ys.set j ((ys.getD j 0).tdiv (gcdL us))⟩:World×Nat×List Int) ⟨hw3,(by omega),((b_g3.ext e405).updO uo473 l_VA_g3),((b_g34.ext e405).updO uo473 l_VA_g34),((z_g34.ext e405).updOT own475 uo473),((b_g35.ext e405).updO uo473 l_VA_g35),((z_g35.ext e405).updOT own475 uo473),((b_g292.ext e405).updO uo473 l_VA_g292),((z_g292.ext e405).updOT own475 uo473),hlblz472,lz472,l_VA_g3,l_VA_g34,l_VA_g35,l_VA_g292,(Nat.le_trans (Nat.le_trans l_RAb e405.size) uo473.size),((l_RA.ext e405).updO own475 uo473 (fun p q hp hq e=>d_l_RA_l_VA q p hq hp e.symm)),l_RA_g3,l_RA_g34,l_RA_g35,l_RA_g292,d_l_RA_l_VA,(hC.next (by rw [l_VA.len];exact hjN))⟩ (show N-(j+1)<N-j by omega) rfl ⟨rfl,rfl,rfl,rfl,rfl,rfl,rfl,rfl,rfl,rfl,rfl,rfl,rfl,rfl,rfl,rfl,rfl,rfl,rfl,rfl,rfl,rfl,rfl,rfl,rfl,rfl,rfl,rfl,rfl,rfl,rfl,rfl,trivial⟩))))))))
    · 
     refine cw_region (wl_cmp rfl rfl rfl false (cb_lt_f (a:=j) (b:=N) rfl rfl (by omega)) (by decide) (ne_ (cw_seq (cw_false rfl (cw_exit (eo_thenX (eo_loopX (eo_block_here (eo_end [] rfl trivial ?_)))))))))
     exact⟨ys,rfl,l_VA,(LsB.done hA9 hul hg0 ((show j=N by omega)▸hC) hv0),hw1⟩
theorem Own.apartT {w:World}{base base':Nat}{t t':TypeId}{s s':Nat}{A B:Option Addr}{n cap n' cap':Nat}{vs us:List Value}(h:Own w base t s A n cap vs) (k:Own w base' t' s' B n' cap' us) (hne:t≠t'):
  ∀p q,A=some p→B=some q→p.block≠q.block:=by
 intro p q hp hq e
 rcases h with h | ⟨g,cs,ha,hb,hk,_⟩
 ·rw [h.1] at hp;cases hp
 ·rcases k with k | ⟨g',cs',ha',hb',hk',_⟩
  ·rw [k.1] at hq;cases hq
  ·rw [ha] at hp;rw [ha'] at hq
   cases hp;cases hq
   simp only at e
   subst e
   unfold Bk at hk hk'
   rw [hk] at hk'
   injection hk' with hk'
   injection hk' with h1 h2
   exact hne h2
theorem Lz.apartT {w:World}{base:Nat}{t:TypeId}{s:Nat}{A B:Option Addr}{n cap n' cap':Nat}{vs:List Value}{m:Option World}{K b lb:Nat}{zs:List Int}(h:Own w base t s A n cap vs) (k:Lz m K b w lb B n' cap' zs) (hne:t≠34):
  ∀p q,A=some p→B=some q→p.block≠q.block:=by
 obtain⟨us,ho⟩:=k.own
 exact Own.apartT h ho hne
theorem Rcs.apartT {w:World}{base:Nat}{t:TypeId}{s:Nat}{A:Option Addr}{n cap K lb k m:Nat}{ra:Nat→Option Addr}{rc:Nat→Nat}{Z:Mx}{vs:List Value}(h:Own w base t s A n cap vs) (c:Rcs K lb k m ra rc w Z) (hne:t≠34):
  ∀r,r<k→∀p q,A=some p→ra r=some q→p.block≠q.block:=fun r hr=>by
 obtain⟨us,ho⟩:=c.own hr
 exact Own.apartT h ho hne
theorem Rcs.nil (K lb m:Nat) (ra:Nat→Option Addr) (rc:Nat→Nat) (w:World) (Z:Mx):Rcs K lb 0 m ra rc w Z:=⟨fun _ h=>absurd h (Nat.not_lt_zero _),fun _ _ h=>absurd h (Nat.not_lt_zero _)⟩
theorem Rcs.add {K lb k m:Nat}{ra:Nat→Option Addr}{rc:Nat→Nat}{w:World}{Z:Mx}(h:Rcs K lb k m ra rc w Z){VA:Option Addr}{vc:Nat}{vs:List Int}(hv:Lz none K 0 w lb VA m vc vs) (hd:∀r,r<k→∀p q,ra r=some p→VA=some q→p.block≠q.block):
  Rcs K lb (k+1) m (fun r=>if r=k then VA else ra r) (fun r=>if r=k then vc else rc r) w (fun r=>if r=k then fun c=>vs.getD c 0 else Z r):=by
 refine⟨fun r hr=>?_,fun r s hr hs hne p q hp hq=>?_⟩
 ·by_cases e:r=k
  ·simp only [if_pos e];exact⟨vs,hv,fun j _=>rfl⟩
  ·simp only [if_neg e];exact h.row r (by omega)
 ·by_cases e:r=k
  ·simp only [if_pos e] at hp
   rw [if_neg (by omega)] at hq
   exact fun e2=>hd s (by omega) q p hq hp e2.symm
  ·simp only [if_neg e] at hp
   by_cases e2:s=k
   ·simp only [if_pos e2] at hq
    exact hd r (by omega) p q hp hq
   ·simp only [if_neg e2] at hq
    exact h.dis r s (by omega) (by omega) hne p q hp hq
theorem relv_add {ra:Nat→Option Addr}{rc:Nat→Nat}{hs:List Nat}{N k x:Nat}(hl:hs.length=k) (VA:Option Addr) (vc:Nat):
  relv ra rc (fun i=>hs.getD i 0) N k++ [.slice VA N vc,.int .i64 ((x:Nat):Int)]=relv (fun r=>if r=k then VA else ra r) (fun r=>if r=k then vc else rc r) (fun i=>(hs++ [x]).getD i 0) N (k+1):=by
 rw [relv]
 congr 1
 ·refine relv_congr k fun i hi=>?_
  refine⟨(if_neg (by omega)).symm,(if_neg (by omega)).symm,(getD_app_lt x (by omega)).symm⟩
 ·subst hl
  simp only [if_true,getD_app_at]
theorem pwt_list {n k:Nat}{X:Mx}{ms:List Int}(h:En n n (mp n X k) ms) (hl:ms.length=n*n) (hk:k≤n){c:Nat}(hc:c<n*n+n+1):((ms++(List.replicate (n*n+n+1) (0:Int)).drop (n*n)).set (n*n+k) 1).getD c 0=pwt n X k c:=by
 have hl2:(ms++(List.replicate (n*n+n+1) (0:Int)).drop (n*n)).length=n*n+n+1:=by rw [List.length_append,List.length_drop,List.length_replicate];omega
 rw [getD_set (by omega),pwt]
 by_cases e:c=n*n+k
 ·rw [if_pos e,if_neg (by omega),if_pos e]
 ·rw [if_neg e]
  by_cases h1:c<n*n
  ·rw [if_pos h1,getD_app_l (by omega)]
   have hn:0<n:=Nat.pos_of_ne_zero fun e=>by subst e;omega
   have:=h (c/n) (c%n) (Nat.div_lt_of_lt_mul h1) (Nat.mod_lt _ hn)
   rwa [Nat.mul_comm (c/n),Nat.div_add_mod] at this
  ·rw [if_neg h1,if_neg e,List.getD_eq_getElem?_getD,List.getElem?_append_right (by omega),List.getElem?_drop,List.getElem?_replicate]
   split <;> rfl
theorem LvB_max {k:Nat}(h:k≤64):LvB k≤4362346691:=(by decide:∀k,k<65→LvB k≤4362346691) k (by omega)
theorem Lv.lnD {n:Nat}{X:Mx}{hs:List Nat}{j k:Nat}{vs:List Int}(h:Lv n X hs j k fun c=>vs.getD c 0) (hX:∀i j,i<n→j<n→Go.Proofs.Ytnpbbknemflpnaa.ln (X i j)≤1048576) (hn:n≤64) (hj:j≤k) (hk:k≤n) (hl:vs.length=n*n+n+1) (i:Nat):Go.Proofs.Ytnpbbknemflpnaa.ln (vs.getD i 0)≤4362346691:=by
 rcases Nat.lt_or_ge i (n*n+n+1) with hi | hi
 ·exact Nat.le_trans (h.ln hX hn hj hi) (LvB_max (by omega))
 ·rw [getD_ge (by omega),ln_zero];exact Nat.zero_le _
theorem rel_news {w:World}{g:Nat}{u v:Value}(h:Bk w g 63 [u,v]):∀j x,([u,v]:List Value)[j]?=some x→w.cell? ((⟨g,0,none⟩:Addr).add j)=some x:=fun j x hj=>by
 have hjl:j<([u,v]:List Value).length:=(List.getElem?_eq_some_iff.1 hj).1
 rw [add_lit0,Nat.zero_add,h.cell hjl,List.getD_eq_getElem?_getD,hj];rfl
set_option maxHeartbeats 8000000 in
set_option maxRecDepth 20000 in
theorem g_chp_LeastPoly {w:World}{b lb:Nat}(hb:b≤w.heap.size) (hlb:lb≤w.heap.size){n:Nat}{X:Mx}{d:Nat→Int}{Aa:Option Addr}{capa:Nat}{xs:List Int}(hxa:ZF w Aa (n*n) capa 1048576 xs) (hn:n≤64) (hX:En n n X xs) (hd:Chp n X d):
    Calls Try.prog 15 #[.agg #[.int .i64 ((n:Nat):Int),.int .i64 ((n:Nat):Int),.slice Aa (n*n) capa]] w (fun e w'=>∃k,k≤n∧Gv w (T2 (LQ none 8589934592 b lb (k+1) (Lpo n X k)) (Is (.int .i64 0))) e w'):=by
 have hXl:∀i j,i<n→j<n→ln (X i j)≤1048576:=fun i j hi hj=>hX.ln hxa hi hj
 have hnn:=ix_64 hn hn
 have hna:n*n=n*n:=rfl
 obtain⟨msa,hla,hma⟩:=hxa
 refine sx_enter Try.func15 rfl (n:=116) rfl (bq rfl) (args:= [.agg #[.int .i64 ((n:Nat):Int),.int .i64 ((n:Nat):Int),.slice Aa (n*n) capa]]) (cw_keep [(0,.agg #[.int .i64 ((n:Nat):Int),.int .i64 ((n:Nat):Int),.slice Aa (n*n) capa])] ⟨rfl,trivial⟩ (sr (bx [.int .i64 ((n:Nat):Int),.int .i64 ((n:Nat):Int),.slice Aa (n*n) capa] (Ext.refl w) rfl rfl rfl fun g1 v2 hb4 ge5 e3 hw1=>(mv 2 rfl (ne_ (cw_seq (sr (lo aggMat hb4 [.int .i64 ((n:Nat):Int),.int .i64 ((n:Nat):Int),.slice Aa (n*n) capa] rfl rfl rfl (cl (vs:= [.agg #[.int .i64 ((n:Nat):Int),.int .i64 ((n:Nat):Int),.slice Aa (n*n) capa]]) hw1 (g_chp_square_ok (snd_mk hn hn rfl) rfl) rfl (by kernel_rfl) fun xr8 v6 r8 e7 hw2=>?_)))))))))
 obtain rfl:=r8
 refine mv 1 rfl (ne_ (sr (mv 1 rfl (wl_cmp rfl rfl rfl false (by decide) (by decide) (ne_ (cw_false rfl (cw_skip (eo_then (cw_seq (cw_keep [(0,.agg #[.int .i64 ((n:Nat):Int),.int .i64 ((n:Nat):Int),.slice Aa (n*n) capa]),(1,.pointer (some ⟨g1,0,none⟩)),(2,.slice none 0 0),(3,.int .i64 0),(17,.agg #[.int .i64 ((n:Nat):Int),.int .i64 ((n:Nat):Int),.slice Aa (n*n) capa]),(18,.int .i64 0),(4,.int .i64 0),(19,.int .i64 0),(20,.bool false)] ⟨rfl,rfl,rfl,rfl,rfl,rfl,rfl,rfl,rfl,trivial⟩ ?_))))))))))
 obtain⟨v9,hv,e10⟩:∃v,v=v6.drew∧Ext v6 v:=⟨_,rfl,(Ext.refl _).drew⟩
 have hw3:=hw2.trans e10
 refine cw_det mix (w:=v9) [.pointer (some ⟨g1,0,none⟩),.int .i64 ((n:Nat):Int),.pointer (some ⟨g1,2,none⟩),.slice Aa (n*n) capa,.int .i64 (((n*n):Nat):Int),.int .i64 ((n:Nat):Int),.int .i64 (((n*n):Nat):Int)] [v9] [] [[],[0],[],[2],[3],[1],[4]] [[],[0],[],[2],[2,3],[0,1],[0,1,2,3,4,5]] [(0,0),(1,0),(2,0),(3,0),(4,0),(5,0),(6,0)] rfl hv ?_ ?_
 · 
  refine dobs_val _ rfl rfl rfl rfl rfl (rd_pure rfl (by kernel_rfl)) (dobs_val _ rfl rfl rfl rfl rfl (rd_load rfl (load_cell cellInt (hb4.ext (e7.trans e10)) rfl)) (dobs_val _ rfl rfl rfl rfl rfl (rd_pure rfl (by kernel_rfl)) (dobs_val _ rfl rfl rfl rfl rfl (rd_load rfl (load_cell cellInts (hb4.ext (e7.trans e10)) rfl)) (dobs_val _ rfl rfl rfl rfl rfl (rd_pure rfl (by kernel_rfl)) (dobs_val _ rfl rfl rfl rfl rfl (rd_assign rfl) (dobs_val _ rfl rfl rfl rfl rfl (rd_assign rfl) ?_))))))
  exact dobs_nil
 clear hv
 refine eo_keep [(0,.agg #[.int .i64 ((n:Nat):Int),.int .i64 ((n:Nat):Int),.slice Aa (n*n) capa]),(1,.pointer (some ⟨g1,0,none⟩)),(2,.slice none 0 0),(3,.int .i64 0),(17,.agg #[.int .i64 ((n:Nat):Int),.int .i64 ((n:Nat):Int),.slice Aa (n*n) capa]),(18,.int .i64 0),(4,.int .i64 0),(19,.int .i64 0),(20,.bool false),(22,.pointer (some ⟨g1,0,none⟩)),(23,.int .i64 ((n:Nat):Int)),(24,.pointer (some ⟨g1,2,none⟩)),(25,.slice Aa (n*n) capa),(26,.int .i64 (((n*n):Nat):Int)),(5,.int .i64 ((n:Nat):Int)),(6,.int .i64 (((n*n):Nat):Int))] ⟨rfl,rfl,rfl,rfl,rfl,rfl,rfl,rfl,rfl,rfl,rfl,rfl,rfl,rfl,rfl,rfl,trivial⟩ (eo_then (sr (mv 1 rfl (ne_ (sr (mv 1 rfl ?_))))))
 obtain⟨lb11,hlb11,hlelb11,hgl11,hq11_0⟩:∃lb,lb≤v9.heap.size∧v9.heap.size≤lb∧w.heap.size≤lb∧g1<lb:=⟨v9.heap.size,Nat.le_refl _,Nat.le_refl _,hw3.size,(hb4.ext (e7.trans e10)).lt⟩
 refine cl (vs:= [.int .i64 ((n:Nat):Int)]) hw3 ((g_mat_Unit (n:=n) hw3.size hlb11 (by omega)).mono (Gv.imp (T2.imp (MQ.imp (LQ.imp (K:=1) (K':=17179869184) (by decide) (Nat.le_refl _) (Nat.le_refl _) (fun _ h=>h))) Is.imp))) rfl (by kernel_rfl) fun xr14 v12 r14 e13 hw4=>?_
 obtain⟨_,_,rfl,⟨lv16,rfl,⟨LA17,lc17,zs17,rfl,lz17,hz17⟩⟩,r15_1⟩:=r14
 have blk18:=lz17.block
 obtain rfl:=r15_1
 refine mv 1 rfl (pu (v:= .agg #[.int .i64 ((n:Nat):Int),.int .i64 ((n:Nat):Int),.slice LA17 (n*n) lc17]) rfl (by kernel_rfl) (pu (v:= .int .i64 0) rfl (by kernel_rfl) (wl_alloc rfl (z:= .agg #[I0,I0,S0]) (vs:= [I0,I0,S0]) (fun _=>by kernel_rfl) rfl (by decide) fun g19 v20 nb=>?_)))
 have hb22:=nb.bk
 have ge23:w.heap.size≤g19:=by rw [←nb.at_];exact hw4.size
 have q24:g1<g19:=by rw [←nb.at_];exact (hb4.ext (e7.trans (e10.trans e13))).lt
 have ne25:∀p:Addr,LA17=some p→p.block≠g19:=fun p hp=>by have:=(lz17).block p hp;have:=nb.at_;omega
 have e21:=nb.ext
 clear nb
 have hw5:=hw4.trans e21
 refine so aggMat hb22 [.int .i64 ((n:Nat):Int),.int .i64 ((n:Nat):Int),.slice LA17 (n*n) lc17] hw5 ge23 rfl rfl rfl rfl fun v26 hb28 u29 hw6=>(mv 1 rfl (ne_ (sr (mv 1 rfl (ne_ (cw_block ?_))))))
 have l031:=Lz.mono (b':=0) (lb':=w.heap.size) (((lz17.ext e21).updT hb22 u29 ne25)) (Nat.le_refl _) (Nat.zero_le _) hgl11
 obtain⟨lbr,hlbr,hlbr1,hlbr8,hlbrw⟩:∃lbr,lbr≤v26.heap.size∧g1<lbr∧g19<lbr∧w.heap.size≤lbr:=⟨v26.heap.size,Nat.le_refl _,((hb4.ext (e7.trans (e10.trans (e13.trans e21)))).updN u29 (by omega)).lt,hb28.lt,hw6.size⟩
 refine cw_loop (T:=World×Nat×Option Addr×Nat×List Int×Option Addr×Nat×(Nat→Option Addr)×(Nat→Nat)×Mx×List Nat) (fun⟨wr,k,LM,lm,ms,SA,scap,ra,rc,Z,hs⟩=> [(0,.agg #[.int .i64 ((n:Nat):Int),.int .i64 ((n:Nat):Int),.slice Aa (n*n) capa]),(1,.pointer (some ⟨g1,0,none⟩)),(2,.slice none 0 0),(3,.int .i64 0),(4,.int .i64 0),(5,.int .i64 ((n:Nat):Int)),(6,.int .i64 (((n*n):Nat):Int)),(7,.slice SA k scap),(8,.pointer (some ⟨g19,0,none⟩)),(10,.int .i64 ((k:Nat):Int)),(17,.agg #[.int .i64 ((n:Nat):Int),.int .i64 ((n:Nat):Int),.slice Aa (n*n) capa]),(18,.int .i64 0),(19,.int .i64 0),(20,.bool false),(22,.pointer (some ⟨g1,0,none⟩)),(23,.int .i64 ((n:Nat):Int)),(24,.pointer (some ⟨g1,2,none⟩)),(25,.slice Aa (n*n) capa),(26,.int .i64 (((n*n):Nat):Int)),(27,.tuple #[.agg #[.int .i64 ((n:Nat):Int),.int .i64 ((n:Nat):Int),.slice LA17 (n*n) lc17],I0]),(28,.int .i64 ((n:Nat):Int)),(29,.tuple #[.agg #[.int .i64 ((n:Nat):Int),.int .i64 ((n:Nat):Int),.slice LA17 (n*n) lc17],I0]),(30,.agg #[.int .i64 ((n:Nat):Int),.int .i64 ((n:Nat):Int),.slice LA17 (n*n) lc17]),(31,.int .i64 0)]) (fun⟨wr,k,LM,lm,ms,SA,scap,ra,rc,Z,hs⟩=>wr) (fun⟨wr,k,LM,lm,ms,SA,scap,ra,rc,Z,hs⟩=>(Ext w wr)∧(k≤n)∧(Bk wr g1 24 [.int .i64 ((n:Nat):Int),.int .i64 ((n:Nat):Int),.slice Aa (n*n) capa])∧(Bk wr g19 24 [.int .i64 ((n:Nat):Int),.int .i64 ((n:Nat):Int),.slice LM (n*n) lm])∧(w.heap.size≤wr.heap.size)∧(Lz none 17179869184 0 wr w.heap.size LM (n*n) lm ms)∧(∀p:Addr,LM=some p→p.block≠g1)∧(∀p:Addr,LM=some p→p.block≠g19)∧(Own wr lbr 63 2 SA k scap (relv ra rc (fun i=>hs.getD i 0) (n*n+n+1) k))∧(Rcs 68719476736 lbr k (n*n+n+1) ra rc wr Z)∧(lbr≤wr.heap.size)∧(En n n (mp n X k) ms)∧(Seen n X hs k Z)) (fun⟨wr,k,LM,lm,ms,SA,scap,ra,rc,Z,hs⟩=>n-k)
  (⟨v26,0,LA17,lc17,zs17,none,0,(fun _=>none),(fun _=>0),(fun _ _=>0),[]⟩:World×Nat×Option Addr×Nat×List Int×Option Addr×Nat×(Nat→Option Addr)×(Nat→Nat)×Mx×List Nat) ⟨hw6,(by omega),((hb4.ext (e7.trans (e10.trans (e13.trans e21)))).updN u29 (by omega)),hb28,hw6.size,l031,(show∀p:Addr,LA17=some p→p.block≠g1 from fun p hp=>by have:=blk18 p hp;omega),ne25,(Own.nil _ _ _ _),(Rcs.nil _ _ _ _ _ _ _),hlbr,hz17,(Seen.nil _)⟩ rfl ⟨rfl,rfl,rfl,rfl,rfl,rfl,rfl,rfl,rfl,rfl,rfl,rfl,rfl,rfl,rfl,rfl,rfl,rfl,rfl,rfl,rfl,rfl,rfl,rfl,trivial⟩ ?_
 rintro⟨wr,k,LM,lm,ms,SA,scap,ra,rc,Z,hs⟩ ⟨hw1,hi_k,b_g1,b_g19,l_LMb,l_LM,l_LM_g1,l_LM_g19,hSowr,hRcwr,hlbrr,hms,hS⟩
 refine cw_re [(0,.agg #[.int .i64 ((n:Nat):Int),.int .i64 ((n:Nat):Int),.slice Aa (n*n) capa]),(1,.pointer (some ⟨g1,0,none⟩)),(2,.slice none 0 0),(3,.int .i64 0),(4,.int .i64 0),(5,.int .i64 ((n:Nat):Int)),(6,.int .i64 (((n*n):Nat):Int)),(7,.slice SA k scap),(8,.pointer (some ⟨g19,0,none⟩)),(10,.int .i64 ((k:Nat):Int)),(17,.agg #[.int .i64 ((n:Nat):Int),.int .i64 ((n:Nat):Int),.slice Aa (n*n) capa]),(18,.int .i64 0),(19,.int .i64 0),(20,.bool false),(22,.pointer (some ⟨g1,0,none⟩)),(23,.int .i64 ((n:Nat):Int)),(24,.pointer (some ⟨g1,2,none⟩)),(25,.slice Aa (n*n) capa),(26,.int .i64 (((n*n):Nat):Int)),(27,.tuple #[.agg #[.int .i64 ((n:Nat):Int),.int .i64 ((n:Nat):Int),.slice LA17 (n*n) lc17],I0]),(28,.int .i64 ((n:Nat):Int)),(29,.tuple #[.agg #[.int .i64 ((n:Nat):Int),.int .i64 ((n:Nat):Int),.slice LA17 (n*n) lc17],I0]),(30,.agg #[.int .i64 ((n:Nat):Int),.int .i64 ((n:Nat):Int),.slice LA17 (n*n) lc17]),(31,.int .i64 0)] wr rfl ⟨rfl,rfl,rfl,rfl,rfl,rfl,rfl,rfl,rfl,rfl,rfl,rfl,rfl,rfl,rfl,rfl,rfl,rfl,rfl,rfl,rfl,rfl,rfl,rfl,trivial⟩ ?_
 have blk32:=l_LM.block
 have neS33:∀p:Addr,SA=some p→p.block≠g1:=fun p hp=>by have:=(hSowr.block p hp).1;omega
 have neR34:∀r,r<k→∀p:Addr,ra r=some p→p.block≠g1:=fun r hr p hp=>by have:=(hRcwr.lt r hr p hp).1;omega
 have neS35:∀p:Addr,SA=some p→p.block≠g19:=fun p hp=>by have:=(hSowr.block p hp).1;omega
 have neR36:∀r,r<k→∀p:Addr,ra r=some p→p.block≠g19:=fun r hr p hp=>by have:=(hRcwr.lt r hr p hp).1;omega
 have hhl:=hS.len
 refine cw_seq (cw_block (sr (mv 2 rfl (wl_ar rfl rfl rfl (((n*n)+n:Nat):Int) (ai_add (a:=n*n) (b:=n) rfl rfl (by omega)) (by decide) (wl_ar rfl rfl rfl ((((n*n)+n)+1:Nat):Int) (ai_add (a:=(n*n)+n) (b:=1) rfl rfl (by omega)) (by decide) (wl_makeL (k:=((n*n)+n)+1) none 68719476736 w.heap.size rfl rfl rfl (by omega) (by decide) fun g37 v38 hg39 lz40 e41=>?_))))))
 have q42:g1<g37:=by rw [←hg39];exact b_g1.lt
 have q43:g19<g37:=by rw [←hg39];exact b_g19.lt
 have q44:∀p:Addr,LM=some p→p.block<g37:=fun p hp=>by have:=(l_LM).block p hp;omega
 have hlbg37:g37≤v38.heap.size:=by have:=(lz40.block _ rfl).2;exact Nat.le_of_lt this
 have hglg37:w.heap.size≤g37:=by rw [←hg39];exact hw1.size
 have neR45:∀r,r<k→∀p q:Addr,ra r=some p→(some ⟨g37,0,none⟩:Option Addr)=some q→p.block≠q.block:=fun r hr p q hp hq=>by have h8:=((hRcwr).lt r hr p hp).2;have h9:q.block=g37:=(by cases hq;rfl);omega
 have hlrg37:lbr≤g37:=by rw [←hg39];exact hlbrr
 clear hg39
 have hw2:=hw1.trans e41
 have blk46:=lz40.block
 refine mv 1 rfl (ne_ (sr (mv 1 rfl (pf g19 2 rfl (by kernel_rfl) (wl_load rfl rfl (load_cell cellInts (b_g19.ext e41) rfl) (by decide) ?_)))))
 have lt52:=Lz.mono (b':=0) (lz40) (Nat.le_refl _) (Nat.zero_le _) (Nat.le_refl _)
 obtain⟨us50,own51⟩:=lt52.own
 refine wl_copyI rfl rfl rfl (by omega) lt52 (Lz.mono ((l_LM.ext e41)) (by decide) (Nat.le_refl _) (Nat.le_refl _)) (by decide) fun v47 lz48 uo49=>?_
 have hw3:=uo49.ext hw2 (fun p hp=>by have:=blk46 p hp;omega)
 have hlblz48:g37≤v47.heap.size:=Nat.le_trans hlbg37 uo49.size
 refine ne_ (sr (mv 3 rfl (wl_ar rfl rfl rfl (((n*n)+k:Nat):Int) (ai_add (a:=n*n) (b:=k) rfl rfl (by omega)) (by decide) (cl (vs:= [.int .i64 1]) hw3 (g_zint_Of hw3.size (by decide) (by decide)) rfl (by kernel_rfl) fun xr55 v53 r55 e54 hw4=>?_))))
 obtain⟨s56,A56,n56,c56,rfl,z56⟩:=r55
 obtain⟨pz57,sz57,Bz57,nz57,cz57,hpz57,ldz57,hKz57,ez57⟩:=((lz48.ext e54)).at (i:=(n*n)+k) (by omega)
 have zz57:=ez57.zr
 have Lz57:ln ((ms++(List.replicate (((n*n)+n)+1) 0).drop (n*n)).getD ((n*n)+k) 0)≤68719476736:=zz57.ln_le hKz57
 refine wl_idx rfl rfl rfl elemI aggInt.size ((n*n)+k) rfl (by omega) pz57 hpz57 (by decide) ?_
 have lt63:=(lz48.ext e54)
 obtain⟨us61,own62⟩:=lt63.own
 refine wl_setI (e:=⟨s56,A56,n56,c56⟩) (z:=1) rfl rfl rfl hpz57 (by omega) lt63 (Or.inl (z56.mono (Nat.zero_le _))) (z56.le (Nat.le_trans (show ln (1)≤1 by decide+kernel) (by decide))) fun v58 lz59 uo60=>?_
 have hw5:=uo60.ext hw4 (fun p hp=>by have:=blk46 p hp;omega)
 have hlblz59:g37≤v58.heap.size:=Nat.le_trans (Nat.le_trans hlblz48 e54.size) uo60.size
 refine ne_ (cw_seq (sr (mv 1 rfl (pu (v:= .int .i64 ((k:Nat):Int)) rfl (by kernel_rfl) (mv 1 rfl (ne_ (cw_block ?_)))))))
 have hvl0:=(lz59).len
 have hL0:Lv n X hs 0 k (fun c=>((ms++(List.replicate (((n*n)+n)+1) 0).drop (n*n)).set ((n*n)+k) 1).getD c 0):=(Lv.start hi_k).congr hi_k fun c hc=>pwt_list hms l_LM.len hi_k hc
 refine cw_loop (T:=World×Nat×List Int) (fun⟨wj,j,vs⟩=> [(0,.agg #[.int .i64 ((n:Nat):Int),.int .i64 ((n:Nat):Int),.slice Aa (n*n) capa]),(1,.pointer (some ⟨g1,0,none⟩)),(2,.slice none 0 0),(3,.int .i64 0),(4,.int .i64 0),(5,.int .i64 ((n:Nat):Int)),(6,.int .i64 (((n*n):Nat):Int)),(7,.slice SA k scap),(8,.pointer (some ⟨g19,0,none⟩)),(10,.int .i64 ((k:Nat):Int)),(11,.slice (some ⟨g37,0,none⟩) (((n*n)+n)+1) (((n*n)+n)+1)),(17,.agg #[.int .i64 ((n:Nat):Int),.int .i64 ((n:Nat):Int),.slice Aa (n*n) capa]),(18,.int .i64 0),(19,.int .i64 0),(20,.bool false),(22,.pointer (some ⟨g1,0,none⟩)),(23,.int .i64 ((n:Nat):Int)),(24,.pointer (some ⟨g1,2,none⟩)),(25,.slice Aa (n*n) capa),(26,.int .i64 (((n*n):Nat):Int)),(27,.tuple #[.agg #[.int .i64 ((n:Nat):Int),.int .i64 ((n:Nat):Int),.slice LA17 (n*n) lc17],I0]),(28,.int .i64 ((n:Nat):Int)),(29,.tuple #[.agg #[.int .i64 ((n:Nat):Int),.int .i64 ((n:Nat):Int),.slice LA17 (n*n) lc17],I0]),(30,.agg #[.int .i64 ((n:Nat):Int),.int .i64 ((n:Nat):Int),.slice LA17 (n*n) lc17]),(31,.int .i64 0),(34,.int .i64 (((n*n):Nat):Int)),(35,.int .i64 ((n:Nat):Int)),(36,.int .i64 (((n*n)+n:Nat):Int)),(37,.int .i64 ((((n*n)+n)+1:Nat):Int)),(38,.slice (some ⟨g37,0,none⟩) (((n*n)+n)+1) (((n*n)+n)+1)),(39,.slice (some ⟨g37,0,none⟩) (((n*n)+n)+1) (((n*n)+n)+1)),(40,.pointer (some ⟨g19,2,none⟩)),(41,.slice LM (n*n) lm),(43,.slice (some ⟨g37,0,none⟩) (((n*n)+n)+1) (((n*n)+n)+1)),(44,.int .i64 (((n*n):Nat):Int)),(45,.int .i64 ((k:Nat):Int)),(46,.int .i64 (((n*n)+k:Nat):Int)),(47,.agg #[.bool s56,.slice A56 n56 c56]),(48,.pointer (some pz57)),(49,.slice SA k scap),(50,.int .i64 ((k:Nat):Int)),(51,.int .i64 ((j:Nat):Int))]) (fun⟨wj,j,vs⟩=>wj) (fun⟨wj,j,vs⟩=>(Ext w wj)∧(j≤k)∧(Bk wj g1 24 [.int .i64 ((n:Nat):Int),.int .i64 ((n:Nat):Int),.slice Aa (n*n) capa])∧(Bk wj g19 24 [.int .i64 ((n:Nat):Int),.int .i64 ((n:Nat):Int),.slice LM (n*n) lm])∧(w.heap.size≤wj.heap.size)∧(Lz none 17179869184 0 wj w.heap.size LM (n*n) lm ms)∧(∀p:Addr,LM=some p→p.block≠g1)∧(∀p:Addr,LM=some p→p.block≠g19)∧(g37≤wj.heap.size)∧(Lz none 68719476736 0 wj g37 (some ⟨g37,0,none⟩) (n*n+n+1) (((n*n)+n)+1) vs)∧(∀p:Addr,(some ⟨g37,0,none⟩)=some p→p.block≠g1)∧(∀p:Addr,(some ⟨g37,0,none⟩)=some p→p.block≠g19)∧(∀p q:Addr,(some ⟨g37,0,none⟩)=some p→LM=some q→p.block≠q.block)∧(Own wj lbr 63 2 SA k scap (relv ra rc (fun i=>hs.getD i 0) (n*n+n+1) k))∧(Rcs 68719476736 lbr k (n*n+n+1) ra rc wj Z)∧(lbr≤wj.heap.size)∧(Lv n X hs j k (fun c=>vs.getD c 0))) (fun⟨wj,j,vs⟩=>k-j)
  (⟨v58,0,(ms++(List.replicate (((n*n)+n)+1) 0).drop (n*n)).set ((n*n)+k) 1⟩:World×Nat×List Int) ⟨hw5,(by omega),((((b_g1.ext e41).updO uo49 (show∀p:Addr,(some ⟨g37,0,none⟩)=some p→p.block≠g1 from fun p hp=>by have:=blk46 p hp;omega)).ext e54).updO uo60 (show∀p:Addr,(some ⟨g37,0,none⟩)=some p→p.block≠g1 from fun p hp=>by have:=blk46 p hp;omega)),((((b_g19.ext e41).updO uo49 (show∀p:Addr,(some ⟨g37,0,none⟩)=some p→p.block≠g19 from fun p hp=>by have:=blk46 p hp;omega)).ext e54).updO uo60 (show∀p:Addr,(some ⟨g37,0,none⟩)=some p→p.block≠g19 from fun p hp=>by have:=blk46 p hp;omega)),(Nat.le_trans (Nat.le_trans (Nat.le_trans (Nat.le_trans l_LMb e41.size) uo49.size) e54.size) uo60.size),((((l_LM.ext e41).updO own51 uo49 (show∀p q:Addr,(some ⟨g37,0,none⟩)=some p→LM=some q→p.block≠q.block from fun p q hp hq=>by have h8:=q44 q hq;have h9:p.block=g37:=(by cases hp;rfl);omega)).ext e54).updO own62 uo60 (show∀p q:Addr,(some ⟨g37,0,none⟩)=some p→LM=some q→p.block≠q.block from fun p q hp hq=>by have h8:=q44 q hq;have h9:p.block=g37:=(by cases hp;rfl);omega)),l_LM_g1,l_LM_g19,hlblz59,lz59,(show∀p:Addr,(some ⟨g37,0,none⟩)=some p→p.block≠g1 from fun p hp=>by have:=blk46 p hp;omega),(show∀p:Addr,(some ⟨g37,0,none⟩)=some p→p.block≠g19 from fun p hp=>by have:=blk46 p hp;omega),(show∀p q:Addr,(some ⟨g37,0,none⟩)=some p→LM=some q→p.block≠q.block from fun p q hp hq=>by have h8:=q44 q hq;have h9:p.block=g37:=(by cases hp;rfl);omega),((((hSowr.ext e41).updO uo49 (fun p q hp hq e=>Own.apartT (hSowr.ext e41) own51 (by decide) q p hq hp e.symm)).ext e54).updO uo60 (fun p q hp hq e=>Own.apartT (((hSowr.ext e41).updO uo49 (fun p q hp hq e=>Own.apartT (hSowr.ext e41) own51 (by decide) q p hq hp e.symm)).ext e54) own62 (by decide) q p hq hp e.symm)),((((hRcwr.ext e41).updQ own51 uo49 (fun r hr p q hp hq e=>neR45 r hr q p hq hp e.symm)).ext e54).updQ own62 uo60 (fun r hr p q hp hq e=>neR45 r hr q p hq hp e.symm)),(Nat.le_trans (Nat.le_trans (Nat.le_trans (Nat.le_trans hlbrr e41.size) uo49.size) e54.size) uo60.size),hL0⟩ rfl ⟨rfl,rfl,rfl,rfl,rfl,rfl,rfl,rfl,rfl,rfl,rfl,rfl,rfl,rfl,rfl,rfl,rfl,rfl,rfl,rfl,rfl,rfl,rfl,rfl,rfl,rfl,rfl,rfl,rfl,rfl,rfl,rfl,rfl,rfl,rfl,rfl,rfl,rfl,rfl,rfl,rfl,rfl,trivial⟩ ?_
 rintro⟨wj,j,vs⟩ ⟨hw1,hi_j,b_g1,b_g19,l_LMb,l_LM,l_LM_g1,l_LM_g19,l_someg370noneb,l_someg370none,l_someg370none_g1,l_someg370none_g19,d_l_someg370none_l_LM,hSowj,hRcwj,hlbrj,hL⟩
 refine cw_re [(0,.agg #[.int .i64 ((n:Nat):Int),.int .i64 ((n:Nat):Int),.slice Aa (n*n) capa]),(1,.pointer (some ⟨g1,0,none⟩)),(2,.slice none 0 0),(3,.int .i64 0),(4,.int .i64 0),(5,.int .i64 ((n:Nat):Int)),(6,.int .i64 (((n*n):Nat):Int)),(7,.slice SA k scap),(8,.pointer (some ⟨g19,0,none⟩)),(10,.int .i64 ((k:Nat):Int)),(11,.slice (some ⟨g37,0,none⟩) (((n*n)+n)+1) (((n*n)+n)+1)),(17,.agg #[.int .i64 ((n:Nat):Int),.int .i64 ((n:Nat):Int),.slice Aa (n*n) capa]),(18,.int .i64 0),(19,.int .i64 0),(20,.bool false),(22,.pointer (some ⟨g1,0,none⟩)),(23,.int .i64 ((n:Nat):Int)),(24,.pointer (some ⟨g1,2,none⟩)),(25,.slice Aa (n*n) capa),(26,.int .i64 (((n*n):Nat):Int)),(27,.tuple #[.agg #[.int .i64 ((n:Nat):Int),.int .i64 ((n:Nat):Int),.slice LA17 (n*n) lc17],I0]),(28,.int .i64 ((n:Nat):Int)),(29,.tuple #[.agg #[.int .i64 ((n:Nat):Int),.int .i64 ((n:Nat):Int),.slice LA17 (n*n) lc17],I0]),(30,.agg #[.int .i64 ((n:Nat):Int),.int .i64 ((n:Nat):Int),.slice LA17 (n*n) lc17]),(31,.int .i64 0),(34,.int .i64 (((n*n):Nat):Int)),(35,.int .i64 ((n:Nat):Int)),(36,.int .i64 (((n*n)+n:Nat):Int)),(37,.int .i64 ((((n*n)+n)+1:Nat):Int)),(38,.slice (some ⟨g37,0,none⟩) (((n*n)+n)+1) (((n*n)+n)+1)),(39,.slice (some ⟨g37,0,none⟩) (((n*n)+n)+1) (((n*n)+n)+1)),(40,.pointer (some ⟨g19,2,none⟩)),(41,.slice LM (n*n) lm),(43,.slice (some ⟨g37,0,none⟩) (((n*n)+n)+1) (((n*n)+n)+1)),(44,.int .i64 (((n*n):Nat):Int)),(45,.int .i64 ((k:Nat):Int)),(46,.int .i64 (((n*n)+k:Nat):Int)),(47,.agg #[.bool s56,.slice A56 n56 c56]),(48,.pointer (some pz57)),(49,.slice SA k scap),(50,.int .i64 ((k:Nat):Int)),(51,.int .i64 ((j:Nat):Int))] wj rfl ⟨rfl,rfl,rfl,rfl,rfl,rfl,rfl,rfl,rfl,rfl,rfl,rfl,rfl,rfl,rfl,rfl,rfl,rfl,rfl,rfl,rfl,rfl,rfl,rfl,rfl,rfl,rfl,rfl,rfl,rfl,rfl,rfl,rfl,rfl,rfl,rfl,rfl,rfl,rfl,rfl,rfl,rfl,trivial⟩ ?_
 have blk64:=l_LM.block
 have blk65:=l_someg370none.block
 refine cw_seq ?_
 by_cases hjk:j<k
 · 
  refine cw_region (wl_cmp rfl rfl rfl true (cb_lt_t (a:=j) (b:=k) rfl rfl (by omega)) (by decide) (ne_ (cw_seq (cw_true rfl (cw_skip (eo_then (cw_seq (cw_block (sr ?_)))))))))
  obtain⟨pz66,hpz66,ldz66⟩:=(hSowj).relAt (i:=j) (by omega)
  refine wl_idx rfl rfl rfl unRel aggRel.size j rfl (by omega) pz66 hpz66 (by decide) (wl_load rfl rfl (ldz66 _ (Ext.refl _) _ _ aggRel) (by decide) (wl_alloc rfl (z:= .agg #[S0,I0]) (vs:= [S0,I0]) (fun _=>by kernel_rfl) rfl (by decide) fun g67 v68 nb=>?_))
  have hb70:=nb.bk
  have ge71:w.heap.size≤g67:=by rw [←nb.at_];exact hw1.size
  have q72:g19<g67:=by rw [←nb.at_];exact b_g19.lt
  have ne73:∀p:Addr,LM=some p→p.block≠g67:=fun p hp=>by have:=(l_LM).block p hp;have:=nb.at_;omega
  have ne74:∀p:Addr,(some ⟨g37,0,none⟩)=some p→p.block≠g67:=fun p hp=>by have:=(l_someg370none).block p hp;have:=nb.at_;omega
  have neS75:∀p:Addr,SA=some p→p.block≠g67:=fun p hp=>by have:=((hSowj).block p hp).2;have:=nb.at_;omega
  have neR76:∀r,r<k→∀p:Addr,ra r=some p→p.block≠g67:=fun r hr p hp=>by have:=((hRcwj).lt r hr p hp).2;have:=nb.at_;omega
  have e69:=nb.ext
  clear nb
  have hw2:=hw1.trans e69
  refine so aggRel hb70 [.slice (ra j) (n*n+n+1) (rc j),.int .i64 ((hs.getD j 0:Nat):Int)] hw2 ge71 rfl rfl rfl rfl fun v77 hb79 u80 hw3=>(ne_ (cw_region (lo aggRel hb79 [.slice (ra j) (n*n+n+1) (rc j),.int .i64 ((hs.getD j 0:Nat):Int)] rfl rfl rfl (mv 1 rfl ?_))))
  obtain⟨rs82,hlr82,hrz82⟩:=(((hRcwj.ext e69).updT hb70 u80 neR76)).row j hjk
  have hrv82:Lv n X hs j j (fun c=>rs82.getD c 0):=(hS.row j hjk).congr (by omega) fun c hc=>hrz82 c hc
  have hrx82:rs82.getD (hs.getD j 0) 0≠0:=by rw [hrz82 _ (by have:=hS.hd j hjk;omega)];exact hS.nz j hjk
  have lt90:=Lz.mono (b':=0) (((l_someg370none.ext e69).updT hb70 u80 ne74)) (Nat.le_refl _) (Nat.zero_le _) (Nat.le_refl _)
  obtain⟨us88,own89⟩:=lt90.own
  refine wl_call rfl rfl (vs:= [.agg #[.slice (ra j) (n*n+n+1) (rc j),.int .i64 ((hs.getD j 0:Nat):Int)],.slice (some ⟨g37,0,none⟩) (((n*n)+n)+1) (((n*n)+n)+1)]) (by kernel_rfl) (by decide) (g_chp_less lt90 (Nat.le_trans (Nat.le_trans l_someg370noneb e69.size) u80.by_.size) hlr82 (Nat.le_trans (Nat.le_trans hlbrj e69.size) u80.by_.size) (fun p q hp hq e=>neR45 j hjk q p hq hp e.symm) (by omega) (by have:=hS.hd j hjk;omega) (hL.lnD hXl hn (by omega) hi_k lt90.len) (hrv82.lnD hXl hn (Nat.le_refl _) (by omega) hlr82.len) (fun _=>hL.lsn hjk hi_k hrv82 hrx82)) ?_
  rintro _ v83 ⟨ys84,rfl,lz85,hP86,uo87⟩
  refine ret_intro ?_
  have hw4:=uo87.ext hw3 (fun p hp=>by have:=blk65 p hp;omega)
  have hlblz85:g37≤v83.heap.size:=Nat.le_trans (Nat.le_trans (Nat.le_trans l_someg370noneb e69.size) u80.by_.size) uo87.size
  refine wl_nil (eo_block_normal (eo_then (cw_region (wl_ar rfl rfl rfl ((j+1:Nat):Int) (ai_add (a:=j) (b:=1) rfl rfl (by omega)) (by decide) (mv 1 rfl (wl_nil (eo_round (⟨v83,j+1,ys84⟩:World×Nat×List Int) ⟨hw4,(by omega),(((b_g1.ext e69).updN u80 (by omega)).updO uo87 l_someg370none_g1),(((b_g19.ext e69).updN u80 (by omega)).updO uo87 l_someg370none_g19),(Nat.le_trans (Nat.le_trans (Nat.le_trans l_LMb e69.size) u80.by_.size) uo87.size),(((l_LM.ext e69).updT hb70 u80 ne73).updO own89 uo87 d_l_someg370none_l_LM),l_LM_g1,l_LM_g19,hlblz85,lz85,l_someg370none_g1,l_someg370none_g19,d_l_someg370none_l_LM,(((hSowj.ext e69).upd u80 neS75).updO uo87 (fun p q hp hq e=>Own.apartT ((hSowj.ext e69).upd u80 neS75) own89 (by decide) q p hq hp e.symm)),(((hRcwj.ext e69).updT hb70 u80 neR76).updQ own89 uo87 (fun r hr p q hp hq e=>neR45 r hr q p hq hp e.symm)),(Nat.le_trans (Nat.le_trans (Nat.le_trans hlbrj e69.size) u80.by_.size) uo87.size),(LsP.lv hjk hi_k hn hL hrv82 (hS.dt (by omega) (by omega)) (hS.hd j hjk) hrx82 hP86)⟩ (show k-(j+1)<k-j by omega) rfl ⟨rfl,rfl,rfl,rfl,rfl,rfl,rfl,rfl,rfl,rfl,rfl,rfl,rfl,rfl,rfl,rfl,rfl,rfl,rfl,rfl,rfl,rfl,rfl,rfl,rfl,rfl,rfl,rfl,rfl,rfl,rfl,rfl,rfl,rfl,rfl,rfl,rfl,rfl,rfl,rfl,rfl,rfl,trivial⟩)))))))
 · 
  refine cw_region (wl_cmp rfl rfl rfl false (cb_lt_f (a:=j) (b:=k) rfl rfl (by omega)) (by decide) (ne_ (cw_seq (cw_false rfl (cw_exit (eo_thenX (eo_loopX (eo_block_here (eo_then (sr (mv 1 rfl (ne_ (cw_seq ?_)))))))))))))
  refine cw_block ?_
  have hL9:Lv n X hs k k (fun c=>vs.getD c 0):=(show j=k by omega)▸hL
  refine cw_loop (T:=World×Nat) (fun⟨wc,c0⟩=> [(0,.agg #[.int .i64 ((n:Nat):Int),.int .i64 ((n:Nat):Int),.slice Aa (n*n) capa]),(1,.pointer (some ⟨g1,0,none⟩)),(2,.slice none 0 0),(3,.int .i64 0),(4,.int .i64 0),(5,.int .i64 ((n:Nat):Int)),(6,.int .i64 (((n*n):Nat):Int)),(7,.slice SA k scap),(8,.pointer (some ⟨g19,0,none⟩)),(10,.int .i64 ((k:Nat):Int)),(11,.slice (some ⟨g37,0,none⟩) (((n*n)+n)+1) (((n*n)+n)+1)),(14,.int .i64 ((c0:Nat):Int)),(17,.agg #[.int .i64 ((n:Nat):Int),.int .i64 ((n:Nat):Int),.slice Aa (n*n) capa]),(18,.int .i64 0),(19,.int .i64 0),(20,.bool false),(22,.pointer (some ⟨g1,0,none⟩)),(23,.int .i64 ((n:Nat):Int)),(24,.pointer (some ⟨g1,2,none⟩)),(25,.slice Aa (n*n) capa),(26,.int .i64 (((n*n):Nat):Int)),(27,.tuple #[.agg #[.int .i64 ((n:Nat):Int),.int .i64 ((n:Nat):Int),.slice LA17 (n*n) lc17],I0]),(28,.int .i64 ((n:Nat):Int)),(29,.tuple #[.agg #[.int .i64 ((n:Nat):Int),.int .i64 ((n:Nat):Int),.slice LA17 (n*n) lc17],I0]),(30,.agg #[.int .i64 ((n:Nat):Int),.int .i64 ((n:Nat):Int),.slice LA17 (n*n) lc17]),(31,.int .i64 0),(34,.int .i64 (((n*n):Nat):Int)),(35,.int .i64 ((n:Nat):Int)),(36,.int .i64 (((n*n)+n:Nat):Int)),(37,.int .i64 ((((n*n)+n)+1:Nat):Int)),(38,.slice (some ⟨g37,0,none⟩) (((n*n)+n)+1) (((n*n)+n)+1)),(39,.slice (some ⟨g37,0,none⟩) (((n*n)+n)+1) (((n*n)+n)+1)),(40,.pointer (some ⟨g19,2,none⟩)),(41,.slice LM (n*n) lm),(43,.slice (some ⟨g37,0,none⟩) (((n*n)+n)+1) (((n*n)+n)+1)),(44,.int .i64 (((n*n):Nat):Int)),(45,.int .i64 ((k:Nat):Int)),(46,.int .i64 (((n*n)+k:Nat):Int)),(47,.agg #[.bool s56,.slice A56 n56 c56]),(48,.pointer (some pz57)),(49,.slice SA k scap),(50,.int .i64 ((k:Nat):Int)),(51,.int .i64 ((j:Nat):Int)),(52,.bool false)]) (fun⟨wc,c0⟩=>wc) (fun⟨wc,c0⟩=>(Ext w wc)∧(c0≤n*n)∧(Bk wc g1 24 [.int .i64 ((n:Nat):Int),.int .i64 ((n:Nat):Int),.slice Aa (n*n) capa])∧(Bk wc g19 24 [.int .i64 ((n:Nat):Int),.int .i64 ((n:Nat):Int),.slice LM (n*n) lm])∧(w.heap.size≤wc.heap.size)∧(Lz none 17179869184 0 wc w.heap.size LM (n*n) lm ms)∧(∀p:Addr,LM=some p→p.block≠g1)∧(∀p:Addr,LM=some p→p.block≠g19)∧(g37≤wc.heap.size)∧(Lz none 68719476736 0 wc g37 (some ⟨g37,0,none⟩) (n*n+n+1) (((n*n)+n)+1) vs)∧(∀p:Addr,(some ⟨g37,0,none⟩)=some p→p.block≠g1)∧(∀p:Addr,(some ⟨g37,0,none⟩)=some p→p.block≠g19)∧(∀p q:Addr,(some ⟨g37,0,none⟩)=some p→LM=some q→p.block≠q.block)∧(Own wc lbr 63 2 SA k scap (relv ra rc (fun i=>hs.getD i 0) (n*n+n+1) k))∧(Rcs 68719476736 lbr k (n*n+n+1) ra rc wc Z)∧(lbr≤wc.heap.size)∧(∀c,c<c0→vs.getD c 0=0)) (fun⟨wc,c0⟩=>(n*n)-c0)
   (⟨wj,0⟩:World×Nat) ⟨hw1,(by omega),b_g1,b_g19,l_LMb,l_LM,l_LM_g1,l_LM_g19,l_someg370noneb,l_someg370none,l_someg370none_g1,l_someg370none_g19,d_l_someg370none_l_LM,hSowj,hRcwj,hlbrj,(fun c hc=>absurd hc (Nat.not_lt_zero c))⟩ rfl ⟨rfl,rfl,rfl,rfl,rfl,rfl,rfl,rfl,rfl,rfl,rfl,rfl,rfl,rfl,rfl,rfl,rfl,rfl,rfl,rfl,rfl,rfl,rfl,rfl,rfl,rfl,rfl,rfl,rfl,rfl,rfl,rfl,rfl,rfl,rfl,rfl,rfl,rfl,rfl,rfl,rfl,rfl,rfl,rfl,trivial⟩ ?_
  rintro⟨wc,c0⟩ ⟨hw1,hi_c0,b_g1,b_g19,l_LMb,l_LM,l_LM_g1,l_LM_g19,l_someg370noneb,l_someg370none,l_someg370none_g1,l_someg370none_g19,d_l_someg370none_l_LM,hSowc,hRcwc,hlbrc,hz0⟩
  refine cw_re [(0,.agg #[.int .i64 ((n:Nat):Int),.int .i64 ((n:Nat):Int),.slice Aa (n*n) capa]),(1,.pointer (some ⟨g1,0,none⟩)),(2,.slice none 0 0),(3,.int .i64 0),(4,.int .i64 0),(5,.int .i64 ((n:Nat):Int)),(6,.int .i64 (((n*n):Nat):Int)),(7,.slice SA k scap),(8,.pointer (some ⟨g19,0,none⟩)),(10,.int .i64 ((k:Nat):Int)),(11,.slice (some ⟨g37,0,none⟩) (((n*n)+n)+1) (((n*n)+n)+1)),(14,.int .i64 ((c0:Nat):Int)),(17,.agg #[.int .i64 ((n:Nat):Int),.int .i64 ((n:Nat):Int),.slice Aa (n*n) capa]),(18,.int .i64 0),(19,.int .i64 0),(20,.bool false),(22,.pointer (some ⟨g1,0,none⟩)),(23,.int .i64 ((n:Nat):Int)),(24,.pointer (some ⟨g1,2,none⟩)),(25,.slice Aa (n*n) capa),(26,.int .i64 (((n*n):Nat):Int)),(27,.tuple #[.agg #[.int .i64 ((n:Nat):Int),.int .i64 ((n:Nat):Int),.slice LA17 (n*n) lc17],I0]),(28,.int .i64 ((n:Nat):Int)),(29,.tuple #[.agg #[.int .i64 ((n:Nat):Int),.int .i64 ((n:Nat):Int),.slice LA17 (n*n) lc17],I0]),(30,.agg #[.int .i64 ((n:Nat):Int),.int .i64 ((n:Nat):Int),.slice LA17 (n*n) lc17]),(31,.int .i64 0),(34,.int .i64 (((n*n):Nat):Int)),(35,.int .i64 ((n:Nat):Int)),(36,.int .i64 (((n*n)+n:Nat):Int)),(37,.int .i64 ((((n*n)+n)+1:Nat):Int)),(38,.slice (some ⟨g37,0,none⟩) (((n*n)+n)+1) (((n*n)+n)+1)),(39,.slice (some ⟨g37,0,none⟩) (((n*n)+n)+1) (((n*n)+n)+1)),(40,.pointer (some ⟨g19,2,none⟩)),(41,.slice LM (n*n) lm),(43,.slice (some ⟨g37,0,none⟩) (((n*n)+n)+1) (((n*n)+n)+1)),(44,.int .i64 (((n*n):Nat):Int)),(45,.int .i64 ((k:Nat):Int)),(46,.int .i64 (((n*n)+k:Nat):Int)),(47,.agg #[.bool s56,.slice A56 n56 c56]),(48,.pointer (some pz57)),(49,.slice SA k scap),(50,.int .i64 ((k:Nat):Int)),(51,.int .i64 ((j:Nat):Int)),(52,.bool false)] wc rfl ⟨rfl,rfl,rfl,rfl,rfl,rfl,rfl,rfl,rfl,rfl,rfl,rfl,rfl,rfl,rfl,rfl,rfl,rfl,rfl,rfl,rfl,rfl,rfl,rfl,rfl,rfl,rfl,rfl,rfl,rfl,rfl,rfl,rfl,rfl,rfl,rfl,rfl,rfl,rfl,rfl,rfl,rfl,rfl,rfl,trivial⟩ ?_
  have blk91:=l_LM.block
  have blk92:=l_someg370none.block
  refine cw_seq (cw_seq ?_)
  by_cases hc0:c0<n*n
  · 
   by_cases hv0:vs.getD c0 0=0
   · 
    refine cw_region (mv 2 rfl (wl_cmp rfl rfl rfl true (cb_lt_t (a:=c0) (b:=n*n) rfl rfl (by omega)) (by decide) (mv 3 rfl ?_)))
    obtain⟨pz93,sz93,Bz93,nz93,cz93,hpz93,ldz93,hKz93,ez93⟩:=(l_someg370none).at (i:=c0) (by omega)
    have zz93:=ez93.zr
    have Lz93:ln (vs.getD c0 0)≤68719476736:=zz93.ln_le hKz93
    refine wl_idx rfl rfl rfl elemI aggInt.size c0 rfl (by omega) pz93 hpz93 (by decide) (wl_load rfl rfl (ldz93 _ (Ext.refl _) _ _ aggInt) (by decide) (cl (vs:= [.agg #[.bool sz93,.slice Bz93 nz93 cz93]]) hw1 (g_zint_Sign zz93.zi (zz93.le (lx_ Lz93 rfl))) rfl (by kernel_rfl) fun xr96 v94 r96 e95 hw2=>?_))
    obtain rfl:=r96
    refine wl_cmp rfl rfl rfl true (scmp_eq_t hv0) (by decide) (pu (v:= .bool true) rfl (by kernel_rfl) (ne_ (cw_true rfl (cw_skip (eo_then (cw_block (cw_region (mv 1 rfl (wl_ar rfl rfl rfl ((c0+1:Nat):Int) (ai_add (a:=c0) (b:=1) rfl rfl (by omega)) (by decide) (mv 1 rfl (wl_nil (eo_block_normal (eo_round (⟨v94,c0+1⟩:World×Nat) ⟨hw2,(by omega),(b_g1.ext e95),(b_g19.ext e95),(Nat.le_trans l_LMb e95.size),(l_LM.ext e95),l_LM_g1,l_LM_g19,(Nat.le_trans l_someg370noneb e95.size),(l_someg370none.ext e95),l_someg370none_g1,l_someg370none_g19,d_l_someg370none_l_LM,(hSowc.ext e95),(hRcwc.ext e95),(Nat.le_trans hlbrc e95.size),(fun c hc=>if h9:c<c0 then hz0 c h9 else (show c0=c by omega)▸hv0)⟩ (show (n*n)-(c0+1)<(n*n)-c0 by omega) rfl ⟨rfl,rfl,rfl,rfl,rfl,rfl,rfl,rfl,rfl,rfl,rfl,rfl,rfl,rfl,rfl,rfl,rfl,rfl,rfl,rfl,rfl,rfl,rfl,rfl,rfl,rfl,rfl,rfl,rfl,rfl,rfl,rfl,rfl,rfl,rfl,rfl,rfl,rfl,rfl,rfl,rfl,rfl,rfl,rfl,trivial⟩)))))))))))))
   · 
    refine cw_region (mv 2 rfl (wl_cmp rfl rfl rfl true (cb_lt_t (a:=c0) (b:=n*n) rfl rfl (by omega)) (by decide) (mv 3 rfl ?_)))
    obtain⟨pz97,sz97,Bz97,nz97,cz97,hpz97,ldz97,hKz97,ez97⟩:=(l_someg370none).at (i:=c0) (by omega)
    have zz97:=ez97.zr
    have Lz97:ln (vs.getD c0 0)≤68719476736:=zz97.ln_le hKz97
    refine wl_idx rfl rfl rfl elemI aggInt.size c0 rfl (by omega) pz97 hpz97 (by decide) (wl_load rfl rfl (ldz97 _ (Ext.refl _) _ _ aggInt) (by decide) (cl (vs:= [.agg #[.bool sz97,.slice Bz97 nz97 cz97]]) hw1 (g_zint_Sign zz97.zi (zz97.le (lx_ Lz97 rfl))) rfl (by kernel_rfl) fun xr100 v98 r100 e99 hw2=>?_))
    obtain rfl:=r100
    refine wl_cmp rfl rfl rfl false (scmp_eq_f hv0) (by decide) (pu (v:= .bool false) rfl (by kernel_rfl) (ne_ (cw_false rfl (cw_exit (eo_thenX (eo_loopX (eo_block_here (eo_then (cw_seq (cw_seq ?_))))))))))
    have hS9:Seen n X (hs++ [c0]) (k+1) (fun r=>if r=k then (fun c=>vs.getD c 0) else Z r):=hS.add (by omega) hL9 hc0 hv0 (fun r hr=>if_neg (by omega)) (if_pos rfl)
    have hknn:k<n:=Nat.lt_of_le_of_ne hi_k fun e=>by subst e;exact hS9.not hn hd
    refine cw_region (mv 2 rfl (wl_cmp rfl rfl rfl false (cb_eq_f (a:=c0) (b:=n*n) rfl rfl (by omega)) (by decide) (ne_ (cw_false rfl (cw_skip (eo_then (sr (mv 3 rfl (pu (v:= .agg #[.slice (some ⟨g37,0,none⟩) (((n*n)+n)+1) (((n*n)+n)+1),.int .i64 ((c0:Nat):Int)]) rfl (by kernel_rfl) (wl_bslice rfl rfl (by decide) (k:=1) (e:=63) [.slice (some ⟨g37,0,none⟩) (((n*n)+n)+1) (((n*n)+n)+1),.int .i64 ((c0:Nat):Int)] (fun _=>by kernel_rfl) fun g101 v102 nb=>?_))))))))))
    have hb104:=nb.bk
    have ge105:w.heap.size≤g101:=by rw [←nb.at_];exact hw2.size
    have q106:g19<g101:=by rw [←nb.at_];exact (b_g19.ext e99).lt
    have ne107:∀p:Addr,LM=some p→p.block≠g101:=fun p hp=>by have:=((l_LM.ext e99)).block p hp;have:=nb.at_;omega
    have ne108:∀p:Addr,(some ⟨g37,0,none⟩)=some p→p.block≠g101:=fun p hp=>by have:=((l_someg370none.ext e99)).block p hp;have:=nb.at_;omega
    have neS109:∀p:Addr,SA=some p→p.block≠g101:=fun p hp=>by have:=(((hSowc.ext e99)).block p hp).2;have:=nb.at_;omega
    have neR110:∀r,r<k→∀p:Addr,ra r=some p→p.block≠g101:=fun r hr p hp=>by have:=(((hRcwc.ext e99)).lt r hr p hp).2;have:=nb.at_;omega
    have e103:=nb.ext
    clear nb
    have hw3:=hw2.trans e103
    have lt117:=(hSowc.ext (e99.trans e103))
    refine wl_app rfl rfl rfl unRel infoRel rfl (by decide) (by decide) lt117 (Nat.le_trans (Nat.le_trans hlbrc e99.size) e103.size) [.slice (some ⟨g37,0,none⟩) (((n*n)+n)+1) (((n*n)+n)+1),.int .i64 ((c0:Nat):Int)] rfl (rel_news hb104) rfl (by omega) (by decide) fun SA111 sc112 v113 ho114 uo115 kp116=>?_
    have hw4:=uo115.ext hw3 (fun p hp=>by have:=(lt117.block p hp).1;omega)
    have ne118:=kept_ne kp116 (b_g1.ext (e99.trans e103)).lt neS33
    have ne119:=kept_ne kp116 (b_g19.ext (e99.trans e103)).lt neS35
    have ne120:=kept_ne kp116 hb104.lt neS109
    refine mv 1 rfl (ne_ (cw_region (lo aggMat ((b_g19.ext (e99.trans e103)).updO uo115 neS35) [.int .i64 ((n:Nat):Int),.int .i64 ((n:Nat):Int),.slice LM (n*n) lm] rfl rfl rfl (lo aggMat ((b_g1.ext (e99.trans e103)).updO uo115 neS33) [.int .i64 ((n:Nat):Int),.int .i64 ((n:Nat):Int),.slice Aa (n*n) capa] rfl rfl rfl ?_))))
    obtain⟨lb121,hlb121,hlelb121,hgl121,hq121_0,hq121_1,hq121_2⟩:∃lb,lb≤v113.heap.size∧v113.heap.size≤lb∧w.heap.size≤lb∧g1<lb∧g19<lb∧g101<lb:=⟨v113.heap.size,Nat.le_refl _,Nat.le_refl _,hw4.size,((b_g1.ext (e99.trans e103)).updO uo115 neS33).lt,((b_g19.ext (e99.trans e103)).updO uo115 neS35).lt,(hb104.updO uo115 neS109).lt⟩
    have hql122:∀p:Addr,LM=some p→p.block<lb121:=fun p hp=>Nat.lt_of_lt_of_le ((((l_LM.ext (e99.trans e103)).updQ lt117 uo115 (Lz.apartT lt117 (l_LM.ext (e99.trans e103)) (by decide)) (by decide))).block p hp).2 hlelb121
    have hql123:∀p:Addr,(some ⟨g37,0,none⟩)=some p→p.block<lb121:=fun p hp=>Nat.lt_of_lt_of_le ((((l_someg370none.ext (e99.trans e103)).updQ lt117 uo115 (Lz.apartT lt117 (l_someg370none.ext (e99.trans e103)) (by decide)) (by decide))).block p hp).2 hlelb121
    refine cl (vs:= [.agg #[.int .i64 ((n:Nat):Int),.int .i64 ((n:Nat):Int),.slice LM (n*n) lm],.agg #[.int .i64 ((n:Nat):Int),.int .i64 ((n:Nat):Int),.slice Aa (n*n) capa]]) hw4 (g_mat_Mul (r:=n) (m:=n) (c:=n) (X:=(mp n X k)) (Y:=X) (K:=17179869184) hw4.size hlb121 ((((l_LM.ext (e99.trans e103)).updQ lt117 uo115 (Lz.apartT lt117 (l_LM.ext (e99.trans e103)) (by decide)) (by decide)).zf0).mono (by decide)) (((show ZF w _ _ _ _ _ from⟨msa,hla,hma⟩).ext hw4).mono (by decide)) rfl rfl hn hn hn hms hX (fun a b ha hb=>Nat.le_trans (ln_mpB hn hXl (show k+1≤64 by omega) a b ha hb) (by decide))) rfl (by kernel_rfl) fun xr126 v124 r126 e125 hw5=>?_
    obtain⟨_,_,rfl,⟨lv128,rfl,⟨LA129,lc129,zs129,rfl,lz129,hz129⟩⟩,r127_1⟩:=r126
    have blk130:=lz129.block
    obtain rfl:=r127_1
    refine mv 1 rfl (pu (v:= .agg #[.int .i64 ((n:Nat):Int),.int .i64 ((n:Nat):Int),.slice LA129 (n*n) lc129]) rfl (by kernel_rfl) (pu (v:= .int .i64 0) rfl (by kernel_rfl) ?_))
    have hb132:=(((b_g19.ext (e99.trans e103)).updO uo115 neS35).ext e125)
    refine so aggMat hb132 [.int .i64 ((n:Nat):Int),.int .i64 ((n:Nat):Int),.slice LA129 (n*n) lc129] hw5 ge23 rfl rfl rfl rfl fun v131 hb133 u134 hw6=>(wl_nil (eo_block_normal (eo_then (cw_region (mv 1 rfl (wl_ar rfl rfl rfl ((k+1:Nat):Int) (ai_add (a:=k) (b:=1) rfl rfl (by omega)) (by decide) (mv 1 rfl (wl_nil ?_))))))))
    have l0136:=Lz.mono (b':=0) (lb':=w.heap.size) ((lz129.updT hb132 u134 (show∀p:Addr,LA129=some p→p.block≠g19 from fun p hp=>by have:=blk130 p hp;omega))) (Nat.le_refl _) (Nat.zero_le _) hgl121
    have hso137:=((ho114.ext e125).upd u134 ne119)
    rw [relv_add hhl] at hso137
    refine eo_round (⟨v131,k+1,LA129,lc129,zs129,SA111,sc112,(fun r=>if r=k then (some ⟨g37,0,none⟩) else ra r),(fun r=>if r=k then (((n*n)+n)+1) else rc r),(fun r=>if r=k then (fun c=>vs.getD c 0) else Z r),(hs++ [c0])⟩:World×Nat×Option Addr×Nat×List Int×Option Addr×Nat×(Nat→Option Addr)×(Nat→Nat)×Mx×List Nat) ⟨hw6,(by omega),((((b_g1.ext (e99.trans e103)).updO uo115 neS33).ext e125).updN u134 (by omega)),hb133,hw6.size,l0136,(show∀p:Addr,LA129=some p→p.block≠g1 from fun p hp=>by have:=blk130 p hp;omega),(show∀p:Addr,LA129=some p→p.block≠g19 from fun p hp=>by have:=blk130 p hp;omega),hso137,((((((hRcwc.ext (e99.trans e103)).updQ lt117 uo115 (Rcs.apartT lt117 (hRcwc.ext (e99.trans e103)) (by decide)) (by decide)).ext e125).updT hb132 u134 neR36)).add (Lz.mono (((((l_someg370none.ext (e99.trans e103)).updQ lt117 uo115 (Lz.apartT lt117 (l_someg370none.ext (e99.trans e103)) (by decide)) (by decide)).ext e125).updT hb132 u134 l_someg370none_g19)) (Nat.le_refl _) (Nat.le_refl _) hlrg37) neR45),(Nat.le_trans (Nat.le_trans (Nat.le_trans (Nat.le_trans (Nat.le_trans hlbrc e99.size) e103.size) uo115.size) e125.size) u134.by_.size),(show En n n (mp n X (k+1)) zs129 from hz129),hS9⟩ (show n-(k+1)<n-k by omega) rfl ⟨rfl,rfl,rfl,rfl,rfl,rfl,rfl,rfl,rfl,rfl,rfl,rfl,rfl,rfl,rfl,rfl,rfl,rfl,rfl,rfl,rfl,rfl,rfl,rfl,trivial⟩
  · 
   refine cw_region (mv 2 rfl (wl_cmp rfl rfl rfl false (cb_lt_f (a:=c0) (b:=n*n) rfl rfl (by omega)) (by decide) (mv 7 rfl (pu (v:= .bool false) rfl (by kernel_rfl) (ne_ (cw_false rfl (cw_exit (eo_thenX (eo_loopX (eo_block_here (eo_then (cw_seq (cw_seq ?_)))))))))))))
   have hv9:∀c,c<n*n→(fun c=>vs.getD c 0) c=0:=fun c hc=>hz0 c (by omega)
   obtain⟨hrt9,hld⟩:=hS.lead hi_k hn hd hL9 hv9
   have hvl:vs.length=n*n+n+1:=l_someg370none.len
   have hvb:=hL9.lnD hXl hn (Nat.le_refl k) hi_k hvl
   refine cw_region (mv 2 rfl (wl_cmp rfl rfl rfl true (cb_eq_t (a:=c0) (b:=n*n) rfl rfl (by omega)) (by decide) (ne_ (cw_true rfl (sr (mv 1 rfl (wl_ar rfl rfl rfl ((k+1:Nat):Int) (ai_add (a:=k) (b:=1) rfl rfl (by omega)) (by decide) (wl_makeL (k:=k+1) none 68719476736 w.heap.size rfl rfl rfl (by omega) (by decide) fun g138 v139 hg140 lz141 e142=>?_))))))))
   have q143:g1<g138:=by rw [←hg140];exact b_g1.lt
   have q144:g19<g138:=by rw [←hg140];exact b_g19.lt
   have q145:∀p:Addr,LM=some p→p.block<g138:=fun p hp=>by have:=(l_LM).block p hp;omega
   have q146:∀p:Addr,(some ⟨g37,0,none⟩)=some p→p.block<g138:=fun p hp=>by have:=(l_someg370none).block p hp;omega
   have hlbg138:g138≤v139.heap.size:=by have:=(lz141.block _ rfl).2;exact Nat.le_of_lt this
   have hglg138:w.heap.size≤g138:=by rw [←hg140];exact hw1.size
   have neR147:∀r,r<k→∀p q:Addr,ra r=some p→(some ⟨g138,0,none⟩:Option Addr)=some q→p.block≠q.block:=fun r hr p q hp hq=>by have h8:=((hRcwc).lt r hr p hp).2;have h9:q.block=g138:=(by cases hq;rfl);omega
   have hlrg138:lbr≤g138:=by rw [←hg140];exact hlbrc
   clear hg140
   have hw2:=hw1.trans e142
   have blk148:=lz141.block
   refine mv 1 rfl (ne_ (cw_seq (sr (mv 1 rfl (pu (v:= .int .i64 (((k+1):Nat):Int)) rfl (by kernel_rfl) (mv 1 rfl (ne_ (cw_block ?_))))))))
   have l0149:=Lz.mono (b':=w.heap.size) (lb':=w.heap.size) (lz141) (Nat.le_refl _) (Nat.le_refl _) hglg138
   refine cw_loop (T:=World×Nat×List Int) (fun⟨wi,i,ps⟩=> [(0,.agg #[.int .i64 ((n:Nat):Int),.int .i64 ((n:Nat):Int),.slice Aa (n*n) capa]),(1,.pointer (some ⟨g1,0,none⟩)),(2,.slice none 0 0),(3,.int .i64 0),(4,.int .i64 0),(5,.int .i64 ((n:Nat):Int)),(6,.int .i64 (((n*n):Nat):Int)),(7,.slice SA k scap),(8,.pointer (some ⟨g19,0,none⟩)),(10,.int .i64 ((k:Nat):Int)),(11,.slice (some ⟨g37,0,none⟩) (((n*n)+n)+1) (((n*n)+n)+1)),(14,.int .i64 ((c0:Nat):Int)),(15,.slice (some ⟨g138,0,none⟩) (k+1) (k+1)),(17,.agg #[.int .i64 ((n:Nat):Int),.int .i64 ((n:Nat):Int),.slice Aa (n*n) capa]),(18,.int .i64 0),(19,.int .i64 0),(20,.bool false),(22,.pointer (some ⟨g1,0,none⟩)),(23,.int .i64 ((n:Nat):Int)),(24,.pointer (some ⟨g1,2,none⟩)),(25,.slice Aa (n*n) capa),(26,.int .i64 (((n*n):Nat):Int)),(27,.tuple #[.agg #[.int .i64 ((n:Nat):Int),.int .i64 ((n:Nat):Int),.slice LA17 (n*n) lc17],I0]),(28,.int .i64 ((n:Nat):Int)),(29,.tuple #[.agg #[.int .i64 ((n:Nat):Int),.int .i64 ((n:Nat):Int),.slice LA17 (n*n) lc17],I0]),(30,.agg #[.int .i64 ((n:Nat):Int),.int .i64 ((n:Nat):Int),.slice LA17 (n*n) lc17]),(31,.int .i64 0),(34,.int .i64 (((n*n):Nat):Int)),(35,.int .i64 ((n:Nat):Int)),(36,.int .i64 (((n*n)+n:Nat):Int)),(37,.int .i64 ((((n*n)+n)+1:Nat):Int)),(38,.slice (some ⟨g37,0,none⟩) (((n*n)+n)+1) (((n*n)+n)+1)),(39,.slice (some ⟨g37,0,none⟩) (((n*n)+n)+1) (((n*n)+n)+1)),(40,.pointer (some ⟨g19,2,none⟩)),(41,.slice LM (n*n) lm),(43,.slice (some ⟨g37,0,none⟩) (((n*n)+n)+1) (((n*n)+n)+1)),(44,.int .i64 (((n*n):Nat):Int)),(45,.int .i64 ((k:Nat):Int)),(46,.int .i64 (((n*n)+k:Nat):Int)),(47,.agg #[.bool s56,.slice A56 n56 c56]),(48,.pointer (some pz57)),(49,.slice SA k scap),(50,.int .i64 ((k:Nat):Int)),(51,.int .i64 ((j:Nat):Int)),(52,.bool false),(59,.int .i64 ((c0:Nat):Int)),(60,.int .i64 (((n*n):Nat):Int)),(61,.bool false),(62,.bool false),(69,.bool false),(72,.int .i64 ((c0:Nat):Int)),(73,.int .i64 (((n*n):Nat):Int)),(74,.bool true),(75,.int .i64 ((k:Nat):Int)),(76,.int .i64 ((k+1:Nat):Int)),(77,.slice (some ⟨g138,0,none⟩) (k+1) (k+1)),(78,.slice (some ⟨g138,0,none⟩) (k+1) (k+1)),(79,.int .i64 (((k+1):Nat):Int)),(80,.int .i64 ((i:Nat):Int))]) (fun⟨wi,i,ps⟩=>wi) (fun⟨wi,i,ps⟩=>(Ext w wi)∧(i≤k+1)∧(Bk wi g1 24 [.int .i64 ((n:Nat):Int),.int .i64 ((n:Nat):Int),.slice Aa (n*n) capa])∧(Bk wi g19 24 [.int .i64 ((n:Nat):Int),.int .i64 ((n:Nat):Int),.slice LM (n*n) lm])∧(w.heap.size≤wi.heap.size)∧(Lz none 17179869184 0 wi w.heap.size LM (n*n) lm ms)∧(∀p:Addr,LM=some p→p.block≠g1)∧(∀p:Addr,LM=some p→p.block≠g19)∧(g37≤wi.heap.size)∧(Lz none 68719476736 0 wi g37 (some ⟨g37,0,none⟩) (n*n+n+1) (((n*n)+n)+1) vs)∧(∀p:Addr,(some ⟨g37,0,none⟩)=some p→p.block≠g1)∧(∀p:Addr,(some ⟨g37,0,none⟩)=some p→p.block≠g19)∧(w.heap.size≤wi.heap.size)∧(Lz none 68719476736 w.heap.size wi w.heap.size (some ⟨g138,0,none⟩) (k+1) (k+1) ps)∧(∀p:Addr,(some ⟨g138,0,none⟩)=some p→p.block≠g1)∧(∀p:Addr,(some ⟨g138,0,none⟩)=some p→p.block≠g19)∧(∀p q:Addr,(some ⟨g37,0,none⟩)=some p→LM=some q→p.block≠q.block)∧(∀p q:Addr,(some ⟨g138,0,none⟩)=some p→LM=some q→p.block≠q.block)∧(∀p q:Addr,(some ⟨g138,0,none⟩)=some p→(some ⟨g37,0,none⟩)=some q→p.block≠q.block)∧(Own wi lbr 63 2 SA k scap (relv ra rc (fun i=>hs.getD i 0) (n*n+n+1) k))∧(Rcs 68719476736 lbr k (n*n+n+1) ra rc wi Z)∧(∀c,c<i→ps.getD c 0=(vs.getD (n*n+c) 0).tdiv (vs.getD (n*n+k) 0))) (fun⟨wi,i,ps⟩=>(k+1)-i)
    (⟨v139,0,List.replicate (k+1) 0⟩:World×Nat×List Int) ⟨hw2,(by omega),(b_g1.ext e142),(b_g19.ext e142),(Nat.le_trans l_LMb e142.size),(l_LM.ext e142),l_LM_g1,l_LM_g19,(Nat.le_trans l_someg370noneb e142.size),(l_someg370none.ext e142),l_someg370none_g1,l_someg370none_g19,hw2.size,l0149,(show∀p:Addr,(some ⟨g138,0,none⟩)=some p→p.block≠g1 from fun p hp=>by have:=blk148 p hp;omega),(show∀p:Addr,(some ⟨g138,0,none⟩)=some p→p.block≠g19 from fun p hp=>by have:=blk148 p hp;omega),d_l_someg370none_l_LM,(show∀p q:Addr,(some ⟨g138,0,none⟩)=some p→LM=some q→p.block≠q.block from fun p q hp hq=>by have h8:=q145 q hq;have h9:p.block=g138:=(by cases hp;rfl);omega),(show∀p q:Addr,(some ⟨g138,0,none⟩)=some p→(some ⟨g37,0,none⟩)=some q→p.block≠q.block from fun p q hp hq=>by have h8:=q146 q hq;have h9:p.block=g138:=(by cases hp;rfl);omega),(hSowc.ext e142),(hRcwc.ext e142),(fun c hc=>absurd hc (Nat.not_lt_zero c))⟩ rfl ⟨rfl,rfl,rfl,rfl,rfl,rfl,rfl,rfl,rfl,rfl,rfl,rfl,rfl,rfl,rfl,rfl,rfl,rfl,rfl,rfl,rfl,rfl,rfl,rfl,rfl,rfl,rfl,rfl,rfl,rfl,rfl,rfl,rfl,rfl,rfl,rfl,rfl,rfl,rfl,rfl,rfl,rfl,rfl,rfl,rfl,rfl,rfl,rfl,rfl,rfl,rfl,rfl,rfl,rfl,rfl,rfl,rfl,rfl,rfl,trivial⟩ ?_
   rintro⟨wi,i,ps⟩ ⟨hw1,hi_i,b_g1,b_g19,l_LMb,l_LM,l_LM_g1,l_LM_g19,l_someg370noneb,l_someg370none,l_someg370none_g1,l_someg370none_g19,l_someg1380noneb,l_someg1380none,l_someg1380none_g1,l_someg1380none_g19,d_l_someg370none_l_LM,d_l_someg1380none_l_LM,d_l_someg1380none_l_someg370none,hSowi,hRcwi,hps⟩
   refine cw_re [(0,.agg #[.int .i64 ((n:Nat):Int),.int .i64 ((n:Nat):Int),.slice Aa (n*n) capa]),(1,.pointer (some ⟨g1,0,none⟩)),(2,.slice none 0 0),(3,.int .i64 0),(4,.int .i64 0),(5,.int .i64 ((n:Nat):Int)),(6,.int .i64 (((n*n):Nat):Int)),(7,.slice SA k scap),(8,.pointer (some ⟨g19,0,none⟩)),(10,.int .i64 ((k:Nat):Int)),(11,.slice (some ⟨g37,0,none⟩) (((n*n)+n)+1) (((n*n)+n)+1)),(14,.int .i64 ((c0:Nat):Int)),(15,.slice (some ⟨g138,0,none⟩) (k+1) (k+1)),(17,.agg #[.int .i64 ((n:Nat):Int),.int .i64 ((n:Nat):Int),.slice Aa (n*n) capa]),(18,.int .i64 0),(19,.int .i64 0),(20,.bool false),(22,.pointer (some ⟨g1,0,none⟩)),(23,.int .i64 ((n:Nat):Int)),(24,.pointer (some ⟨g1,2,none⟩)),(25,.slice Aa (n*n) capa),(26,.int .i64 (((n*n):Nat):Int)),(27,.tuple #[.agg #[.int .i64 ((n:Nat):Int),.int .i64 ((n:Nat):Int),.slice LA17 (n*n) lc17],I0]),(28,.int .i64 ((n:Nat):Int)),(29,.tuple #[.agg #[.int .i64 ((n:Nat):Int),.int .i64 ((n:Nat):Int),.slice LA17 (n*n) lc17],I0]),(30,.agg #[.int .i64 ((n:Nat):Int),.int .i64 ((n:Nat):Int),.slice LA17 (n*n) lc17]),(31,.int .i64 0),(34,.int .i64 (((n*n):Nat):Int)),(35,.int .i64 ((n:Nat):Int)),(36,.int .i64 (((n*n)+n:Nat):Int)),(37,.int .i64 ((((n*n)+n)+1:Nat):Int)),(38,.slice (some ⟨g37,0,none⟩) (((n*n)+n)+1) (((n*n)+n)+1)),(39,.slice (some ⟨g37,0,none⟩) (((n*n)+n)+1) (((n*n)+n)+1)),(40,.pointer (some ⟨g19,2,none⟩)),(41,.slice LM (n*n) lm),(43,.slice (some ⟨g37,0,none⟩) (((n*n)+n)+1) (((n*n)+n)+1)),(44,.int .i64 (((n*n):Nat):Int)),(45,.int .i64 ((k:Nat):Int)),(46,.int .i64 (((n*n)+k:Nat):Int)),(47,.agg #[.bool s56,.slice A56 n56 c56]),(48,.pointer (some pz57)),(49,.slice SA k scap),(50,.int .i64 ((k:Nat):Int)),(51,.int .i64 ((j:Nat):Int)),(52,.bool false),(59,.int .i64 ((c0:Nat):Int)),(60,.int .i64 (((n*n):Nat):Int)),(61,.bool false),(62,.bool false),(69,.bool false),(72,.int .i64 ((c0:Nat):Int)),(73,.int .i64 (((n*n):Nat):Int)),(74,.bool true),(75,.int .i64 ((k:Nat):Int)),(76,.int .i64 ((k+1:Nat):Int)),(77,.slice (some ⟨g138,0,none⟩) (k+1) (k+1)),(78,.slice (some ⟨g138,0,none⟩) (k+1) (k+1)),(79,.int .i64 (((k+1):Nat):Int)),(80,.int .i64 ((i:Nat):Int))] wi rfl ⟨rfl,rfl,rfl,rfl,rfl,rfl,rfl,rfl,rfl,rfl,rfl,rfl,rfl,rfl,rfl,rfl,rfl,rfl,rfl,rfl,rfl,rfl,rfl,rfl,rfl,rfl,rfl,rfl,rfl,rfl,rfl,rfl,rfl,rfl,rfl,rfl,rfl,rfl,rfl,rfl,rfl,rfl,rfl,rfl,rfl,rfl,rfl,rfl,rfl,rfl,rfl,rfl,rfl,rfl,rfl,rfl,rfl,rfl,rfl,trivial⟩ ?_
   have blk150:=l_LM.block
   have blk151:=l_someg370none.block
   have blk152:=l_someg1380none.block
   refine cw_seq ?_
   by_cases hik:i<k+1
   · 
    refine cw_region (wl_cmp rfl rfl rfl true (cb_lt_t (a:=i) (b:=k+1) rfl rfl (by omega)) (by decide) (ne_ (cw_seq (cw_true rfl (cw_skip (eo_then (cw_seq (cw_block (sr (mv 2 rfl (ne_ ?_)))))))))))
    obtain⟨pz153,sz153,Bz153,nz153,cz153,hpz153,ldz153,hKz153,ez153⟩:=(l_someg370none).at (i:=(n*n)+i) (by omega)
    have zz153:=ez153.zr
    have Lz153:ln (vs.getD ((n*n)+i) 0)≤4362346691:=(hvb _)
    obtain⟨pz154,sz154,Bz154,nz154,cz154,hpz154,ldz154,hKz154,ez154⟩:=(l_someg370none).at (i:=(n*n)+k) (by omega)
    have zz154:=ez154.zr
    have Lz154:ln (vs.getD ((n*n)+k) 0)≤4362346691:=(hvb _)
    have L155:ln ((vs.getD ((n*n)+i) 0).tdiv (vs.getD ((n*n)+k) 0))≤4362346691:=Nat.le_trans (ln_tdiv _ _) Lz153
    obtain⟨pz161,sz161,Bz161,nz161,cz161,hpz161,ldz161,hKz161,ez161⟩:=(l_someg1380none).at (i:=i) (by omega)
    have zz161:=ez161.zr
    have Lz161:ln (ps.getD i 0)≤68719476736:=zz161.ln_le hKz161
    refine cw_draw mix 19 [16,17] [Is (.slice (some ⟨g138,0,none⟩) (k+1) (k+1)),Is (.int .i64 ((i:Nat):Int)),Is (.slice (some ⟨g37,0,none⟩) (((n*n)+n)+1) (((n*n)+n)+1)),Is (.int .i64 (((n*n):Nat):Int)),Is (.int .i64 ((i:Nat):Int)),Is (.int .i64 (((n*n)+i:Nat):Int)),Is (.pointer (some pz153)),Is (.agg #[.bool sz153,.slice Bz153 nz153 cz153]),Is (.slice (some ⟨g37,0,none⟩) (((n*n)+n)+1) (((n*n)+n)+1)),Is (.int .i64 (((n*n):Nat):Int)),Is (.int .i64 ((k:Nat):Int)),Is (.int .i64 (((n*n)+k:Nat):Int)),Is (.pointer (some pz154)),Is (.agg #[.bool sz154,.slice Bz154 nz154 cz154]),T2 (ZR w.heap.size ((vs.getD ((n*n)+i) 0).tdiv (vs.getD ((n*n)+k) 0))) (Is (.int .i64 0)),T2 (ZR w.heap.size ((vs.getD ((n*n)+i) 0).tdiv (vs.getD ((n*n)+k) 0))) (Is (.int .i64 0)),ZR w.heap.size ((vs.getD ((n*n)+i) 0).tdiv (vs.getD ((n*n)+k) 0)),Is (.int .i64 0),Is (.pointer (some pz161))] [[],[],[],[],[],[3,4],[2,5],[6],[],[],[],[9,10],[8,11],[12],[7,13],[14],[15],[15],[0,1]] [[],[],[],[],[],[3,4],[2,3,4,5],[2,3,4,5,6],[],[],[],[9,10],[8,9,10,11],[8,9,10,11,12],[2,3,4,5,6,7,8,9,10,11,12,13],[2,3,4,5,6,7,8,9,10,11,12,13,14],[2,3,4,5,6,7,8,9,10,11,12,13,14,15],[2,3,4,5,6,7,8,9,10,11,12,13,14,15],[0,1,2,3,4,5,6,7,8,9,10,11,12,13,14,15,16],[0,1,2,3,4,5,6,7,8,9,10,11,12,13,14,15,16,18]] rfl
     (obs_cons rfl rfl (hob rfl rfl ?_) (obs_cons rfl rfl (hob rfl rfl ?_) (obs_cons rfl rfl (hob rfl rfl ?_) (obs_cons rfl rfl (hob rfl rfl ?_) (obs_cons rfl rfl (hob rfl rfl ?_) (obs_cons rfl rfl (hob rfl rfl ?_) (obs_cons rfl rfl (hob rfl rfl ?_) (obs_cons rfl rfl (hob rfl rfl ?_) (obs_cons rfl rfl (hob rfl rfl ?_) (obs_cons rfl rfl (hob rfl rfl ?_) (obs_cons rfl rfl (hob rfl rfl ?_) (obs_cons rfl rfl (hob rfl rfl ?_) (obs_cons rfl rfl (hob rfl rfl ?_) (obs_cons rfl rfl (hob rfl rfl ?_) (obs_cons rfl rfl (hob rfl rfl ?_) (obs_cons rfl rfl (hob rfl rfl ?_) (obs_float rfl rfl (fob rfl ?_) (obs_float rfl rfl (fob rfl ?_) (obs_cons rfl rfl (hob rfl rfl ?_) obs_nil))))))))))))))))))) ?_
    · 
     exact fun _ _=>deps_nil (mv 1 rfl (pi_done rfl (Ext.refl _) rfl))
    · 
     exact fun _ _=>deps_nil (mv 1 rfl (pi_done rfl (Ext.refl _) rfl))
    · 
     exact fun _ _=>deps_nil (mv 1 rfl (pi_done rfl (Ext.refl _) rfl))
    · 
     exact fun _ _=>deps_nil (mv 1 rfl (pi_done rfl (Ext.refl _) rfl))
    · 
     exact fun _ _=>deps_nil (mv 1 rfl (pi_done rfl (Ext.refl _) rfl))
    · 
     exact fun _ _=>dk rfl rfl (dk rfl rfl (deps_nil (wl_ar rfl rfl rfl (((n*n)+i:Nat):Int) (ai_add (a:=n*n) (b:=i) rfl rfl (by omega)) (by decide) (pi_done rfl (Ext.refl _) rfl))))
    · 
     exact fun _ _=>dk rfl rfl (dk rfl rfl (deps_nil (wl_idx rfl rfl rfl elemI aggInt.size ((n*n)+i) rfl (by omega) pz153 hpz153 (by decide) (pi_done rfl (Ext.refl _) rfl))))
    · 
     exact fun _ e197=>dk rfl rfl (deps_nil (wl_load rfl rfl (ldz153 _ e197 _ _ aggInt) (by decide) (pi_done rfl (Ext.refl _) rfl)))
    · 
     exact fun _ _=>deps_nil (mv 1 rfl (pi_done rfl (Ext.refl _) rfl))
    · 
     exact fun _ _=>deps_nil (mv 1 rfl (pi_done rfl (Ext.refl _) rfl))
    · 
     exact fun _ _=>deps_nil (mv 1 rfl (pi_done rfl (Ext.refl _) rfl))
    · 
     exact fun _ _=>dk rfl rfl (dk rfl rfl (deps_nil (wl_ar rfl rfl rfl (((n*n)+k:Nat):Int) (ai_add (a:=n*n) (b:=k) rfl rfl (by omega)) (by decide) (pi_done rfl (Ext.refl _) rfl))))
    · 
     exact fun _ _=>dk rfl rfl (dk rfl rfl (deps_nil (wl_idx rfl rfl rfl elemI aggInt.size ((n*n)+k) rfl (by omega) pz154 hpz154 (by decide) (pi_done rfl (Ext.refl _) rfl))))
    · 
     exact fun _ e234=>dk rfl rfl (deps_nil (wl_load rfl rfl (ldz154 _ e234 _ _ aggInt) (by decide) (pi_done rfl (Ext.refl _) rfl)))
    · 
     intro v240 e241
     have hw2:=hw1.trans e241
     refine dk rfl rfl (dk rfl rfl (deps_nil ?_))
     have L252:ln ((vs.getD ((n*n)+i) 0).tdiv (vs.getD ((n*n)+k) 0))≤4362346691:=Nat.le_trans (ln_tdiv _ _) Lz153
     refine cl (vs:= [.agg #[.bool sz153,.slice Bz153 nz153 cz153],.agg #[.bool sz154,.slice Bz154 nz154 cz154]]) hw2 (g_zint_Exact hw2.size (zz153.ext e241).zi (zz153.le (lx_ Lz153 rfl)) (zz154.ext e241).zi (zz154.le (lx_ Lz154 rfl)) (by rcases hld with e | e <;> (rw [e];decide)) (by rcases hld with e | e <;> (rw [e];simp))) rfl (by kernel_rfl) fun xr255 v253 r255 e254 hw3=>?_
     obtain⟨_,_,rfl,⟨s257,A257,n257,c257,rfl,z257⟩,rfl⟩:=r255
     exact pi_done rfl e254 ⟨_,_,rfl,⟨_,_,_,_,rfl,z257⟩,rfl⟩
    · 
     intro v258 e259
     refine deps_cons rfl rfl fun x260 y261 h262 e263 f264=>?_
     obtain⟨_,_,rfl,⟨s266,A266,n266,c266,rfl,z266⟩,rfl⟩:=h262
     have z266:=z266.ext f264
     refine deps_nil (mv 1 rfl ?_)
     exact pi_done rfl (Ext.refl _) ⟨_,_,rfl,⟨_,_,_,_,rfl,z266⟩,rfl⟩
    · 
     intro v267 e268
     refine deps_cons rfl rfl fun x269 y270 h271 e272 f273=>?_
     obtain⟨_,_,rfl,⟨s275,A275,n275,c275,rfl,z275⟩,rfl⟩:=h271
     have z275:=z275.ext f273
     refine deps_nil ?_
     exact⟨.agg #[.bool s275,.slice A275 n275 c275],rfl,rfl,fun _=>by kernel_rfl,⟨_,_,_,_,rfl,z275⟩⟩
    · 
     intro v276 e277
     refine deps_cons rfl rfl fun x278 y279 h280 e281 f282=>?_
     obtain⟨_,_,rfl,⟨s284,A284,n284,c284,rfl,z284⟩,rfl⟩:=h280
     have z284:=z284.ext f282
     refine deps_nil ?_
     exact⟨.int .i64 0,rfl,rfl,fun _=>by kernel_rfl,rfl⟩
    · 
     exact fun _ _=>dk rfl rfl (dk rfl rfl (deps_nil (wl_idx rfl rfl rfl elemI aggInt.size i rfl (by omega) pz161 hpz161 (by decide) (pi_done rfl (Ext.refl _) rfl))))
    · 
     intro v297 e298
     have hw2:=hw1.trans e298
     refine dk rfl rfl (dk rfl rfl (dk rfl rfl (dk rfl rfl (dk rfl rfl (dk rfl rfl (dk rfl rfl (dk rfl rfl (dk rfl rfl (dk rfl rfl (dk rfl rfl (dk rfl rfl (dk rfl rfl (dk rfl rfl ?_)))))))))))))
     refine deps_cons rfl rfl fun x369 y370 h371 e372 f373=>?_
     obtain⟨_,_,rfl,⟨s375,A375,n375,c375,rfl,z375⟩,rfl⟩:=h371
     have z375:=z375.ext f373
     refine deps_cons rfl rfl fun x376 y377 h378 e379 f380=>?_
     obtain⟨_,_,rfl,⟨s382,A382,n382,c382,rfl,z382⟩,rfl⟩:=h378
     have z382:=z382.ext f380
     refine deps_cons rfl rfl fun x383 y384 h385 e386 f387=>?_
     obtain⟨s388,A388,n388,c388,rfl,z388⟩:=h385
     have z388:=z388.ext f387
     refine dk rfl rfl (dk rfl rfl (deps_nil ?_))
     have lt404:=(l_someg1380none.ext e298)
     obtain⟨us402,own403⟩:=lt404.own
     refine wl_setI (e:=⟨s388,A388,n388,c388⟩) (z:=(vs.getD ((n*n)+i) 0).tdiv (vs.getD ((n*n)+k) 0)) rfl rfl rfl hpz161 (by omega) lt404 (Or.inl z388) (z388.le (lx_ L155 rfl)) fun v399 lz400 uo401=>?_
     have hw3:=uo401.ext hw2 (fun p hp=>by have:=blk152 p hp;omega)
     have hlblz400:w.heap.size≤v399.heap.size:=Nat.le_trans (Nat.le_trans l_someg1380noneb e298.size) uo401.size
     refine wl_nil (eo_np (eo_block_normal (eo_then (cw_region (wl_ar rfl rfl rfl ((i+1:Nat):Int) (ai_add (a:=i) (b:=1) rfl rfl (by omega)) (by decide) (mv 1 rfl (wl_nil (eo_round (⟨v399,i+1,ps.set i ((vs.getD ((n*n)+i) 0).tdiv (vs.getD ((n*n)+k) 0))⟩:World×Nat×List Int) ⟨hw3,(by omega),((b_g1.ext e298).updO uo401 l_someg1380none_g1),((b_g19.ext e298).updO uo401 l_someg1380none_g19),(Nat.le_trans (Nat.le_trans l_LMb e298.size) uo401.size),((l_LM.ext e298).updO own403 uo401 d_l_someg1380none_l_LM),l_LM_g1,l_LM_g19,(Nat.le_trans (Nat.le_trans l_someg370noneb e298.size) uo401.size),((l_someg370none.ext e298).updO own403 uo401 d_l_someg1380none_l_someg370none),l_someg370none_g1,l_someg370none_g19,hlblz400,lz400,l_someg1380none_g1,l_someg1380none_g19,d_l_someg370none_l_LM,d_l_someg1380none_l_LM,d_l_someg1380none_l_someg370none,((hSowi.ext e298).updO uo401 (fun p q hp hq e=>Own.apartT (hSowi.ext e298) own403 (by decide) q p hq hp e.symm)),((hRcwi.ext e298).updQ own403 uo401 (fun r hr p q hp hq e=>neR147 r hr q p hq hp e.symm)),(fun c hc=>by rw [getD_set (by rw [l_someg1380none.len];exact hik)];by_cases e:c=i;(· subst e;rw [if_pos rfl]);(· rw [if_neg e];exact hps c (by omega)))⟩ (show (k+1)-(i+1)<(k+1)-i by omega) rfl ⟨rfl,rfl,rfl,rfl,rfl,rfl,rfl,rfl,rfl,rfl,rfl,rfl,rfl,rfl,rfl,rfl,rfl,rfl,rfl,rfl,rfl,rfl,rfl,rfl,rfl,rfl,rfl,rfl,rfl,rfl,rfl,rfl,rfl,rfl,rfl,rfl,rfl,rfl,rfl,rfl,rfl,rfl,rfl,rfl,rfl,rfl,rfl,rfl,rfl,rfl,rfl,rfl,rfl,rfl,rfl,rfl,rfl,rfl,rfl,trivial⟩))))))))
   · 
    refine cw_region (wl_cmp rfl rfl rfl false (cb_lt_f (a:=i) (b:=k+1) rfl rfl (by omega)) (by decide) (ne_ (cw_seq (cw_false rfl (cw_exit (eo_thenX (eo_loopX (eo_block_here (eo_then (sr (mv 3 rfl (ne_ (cw_ret ?_)))))))))))))
    refine eo_thenR (eo_block_ret (eo_thenR (eo_loopR (eo_block_ret (eo_ret [.slice (some ⟨g138,0,none⟩) (k+1) (k+1),I0] rfl ⟨rfl,rfl,trivial⟩ ?_)))))
    have hps9:∀c,c<k+1→ps.getD c 0=(vs.getD (n*n+c) 0).tdiv (vs.getD (n*n+k) 0):=(show i=k+1 by omega)▸hps
    have hpl9:=(l_someg1380none).len
    have hlp9:Lpo n X k ps:=hS.lpo hXl hi_k hn hd hL9 hv9 hpl9 fun c hc=>by rw [hps9 c (by omega)];exact Int.tdiv_mul_cancel (by rcases hld with e | e <;> (rw [e];simp))
    have hlb9:=fun c=>Nat.le_trans (hlp9.ln c) (LvB_le (show k≤64 by omega))
    exact⟨k,hi_k,_,rfl,⟨_,_,rfl,⟨_,_,_,rfl,(Lz.tight (l_someg1380none) hlb9).mono (Nat.le_refl _) hb hlb,hlp9⟩,rfl⟩,hw1⟩
theorem chl_at {n:Nat}{d:Nat→Int}{cs:List Int}(h:Chl n d cs){l:Nat}(hl:l≤n):cs.getD l 0=d (n-l):=by
 have:=h (n-l) (by omega)
 rwa [show n-(n-l)=l by omega] at this
theorem chl_ln {n:Nat}{X:Mx}{d:Nat→Int}{cs:List Int}(h:Chl n d cs) (hd:Chp n X d) (hn:n≤64) (hX:∀i j,i<n→j<n→ln (X i j)≤1048576) (hl:cs.length=n+1) (i:Nat):ln (cs.getD i 0)≤134217728:=by
 rcases Nat.lt_or_ge n i with hi | hi
 ·rw [getD_ge (by omega),ln_zero];exact Nat.zero_le _
 ·rw [chl_at h hi];exact (ln_mkB hd.one hd.nw hn hX (by omega)).1
theorem chl_rt {n:Nat}{X:Mx}{d:Nat→Int}{cs:List Int}(h:Chl n d cs) (hd:Chp n X d):Rt n X (n+1) fun i=>cs.getD i 0:=fun i j hi hj=>by
 refine (sm_congr fun l hl=>?_).trans (hd.rt i j hi hj)
 simp only;rw [chl_at h (by omega)]
theorem chl_one {n:Nat}{X:Mx}{d:Nat→Int}{cs:List Int}(h:Chl n d cs) (hd:Chp n X d):cs.getD n 0=1:=by rw [chl_at h (Nat.le_refl _),Nat.sub_self,hd.one]
theorem chl_tr {n:Nat}{X:Mx}{d:Nat→Int}{cs:List Int}(h:Chl n d cs) (hd:Chp n X d) (hn:0<n):cs.getD (n-1) 0= -tr n X:=by
 rw [chl_at h (by omega),show n-(n-1)=1 by omega]
 have h1:=hd.nw 1
 have h2:tp n X 1=tr n X:=sm_congr fun i hi=>mp_1 X i hi
 have h3:cv d (tp n X) 1=d 0*tp n X 1+d 1*tp n X 0:=rfl
 have h4:tp n X 0=0:=rfl
 rw [h3,h2,h4,hd.one] at h1
 omega
theorem hon_rt {n s:Nat}{X:Mx}{p:Nat→Int}(h:Rt n X s p){i j:Nat}(hi:i<n) (hj:j<n):hon n X p s 0 i j=0:=by
 unfold hon
 rw [Nat.sub_zero]
 exact (sm_congr fun l _=>by rw [Nat.zero_add]).trans (h i j hi hj)
theorem en_zero {n:Nat}{f:Mx}{zs:List Int}(h:En n n f zs) (h0:∀i j,i<n→j<n→f i j=0) (i:Nat) (hi:i<n*n):zs.getD i 0=(List.replicate (n*n) (0:Int)).getD i 0:=by
 have hn:0<n:=Nat.pos_of_ne_zero fun e=>by subst e;omega
 have h1:=h (i/n) (i%n) (Nat.div_lt_of_lt_mul hi) (Nat.mod_lt _ hn)
 rw [Nat.mul_comm (i/n),Nat.div_add_mod] at h1
 rw [h1,h0 _ _ (Nat.div_lt_of_lt_mul hi) (Nat.mod_lt _ hn),List.getD_eq_getElem?_getD,List.getElem?_replicate,if_pos hi];rfl
theorem g_chp_DivMonicN {np M k:Nat}{w:World}{b lb:Nat}(hnp:np=M+k) (hb:b≤w.heap.size) (hlb:lb≤w.heap.size){capp capq lbp lbq B:Nat}{Ap Aq:Option Addr}{ps qs:List Int}(hlp:Lz none 17179869184 0 w lbp Ap np capp ps) (hlbp:lbp≤w.heap.size) (hlq:Lz none 8589934592 0 w lbq Aq (k+1) capq qs) (hlbq:lbq≤w.heap.size) (hk:k≤64) (hM1:1≤M) (hM:M≤65) (hq1:qs.getD k 0=1) (hp1:ps.getD (np-1) 0≠0) (hpl:∀i,ln (ps.getD i 0)≤134217728) (hql:∀i,ln (qs.getD i 0)≤B) (hBB:B≤8589934592) (hL:134217728+M*(B+1)≤68719476736) (hr:∀q r:Nat→Int,(∀i,r i=ps.getD i 0-sm M fun s=>q s*sh s (fun i=>qs.getD i 0) i)→(∀i,k≤i→i<M+k→r i=0)→∀i,i<k→r i=0):
  Calls Try.prog 16 #[.slice Ap np capp,.slice Aq (k+1) capq] w (Gv w (T3 (LQ none 68719476736 b lb M (fun _=>True)) (E0) (Is (.int .i64 0)))):=by
 subst hnp
 exact g_chp_DivMonic hb hlb hlp hlbp hlq hlbq hk hM1 hM hq1 hp1 hpl hql hBB hL hr
set_option maxHeartbeats 4000000 in
set_option maxRecDepth 20000 in
theorem g_top_isOne_t {w:World}{x:Int}{b_a:Nat}{sa:Bool}{Aa:Option Addr}{na ca:Nat}(ha:Zr w b_a sa Aa na ca x) (hx:x=1):
    Calls Try.prog 8 #[.agg #[.bool sa,.slice Aa na ca]] w (Gv w (Is (.bool true))):=by
 refine sx_enter Try.func8 rfl (n:=19) rfl (bq rfl) (args:= [.agg #[.bool sa,.slice Aa na ca]]) (cw_keep [(0,.agg #[.bool sa,.slice Aa na ca])] ⟨rfl,trivial⟩ (sr (bx [.bool sa,.slice Aa na ca] (Ext.refl w) rfl rfl rfl fun g1 v2 hb4 ge5 e3 hw1=>(mv 1 rfl (ne_ (cw_seq ?_))))))
 have hn:=ha.len
 subst hx
 obtain rfl:na=1:=by rw [hn];exact ln_one
 obtain rfl:sa=false:=by rw [ha.sgn];rfl
 have hw1_:(wd (Int.natAbs 1)).getD 0 0=1:=by decide+kernel
 refine cw_region (pf g1 1 rfl (by kernel_rfl) (wl_load rfl rfl (load_cell cellWords hb4 rfl) (by decide) (pu (v:= .int .i64 ((1:Nat):Int)) rfl (by kernel_rfl) (wl_cmp rfl rfl rfl true (cb_eq_t (a:=1) (b:=1) rfl rfl (by omega)) (by decide) (mv 1 rfl (pf g1 1 rfl (by kernel_rfl) (wl_load rfl rfl (load_cell cellWords hb4 rfl) (by decide) ?_)))))))
 obtain⟨p6,hp6,hc6,hv6⟩:=((ha.ext e3)).rd.at (i:=0) (by omega)
 refine wl_idx rfl rfl rfl un_u64 sz_u64 0 rfl (by omega) p6 hp6 (by decide) (wl_load rfl rfl (load_cell1 ag_u64 hc6) (by decide) (wl_cmp rfl rfl rfl true (cb_eq_t (a:=(wd (Int.natAbs 1)).getD 0 0) (b:=1) rfl rfl (by omega)) (by decide) (pu (v:= .bool true) rfl (by kernel_rfl) (mv 1 rfl (pf g1 0 rfl (by kernel_rfl) (wl_load rfl rfl (load_cell cellBool hb4 rfl) (by decide) (pu (v:= .bool true) rfl (by kernel_rfl) (pu (v:= .bool true) rfl (by kernel_rfl) (mv 1 rfl (ne_ (cw_ret (eo_ret [.bool true] rfl ⟨rfl,trivial⟩ ?_))))))))))))
 exact⟨_,rfl,rfl,hw1⟩
set_option maxHeartbeats 4000000 in
set_option maxRecDepth 20000 in
theorem g_top_sameRow {w:World}{n:Nat}{Kp bp lbp cp:Nat}{Ap:Option Addr}{zsp:List Int}(hlp:Lz none Kp bp w lbp Ap n cp zsp) (hlbp:lbp≤w.heap.size){Kt bt lbt ct:Nat}{At:Option Addr}{zst:List Int}(hlt:Lz none Kt bt w lbt At n ct zst) (hlbt:lbt≤w.heap.size) (hn:n≤1048576) (he:∀i,i<n→zsp.getD i 0=zst.getD i 0):
    Calls Try.prog 34 #[.slice Ap n cp,.slice At n ct] w (Gv w (Is (.bool true))):=by
 refine sx_enter Try.func34 rfl (n:=27) rfl (bq rfl) (args:= [.slice Ap n cp,.slice At n ct]) ?_
 have blk1:=hlp.block
 have blk2:=hlt.block
 refine cw_keep [(0,.slice Ap n cp),(1,.slice At n ct)] ⟨rfl,rfl,trivial⟩ (sr (mv 1 rfl (ne_ (cw_seq (sr (mv 1 rfl (pu (v:= .int .i64 ((n:Nat):Int)) rfl (by kernel_rfl) (mv 1 rfl (pu (v:= .int .i64 ((n:Nat):Int)) rfl (by kernel_rfl) (wl_cmp rfl rfl rfl false (cb_ne_f (a:=n) (b:=n) rfl rfl (by omega)) (by decide) (ne_ (cw_false rfl (cw_skip ?_)))))))))))))
 refine eo_then (cw_seq (sr (mv 1 rfl (ne_ (cw_block ?_)))))
 refine cw_loop (T:=World×Nat) (fun⟨wr,i⟩=> [(0,.slice Ap n cp),(1,.slice At n ct),(4,.bool false),(5,.int .i64 ((i:Nat):Int)),(6,.slice Ap n cp),(7,.int .i64 ((n:Nat):Int)),(8,.slice At n ct),(9,.int .i64 ((n:Nat):Int)),(10,.bool false)]) (fun⟨wr,i⟩=>wr) (fun⟨wr,i⟩=>(Ext w wr)∧(i≤n)∧(lbp≤wr.heap.size)∧(Lz none Kp bp wr lbp Ap n cp zsp)∧(lbt≤wr.heap.size)∧(Lz none Kt bt wr lbt At n ct zst)) (fun⟨wr,i⟩=>n-i)
  (⟨w,0⟩:World×Nat) ⟨(Ext.refl w),(by omega),hlbp,hlp,hlbt,hlt⟩ rfl ⟨rfl,rfl,rfl,rfl,rfl,rfl,rfl,rfl,rfl,trivial⟩ ?_
 rintro⟨wr,i⟩ ⟨hw1,hi_i,l_Apb,l_Ap,l_Atb,l_At⟩
 refine cw_re [(0,.slice Ap n cp),(1,.slice At n ct),(4,.bool false),(5,.int .i64 ((i:Nat):Int)),(6,.slice Ap n cp),(7,.int .i64 ((n:Nat):Int)),(8,.slice At n ct),(9,.int .i64 ((n:Nat):Int)),(10,.bool false)] wr rfl ⟨rfl,rfl,rfl,rfl,rfl,rfl,rfl,rfl,rfl,trivial⟩ ?_
 have blk3:=l_Ap.block
 have blk4:=l_At.block
 refine cw_seq (cw_seq ?_)
 by_cases hin:i<n
 · 
  refine cw_region (mv 2 rfl (pu (v:= .int .i64 ((n:Nat):Int)) rfl (by kernel_rfl) (wl_cmp rfl rfl rfl true (cb_lt_t (a:=i) (b:=n) rfl rfl (by omega)) (by decide) (ne_ (cw_true rfl (cw_skip (eo_then (cw_seq (cw_block (cw_seq ?_))))))))))
  obtain⟨pz5,sz5,Bz5,nz5,cz5,hpz5,ldz5,hKz5,ez5⟩:=(l_Ap).at (i:=i) (by omega)
  have zz5:=ez5.zr
  have Lz5:ln (zsp.getD i 0)≤Kp:=zz5.ln_le hKz5
  obtain⟨pz6,sz6,Bz6,nz6,cz6,hpz6,ldz6,hKz6,ez6⟩:=(l_At).at (i:=i) (by omega)
  have zz6:=ez6.zr
  have Lz6:ln (zst.getD i 0)≤Kt:=zz6.ln_le hKz6
  refine cw_draw mix 10 [] [Is (.slice Ap n cp),Is (.int .i64 ((i:Nat):Int)),Is (.pointer (some pz5)),Is (.agg #[.bool sz5,.slice Bz5 nz5 cz5]),Is (.slice At n ct),Is (.int .i64 ((i:Nat):Int)),Is (.pointer (some pz6)),Is (.agg #[.bool sz6,.slice Bz6 nz6 cz6]),Is (.bool true),Is (.bool false)] [[],[],[0,1],[2],[],[],[4,5],[6],[3,7],[8]] [[],[],[0,1],[0,1,2],[],[],[4,5],[4,5,6],[0,1,2,3,4,5,6,7],[0,1,2,3,4,5,6,7,8]] rfl
   (obs_cons rfl rfl (hob rfl rfl ?_) (obs_cons rfl rfl (hob rfl rfl ?_) (obs_cons rfl rfl (hob rfl rfl ?_) (obs_cons rfl rfl (hob rfl rfl ?_) (obs_cons rfl rfl (hob rfl rfl ?_) (obs_cons rfl rfl (hob rfl rfl ?_) (obs_cons rfl rfl (hob rfl rfl ?_) (obs_cons rfl rfl (hob rfl rfl ?_) (obs_cons rfl rfl (hob rfl rfl ?_) (obs_cons rfl rfl (hob rfl rfl ?_) obs_nil)))))))))) ?_
  · 
   exact fun _ _=>deps_nil (mv 1 rfl (pi_done rfl (Ext.refl _) rfl))
  · 
   exact fun _ _=>deps_nil (mv 1 rfl (pi_done rfl (Ext.refl _) rfl))
  · 
   exact fun _ _=>dk rfl rfl (dk rfl rfl (deps_nil (wl_idx rfl rfl rfl elemI aggInt.size i rfl (by omega) pz5 hpz5 (by decide) (pi_done rfl (Ext.refl _) rfl))))
  · 
   exact fun _ e24=>dk rfl rfl (deps_nil (wl_load rfl rfl (ldz5 _ e24 _ _ aggInt) (by decide) (pi_done rfl (Ext.refl _) rfl)))
  · 
   exact fun _ _=>deps_nil (mv 1 rfl (pi_done rfl (Ext.refl _) rfl))
  · 
   exact fun _ _=>deps_nil (mv 1 rfl (pi_done rfl (Ext.refl _) rfl))
  · 
   exact fun _ _=>dk rfl rfl (dk rfl rfl (deps_nil (wl_idx rfl rfl rfl elemI aggInt.size i rfl (by omega) pz6 hpz6 (by decide) (pi_done rfl (Ext.refl _) rfl))))
  · 
   exact fun _ e47=>dk rfl rfl (deps_nil (wl_load rfl rfl (ldz6 _ e47 _ _ aggInt) (by decide) (pi_done rfl (Ext.refl _) rfl)))
  · 
   intro v53 e54
   have hw2:=hw1.trans e54
   refine dk rfl rfl (dk rfl rfl (deps_nil (cl (vs:= [.agg #[.bool sz5,.slice Bz5 nz5 cz5],.agg #[.bool sz6,.slice Bz6 nz6 cz6]]) hw2 (g_top_sameInt (zz5.ext e54) (((zz6.ext e54)).cast (he i hin).symm)) rfl (by kernel_rfl) fun xr67 v65 r67 e66 hw3=>?_)))
   obtain rfl:=r67
   exact pi_done rfl e66 rfl
  · 
   exact fun _ _=>dk rfl rfl (deps_nil (pu (v:= .bool false) rfl (by kernel_rfl) (pi_done rfl (Ext.refl _) rfl)))
  · 
   intro v75 e76
   have hw2:=hw1.trans e76
   refine dk rfl rfl (dk rfl rfl (dk rfl rfl (dk rfl rfl (dk rfl rfl (dk rfl rfl (dk rfl rfl (dk rfl rfl (dk rfl rfl (dk rfl rfl (deps_nil (wl_nil (eo_np (eo_then ?_)))))))))))))
   refine cw_false rfl (cw_skip (eo_block_normal (eo_then (cw_region (mv 1 rfl (wl_ar rfl rfl rfl ((i+1:Nat):Int) (ai_add (a:=i) (b:=1) rfl rfl (by omega)) (by decide) (mv 1 rfl (wl_nil (eo_round (⟨v75,i+1⟩:World×Nat) ⟨hw2,(by omega),(Nat.le_trans l_Apb e76.size),(l_Ap.ext e76),(Nat.le_trans l_Atb e76.size),(l_At.ext e76)⟩ (show n-(i+1)<n-i by omega) rfl ⟨rfl,rfl,rfl,rfl,rfl,rfl,rfl,rfl,rfl,trivial⟩)))))))))
 · 
  refine cw_region (mv 2 rfl (pu (v:= .int .i64 ((n:Nat):Int)) rfl (by kernel_rfl) (wl_cmp rfl rfl rfl false (cb_lt_f (a:=i) (b:=n) rfl rfl (by omega)) (by decide) (ne_ (cw_false rfl (cw_exit (eo_thenX (eo_loopX (eo_block_here (eo_then (sr (mv 1 rfl (wl_nil ?_)))))))))))))
  refine eo_then (cw_ret (eo_ret [.bool true] rfl ⟨rfl,trivial⟩ ?_))
  exact⟨_,rfl,rfl,hw1⟩
set_option maxHeartbeats 4000000 in
set_option maxRecDepth 20000 in
theorem g_top_same {w:World}{n:Nat}{Kp bp lbp cp:Nat}{Ap:Option Addr}{zsp:List Int}(hlp:Lz none Kp bp w lbp Ap (n*n) cp zsp) (hlbp:lbp≤w.heap.size){Kt bt lbt ct:Nat}{At:Option Addr}{zst:List Int}(hlt:Lz none Kt bt w lbt At (n*n) ct zst) (hlbt:lbt≤w.heap.size) (hn:n≤64) (he:∀i,i<n*n→zsp.getD i 0=zst.getD i 0):
    Calls Try.prog 13 #[.agg #[.int .i64 ((n:Nat):Int),.int .i64 ((n:Nat):Int),.slice Ap (n*n) cp],.agg #[.int .i64 ((n:Nat):Int),.int .i64 ((n:Nat):Int),.slice At (n*n) ct]] w (Gv w (Is (.bool true))):=by
 have hnn:=ix_64 hn hn
 refine sx_enter Try.func13 rfl (n:=28) rfl (bq rfl) (args:= [.agg #[.int .i64 ((n:Nat):Int),.int .i64 ((n:Nat):Int),.slice Ap (n*n) cp],.agg #[.int .i64 ((n:Nat):Int),.int .i64 ((n:Nat):Int),.slice At (n*n) ct]]) ?_
 have blk1:=hlp.block
 have blk2:=hlt.block
 refine cw_keep [(0,.agg #[.int .i64 ((n:Nat):Int),.int .i64 ((n:Nat):Int),.slice Ap (n*n) cp]),(1,.agg #[.int .i64 ((n:Nat):Int),.int .i64 ((n:Nat):Int),.slice At (n*n) ct])] ⟨rfl,rfl,trivial⟩ (sr (wl_box rfl rfl (vs:= [.int .i64 ((n:Nat):Int),.int .i64 ((n:Nat):Int),.slice Ap (n*n) cp]) rfl (by decide) fun g3 v4 nb=>?_))
 have hb6:=nb.bk
 have ge7:w.heap.size≤g3:=by rw [←nb.at_];exact (Ext.refl w).size
 have ne8:∀p:Addr,Ap=some p→p.block≠g3:=fun p hp=>by have:=(hlp).block p hp;have:=nb.at_;omega
 have ne9:∀p:Addr,At=some p→p.block≠g3:=fun p hp=>by have:=(hlt).block p hp;have:=nb.at_;omega
 have e5:=nb.ext
 clear nb
 have hw1:=(Ext.refl w).trans e5
 refine wl_box rfl rfl (vs:= [.int .i64 ((n:Nat):Int),.int .i64 ((n:Nat):Int),.slice At (n*n) ct]) rfl (by decide) fun g10 v11 nb=>?_
 have hb13:=nb.bk
 have ge14:w.heap.size≤g10:=by rw [←nb.at_];exact hw1.size
 have q15:g3<g10:=by rw [←nb.at_];exact hb6.lt
 have ne16:∀p:Addr,Ap=some p→p.block≠g10:=fun p hp=>by have:=((hlp.ext e5)).block p hp;have:=nb.at_;omega
 have ne17:∀p:Addr,At=some p→p.block≠g10:=fun p hp=>by have:=((hlt.ext e5)).block p hp;have:=nb.at_;omega
 have e12:=nb.ext
 clear nb
 have hw2:=hw1.trans e12
 refine mv 1 rfl (ne_ (sr (lo aggMat (hb6.ext e12) [.int .i64 ((n:Nat):Int),.int .i64 ((n:Nat):Int),.slice Ap (n*n) cp] rfl rfl rfl (cl (vs:= [.agg #[.int .i64 ((n:Nat):Int),.int .i64 ((n:Nat):Int),.slice Ap (n*n) cp]]) hw2 (g_top_sound_t (snd_mk hn hn rfl)) rfl (by kernel_rfl) fun xr20 v18 r20 e19 hw3=>?_))))
 obtain rfl:=r20
 refine mv 1 rfl (pf g3 0 rfl (by kernel_rfl) (wl_load rfl rfl (load_cell cellInt (hb6.ext (e12.trans e19)) rfl) (by decide) (pf g10 0 rfl (by kernel_rfl) (wl_load rfl rfl (load_cell cellInt (hb13.ext e19) rfl) (by decide) (wl_cmp rfl rfl rfl true (cb_eq_t (a:=n) (b:=n) rfl rfl (by omega)) (by decide) (pu (v:= .bool true) rfl (by kernel_rfl) (mv 1 rfl (pf g3 1 rfl (by kernel_rfl) (wl_load rfl rfl (load_cell cellInt (hb6.ext (e12.trans e19)) rfl) (by decide) (pf g10 1 rfl (by kernel_rfl) (wl_load rfl rfl (load_cell cellInt (hb13.ext e19) rfl) (by decide) (wl_cmp rfl rfl rfl true (cb_eq_t (a:=n) (b:=n) rfl rfl (by omega)) (by decide) (pu (v:= .bool true) rfl (by kernel_rfl) ?_)))))))))))))
 refine mv 1 rfl (pf g3 2 rfl (by kernel_rfl) (wl_load rfl rfl (load_cell cellInts (hb6.ext (e12.trans e19)) rfl) (by decide) (pf g10 2 rfl (by kernel_rfl) (wl_load rfl rfl (load_cell cellInts (hb13.ext e19) rfl) (by decide) (cl (vs:= [.slice Ap (n*n) cp,.slice At (n*n) ct]) hw3 (g_top_sameRow (hlp.ext (e5.trans (e12.trans e19))) (Nat.le_trans (Nat.le_trans (Nat.le_trans hlbp e5.size) e12.size) e19.size) (hlt.ext (e5.trans (e12.trans e19))) (Nat.le_trans (Nat.le_trans (Nat.le_trans hlbt e5.size) e12.size) e19.size) (by omega) he) rfl (by kernel_rfl) fun xr23 v21 r23 e22 hw4=>?_)))))
 obtain rfl:=r23
 refine pu (v:= .bool true) rfl (by kernel_rfl) (mv 1 rfl (ne_ (cw_ret (eo_ret [.bool true] rfl ⟨rfl,trivial⟩ ?_))))
 exact⟨_,rfl,rfl,hw4⟩
set_option maxHeartbeats 4000000 in
set_option maxRecDepth 20000 in
theorem g_top_zeros {w:World}{b lb:Nat}(hb:b≤w.heap.size) (hlb:lb≤w.heap.size){n:Nat}(hn:n≤64):
    Calls Try.prog 14 #[.int .i64 ((n:Nat):Int),.int .i64 ((n:Nat):Int)] w (Gv w (MQ ((n:Nat):Int) ((n:Nat):Int) (LE none 1 b lb (n*n) (List.replicate (n*n) 0)))):=by
 have hnn:=ix_64 hn hn
 refine sx_enter Try.func14 rfl (n:=12) rfl (bq rfl) (args:= [.int .i64 ((n:Nat):Int),.int .i64 ((n:Nat):Int)]) (cw_keep [(0,.int .i64 ((n:Nat):Int)),(1,.int .i64 ((n:Nat):Int))] ⟨rfl,rfl,trivial⟩ (sr (al [I0,I0,S0] (Ext.refl w) (fun _=>by kernel_rfl) rfl fun g1 v2 hb4 ge5 e3 hw1=>(ne_ (sr (mv 4 rfl (wl_ar rfl rfl rfl ((n*n:Nat):Int) (ai_mul (a:=n) (b:=n) rfl rfl (by omega)) (by decide) (wl_makeL (k:=n*n) none 1 w.heap.size rfl rfl rfl (by omega) (by decide) fun g6 v7 hg8 lz9 e10=>?_))))))))
 have q11:g1<g6:=by rw [←hg8];exact hb4.lt
 have hlbg6:g6≤v7.heap.size:=by have:=(lz9.block _ rfl).2;exact Nat.le_of_lt this
 have hglg6:w.heap.size≤g6:=by rw [←hg8];exact hw1.size
 clear hg8
 have hw2:=hw1.trans e10
 have blk12:=lz9.block
 refine pu (v:= .agg #[.int .i64 ((n:Nat):Int),.int .i64 ((n:Nat):Int),.slice (some ⟨g6,0,none⟩) (n*n) (n*n)]) rfl (by kernel_rfl) ?_
 have hb14:=(hb4.ext e10)
 refine so aggMat hb14 [.int .i64 ((n:Nat):Int),.int .i64 ((n:Nat):Int),.slice (some ⟨g6,0,none⟩) (n*n) (n*n)] hw2 ge5 rfl rfl rfl rfl fun v13 hb15 u16 hw3=>(ne_ (cw_ret (eo_ret [.agg #[.int .i64 ((n:Nat):Int),.int .i64 ((n:Nat):Int),.slice (some ⟨g6,0,none⟩) (n*n) (n*n)]] rfl ⟨⟨_,rfl,load_agg aggMat hb15 [.int .i64 ((n:Nat):Int),.int .i64 ((n:Nat):Int),.slice (some ⟨g6,0,none⟩) (n*n) (n*n)] rfl (bq rfl) rfl⟩,trivial⟩ ?_)))
 exact⟨_,rfl,⟨_,rfl,⟨_,_,rfl,((lz9.updT hb14 u16 (show∀p:Addr,(some ⟨g6,0,none⟩)=some p→p.block≠g1 from fun p hp=>by have:=blk12 p hp;omega))).mono (Nat.le_refl _) hb (Nat.le_trans hlb hglg6)⟩⟩,hw3⟩
theorem dt_22:dt 2 (fun i j=>([2,4,6,8]:List Int).getD (i*2+j) 0)= -((8:Nat):Int):=by decide
set_option maxHeartbeats 4000000 in
set_option maxRecDepth 20000 in
theorem g_top_detWakes {w:World}:
    Calls Try.prog 4 #[] w (Gv w (Is (.bool true))):=by
 have hlb:w.heap.size≤w.heap.size:=Nat.le_refl _
 refine sx_enter Try.func4 rfl (n:=15) rfl (bq rfl) (args:= []) (cw_keep [] trivial (sr (mv 1 rfl (ne_ (sr (cl (vs:= []) (Ext.refl w) (g_top_two (Ext.refl w).size hlb) rfl (by kernel_rfl) fun xr3 v1 r3 e2 hw1=>?_))))))
 obtain⟨lv4,rfl,⟨LA5,lc5,rfl,lz5⟩⟩:=r3
 have blk6:=lz5.block
 refine cl (vs:= [.agg #[.int .i64 2,.int .i64 2,.slice LA5 4 lc5]]) hw1 ((g_brs_Det (n:=2) (X:=(fun i j=>([2,4,6,8]:List Int).getD (i*2+j) 0)) hw1.size ((lz5.zf0).mono (by decide)) rfl (by decide) (fun i j _ _=>rfl)).mono (Gv.imp (T2.imp (fun _ _ h=>ZR.cast h dt_22) Is.imp))) rfl (by kernel_rfl) fun xr9 v7 r9 e8 hw2=>?_
 obtain⟨_,_,rfl,⟨s11,A11,n11,c11,rfl,z11⟩,rfl⟩:=r9
 refine mv 1 rfl (pu (v:= .agg #[.bool s11,.slice A11 n11 c11]) rfl (by kernel_rfl) (pu (v:= .int .i64 0) rfl (by kernel_rfl) (wl_alloc rfl (z:= .agg #[F0,S0]) (vs:= [F0,S0]) (fun _=>by kernel_rfl) rfl (by decide) fun g12 v13 nb=>?_)))
 have hb15:=nb.bk
 have ge16:w.heap.size≤g12:=by rw [←nb.at_];exact hw2.size
 have ne17:∀p:Addr,LA5=some p→p.block≠g12:=fun p hp=>by have:=((lz5.ext e8)).block p hp;have:=nb.at_;omega
 have e14:=nb.ext
 clear nb
 have hw3:=hw2.trans e14
 refine so aggInt hb15 [.bool s11,.slice A11 n11 c11] hw3 ge16 rfl rfl rfl rfl fun v18 hb20 u21 hw4=>(mv 1 rfl (ne_ (cw_seq ?_)))
 refine cw_draw mix 7 [] [Is (.int .i64 0),Is (.bool true),Is (.bool true),Is (.agg #[.bool s11,.slice A11 n11 c11]),ZR w.heap.size (-((8:Nat):Int)),Is (.bool true),Is (.bool true)] [[],[0],[1],[2],[2],[2,3,4],[2,5]] [[],[0],[0,1],[0,1,2],[0,1,2],[0,1,2,3,4],[0,1,2,3,4,5],[0,1,2,3,4,5,6]] rfl
  (obs_cons rfl rfl (hob rfl rfl ?_) (obs_cons rfl rfl (hob rfl rfl ?_) (obs_cons rfl rfl (hob rfl rfl ?_) (obs_cons rfl rfl (hob rfl rfl ?_) (obs_cons rfl rfl (hob rfl rfl ?_) (obs_cons rfl rfl (hob rfl rfl ?_) (obs_cons rfl rfl (hob rfl rfl ?_) obs_nil))))))) ?_
 · 
  exact fun _ _=>deps_nil (mv 1 rfl (pi_done rfl (Ext.refl _) rfl))
 · 
  exact fun _ _=>dk rfl rfl (deps_nil (wl_cmp rfl rfl rfl true (by decide) (by decide) (pi_done rfl (Ext.refl _) rfl)))
 · 
  exact fun _ _=>dk rfl rfl (deps_nil (mv 1 rfl (pi_done rfl (Ext.refl _) rfl)))
 · 
  exact fun _ e41=>dk rfl rfl (deps_nil (lo aggInt (hb20.ext e41) [.bool s11,.slice A11 n11 c11] rfl rfl rfl (pi_done rfl (Ext.refl _) rfl)))
 · 
  intro v47 e48
  have hw5:=hw4.trans e48
  refine dk rfl rfl (deps_nil (cl (vs:= [.int .u64 8]) hw5 ((g_top_minus (x:=8) hw5.size (by decide) (by decide))) rfl (by kernel_rfl) fun xr56 v54 r56 e55 hw6=>?_))
  obtain⟨s57,A57,n57,c57,rfl,z57⟩:=r56
  exact pi_done rfl e55 ⟨_,_,_,_,rfl,z57⟩
 · 
  intro v58 e59
  have hw5:=hw4.trans e59
  refine dk rfl rfl (dk rfl rfl (deps_cons rfl rfl fun x70 y71 h72 e73 f74=>?_))
  obtain⟨s75,A75,n75,c75,rfl,z75⟩:=h72
  have z75:=z75.ext f74
  refine deps_nil (cl (vs:= [.agg #[.bool s11,.slice A11 n11 c11],.agg #[.bool s75,.slice A75 n75 c75]]) hw5 (g_top_sameInt (((z11.ext e14).updT hb15 u21).ext e59) z75) rfl (by kernel_rfl) fun xr78 v76 r78 e77 hw6=>?_)
  obtain rfl:=r78
  exact pi_done rfl e77 rfl
 · 
  exact fun _ _=>dk rfl rfl (dk rfl rfl (deps_nil (pu (v:= .bool true) rfl (by kernel_rfl) (pi_done rfl (Ext.refl _) rfl))))
 · 
  intro v91 e92
  have hw5:=hw4.trans e92
  refine dk rfl rfl (dk rfl rfl (dk rfl rfl (dk rfl rfl (deps_cons rfl rfl fun x113 y114 h115 e116 f117=>?_))))
  obtain⟨s118,A118,n118,c118,rfl,z118⟩:=h115
  have z118:=z118.ext f117
  refine dk rfl rfl (dk rfl rfl (deps_nil (mv 1 rfl (wl_nil (eo_np (eo_then (cw_ret (eo_ret [.bool true] rfl ⟨rfl,trivial⟩ ?_))))))))
  exact⟨_,rfl,rfl,hw5⟩
set_option maxHeartbeats 4000000 in
set_option maxRecDepth 20000 in
theorem g_chp_Char_bad {w:World}{R C:Int}{na capa:Nat}{Aa:Option Addr}(hs:¬Snd R C na):
    Calls Try.prog 5 #[.agg #[.int .i64 R,.int .i64 C,.slice Aa na capa]] w (Gv w (T2 (Is (.slice none 0 0)) (Is (.int .i64 1)))):=by
 refine sx_enter Try.func5 rfl (n:=67) rfl (bq rfl) (args:= [.agg #[.int .i64 R,.int .i64 C,.slice Aa na capa]]) (cw_keep [(0,.agg #[.int .i64 R,.int .i64 C,.slice Aa na capa])] ⟨rfl,trivial⟩ (sr (bx [.int .i64 R,.int .i64 C,.slice Aa na capa] (Ext.refl w) rfl rfl rfl fun g1 v2 hb4 ge5 e3 hw1=>(mv 2 rfl (ne_ (cw_seq (sr (lo aggMat hb4 [.int .i64 R,.int .i64 C,.slice Aa na capa] rfl rfl rfl (cl (vs:= [.agg #[.int .i64 R,.int .i64 C,.slice Aa na capa]]) hw1 (g_chp_square_bad hs) rfl (by kernel_rfl) fun xr8 v6 r8 e7 hw2=>?_)))))))))
 obtain rfl:=r8
 refine mv 1 rfl (ne_ (sr (mv 1 rfl (wl_cmp rfl rfl rfl true (by decide) (by decide) (ne_ (cw_true rfl (sr (mv 3 rfl (ne_ (cw_ret (eo_thenR (eo_ret [S0,.int .i64 1] rfl ⟨rfl,rfl,trivial⟩ ?_))))))))))))
 exact⟨_,rfl,⟨_,_,rfl,rfl,rfl⟩,hw2⟩
set_option maxHeartbeats 4000000 in
set_option maxRecDepth 20000 in
theorem g_chp_Char_unfit {w:World}{R C:Int}{na capa:Nat}{Aa:Option Addr}(hs:Snd R C na) (hRC:R≠C):
    Calls Try.prog 5 #[.agg #[.int .i64 R,.int .i64 C,.slice Aa na capa]] w (Gv w (T2 (Is (.slice none 0 0)) (Is (.int .i64 2)))):=by
 refine sx_enter Try.func5 rfl (n:=67) rfl (bq rfl) (args:= [.agg #[.int .i64 R,.int .i64 C,.slice Aa na capa]]) (cw_keep [(0,.agg #[.int .i64 R,.int .i64 C,.slice Aa na capa])] ⟨rfl,trivial⟩ (sr (bx [.int .i64 R,.int .i64 C,.slice Aa na capa] (Ext.refl w) rfl rfl rfl fun g1 v2 hb4 ge5 e3 hw1=>(mv 2 rfl (ne_ (cw_seq (sr (lo aggMat hb4 [.int .i64 R,.int .i64 C,.slice Aa na capa] rfl rfl rfl (cl (vs:= [.agg #[.int .i64 R,.int .i64 C,.slice Aa na capa]]) hw1 (g_chp_square_unfit hs hRC) rfl (by kernel_rfl) fun xr8 v6 r8 e7 hw2=>?_)))))))))
 obtain rfl:=r8
 refine mv 1 rfl (ne_ (sr (mv 1 rfl (wl_cmp rfl rfl rfl true (by decide) (by decide) (ne_ (cw_true rfl (sr (mv 3 rfl (ne_ (cw_ret (eo_thenR (eo_ret [S0,.int .i64 2] rfl ⟨rfl,rfl,trivial⟩ ?_))))))))))))
 exact⟨_,rfl,⟨_,_,rfl,rfl,rfl⟩,hw2⟩
set_option maxHeartbeats 4000000 in
set_option maxRecDepth 20000 in
theorem g_top_WholeOwnRoot_bad {w:World}{R C:Int}{Aa:Option Addr}{na capa:Nat}{xs:List Int}(hxa:ZF w Aa na capa 1048576 xs) (hna1:na≤1048576) (hs:¬Snd R C na):
    Calls Try.prog 3 #[.agg #[.int .i64 R,.int .i64 C,.slice Aa na capa]] w (Gv w (Is (.bool true))):=by
 have hlb:w.heap.size≤w.heap.size:=Nat.le_refl _
 have hxa0:=hxa
 obtain⟨msa,hla,hma⟩:=hxa
 refine sx_enter Try.func3 rfl (n:=143) rfl (bq rfl) (args:= [.agg #[.int .i64 R,.int .i64 C,.slice Aa na capa]]) (cw_keep [(0,.agg #[.int .i64 R,.int .i64 C,.slice Aa na capa])] ⟨rfl,trivial⟩ (sr (bx [.int .i64 R,.int .i64 C,.slice Aa na capa] (Ext.refl w) rfl rfl rfl fun g1 v2 hb4 ge5 e3 hw1=>(mv 1 rfl (ne_ (cw_seq (sr (wl_call rfl rfl (vs:= []) (by kernel_rfl) (by decide) g_top_detWakes ?_))))))))
 rintro _ v6 ⟨xr8,rfl,r8,e7⟩
 refine ret_intro ?_
 have hw2:=hw1.trans e7
 obtain rfl:=r8
 refine pu (v:= .bool false) rfl (by kernel_rfl) (ne_ (cw_false rfl (cw_skip (eo_then (sr (lo aggMat (hb4.ext e7) [.int .i64 R,.int .i64 C,.slice Aa na capa] rfl rfl rfl ?_))))))
 obtain⟨lb9,hlb9,hlelb9,hgl9,hq9_0⟩:∃lb,lb≤v6.heap.size∧v6.heap.size≤lb∧w.heap.size≤lb∧g1<lb:=⟨v6.heap.size,Nat.le_refl _,Nat.le_refl _,hw2.size,(hb4.ext e7).lt⟩
 refine cl (vs:= [.agg #[.int .i64 R,.int .i64 C,.slice Aa na capa]]) hw2 (g_top_copyMat (w0:=w) hw2.size hlb9 hw2 ((show ZF w _ _ _ _ _ from⟨msa,hla,hma⟩).ext hw2) (by omega)) rfl (by kernel_rfl) fun xr12 v10 r12 e11 hw3=>?_
 obtain⟨lv13,rfl,⟨LA14,lc14,rfl,lz14⟩⟩:=r12
 have blk15:=lz14.block
 refine cl (vs:= [.agg #[.int .i64 R,.int .i64 C,.slice LA14 na lc14]]) hw3 (g_chp_Char_bad hs) rfl (by kernel_rfl) fun xr18 v16 r18 e17 hw4=>?_
 obtain⟨_,_,rfl,rfl,rfl⟩:=r18
 refine mv 1 rfl (pu (v:= .slice none 0 0) rfl (by kernel_rfl) (pu (v:= .int .i64 1) rfl (by kernel_rfl) (mv 2 rfl (ne_ (cw_seq (sr (lo aggMat (hb4.ext (e7.trans (e11.trans e17))) [.int .i64 R,.int .i64 C,.slice Aa na capa] rfl rfl rfl (cl (vs:= [.agg #[.int .i64 R,.int .i64 C,.slice Aa na capa]]) hw4 (g_top_sound_f hs) rfl (by kernel_rfl) fun xr22 v20 r22 e21 hw5=>?_))))))))
 obtain rfl:=r22
 refine pu (v:= .bool true) rfl (by kernel_rfl) (ne_ (cw_true rfl (sr (mv 1 rfl (wl_cmp rfl rfl rfl true (by decide) (by decide) (mv 1 rfl (ne_ (cw_ret (eo_thenR (eo_ret [.bool true] rfl ⟨rfl,trivial⟩ ?_))))))))))
 exact⟨_,rfl,rfl,hw5⟩
set_option maxHeartbeats 4000000 in
set_option maxRecDepth 20000 in
theorem g_top_WholeOwnRoot_unfit {w:World}{R C:Int}{Aa:Option Addr}{na capa:Nat}{xs:List Int}(hxa:ZF w Aa na capa 1048576 xs) (hna1:na≤1048576) (hs:Snd R C na) (hRC:R≠C):
    Calls Try.prog 3 #[.agg #[.int .i64 R,.int .i64 C,.slice Aa na capa]] w (Gv w (Is (.bool true))):=by
 have hlb:w.heap.size≤w.heap.size:=Nat.le_refl _
 have hxa0:=hxa
 obtain⟨msa,hla,hma⟩:=hxa
 refine sx_enter Try.func3 rfl (n:=143) rfl (bq rfl) (args:= [.agg #[.int .i64 R,.int .i64 C,.slice Aa na capa]]) (cw_keep [(0,.agg #[.int .i64 R,.int .i64 C,.slice Aa na capa])] ⟨rfl,trivial⟩ (sr (bx [.int .i64 R,.int .i64 C,.slice Aa na capa] (Ext.refl w) rfl rfl rfl fun g1 v2 hb4 ge5 e3 hw1=>(mv 1 rfl (ne_ (cw_seq (sr (wl_call rfl rfl (vs:= []) (by kernel_rfl) (by decide) g_top_detWakes ?_))))))))
 rintro _ v6 ⟨xr8,rfl,r8,e7⟩
 refine ret_intro ?_
 have hw2:=hw1.trans e7
 obtain rfl:=r8
 refine pu (v:= .bool false) rfl (by kernel_rfl) (ne_ (cw_false rfl (cw_skip (eo_then (sr (lo aggMat (hb4.ext e7) [.int .i64 R,.int .i64 C,.slice Aa na capa] rfl rfl rfl ?_))))))
 obtain⟨lb9,hlb9,hlelb9,hgl9,hq9_0⟩:∃lb,lb≤v6.heap.size∧v6.heap.size≤lb∧w.heap.size≤lb∧g1<lb:=⟨v6.heap.size,Nat.le_refl _,Nat.le_refl _,hw2.size,(hb4.ext e7).lt⟩
 refine cl (vs:= [.agg #[.int .i64 R,.int .i64 C,.slice Aa na capa]]) hw2 (g_top_copyMat (w0:=w) hw2.size hlb9 hw2 ((show ZF w _ _ _ _ _ from⟨msa,hla,hma⟩).ext hw2) (by omega)) rfl (by kernel_rfl) fun xr12 v10 r12 e11 hw3=>?_
 obtain⟨lv13,rfl,⟨LA14,lc14,rfl,lz14⟩⟩:=r12
 have blk15:=lz14.block
 refine cl (vs:= [.agg #[.int .i64 R,.int .i64 C,.slice LA14 na lc14]]) hw3 (g_chp_Char_unfit hs hRC) rfl (by kernel_rfl) fun xr18 v16 r18 e17 hw4=>?_
 obtain⟨_,_,rfl,rfl,rfl⟩:=r18
 refine mv 1 rfl (pu (v:= .slice none 0 0) rfl (by kernel_rfl) (pu (v:= .int .i64 2) rfl (by kernel_rfl) (mv 2 rfl (ne_ (cw_seq (sr (lo aggMat (hb4.ext (e7.trans (e11.trans e17))) [.int .i64 R,.int .i64 C,.slice Aa na capa] rfl rfl rfl (cl (vs:= [.agg #[.int .i64 R,.int .i64 C,.slice Aa na capa]]) hw4 (g_top_sound_t hs) rfl (by kernel_rfl) fun xr22 v20 r22 e21 hw5=>?_))))))))
 obtain rfl:=r22
 refine pu (v:= .bool false) rfl (by kernel_rfl) (ne_ (cw_false rfl (cw_skip (eo_then (sr (pf g1 0 rfl (by kernel_rfl) (wl_load rfl rfl (load_cell cellInt (hb4.ext (e7.trans (e11.trans (e17.trans e21)))) rfl) (by decide) (mv 1 rfl (ne_ (cw_seq (sr (mv 1 rfl (pf g1 1 rfl (by kernel_rfl) ?_)))))))))))))
 refine wl_load rfl rfl (load_cell cellInt (hb4.ext (e7.trans (e11.trans (e17.trans e21)))) rfl) (by decide) (wl_cmp rfl rfl rfl true (ci_ne_t hRC) (by decide) (ne_ (cw_true rfl (sr (mv 1 rfl (wl_cmp rfl rfl rfl true (by decide) (by decide) (mv 1 rfl (ne_ (cw_ret (eo_thenR (eo_ret [.bool true] rfl ⟨rfl,trivial⟩ ?_)))))))))))
 exact⟨_,rfl,rfl,hw5⟩
set_option maxHeartbeats 4000000 in
set_option maxRecDepth 20000 in
theorem g_top_WholeOwnRoot_ok {w:World}{n:Nat}{X:Mx}{d:Nat→Int}{Aa:Option Addr}{capa:Nat}{xs:List Int}(hxa:ZF w Aa (n*n) capa 1048576 xs) (hn:n≤64) (hX:En n n X xs) (hd:Chp n X d):
    Calls Try.prog 3 #[.agg #[.int .i64 ((n:Nat):Int),.int .i64 ((n:Nat):Int),.slice Aa (n*n) capa]] w (Gv w (Is (.bool true))):=by
 have hs:Snd ((n:Nat):Int) ((n:Nat):Int) (n*n):=snd_mk hn hn rfl
 have hnn:=ix_64 hn hn
 have hXl:∀i j,i<n→j<n→ln (X i j)≤1048576:=fun i j hi hj=>hX.ln hxa hi hj
 have hlb:w.heap.size≤w.heap.size:=Nat.le_refl _
 have hxa0:=hxa
 obtain⟨msa,hla,hma⟩:=hxa
 refine sx_enter Try.func3 rfl (n:=143) rfl (bq rfl) (args:= [.agg #[.int .i64 ((n:Nat):Int),.int .i64 ((n:Nat):Int),.slice Aa (n*n) capa]]) (cw_keep [(0,.agg #[.int .i64 ((n:Nat):Int),.int .i64 ((n:Nat):Int),.slice Aa (n*n) capa])] ⟨rfl,trivial⟩ (sr (bx [.int .i64 ((n:Nat):Int),.int .i64 ((n:Nat):Int),.slice Aa (n*n) capa] (Ext.refl w) rfl rfl rfl fun g1 v2 hb4 ge5 e3 hw1=>(mv 1 rfl (ne_ (cw_seq (sr (wl_call rfl rfl (vs:= []) (by kernel_rfl) (by decide) g_top_detWakes ?_))))))))
 rintro _ v6 ⟨xr8,rfl,r8,e7⟩
 refine ret_intro ?_
 have hw2:=hw1.trans e7
 obtain rfl:=r8
 refine pu (v:= .bool false) rfl (by kernel_rfl) (ne_ (cw_false rfl (cw_skip (eo_then (sr (lo aggMat (hb4.ext e7) [.int .i64 ((n:Nat):Int),.int .i64 ((n:Nat):Int),.slice Aa (n*n) capa] rfl rfl rfl ?_))))))
 obtain⟨lb9,hlb9,hlelb9,hgl9,hq9_0⟩:∃lb,lb≤v6.heap.size∧v6.heap.size≤lb∧w.heap.size≤lb∧g1<lb:=⟨v6.heap.size,Nat.le_refl _,Nat.le_refl _,hw2.size,(hb4.ext e7).lt⟩
 refine cl (vs:= [.agg #[.int .i64 ((n:Nat):Int),.int .i64 ((n:Nat):Int),.slice Aa (n*n) capa]]) hw2 (g_top_copyMat (w0:=w) hw2.size hlb9 hw2 ((show ZF w _ _ _ _ _ from⟨msa,hla,hma⟩).ext hw2) (by omega)) rfl (by kernel_rfl) fun xr12 v10 r12 e11 hw3=>?_
 obtain⟨lv13,rfl,⟨LA14,lc14,rfl,lz14⟩⟩:=r12
 have blk15:=lz14.block
 refine cl (vs:= [.agg #[.int .i64 ((n:Nat):Int),.int .i64 ((n:Nat):Int),.slice LA14 (n*n) lc14]]) hw3 (g_chp_Char (d:=d) (X:=X) hw3.size (Nat.le_trans hlb9 e11.size) ((lz14).zf hw3) rfl hn hX hd) rfl (by kernel_rfl) fun xr18 v16 r18 e17 hw4=>?_
 obtain⟨_,_,rfl,⟨LA20,lc20,zs20,rfl,lz20,hz20⟩,r19_1⟩:=r18
 have blk21:=lz20.block
 obtain rfl:=r19_1
 refine mv 1 rfl (pu (v:= .slice LA20 (n+1) lc20) rfl (by kernel_rfl) (pu (v:= .int .i64 0) rfl (by kernel_rfl) (mv 2 rfl (ne_ (cw_seq (cw_seq ?_))))))
 have hcs:Chl n d zs20:=hz20
 have hcl:=(lz20).len
 have hcb:=chl_ln hcs hd hn hXl hcl
 have hc1:=chl_one hcs hd
 refine cw_region (lo aggMat (hb4.ext (e7.trans (e11.trans e17))) [.int .i64 ((n:Nat):Int),.int .i64 ((n:Nat):Int),.slice Aa (n*n) capa] rfl rfl rfl (cl (vs:= [.agg #[.int .i64 ((n:Nat):Int),.int .i64 ((n:Nat):Int),.slice Aa (n*n) capa]]) hw4 (g_top_sound_t hs) rfl (by kernel_rfl) fun xr24 v22 r24 e23 hw5=>?_))
 obtain rfl:=r24
 refine pu (v:= .bool false) rfl (by kernel_rfl) (ne_ (cw_false rfl (cw_skip (eo_then (sr (pf g1 0 rfl (by kernel_rfl) (wl_load rfl rfl (load_cell cellInt (hb4.ext (e7.trans (e11.trans (e17.trans e23)))) rfl) (by decide) (mv 1 rfl (ne_ (cw_seq (sr (mv 1 rfl (pf g1 1 rfl (by kernel_rfl) ?_)))))))))))))
 refine wl_load rfl rfl (load_cell cellInt (hb4.ext (e7.trans (e11.trans (e17.trans e23)))) rfl) (by decide) (wl_cmp rfl rfl rfl false (cb_ne_f (a:=n) (b:=n) rfl rfl (by omega)) (by decide) (ne_ (cw_false rfl (cw_skip (eo_then (cw_seq (sr (mv 1 rfl (wl_cmp rfl rfl rfl false (by decide) (by decide) (mv 2 rfl (pu (v:= .int .i64 (((n+1):Nat):Int)) rfl (by kernel_rfl) (mv 1 rfl (wl_ar rfl rfl rfl ((n+1:Nat):Int) (ai_add (a:=n) (b:=1) rfl rfl (by omega)) (by decide) ?_)))))))))))))
 refine wl_cmp rfl rfl rfl false (cb_ne_f (a:=n+1) (b:=n+1) rfl rfl (by omega)) (by decide) (pu (v:= .bool false) rfl (by kernel_rfl) (mv 3 rfl ?_))
 obtain⟨pz25,sz25,Bz25,nz25,cz25,hpz25,ldz25,hKz25,ez25⟩:=((lz20.ext e23)).at (i:=n) (by omega)
 have zz25:=ez25.zr
 have Lz25:ln (zs20.getD n 0)≤17179869184:=zz25.ln_le hKz25
 refine wl_idx rfl rfl rfl elemI aggInt.size n rfl (by omega) pz25 hpz25 (by decide) (wl_load rfl rfl (ldz25 _ (Ext.refl _) _ _ aggInt) (by decide) (cl (vs:= [.agg #[.bool sz25,.slice Bz25 nz25 cz25]]) hw5 (g_top_isOne_t zz25 hc1) rfl (by kernel_rfl) fun xr28 v26 r28 e27 hw6=>?_))
 obtain rfl:=r28
 refine pu (v:= .bool false) rfl (by kernel_rfl) (pu (v:= .bool false) rfl (by kernel_rfl) (ne_ (cw_false rfl (cw_skip (eo_then (sr (lo aggMat (hb4.ext (e7.trans (e11.trans (e17.trans (e23.trans e27))))) [.int .i64 ((n:Nat):Int),.int .i64 ((n:Nat):Int),.slice Aa (n*n) capa] rfl rfl rfl ?_)))))))
 obtain⟨lb29,hlb29,hlelb29,hgl29,hq29_0⟩:∃lb,lb≤v26.heap.size∧v26.heap.size≤lb∧w.heap.size≤lb∧g1<lb:=⟨v26.heap.size,Nat.le_refl _,Nat.le_refl _,hw6.size,(hb4.ext (e7.trans (e11.trans (e17.trans (e23.trans e27))))).lt⟩
 have hql30:∀p:Addr,LA14=some p→p.block<lb29:=fun p hp=>Nat.lt_of_lt_of_le (((lz14.ext (e17.trans (e23.trans e27)))).block p hp).2 hlelb29
 have hql31:∀p:Addr,LA20=some p→p.block<lb29:=fun p hp=>Nat.lt_of_lt_of_le (((lz20.ext (e23.trans e27))).block p hp).2 hlelb29
 refine cl (vs:= [.agg #[.int .i64 ((n:Nat):Int),.int .i64 ((n:Nat):Int),.slice Aa (n*n) capa]]) hw6 (g_top_copyMat (w0:=w) hw6.size hlb29 hw6 ((show ZF w _ _ _ _ _ from⟨msa,hla,hma⟩).ext hw6) (by omega)) rfl (by kernel_rfl) fun xr34 v32 r34 e33 hw7=>?_
 obtain⟨lv35,rfl,⟨LA36,lc36,rfl,lz36⟩⟩:=r34
 have blk37:=lz36.block
 refine cl (vs:= [.agg #[.int .i64 ((n:Nat):Int),.int .i64 ((n:Nat):Int),.slice LA36 (n*n) lc36]]) hw7 (g_mat_Trace (n:=n) (X:=X) hw7.size (((lz36).zf hw7).mono (by decide)) rfl hn hX) rfl (by kernel_rfl) fun xr40 v38 r40 e39 hw8=>?_
 obtain⟨_,_,rfl,⟨s42,A42,n42,c42,rfl,z42⟩,rfl⟩:=r40
 refine mv 1 rfl (pu (v:= .agg #[.bool s42,.slice A42 n42 c42]) rfl (by kernel_rfl) (pu (v:= .int .i64 0) rfl (by kernel_rfl) (wl_alloc rfl (z:= .agg #[F0,S0]) (vs:= [F0,S0]) (fun _=>by kernel_rfl) rfl (by decide) fun g43 v44 nb=>?_)))
 have hb46:=nb.bk
 have ge47:w.heap.size≤g43:=by rw [←nb.at_];exact hw8.size
 have q48:g1<g43:=by rw [←nb.at_];exact (hb4.ext (e7.trans (e11.trans (e17.trans (e23.trans (e27.trans (e33.trans e39))))))).lt
 have ne49:∀p:Addr,LA14=some p→p.block≠g43:=fun p hp=>by have:=((lz14.ext (e17.trans (e23.trans (e27.trans (e33.trans e39)))))).block p hp;have:=nb.at_;omega
 have ne50:∀p:Addr,LA20=some p→p.block≠g43:=fun p hp=>by have:=((lz20.ext (e23.trans (e27.trans (e33.trans e39))))).block p hp;have:=nb.at_;omega
 have ne51:∀p:Addr,LA36=some p→p.block≠g43:=fun p hp=>by have:=((lz36.ext e39)).block p hp;have:=nb.at_;omega
 have e45:=nb.ext
 clear nb
 have hw9:=hw8.trans e45
 refine so aggInt hb46 [.bool s42,.slice A42 n42 c42] hw9 ge47 rfl rfl rfl rfl fun v52 hb54 u55 hw10=>(mv 1 rfl (ne_ (cw_seq (cw_seq ?_))))
 by_cases hn0:n>0
 · 
  have hctr:=chl_tr hcs hd hn0
  obtain⟨pz57,sz57,Bz57,nz57,cz57,hpz57,ldz57,hKz57,ez57⟩:=(((lz20.ext (e23.trans (e27.trans (e33.trans (e39.trans e45))))).updT hb46 u55 ne50)).at (i:=n-1) (by omega)
  have zz57:=ez57.zr
  have Lz57:ln (zs20.getD (n-1) 0)≤17179869184:=zz57.ln_le hKz57
  have L58:ln (-(tr n (X)))≤1048640:=(by rw [ln_neg];exact (Nat.le_trans (ln_tr fun i hi=>hXl i i hi hi) (show 1048576+n≤1048640 by omega)))
  refine cw_draw mix 17 [] [Is (.int .i64 0),Is (.bool false),Is (.bool false),Is (.int .i64 ((n:Nat):Int)),Is (.bool true),Is (.bool true),Is (.slice LA20 (n+1) lc20),Is (.int .i64 ((n:Nat):Int)),Is (.int .i64 ((n-1:Nat):Int)),Is (.pointer (some pz57)),Is (.agg #[.bool sz57,.slice Bz57 nz57 cz57]),Is (.agg #[.bool s42,.slice A42 n42 c42]),ZR w.heap.size (-(tr n (X))),Is (.bool true),Is (.bool false),Is (.bool false),Is (.bool false)] [[],[0],[1],[2],[2,3],[2,4],[5],[5],[5,7],[5,6,8],[5,9],[5],[5,11],[5,10,12],[5,13],[2,5,14],[2,15]] [[],[0],[0,1],[0,1,2],[0,1,2,3],[0,1,2,3,4],[0,1,2,3,4,5],[0,1,2,3,4,5],[0,1,2,3,4,5,7],[0,1,2,3,4,5,6,7,8],[0,1,2,3,4,5,6,7,8,9],[0,1,2,3,4,5],[0,1,2,3,4,5,11],[0,1,2,3,4,5,6,7,8,9,10,11,12],[0,1,2,3,4,5,6,7,8,9,10,11,12,13],[0,1,2,3,4,5,6,7,8,9,10,11,12,13,14],[0,1,2,3,4,5,6,7,8,9,10,11,12,13,14,15]] rfl
   (obs_cons rfl rfl (hob rfl rfl ?_) (obs_cons rfl rfl (hob rfl rfl ?_) (obs_cons rfl rfl (hob rfl rfl ?_) (obs_cons rfl rfl (hob rfl rfl ?_) (obs_cons rfl rfl (hob rfl rfl ?_) (obs_cons rfl rfl (hob rfl rfl ?_) (obs_cons rfl rfl (hob rfl rfl ?_) (obs_cons rfl rfl (hob rfl rfl ?_) (obs_cons rfl rfl (hob rfl rfl ?_) (obs_cons rfl rfl (hob rfl rfl ?_) (obs_cons rfl rfl (hob rfl rfl ?_) (obs_cons rfl rfl (hob rfl rfl ?_) (obs_cons rfl rfl (hob rfl rfl ?_) (obs_cons rfl rfl (hob rfl rfl ?_) (obs_cons rfl rfl (hob rfl rfl ?_) (obs_cons rfl rfl (hob rfl rfl ?_) (obs_cons rfl rfl (hob rfl rfl ?_) obs_nil))))))))))))))))) ?_
  · 
   exact fun _ _=>deps_nil (mv 1 rfl (pi_done rfl (Ext.refl _) rfl))
  · 
   exact fun _ _=>dk rfl rfl (deps_nil (wl_cmp rfl rfl rfl false (by decide) (by decide) (pi_done rfl (Ext.refl _) rfl)))
  · 
   exact fun _ _=>dk rfl rfl (deps_nil (mv 1 rfl (pi_done rfl (Ext.refl _) rfl)))
  · 
   exact fun _ _=>dk rfl rfl (deps_nil (mv 1 rfl (pi_done rfl (Ext.refl _) rfl)))
  · 
   exact fun _ _=>dk rfl rfl (dk rfl rfl (deps_nil (wl_cmp rfl rfl rfl true (cb_gt_t (a:=n) (b:=0) rfl rfl (by omega)) (by decide) (pi_done rfl (Ext.refl _) rfl))))
  · 
   exact fun _ _=>dk rfl rfl (dk rfl rfl (deps_nil (mv 1 rfl (pi_done rfl (Ext.refl _) rfl))))
  · 
   exact fun _ _=>dk rfl rfl (deps_nil (mv 1 rfl (pi_done rfl (Ext.refl _) rfl)))
  · 
   exact fun _ _=>dk rfl rfl (deps_nil (mv 1 rfl (pi_done rfl (Ext.refl _) rfl)))
  · 
   exact fun _ _=>dk rfl rfl (dk rfl rfl (deps_nil (wl_ar rfl rfl rfl ((n-1:Nat):Int) (ai_sub (a:=n) (b:=1) rfl rfl (by omega) (by omega)) (by decide) (pi_done rfl (Ext.refl _) rfl))))
  · 
   exact fun _ _=>dk rfl rfl (dk rfl rfl (dk rfl rfl (deps_nil (wl_idx rfl rfl rfl elemI aggInt.size (n-1) rfl (by omega) pz57 hpz57 (by decide) (pi_done rfl (Ext.refl _) rfl)))))
  · 
   exact fun _ e151=>dk rfl rfl (dk rfl rfl (deps_nil (wl_load rfl rfl (ldz57 _ e151 _ _ aggInt) (by decide) (pi_done rfl (Ext.refl _) rfl))))
  · 
   exact fun _ e163=>dk rfl rfl (deps_nil (lo aggInt (hb54.ext e163) [.bool s42,.slice A42 n42 c42] rfl rfl rfl (pi_done rfl (Ext.refl _) rfl)))
  · 
   intro v169 e170
   have hw11:=hw10.trans e170
   refine dk rfl rfl (dk rfl rfl (deps_nil ?_))
   have L181:ln (-(tr n (X)))≤1048640:=(by rw [ln_neg];exact (Nat.le_trans (ln_tr fun i hi=>hXl i i hi hi) (show 1048576+n≤1048640 by omega)))
   refine cl (vs:= [.agg #[.bool s42,.slice A42 n42 c42]]) hw11 (g_zint_Neg hw11.size (((z42.ext e45).updT hb46 u55).ext e170).zi (z42.le (Nat.le_trans (Nat.le_trans (ln_tr fun i hi=>hXl i i hi hi) (show 1048576+n≤1048640 by omega)) (by decide)))) rfl (by kernel_rfl) fun xr184 v182 r184 e183 hw12=>?_
   obtain⟨s185,A185,n185,c185,rfl,z185⟩:=r184
   exact pi_done rfl e183 ⟨_,_,_,_,rfl,z185⟩
  · 
   intro v186 e187
   have hw11:=hw10.trans e187
   refine dk rfl rfl (dk rfl rfl (deps_cons rfl rfl fun x198 y199 h200 e201 f202=>?_))
   obtain⟨s203,A203,n203,c203,rfl,z203⟩:=h200
   have z203:=z203.ext f202
   refine deps_nil (cl (vs:= [.agg #[.bool sz57,.slice Bz57 nz57 cz57],.agg #[.bool s203,.slice A203 n203 c203]]) hw11 (g_top_sameInt (((zz57.ext e187)).cast hctr) z203) rfl (by kernel_rfl) fun xr206 v204 r206 e205 hw12=>?_)
   obtain rfl:=r206
   exact pi_done rfl e205 rfl
  · 
   exact fun _ _=>dk rfl rfl (dk rfl rfl (deps_nil (pu (v:= .bool false) rfl (by kernel_rfl) (pi_done rfl (Ext.refl _) rfl))))
  · 
   exact fun _ _=>dk rfl rfl (dk rfl rfl (dk rfl rfl (deps_nil (pu (v:= .bool false) rfl (by kernel_rfl) (pi_done rfl (Ext.refl _) rfl)))))
  · 
   exact fun _ _=>dk rfl rfl (dk rfl rfl (deps_nil (pu (v:= .bool false) rfl (by kernel_rfl) (pi_done rfl (Ext.refl _) rfl))))
  · 
   intro v248 e249
   have hw11:=hw10.trans e249
   refine dk rfl rfl (dk rfl rfl (dk rfl rfl (dk rfl rfl (dk rfl rfl (dk rfl rfl (dk rfl rfl (dk rfl rfl (dk rfl rfl (dk rfl rfl (dk rfl rfl (dk rfl rfl (deps_cons rfl rfl fun x310 y311 h312 e313 f314=>?_))))))))))))
   obtain⟨s315,A315,n315,c315,rfl,z315⟩:=h312
   have z315:=z315.ext f314
   refine dk rfl rfl (dk rfl rfl (dk rfl rfl (dk rfl rfl (deps_nil (wl_nil (eo_np (eo_then (cw_false rfl (cw_skip (eo_then (sr (mv 1 rfl (lo aggMat (((hb4.ext (e7.trans (e11.trans (e17.trans (e23.trans (e27.trans (e33.trans (e39.trans e45)))))))).updN u55 (by omega)).ext e249) [.int .i64 ((n:Nat):Int),.int .i64 ((n:Nat):Int),.slice Aa (n*n) capa] rfl rfl rfl ?_)))))))))))))
   obtain⟨lb336,hlb336,hlelb336,hgl336,hq336_0,hq336_1⟩:∃lb,lb≤v248.heap.size∧v248.heap.size≤lb∧w.heap.size≤lb∧g1<lb∧g43<lb:=⟨v248.heap.size,Nat.le_refl _,Nat.le_refl _,hw11.size,(((hb4.ext (e7.trans (e11.trans (e17.trans (e23.trans (e27.trans (e33.trans (e39.trans e45)))))))).updN u55 (by omega)).ext e249).lt,(hb54.ext e249).lt⟩
   have hql337:∀p:Addr,LA14=some p→p.block<lb336:=fun p hp=>Nat.lt_of_lt_of_le (((((lz14.ext (e17.trans (e23.trans (e27.trans (e33.trans (e39.trans e45)))))).updT hb46 u55 ne49).ext e249)).block p hp).2 hlelb336
   have hql338:∀p:Addr,LA20=some p→p.block<lb336:=fun p hp=>Nat.lt_of_lt_of_le (((((lz20.ext (e23.trans (e27.trans (e33.trans (e39.trans e45))))).updT hb46 u55 ne50).ext e249)).block p hp).2 hlelb336
   have hql339:∀p:Addr,LA36=some p→p.block<lb336:=fun p hp=>Nat.lt_of_lt_of_le (((((lz36.ext (e39.trans e45)).updT hb46 u55 ne51).ext e249)).block p hp).2 hlelb336
   refine cl (vs:= [.agg #[.int .i64 ((n:Nat):Int),.int .i64 ((n:Nat):Int),.slice Aa (n*n) capa]]) hw11 (g_top_copyMat (w0:=w) hw11.size hlb336 hw11 ((show ZF w _ _ _ _ _ from⟨msa,hla,hma⟩).ext hw11) (by omega)) rfl (by kernel_rfl) fun xr342 v340 r342 e341 hw12=>?_
   obtain⟨lv343,rfl,⟨LA344,lc344,rfl,lz344⟩⟩:=r342
   have blk345:=lz344.block
   refine cl (vs:= [.slice LA20 (n+1) lc20,.agg #[.int .i64 ((n:Nat):Int),.int .i64 ((n:Nat):Int),.slice LA344 (n*n) lc344]]) hw12 (g_chp_At (X:=X) (Nat.le_trans hlb336 e341.size) (Lz.tight (K':=8589934592) (Lz.mono (b':=0) ((((lz20.ext (e23.trans (e27.trans (e33.trans (e39.trans e45))))).updT hb46 u55 ne50).ext (e249.trans e341))) (Nat.le_refl _) (Nat.zero_le _) (Nat.le_refl _)) (fun i=>Nat.le_trans (hcb i) (by decide))) (Nat.le_trans (Nat.le_trans (Nat.le_trans (Nat.le_trans (Nat.le_trans (Nat.le_trans (Nat.le_trans (Nat.le_trans (Nat.le_trans (Nat.le_trans hlb9 e11.size) e17.size) e23.size) e27.size) e33.size) e39.size) e45.size) u55.by_.size) e249.size) e341.size) (by omega) (by omega) (by rw [Nat.add_sub_cancel,hc1];decide) ((lz344).zf hw12) rfl hn hX) rfl (by kernel_rfl) fun xr348 v346 r348 e347 hw13=>?_
   obtain⟨_,_,rfl,⟨lv350,rfl,⟨LA351,lc351,zs351,rfl,lz351,hz351⟩⟩,r349_1⟩:=r348
   have blk352:=lz351.block
   obtain rfl:=r349_1
   refine mv 1 rfl (pu (v:= .agg #[.int .i64 ((n:Nat):Int),.int .i64 ((n:Nat):Int),.slice LA351 (n*n) lc351]) rfl (by kernel_rfl) (pu (v:= .int .i64 0) rfl (by kernel_rfl) (wl_alloc rfl (z:= .agg #[I0,I0,S0]) (vs:= [I0,I0,S0]) (fun _=>by kernel_rfl) rfl (by decide) fun g353 v354 nb=>?_)))
   have hb356:=nb.bk
   have ge357:w.heap.size≤g353:=by rw [←nb.at_];exact hw13.size
   have q358:g43<g353:=by rw [←nb.at_];exact (hb54.ext (e249.trans (e341.trans e347))).lt
   have ne359:∀p:Addr,LA14=some p→p.block≠g353:=fun p hp=>by have:=((((lz14.ext (e17.trans (e23.trans (e27.trans (e33.trans (e39.trans e45)))))).updT hb46 u55 ne49).ext (e249.trans (e341.trans e347)))).block p hp;have:=nb.at_;omega
   have ne360:∀p:Addr,LA20=some p→p.block≠g353:=fun p hp=>by have:=((((lz20.ext (e23.trans (e27.trans (e33.trans (e39.trans e45))))).updT hb46 u55 ne50).ext (e249.trans (e341.trans e347)))).block p hp;have:=nb.at_;omega
   have ne361:∀p:Addr,LA36=some p→p.block≠g353:=fun p hp=>by have:=((((lz36.ext (e39.trans e45)).updT hb46 u55 ne51).ext (e249.trans (e341.trans e347)))).block p hp;have:=nb.at_;omega
   have ne362:∀p:Addr,LA344=some p→p.block≠g353:=fun p hp=>by have:=((lz344.ext e347)).block p hp;have:=nb.at_;omega
   have ne363:∀p:Addr,LA351=some p→p.block≠g353:=fun p hp=>by have:=(lz351).block p hp;have:=nb.at_;omega
   have e355:=nb.ext
   clear nb
   have hw14:=hw13.trans e355
   refine so aggMat hb356 [.int .i64 ((n:Nat):Int),.int .i64 ((n:Nat):Int),.slice LA351 (n*n) lc351] hw14 ge357 rfl rfl rfl rfl fun v364 hb366 u367 hw15=>(mv 1 rfl (ne_ (cw_seq (cw_seq ?_))))
   obtain⟨lb369,hlb369,hlelb369,hgl369,hq369_0,hq369_1,hq369_2⟩:∃lb,lb≤v364.heap.size∧v364.heap.size≤lb∧w.heap.size≤lb∧g1<lb∧g43<lb∧g353<lb:=⟨v364.heap.size,Nat.le_refl _,Nat.le_refl _,hw15.size,((((hb4.ext (e7.trans (e11.trans (e17.trans (e23.trans (e27.trans (e33.trans (e39.trans e45)))))))).updN u55 (by omega)).ext (e249.trans (e341.trans (e347.trans e355)))).updN u367 (by omega)).lt,((hb54.ext (e249.trans (e341.trans (e347.trans e355)))).updN u367 (by omega)).lt,hb366.lt⟩
   have hql370:∀p:Addr,LA14=some p→p.block<lb369:=fun p hp=>Nat.lt_of_lt_of_le ((((((lz14.ext (e17.trans (e23.trans (e27.trans (e33.trans (e39.trans e45)))))).updT hb46 u55 ne49).ext (e249.trans (e341.trans (e347.trans e355)))).updT hb356 u367 ne359)).block p hp).2 hlelb369
   have hql371:∀p:Addr,LA20=some p→p.block<lb369:=fun p hp=>Nat.lt_of_lt_of_le ((((((lz20.ext (e23.trans (e27.trans (e33.trans (e39.trans e45))))).updT hb46 u55 ne50).ext (e249.trans (e341.trans (e347.trans e355)))).updT hb356 u367 ne360)).block p hp).2 hlelb369
   have hql372:∀p:Addr,LA36=some p→p.block<lb369:=fun p hp=>Nat.lt_of_lt_of_le ((((((lz36.ext (e39.trans e45)).updT hb46 u55 ne51).ext (e249.trans (e341.trans (e347.trans e355)))).updT hb356 u367 ne361)).block p hp).2 hlelb369
   have hql373:∀p:Addr,LA344=some p→p.block<lb369:=fun p hp=>Nat.lt_of_lt_of_le ((((lz344.ext (e347.trans e355)).updT hb356 u367 ne362)).block p hp).2 hlelb369
   have hql374:∀p:Addr,LA351=some p→p.block<lb369:=fun p hp=>Nat.lt_of_lt_of_le ((((lz351.ext e355).updT hb356 u367 ne363)).block p hp).2 hlelb369
   refine cw_draw mix 10 [] [Is (.int .i64 0),Is (.bool false),Is (.bool false),Is (.agg #[.int .i64 ((n:Nat):Int),.int .i64 ((n:Nat):Int),.slice LA351 (n*n) lc351]),Is (.int .i64 ((n:Nat):Int)),Is (.int .i64 ((n:Nat):Int)),MQ ((n:Nat):Int) ((n:Nat):Int) (LE none 1 w.heap.size lb369 (n*n) (List.replicate (n*n) 0)),Is (.bool true),Is (.bool false),Is (.bool false)] [[],[0],[1],[2],[2],[2],[2,4,5],[2,3,6],[2,7],[2,8]] [[],[0],[0,1],[0,1,2],[0,1,2],[0,1,2],[0,1,2,4,5],[0,1,2,3,4,5,6],[0,1,2,3,4,5,6,7],[0,1,2,3,4,5,6,7,8]] rfl
    (obs_cons rfl rfl (hob rfl rfl ?_) (obs_cons rfl rfl (hob rfl rfl ?_) (obs_cons rfl rfl (hob rfl rfl ?_) (obs_cons rfl rfl (hob rfl rfl ?_) (obs_cons rfl rfl (hob rfl rfl ?_) (obs_cons rfl rfl (hob rfl rfl ?_) (obs_cons rfl rfl (hob rfl rfl ?_) (obs_cons rfl rfl (hob rfl rfl ?_) (obs_cons rfl rfl (hob rfl rfl ?_) (obs_cons rfl rfl (hob rfl rfl ?_) obs_nil)))))))))) ?_
   · 
    exact fun _ _=>deps_nil (mv 1 rfl (pi_done rfl (Ext.refl _) rfl))
   · 
    exact fun _ _=>dk rfl rfl (deps_nil (wl_cmp rfl rfl rfl false (by decide) (by decide) (pi_done rfl (Ext.refl _) rfl)))
   · 
    exact fun _ _=>dk rfl rfl (deps_nil (mv 1 rfl (pi_done rfl (Ext.refl _) rfl)))
   · 
    exact fun _ e395=>dk rfl rfl (deps_nil (lo aggMat (hb366.ext e395) [.int .i64 ((n:Nat):Int),.int .i64 ((n:Nat):Int),.slice LA351 (n*n) lc351] rfl rfl rfl (pi_done rfl (Ext.refl _) rfl)))
   · 
    exact fun _ _=>dk rfl rfl (deps_nil (mv 1 rfl (pi_done rfl (Ext.refl _) rfl)))
   · 
    exact fun _ _=>dk rfl rfl (deps_nil (mv 1 rfl (pi_done rfl (Ext.refl _) rfl)))
   · 
    intro v415 e416
    have hw16:=hw15.trans e416
    refine dk rfl rfl (dk rfl rfl (dk rfl rfl (deps_nil (cl (vs:= [.int .i64 ((n:Nat):Int),.int .i64 ((n:Nat):Int)]) hw16 (g_top_zeros hw16.size (Nat.le_trans hlb369 e416.size) hn) rfl (by kernel_rfl) fun xr434 v432 r434 e433 hw17=>?_))))
    obtain⟨lv435,rfl,⟨LA436,lc436,rfl,lz436⟩⟩:=r434
    have blk437:=lz436.block
    exact pi_done rfl e433 ⟨_,rfl,⟨_,_,rfl,lz436⟩⟩
   · 
    intro v438 e439
    have hw16:=hw15.trans e439
    refine dk rfl rfl (dk rfl rfl (deps_cons rfl rfl fun x450 y451 h452 e453 f454=>?_))
    obtain⟨lv455,rfl,⟨LA456,lc456,rfl,lz456⟩⟩:=h452
    have blk457:=lz456.block
    have lz456:=lz456.ext f454
    refine deps_nil (cl (vs:= [.agg #[.int .i64 ((n:Nat):Int),.int .i64 ((n:Nat):Int),.slice LA351 (n*n) lc351],.agg #[.int .i64 ((n:Nat):Int),.int .i64 ((n:Nat):Int),.slice LA456 (n*n) lc456]]) hw16 (g_top_same (((lz351.ext e355).updT hb356 u367 ne363).ext e439) (Nat.le_trans (Nat.le_trans (Nat.le_trans (Nat.le_trans (Nat.le_trans hlb336 e341.size) e347.size) e355.size) u367.by_.size) e439.size) lz456 (Nat.le_trans hlb369 e439.size) hn (en_zero hz351 (fun i j hi hj=>hon_rt (chl_rt hcs hd) hi hj))) rfl (by kernel_rfl) fun xr460 v458 r460 e459 hw17=>?_)
    obtain rfl:=r460
    exact pi_done rfl e459 rfl
   · 
    exact fun _ _=>dk rfl rfl (dk rfl rfl (deps_nil (pu (v:= .bool false) rfl (by kernel_rfl) (pi_done rfl (Ext.refl _) rfl))))
   · 
    exact fun _ _=>dk rfl rfl (dk rfl rfl (deps_nil (pu (v:= .bool false) rfl (by kernel_rfl) (pi_done rfl (Ext.refl _) rfl))))
   · 
    intro v485 e486
    have hw16:=hw15.trans e486
    refine dk rfl rfl (dk rfl rfl (dk rfl rfl (dk rfl rfl (dk rfl rfl (dk rfl rfl (deps_cons rfl rfl fun x517 y518 h519 e520 f521=>?_))))))
    obtain⟨lv522,rfl,⟨LA523,lc523,rfl,lz523⟩⟩:=h519
    have blk524:=lz523.block
    have lz523:=lz523.ext f521
    refine dk rfl rfl (dk rfl rfl (dk rfl rfl (deps_nil (wl_nil (eo_np (eo_then (cw_false rfl (cw_skip (eo_then (sr (lo aggMat (((((hb4.ext (e7.trans (e11.trans (e17.trans (e23.trans (e27.trans (e33.trans (e39.trans e45)))))))).updN u55 (by omega)).ext (e249.trans (e341.trans (e347.trans e355)))).updN u367 (by omega)).ext e486) [.int .i64 ((n:Nat):Int),.int .i64 ((n:Nat):Int),.slice Aa (n*n) capa] rfl rfl rfl ?_)))))))))))
    obtain⟨lb540,hlb540,hlelb540,hgl540,hq540_0,hq540_1,hq540_2⟩:∃lb,lb≤v485.heap.size∧v485.heap.size≤lb∧w.heap.size≤lb∧g1<lb∧g43<lb∧g353<lb:=⟨v485.heap.size,Nat.le_refl _,Nat.le_refl _,hw16.size,(((((hb4.ext (e7.trans (e11.trans (e17.trans (e23.trans (e27.trans (e33.trans (e39.trans e45)))))))).updN u55 (by omega)).ext (e249.trans (e341.trans (e347.trans e355)))).updN u367 (by omega)).ext e486).lt,(((hb54.ext (e249.trans (e341.trans (e347.trans e355)))).updN u367 (by omega)).ext e486).lt,(hb366.ext e486).lt⟩
    have hql541:∀p:Addr,LA14=some p→p.block<lb540:=fun p hp=>Nat.lt_of_lt_of_le (((((((lz14.ext (e17.trans (e23.trans (e27.trans (e33.trans (e39.trans e45)))))).updT hb46 u55 ne49).ext (e249.trans (e341.trans (e347.trans e355)))).updT hb356 u367 ne359).ext e486)).block p hp).2 hlelb540
    have hql542:∀p:Addr,LA20=some p→p.block<lb540:=fun p hp=>Nat.lt_of_lt_of_le (((((((lz20.ext (e23.trans (e27.trans (e33.trans (e39.trans e45))))).updT hb46 u55 ne50).ext (e249.trans (e341.trans (e347.trans e355)))).updT hb356 u367 ne360).ext e486)).block p hp).2 hlelb540
    have hql543:∀p:Addr,LA36=some p→p.block<lb540:=fun p hp=>Nat.lt_of_lt_of_le (((((((lz36.ext (e39.trans e45)).updT hb46 u55 ne51).ext (e249.trans (e341.trans (e347.trans e355)))).updT hb356 u367 ne361).ext e486)).block p hp).2 hlelb540
    have hql544:∀p:Addr,LA344=some p→p.block<lb540:=fun p hp=>Nat.lt_of_lt_of_le (((((lz344.ext (e347.trans e355)).updT hb356 u367 ne362).ext e486)).block p hp).2 hlelb540
    have hql545:∀p:Addr,LA351=some p→p.block<lb540:=fun p hp=>Nat.lt_of_lt_of_le (((((lz351.ext e355).updT hb356 u367 ne363).ext e486)).block p hp).2 hlelb540
    have hql546:∀p:Addr,LA523=some p→p.block<lb540:=fun p hp=>Nat.lt_of_lt_of_le ((lz523).block p hp).2 hlelb540
    refine cl (vs:= [.agg #[.int .i64 ((n:Nat):Int),.int .i64 ((n:Nat):Int),.slice Aa (n*n) capa]]) hw16 (g_top_copyMat (w0:=w) hw16.size hlb540 hw16 ((show ZF w _ _ _ _ _ from⟨msa,hla,hma⟩).ext hw16) (by omega)) rfl (by kernel_rfl) fun xr549 v547 r549 e548 hw17=>?_
    obtain⟨lv550,rfl,⟨LA551,lc551,rfl,lz551⟩⟩:=r549
    have blk552:=lz551.block
    refine wl_call rfl rfl (vs:= [.agg #[.int .i64 ((n:Nat):Int),.int .i64 ((n:Nat):Int),.slice LA551 (n*n) lc551]]) (by kernel_rfl) (by decide) (g_chp_LeastPoly (d:=d) (X:=X) hw17.size (Nat.le_trans hlb540 e548.size) ((lz551).zf hw17) hn hX hd) ?_
    rintro _ v553 ⟨k556,p557,xr555,rfl,r555,e554⟩
    refine ret_intro ?_
    have hw18:=hw17.trans e554
    obtain⟨_,_,rfl,⟨LA559,lc559,zs559,rfl,lz559,hz559⟩,r558_1⟩:=r555
    have blk560:=lz559.block
    obtain rfl:=r558_1
    refine mv 1 rfl (pu (v:= .slice LA559 (k556+1) lc559) rfl (by kernel_rfl) (pu (v:= .int .i64 0) rfl (by kernel_rfl) (mv 2 rfl (ne_ (cw_seq (cw_seq ?_))))))
    have hlpo:Lpo n X k556 zs559:=hz559
    have hkn:=hlpo.le
    refine cw_region (mv 1 rfl (wl_cmp rfl rfl rfl false (by decide) (by decide) (mv 2 rfl (pu (v:= .int .i64 (((k556+1):Nat):Int)) rfl (by kernel_rfl) (wl_cmp rfl rfl rfl false (cb_eq_f (a:=k556+1) (b:=0) rfl rfl (by omega)) (by decide) (pu (v:= .bool false) rfl (by kernel_rfl) (mv 2 rfl (pu (v:= .int .i64 (((k556+1):Nat):Int)) rfl (by kernel_rfl) (mv 1 rfl (wl_ar rfl rfl rfl ((n+1:Nat):Int) (ai_add (a:=n) (b:=1) rfl rfl (by omega)) (by decide) (wl_cmp rfl rfl rfl false (cb_gt_f (a:=k556+1) (b:=n+1) rfl rfl (by omega)) (by decide) (pu (v:= .bool false) rfl (by kernel_rfl) (wl_nil ?_)))))))))))))
    refine eo_then (cw_false rfl (cw_skip (eo_then (sr (mv 1 rfl (lo aggMat (((((hb4.ext (e7.trans (e11.trans (e17.trans (e23.trans (e27.trans (e33.trans (e39.trans e45)))))))).updN u55 (by omega)).ext (e249.trans (e341.trans (e347.trans e355)))).updN u367 (by omega)).ext (e486.trans (e548.trans e554))) [.int .i64 ((n:Nat):Int),.int .i64 ((n:Nat):Int),.slice Aa (n*n) capa] rfl rfl rfl ?_))))))
    obtain⟨lb561,hlb561,hlelb561,hgl561,hq561_0,hq561_1,hq561_2⟩:∃lb,lb≤v553.heap.size∧v553.heap.size≤lb∧w.heap.size≤lb∧g1<lb∧g43<lb∧g353<lb:=⟨v553.heap.size,Nat.le_refl _,Nat.le_refl _,hw18.size,(((((hb4.ext (e7.trans (e11.trans (e17.trans (e23.trans (e27.trans (e33.trans (e39.trans e45)))))))).updN u55 (by omega)).ext (e249.trans (e341.trans (e347.trans e355)))).updN u367 (by omega)).ext (e486.trans (e548.trans e554))).lt,(((hb54.ext (e249.trans (e341.trans (e347.trans e355)))).updN u367 (by omega)).ext (e486.trans (e548.trans e554))).lt,(hb366.ext (e486.trans (e548.trans e554))).lt⟩
    have hql562:∀p:Addr,LA14=some p→p.block<lb561:=fun p hp=>Nat.lt_of_lt_of_le (((((((lz14.ext (e17.trans (e23.trans (e27.trans (e33.trans (e39.trans e45)))))).updT hb46 u55 ne49).ext (e249.trans (e341.trans (e347.trans e355)))).updT hb356 u367 ne359).ext (e486.trans (e548.trans e554)))).block p hp).2 hlelb561
    have hql563:∀p:Addr,LA20=some p→p.block<lb561:=fun p hp=>Nat.lt_of_lt_of_le (((((((lz20.ext (e23.trans (e27.trans (e33.trans (e39.trans e45))))).updT hb46 u55 ne50).ext (e249.trans (e341.trans (e347.trans e355)))).updT hb356 u367 ne360).ext (e486.trans (e548.trans e554)))).block p hp).2 hlelb561
    have hql564:∀p:Addr,LA36=some p→p.block<lb561:=fun p hp=>Nat.lt_of_lt_of_le (((((((lz36.ext (e39.trans e45)).updT hb46 u55 ne51).ext (e249.trans (e341.trans (e347.trans e355)))).updT hb356 u367 ne361).ext (e486.trans (e548.trans e554)))).block p hp).2 hlelb561
    have hql565:∀p:Addr,LA344=some p→p.block<lb561:=fun p hp=>Nat.lt_of_lt_of_le (((((lz344.ext (e347.trans e355)).updT hb356 u367 ne362).ext (e486.trans (e548.trans e554)))).block p hp).2 hlelb561
    have hql566:∀p:Addr,LA351=some p→p.block<lb561:=fun p hp=>Nat.lt_of_lt_of_le (((((lz351.ext e355).updT hb356 u367 ne363).ext (e486.trans (e548.trans e554)))).block p hp).2 hlelb561
    have hql567:∀p:Addr,LA523=some p→p.block<lb561:=fun p hp=>Nat.lt_of_lt_of_le (((lz523.ext (e548.trans e554))).block p hp).2 hlelb561
    have hql568:∀p:Addr,LA551=some p→p.block<lb561:=fun p hp=>Nat.lt_of_lt_of_le (((lz551.ext e554)).block p hp).2 hlelb561
    have hql569:∀p:Addr,LA559=some p→p.block<lb561:=fun p hp=>Nat.lt_of_lt_of_le ((lz559).block p hp).2 hlelb561
    refine cl (vs:= [.agg #[.int .i64 ((n:Nat):Int),.int .i64 ((n:Nat):Int),.slice Aa (n*n) capa]]) hw18 (g_top_copyMat (w0:=w) hw18.size hlb561 hw18 ((show ZF w _ _ _ _ _ from⟨msa,hla,hma⟩).ext hw18) (by omega)) rfl (by kernel_rfl) fun xr572 v570 r572 e571 hw19=>?_
    obtain⟨lv573,rfl,⟨LA574,lc574,rfl,lz574⟩⟩:=r572
    have blk575:=lz574.block
    refine cl (vs:= [.slice LA559 (k556+1) lc559,.agg #[.int .i64 ((n:Nat):Int),.int .i64 ((n:Nat):Int),.slice LA574 (n*n) lc574]]) hw19 (g_chp_At (X:=X) (Nat.le_trans hlb561 e571.size) (Lz.mono (b':=0) ((lz559.ext e571)) (Nat.le_refl _) (Nat.zero_le _) (Nat.le_refl _)) (Nat.le_trans (Nat.le_trans (Nat.le_trans hlb540 e548.size) e554.size) e571.size) (by omega) (by omega) (by rw [Nat.add_sub_cancel,hlpo.one];decide) ((lz574).zf hw19) rfl hn hX) rfl (by kernel_rfl) fun xr578 v576 r578 e577 hw20=>?_
    obtain⟨_,_,rfl,⟨lv580,rfl,⟨LA581,lc581,zs581,rfl,lz581,hz581⟩⟩,r579_1⟩:=r578
    have blk582:=lz581.block
    obtain rfl:=r579_1
    refine mv 1 rfl (pu (v:= .agg #[.int .i64 ((n:Nat):Int),.int .i64 ((n:Nat):Int),.slice LA581 (n*n) lc581]) rfl (by kernel_rfl) (pu (v:= .int .i64 0) rfl (by kernel_rfl) (wl_alloc rfl (z:= .agg #[I0,I0,S0]) (vs:= [I0,I0,S0]) (fun _=>by kernel_rfl) rfl (by decide) fun g583 v584 nb=>?_)))
    have hb586:=nb.bk
    have ge587:w.heap.size≤g583:=by rw [←nb.at_];exact hw20.size
    have q588:g353<g583:=by rw [←nb.at_];exact (hb366.ext (e486.trans (e548.trans (e554.trans (e571.trans e577))))).lt
    have ne589:∀p:Addr,LA14=some p→p.block≠g583:=fun p hp=>by have:=((((((lz14.ext (e17.trans (e23.trans (e27.trans (e33.trans (e39.trans e45)))))).updT hb46 u55 ne49).ext (e249.trans (e341.trans (e347.trans e355)))).updT hb356 u367 ne359).ext (e486.trans (e548.trans (e554.trans (e571.trans e577)))))).block p hp;have:=nb.at_;omega
    have ne590:∀p:Addr,LA20=some p→p.block≠g583:=fun p hp=>by have:=((((((lz20.ext (e23.trans (e27.trans (e33.trans (e39.trans e45))))).updT hb46 u55 ne50).ext (e249.trans (e341.trans (e347.trans e355)))).updT hb356 u367 ne360).ext (e486.trans (e548.trans (e554.trans (e571.trans e577)))))).block p hp;have:=nb.at_;omega
    have ne591:∀p:Addr,LA36=some p→p.block≠g583:=fun p hp=>by have:=((((((lz36.ext (e39.trans e45)).updT hb46 u55 ne51).ext (e249.trans (e341.trans (e347.trans e355)))).updT hb356 u367 ne361).ext (e486.trans (e548.trans (e554.trans (e571.trans e577)))))).block p hp;have:=nb.at_;omega
    have ne592:∀p:Addr,LA344=some p→p.block≠g583:=fun p hp=>by have:=((((lz344.ext (e347.trans e355)).updT hb356 u367 ne362).ext (e486.trans (e548.trans (e554.trans (e571.trans e577)))))).block p hp;have:=nb.at_;omega
    have ne593:∀p:Addr,LA351=some p→p.block≠g583:=fun p hp=>by have:=((((lz351.ext e355).updT hb356 u367 ne363).ext (e486.trans (e548.trans (e554.trans (e571.trans e577)))))).block p hp;have:=nb.at_;omega
    have ne594:∀p:Addr,LA523=some p→p.block≠g583:=fun p hp=>by have:=((lz523.ext (e548.trans (e554.trans (e571.trans e577))))).block p hp;have:=nb.at_;omega
    have ne595:∀p:Addr,LA551=some p→p.block≠g583:=fun p hp=>by have:=((lz551.ext (e554.trans (e571.trans e577)))).block p hp;have:=nb.at_;omega
    have ne596:∀p:Addr,LA559=some p→p.block≠g583:=fun p hp=>by have:=((lz559.ext (e571.trans e577))).block p hp;have:=nb.at_;omega
    have ne597:∀p:Addr,LA574=some p→p.block≠g583:=fun p hp=>by have:=((lz574.ext e577)).block p hp;have:=nb.at_;omega
    have ne598:∀p:Addr,LA581=some p→p.block≠g583:=fun p hp=>by have:=(lz581).block p hp;have:=nb.at_;omega
    have e585:=nb.ext
    clear nb
    have hw21:=hw20.trans e585
    refine so aggMat hb586 [.int .i64 ((n:Nat):Int),.int .i64 ((n:Nat):Int),.slice LA581 (n*n) lc581] hw21 ge587 rfl rfl rfl rfl fun v599 hb601 u602 hw22=>(mv 1 rfl (ne_ (sr (mv 2 rfl ?_))))
    obtain⟨lb604,hlb604,hlelb604,hgl604,hq604_0,hq604_1,hq604_2,hq604_3⟩:∃lb,lb≤v599.heap.size∧v599.heap.size≤lb∧w.heap.size≤lb∧g1<lb∧g43<lb∧g353<lb∧g583<lb:=⟨v599.heap.size,Nat.le_refl _,Nat.le_refl _,hw22.size,((((((hb4.ext (e7.trans (e11.trans (e17.trans (e23.trans (e27.trans (e33.trans (e39.trans e45)))))))).updN u55 (by omega)).ext (e249.trans (e341.trans (e347.trans e355)))).updN u367 (by omega)).ext (e486.trans (e548.trans (e554.trans (e571.trans (e577.trans e585)))))).updN u602 (by omega)).lt,((((hb54.ext (e249.trans (e341.trans (e347.trans e355)))).updN u367 (by omega)).ext (e486.trans (e548.trans (e554.trans (e571.trans (e577.trans e585)))))).updN u602 (by omega)).lt,((hb366.ext (e486.trans (e548.trans (e554.trans (e571.trans (e577.trans e585)))))).updN u602 (by omega)).lt,hb601.lt⟩
    have hql605:∀p:Addr,LA14=some p→p.block<lb604:=fun p hp=>Nat.lt_of_lt_of_le ((((((((lz14.ext (e17.trans (e23.trans (e27.trans (e33.trans (e39.trans e45)))))).updT hb46 u55 ne49).ext (e249.trans (e341.trans (e347.trans e355)))).updT hb356 u367 ne359).ext (e486.trans (e548.trans (e554.trans (e571.trans (e577.trans e585)))))).updT hb586 u602 ne589)).block p hp).2 hlelb604
    have hql606:∀p:Addr,LA20=some p→p.block<lb604:=fun p hp=>Nat.lt_of_lt_of_le ((((((((lz20.ext (e23.trans (e27.trans (e33.trans (e39.trans e45))))).updT hb46 u55 ne50).ext (e249.trans (e341.trans (e347.trans e355)))).updT hb356 u367 ne360).ext (e486.trans (e548.trans (e554.trans (e571.trans (e577.trans e585)))))).updT hb586 u602 ne590)).block p hp).2 hlelb604
    have hql607:∀p:Addr,LA36=some p→p.block<lb604:=fun p hp=>Nat.lt_of_lt_of_le ((((((((lz36.ext (e39.trans e45)).updT hb46 u55 ne51).ext (e249.trans (e341.trans (e347.trans e355)))).updT hb356 u367 ne361).ext (e486.trans (e548.trans (e554.trans (e571.trans (e577.trans e585)))))).updT hb586 u602 ne591)).block p hp).2 hlelb604
    have hql608:∀p:Addr,LA344=some p→p.block<lb604:=fun p hp=>Nat.lt_of_lt_of_le ((((((lz344.ext (e347.trans e355)).updT hb356 u367 ne362).ext (e486.trans (e548.trans (e554.trans (e571.trans (e577.trans e585)))))).updT hb586 u602 ne592)).block p hp).2 hlelb604
    have hql609:∀p:Addr,LA351=some p→p.block<lb604:=fun p hp=>Nat.lt_of_lt_of_le ((((((lz351.ext e355).updT hb356 u367 ne363).ext (e486.trans (e548.trans (e554.trans (e571.trans (e577.trans e585)))))).updT hb586 u602 ne593)).block p hp).2 hlelb604
    have hql610:∀p:Addr,LA523=some p→p.block<lb604:=fun p hp=>Nat.lt_of_lt_of_le ((((lz523.ext (e548.trans (e554.trans (e571.trans (e577.trans e585))))).updT hb586 u602 ne594)).block p hp).2 hlelb604
    have hql611:∀p:Addr,LA551=some p→p.block<lb604:=fun p hp=>Nat.lt_of_lt_of_le ((((lz551.ext (e554.trans (e571.trans (e577.trans e585)))).updT hb586 u602 ne595)).block p hp).2 hlelb604
    have hql612:∀p:Addr,LA559=some p→p.block<lb604:=fun p hp=>Nat.lt_of_lt_of_le ((((lz559.ext (e571.trans (e577.trans e585))).updT hb586 u602 ne596)).block p hp).2 hlelb604
    have hql613:∀p:Addr,LA574=some p→p.block<lb604:=fun p hp=>Nat.lt_of_lt_of_le ((((lz574.ext (e577.trans e585)).updT hb586 u602 ne597)).block p hp).2 hlelb604
    have hql614:∀p:Addr,LA581=some p→p.block<lb604:=fun p hp=>Nat.lt_of_lt_of_le ((((lz581.ext e585).updT hb586 u602 ne598)).block p hp).2 hlelb604
    refine cl (vs:= [.slice LA20 (n+1) lc20,.slice LA559 (k556+1) lc559]) hw22 (g_chp_DivMonicN (M:=n+1-k556) (k:=k556) (B:=LvB k556) (show n+1=n+1-k556+k556 by omega) hw22.size hlb604 (Lz.mono (b':=0) (((((((lz20.ext (e23.trans (e27.trans (e33.trans (e39.trans e45))))).updT hb46 u55 ne50).ext (e249.trans (e341.trans (e347.trans e355)))).updT hb356 u367 ne360).ext (e486.trans (e548.trans (e554.trans (e571.trans (e577.trans e585)))))).updT hb586 u602 ne590)) (Nat.le_refl _) (Nat.zero_le _) (Nat.le_refl _)) (Nat.le_trans (Nat.le_trans (Nat.le_trans (Nat.le_trans (Nat.le_trans (Nat.le_trans (Nat.le_trans (Nat.le_trans (Nat.le_trans (Nat.le_trans (Nat.le_trans (Nat.le_trans (Nat.le_trans (Nat.le_trans (Nat.le_trans (Nat.le_trans (Nat.le_trans (Nat.le_trans (Nat.le_trans (Nat.le_trans hlb9 e11.size) e17.size) e23.size) e27.size) e33.size) e39.size) e45.size) u55.by_.size) e249.size) e341.size) e347.size) e355.size) u367.by_.size) e486.size) e548.size) e554.size) e571.size) e577.size) e585.size) u602.by_.size) (Lz.mono (b':=0) (((lz559.ext (e571.trans (e577.trans e585))).updT hb586 u602 ne596)) (Nat.le_refl _) (Nat.zero_le _) (Nat.le_refl _)) (Nat.le_trans (Nat.le_trans (Nat.le_trans (Nat.le_trans (Nat.le_trans (Nat.le_trans hlb540 e548.size) e554.size) e571.size) e577.size) e585.size) u602.by_.size) (by omega) (by omega) (by omega) hlpo.one (by rw [Nat.add_sub_cancel,hc1];decide) hcb hlpo.ln (LvB_le (by omega)) (LvB_div hkn hn) (fun q r h1 h2=>hlpo.rest _ _ q r (show Rt n X (n+1-k556+k556) _ by rw [show n+1-k556+k556=n+1 by omega];exact chl_rt hcs hd) h1 h2)) rfl (by kernel_rfl) fun xr617 v615 r617 e616 hw23=>?_
    obtain⟨_,_,_,rfl,⟨LA619,lc619,zs619,rfl,lz619,hz619⟩,r618_1,r618_2⟩:=r617
    have blk620:=lz619.block
    obtain⟨LA621,lc621,rfl⟩:=r618_1
    obtain rfl:=r618_2
    refine mv 1 rfl (pu (v:= .slice LA619 (n+1-k556) lc619) rfl (by kernel_rfl) (pu (v:= .slice LA621 0 lc621) rfl (by kernel_rfl) (pu (v:= .int .i64 0) rfl (by kernel_rfl) (mv 3 rfl (ne_ (cw_seq ?_))))))
    obtain⟨lb622,hlb622,hlelb622,hgl622,hq622_0,hq622_1,hq622_2,hq622_3⟩:∃lb,lb≤v615.heap.size∧v615.heap.size≤lb∧w.heap.size≤lb∧g1<lb∧g43<lb∧g353<lb∧g583<lb:=⟨v615.heap.size,Nat.le_refl _,Nat.le_refl _,hw23.size,(((((((hb4.ext (e7.trans (e11.trans (e17.trans (e23.trans (e27.trans (e33.trans (e39.trans e45)))))))).updN u55 (by omega)).ext (e249.trans (e341.trans (e347.trans e355)))).updN u367 (by omega)).ext (e486.trans (e548.trans (e554.trans (e571.trans (e577.trans e585)))))).updN u602 (by omega)).ext e616).lt,(((((hb54.ext (e249.trans (e341.trans (e347.trans e355)))).updN u367 (by omega)).ext (e486.trans (e548.trans (e554.trans (e571.trans (e577.trans e585)))))).updN u602 (by omega)).ext e616).lt,(((hb366.ext (e486.trans (e548.trans (e554.trans (e571.trans (e577.trans e585)))))).updN u602 (by omega)).ext e616).lt,(hb601.ext e616).lt⟩
    have hql623:∀p:Addr,LA14=some p→p.block<lb622:=fun p hp=>Nat.lt_of_lt_of_le (((((((((lz14.ext (e17.trans (e23.trans (e27.trans (e33.trans (e39.trans e45)))))).updT hb46 u55 ne49).ext (e249.trans (e341.trans (e347.trans e355)))).updT hb356 u367 ne359).ext (e486.trans (e548.trans (e554.trans (e571.trans (e577.trans e585)))))).updT hb586 u602 ne589).ext e616)).block p hp).2 hlelb622
    have hql624:∀p:Addr,LA20=some p→p.block<lb622:=fun p hp=>Nat.lt_of_lt_of_le (((((((((lz20.ext (e23.trans (e27.trans (e33.trans (e39.trans e45))))).updT hb46 u55 ne50).ext (e249.trans (e341.trans (e347.trans e355)))).updT hb356 u367 ne360).ext (e486.trans (e548.trans (e554.trans (e571.trans (e577.trans e585)))))).updT hb586 u602 ne590).ext e616)).block p hp).2 hlelb622
    have hql625:∀p:Addr,LA36=some p→p.block<lb622:=fun p hp=>Nat.lt_of_lt_of_le (((((((((lz36.ext (e39.trans e45)).updT hb46 u55 ne51).ext (e249.trans (e341.trans (e347.trans e355)))).updT hb356 u367 ne361).ext (e486.trans (e548.trans (e554.trans (e571.trans (e577.trans e585)))))).updT hb586 u602 ne591).ext e616)).block p hp).2 hlelb622
    have hql626:∀p:Addr,LA344=some p→p.block<lb622:=fun p hp=>Nat.lt_of_lt_of_le (((((((lz344.ext (e347.trans e355)).updT hb356 u367 ne362).ext (e486.trans (e548.trans (e554.trans (e571.trans (e577.trans e585)))))).updT hb586 u602 ne592).ext e616)).block p hp).2 hlelb622
    have hql627:∀p:Addr,LA351=some p→p.block<lb622:=fun p hp=>Nat.lt_of_lt_of_le (((((((lz351.ext e355).updT hb356 u367 ne363).ext (e486.trans (e548.trans (e554.trans (e571.trans (e577.trans e585)))))).updT hb586 u602 ne593).ext e616)).block p hp).2 hlelb622
    have hql628:∀p:Addr,LA523=some p→p.block<lb622:=fun p hp=>Nat.lt_of_lt_of_le (((((lz523.ext (e548.trans (e554.trans (e571.trans (e577.trans e585))))).updT hb586 u602 ne594).ext e616)).block p hp).2 hlelb622
    have hql629:∀p:Addr,LA551=some p→p.block<lb622:=fun p hp=>Nat.lt_of_lt_of_le (((((lz551.ext (e554.trans (e571.trans (e577.trans e585)))).updT hb586 u602 ne595).ext e616)).block p hp).2 hlelb622
    have hql630:∀p:Addr,LA559=some p→p.block<lb622:=fun p hp=>Nat.lt_of_lt_of_le (((((lz559.ext (e571.trans (e577.trans e585))).updT hb586 u602 ne596).ext e616)).block p hp).2 hlelb622
    have hql631:∀p:Addr,LA574=some p→p.block<lb622:=fun p hp=>Nat.lt_of_lt_of_le (((((lz574.ext (e577.trans e585)).updT hb586 u602 ne597).ext e616)).block p hp).2 hlelb622
    have hql632:∀p:Addr,LA581=some p→p.block<lb622:=fun p hp=>Nat.lt_of_lt_of_le (((((lz581.ext e585).updT hb586 u602 ne598).ext e616)).block p hp).2 hlelb622
    have hql633:∀p:Addr,LA619=some p→p.block<lb622:=fun p hp=>Nat.lt_of_lt_of_le ((lz619).block p hp).2 hlelb622
    refine cw_draw mix 18 [] [Is (.int .i64 0),Is (.bool true),Is (.bool true),Is (.int .i64 0),Is (.bool true),Is (.bool true),Is (.bool true),Is (.agg #[.int .i64 ((n:Nat):Int),.int .i64 ((n:Nat):Int),.slice LA581 (n*n) lc581]),Is (.int .i64 ((n:Nat):Int)),Is (.int .i64 ((n:Nat):Int)),MQ ((n:Nat):Int) ((n:Nat):Int) (LE none 1 w.heap.size lb622 (n*n) (List.replicate (n*n) 0)),Is (.bool true),Is (.bool true),Is (.bool true),Is (.slice LA621 0 lc621),Is (.int .i64 0),Is (.bool true),Is (.bool true)] [[],[0],[1],[2],[2,3],[2,4],[5],[6],[6],[6],[6,8,9],[6,7,10],[6,11],[12],[13],[13,14],[13,15],[13,16]] [[],[0],[0,1],[0,1,2],[0,1,2,3],[0,1,2,3,4],[0,1,2,3,4,5],[0,1,2,3,4,5,6],[0,1,2,3,4,5,6],[0,1,2,3,4,5,6],[0,1,2,3,4,5,6,8,9],[0,1,2,3,4,5,6,7,8,9,10],[0,1,2,3,4,5,6,7,8,9,10,11],[0,1,2,3,4,5,6,7,8,9,10,11,12],[0,1,2,3,4,5,6,7,8,9,10,11,12,13],[0,1,2,3,4,5,6,7,8,9,10,11,12,13,14],[0,1,2,3,4,5,6,7,8,9,10,11,12,13,14,15],[0,1,2,3,4,5,6,7,8,9,10,11,12,13,14,15,16],[0,1,2,3,4,5,6,7,8,9,10,11,12,13,14,15,16,17]] rfl
     (obs_cons rfl rfl (hob rfl rfl ?_) (obs_cons rfl rfl (hob rfl rfl ?_) (obs_cons rfl rfl (hob rfl rfl ?_) (obs_cons rfl rfl (hob rfl rfl ?_) (obs_cons rfl rfl (hob rfl rfl ?_) (obs_cons rfl rfl (hob rfl rfl ?_) (obs_cons rfl rfl (hob rfl rfl ?_) (obs_cons rfl rfl (hob rfl rfl ?_) (obs_cons rfl rfl (hob rfl rfl ?_) (obs_cons rfl rfl (hob rfl rfl ?_) (obs_cons rfl rfl (hob rfl rfl ?_) (obs_cons rfl rfl (hob rfl rfl ?_) (obs_cons rfl rfl (hob rfl rfl ?_) (obs_cons rfl rfl (hob rfl rfl ?_) (obs_cons rfl rfl (hob rfl rfl ?_) (obs_cons rfl rfl (hob rfl rfl ?_) (obs_cons rfl rfl (hob rfl rfl ?_) (obs_cons rfl rfl (hob rfl rfl ?_) obs_nil)))))))))))))))))) ?_
    · 
     exact fun _ _=>deps_nil (mv 1 rfl (pi_done rfl (Ext.refl _) rfl))
    · 
     exact fun _ _=>dk rfl rfl (deps_nil (wl_cmp rfl rfl rfl true (by decide) (by decide) (pi_done rfl (Ext.refl _) rfl)))
    · 
     exact fun _ _=>dk rfl rfl (deps_nil (mv 1 rfl (pi_done rfl (Ext.refl _) rfl)))
    · 
     exact fun _ _=>dk rfl rfl (deps_nil (mv 1 rfl (pi_done rfl (Ext.refl _) rfl)))
    · 
     exact fun _ _=>dk rfl rfl (dk rfl rfl (deps_nil (wl_cmp rfl rfl rfl true (by decide) (by decide) (pi_done rfl (Ext.refl _) rfl))))
    · 
     exact fun _ _=>dk rfl rfl (dk rfl rfl (deps_nil (pu (v:= .bool true) rfl (by kernel_rfl) (pi_done rfl (Ext.refl _) rfl))))
    · 
     exact fun _ _=>dk rfl rfl (deps_nil (mv 1 rfl (pi_done rfl (Ext.refl _) rfl)))
    · 
     exact fun _ e692=>dk rfl rfl (deps_nil (lo aggMat (hb601.ext (e616.trans e692)) [.int .i64 ((n:Nat):Int),.int .i64 ((n:Nat):Int),.slice LA581 (n*n) lc581] rfl rfl rfl (pi_done rfl (Ext.refl _) rfl)))
    · 
     exact fun _ _=>dk rfl rfl (deps_nil (mv 1 rfl (pi_done rfl (Ext.refl _) rfl)))
    · 
     exact fun _ _=>dk rfl rfl (deps_nil (mv 1 rfl (pi_done rfl (Ext.refl _) rfl)))
    · 
     intro v712 e713
     have hw24:=hw23.trans e713
     refine dk rfl rfl (dk rfl rfl (dk rfl rfl (deps_nil (cl (vs:= [.int .i64 ((n:Nat):Int),.int .i64 ((n:Nat):Int)]) hw24 (g_top_zeros hw24.size (Nat.le_trans hlb622 e713.size) hn) rfl (by kernel_rfl) fun xr731 v729 r731 e730 hw25=>?_))))
     obtain⟨lv732,rfl,⟨LA733,lc733,rfl,lz733⟩⟩:=r731
     have blk734:=lz733.block
     exact pi_done rfl e730 ⟨_,rfl,⟨_,_,rfl,lz733⟩⟩
    · 
     intro v735 e736
     have hw24:=hw23.trans e736
     refine dk rfl rfl (dk rfl rfl (deps_cons rfl rfl fun x747 y748 h749 e750 f751=>?_))
     obtain⟨lv752,rfl,⟨LA753,lc753,rfl,lz753⟩⟩:=h749
     have blk754:=lz753.block
     have lz753:=lz753.ext f751
     refine deps_nil (cl (vs:= [.agg #[.int .i64 ((n:Nat):Int),.int .i64 ((n:Nat):Int),.slice LA581 (n*n) lc581],.agg #[.int .i64 ((n:Nat):Int),.int .i64 ((n:Nat):Int),.slice LA753 (n*n) lc753]]) hw24 (g_top_same (((lz581.ext e585).updT hb586 u602 ne598).ext (e616.trans e736)) (Nat.le_trans (Nat.le_trans (Nat.le_trans (Nat.le_trans (Nat.le_trans (Nat.le_trans hlb561 e571.size) e577.size) e585.size) u602.by_.size) e616.size) e736.size) lz753 (Nat.le_trans hlb622 e736.size) hn (en_zero hz581 (fun i j hi hj=>hon_rt (hlpo.rt) hi hj))) rfl (by kernel_rfl) fun xr757 v755 r757 e756 hw25=>?_)
     obtain rfl:=r757
     exact pi_done rfl e756 rfl
    · 
     exact fun _ _=>dk rfl rfl (dk rfl rfl (deps_nil (pu (v:= .bool true) rfl (by kernel_rfl) (pi_done rfl (Ext.refl _) rfl))))
    · 
     exact fun _ _=>dk rfl rfl (deps_nil (mv 1 rfl (pi_done rfl (Ext.refl _) rfl)))
    · 
     exact fun _ _=>dk rfl rfl (deps_nil (mv 1 rfl (pi_done rfl (Ext.refl _) rfl)))
    · 
     exact fun _ _=>dk rfl rfl (dk rfl rfl (deps_nil (pu (v:= .int .i64 0) rfl (by kernel_rfl) (pi_done rfl (Ext.refl _) rfl))))
    · 
     exact fun _ _=>dk rfl rfl (dk rfl rfl (deps_nil (wl_cmp rfl rfl rfl true (by decide) (by decide) (pi_done rfl (Ext.refl _) rfl))))
    · 
     exact fun _ _=>dk rfl rfl (dk rfl rfl (deps_nil (pu (v:= .bool true) rfl (by kernel_rfl) (pi_done rfl (Ext.refl _) rfl))))
    · 
     intro v820 e821
     have hw24:=hw23.trans e821
     refine dk rfl rfl (dk rfl rfl (dk rfl rfl (dk rfl rfl (dk rfl rfl (dk rfl rfl (dk rfl rfl (dk rfl rfl (dk rfl rfl (dk rfl rfl (deps_cons rfl rfl fun x872 y873 h874 e875 f876=>?_))))))))))
     obtain⟨lv877,rfl,⟨LA878,lc878,rfl,lz878⟩⟩:=h874
     have blk879:=lz878.block
     have lz878:=lz878.ext f876
     refine dk rfl rfl (dk rfl rfl (dk rfl rfl (dk rfl rfl (dk rfl rfl (dk rfl rfl (dk rfl rfl (deps_nil (mv 1 rfl (wl_nil (eo_np (eo_then (cw_ret (eo_ret [.bool true] rfl ⟨rfl,trivial⟩ ?_)))))))))))))
     exact⟨_,rfl,rfl,hw24⟩
 · 
  refine cw_draw mix 17 [] [Is (.int .i64 0),Is (.bool false),Is (.bool false),Is (.int .i64 ((n:Nat):Int)),Is (.bool false),Is (.bool false),Is (undef),Is (undef),Is (undef),Is (undef),Is (undef),Is (undef),Is (undef),Is (undef),Is (undef),Is (.bool false),Is (.bool false)] [[],[0],[1],[2],[2,3],[2,4],[5],[5],[5,7],[5,6,8],[5,9],[5],[5,11],[5,10,12],[5,13],[2,5,14],[2,15]] [[],[0],[0,1],[0,1,2],[0,1,2,3],[0,1,2,3,4],[0,1,2,3,4,5],[0,1,2,3,4,5],[0,1,2,3,4,5,7],[0,1,2,3,4,5,6,7,8],[0,1,2,3,4,5,6,7,8,9],[0,1,2,3,4,5],[0,1,2,3,4,5,11],[0,1,2,3,4,5,6,7,8,9,10,11,12],[0,1,2,3,4,5,6,7,8,9,10,11,12,13],[0,1,2,3,4,5,6,7,8,9,10,11,12,13,14],[0,1,2,3,4,5,6,7,8,9,10,11,12,13,14,15]] rfl
   (obs_cons rfl rfl (hob rfl rfl ?_) (obs_cons rfl rfl (hob rfl rfl ?_) (obs_cons rfl rfl (hob rfl rfl ?_) (obs_cons rfl rfl (hob rfl rfl ?_) (obs_cons rfl rfl (hob rfl rfl ?_) (obs_cons rfl rfl (hob rfl rfl ?_) (obs_cons rfl rfl (hob rfl rfl ?_) (obs_cons rfl rfl (hob rfl rfl ?_) (obs_cons rfl rfl (hob rfl rfl ?_) (obs_cons rfl rfl (hob rfl rfl ?_) (obs_cons rfl rfl (hob rfl rfl ?_) (obs_cons rfl rfl (hob rfl rfl ?_) (obs_cons rfl rfl (hob rfl rfl ?_) (obs_cons rfl rfl (hob rfl rfl ?_) (obs_cons rfl rfl (hob rfl rfl ?_) (obs_cons rfl rfl (hob rfl rfl ?_) (obs_cons rfl rfl (hob rfl rfl ?_) obs_nil))))))))))))))))) ?_
  · 
   exact fun _ _=>deps_nil (mv 1 rfl (pi_done rfl (Ext.refl _) rfl))
  · 
   exact fun _ _=>dk rfl rfl (deps_nil (wl_cmp rfl rfl rfl false (by decide) (by decide) (pi_done rfl (Ext.refl _) rfl)))
  · 
   exact fun _ _=>dk rfl rfl (deps_nil (mv 1 rfl (pi_done rfl (Ext.refl _) rfl)))
  · 
   exact fun _ _=>dk rfl rfl (deps_nil (mv 1 rfl (pi_done rfl (Ext.refl _) rfl)))
  · 
   exact fun _ _=>dk rfl rfl (dk rfl rfl (deps_nil (wl_cmp rfl rfl rfl false (cb_gt_f (a:=n) (b:=0) rfl rfl (by omega)) (by decide) (pi_done rfl (Ext.refl _) rfl))))
  · 
   exact fun _ _=>dk rfl rfl (dk rfl rfl (deps_nil (mv 1 rfl (pi_done rfl (Ext.refl _) rfl))))
  · 
   exact fun _ _=>dk rfl rfl (deps_nil (mv 1 rfl (pi_done rfl (Ext.refl _) rfl)))
  · 
   exact fun _ _=>dk rfl rfl (deps_nil (mv 1 rfl (pi_done rfl (Ext.refl _) rfl)))
  · 
   exact fun _ _=>dk rfl rfl (dk rfl rfl (deps_nil (mv 1 rfl (pi_done rfl (Ext.refl _) rfl))))
  · 
   exact fun _ _=>dk rfl rfl (dk rfl rfl (dk rfl rfl (deps_nil (mv 1 rfl (pi_done rfl (Ext.refl _) rfl)))))
  · 
   exact fun _ _=>dk rfl rfl (dk rfl rfl (deps_nil (mv 1 rfl (pi_done rfl (Ext.refl _) rfl))))
  · 
   exact fun _ _=>dk rfl rfl (deps_nil (mv 1 rfl (pi_done rfl (Ext.refl _) rfl)))
  · 
   exact fun _ _=>dk rfl rfl (dk rfl rfl (deps_nil (mv 1 rfl (pi_done rfl (Ext.refl _) rfl))))
  · 
   exact fun _ _=>dk rfl rfl (dk rfl rfl (dk rfl rfl (deps_nil (mv 1 rfl (pi_done rfl (Ext.refl _) rfl)))))
  · 
   exact fun _ _=>dk rfl rfl (dk rfl rfl (deps_nil (mv 1 rfl (pi_done rfl (Ext.refl _) rfl))))
  · 
   exact fun _ _=>dk rfl rfl (dk rfl rfl (dk rfl rfl (deps_nil (pu (v:= .bool false) rfl (by kernel_rfl) (pi_done rfl (Ext.refl _) rfl)))))
  · 
   exact fun _ _=>dk rfl rfl (dk rfl rfl (deps_nil (pu (v:= .bool false) rfl (by kernel_rfl) (pi_done rfl (Ext.refl _) rfl))))
  · 
   intro v1094 e1095
   have hw11:=hw10.trans e1095
   refine dk rfl rfl (dk rfl rfl (dk rfl rfl (dk rfl rfl (dk rfl rfl (dk rfl rfl (dk rfl rfl (dk rfl rfl (dk rfl rfl (dk rfl rfl (dk rfl rfl (dk rfl rfl (dk rfl rfl (dk rfl rfl ?_)))))))))))))
   refine dk rfl rfl (dk rfl rfl (dk rfl rfl (deps_nil (wl_nil (eo_np (eo_then (cw_false rfl (cw_skip (eo_then (sr (mv 1 rfl (lo aggMat (((hb4.ext (e7.trans (e11.trans (e17.trans (e23.trans (e27.trans (e33.trans (e39.trans e45)))))))).updN u55 (by omega)).ext e1095) [.int .i64 ((n:Nat):Int),.int .i64 ((n:Nat):Int),.slice Aa (n*n) capa] rfl rfl rfl ?_))))))))))))
   obtain⟨lb1181,hlb1181,hlelb1181,hgl1181,hq1181_0,hq1181_1⟩:∃lb,lb≤v1094.heap.size∧v1094.heap.size≤lb∧w.heap.size≤lb∧g1<lb∧g43<lb:=⟨v1094.heap.size,Nat.le_refl _,Nat.le_refl _,hw11.size,(((hb4.ext (e7.trans (e11.trans (e17.trans (e23.trans (e27.trans (e33.trans (e39.trans e45)))))))).updN u55 (by omega)).ext e1095).lt,(hb54.ext e1095).lt⟩
   have hql1182:∀p:Addr,LA14=some p→p.block<lb1181:=fun p hp=>Nat.lt_of_lt_of_le (((((lz14.ext (e17.trans (e23.trans (e27.trans (e33.trans (e39.trans e45)))))).updT hb46 u55 ne49).ext e1095)).block p hp).2 hlelb1181
   have hql1183:∀p:Addr,LA20=some p→p.block<lb1181:=fun p hp=>Nat.lt_of_lt_of_le (((((lz20.ext (e23.trans (e27.trans (e33.trans (e39.trans e45))))).updT hb46 u55 ne50).ext e1095)).block p hp).2 hlelb1181
   have hql1184:∀p:Addr,LA36=some p→p.block<lb1181:=fun p hp=>Nat.lt_of_lt_of_le (((((lz36.ext (e39.trans e45)).updT hb46 u55 ne51).ext e1095)).block p hp).2 hlelb1181
   refine cl (vs:= [.agg #[.int .i64 ((n:Nat):Int),.int .i64 ((n:Nat):Int),.slice Aa (n*n) capa]]) hw11 (g_top_copyMat (w0:=w) hw11.size hlb1181 hw11 ((show ZF w _ _ _ _ _ from⟨msa,hla,hma⟩).ext hw11) (by omega)) rfl (by kernel_rfl) fun xr1187 v1185 r1187 e1186 hw12=>?_
   obtain⟨lv1188,rfl,⟨LA1189,lc1189,rfl,lz1189⟩⟩:=r1187
   have blk1190:=lz1189.block
   refine cl (vs:= [.slice LA20 (n+1) lc20,.agg #[.int .i64 ((n:Nat):Int),.int .i64 ((n:Nat):Int),.slice LA1189 (n*n) lc1189]]) hw12 (g_chp_At (X:=X) (Nat.le_trans hlb1181 e1186.size) (Lz.tight (K':=8589934592) (Lz.mono (b':=0) ((((lz20.ext (e23.trans (e27.trans (e33.trans (e39.trans e45))))).updT hb46 u55 ne50).ext (e1095.trans e1186))) (Nat.le_refl _) (Nat.zero_le _) (Nat.le_refl _)) (fun i=>Nat.le_trans (hcb i) (by decide))) (Nat.le_trans (Nat.le_trans (Nat.le_trans (Nat.le_trans (Nat.le_trans (Nat.le_trans (Nat.le_trans (Nat.le_trans (Nat.le_trans (Nat.le_trans hlb9 e11.size) e17.size) e23.size) e27.size) e33.size) e39.size) e45.size) u55.by_.size) e1095.size) e1186.size) (by omega) (by omega) (by rw [Nat.add_sub_cancel,hc1];decide) ((lz1189).zf hw12) rfl hn hX) rfl (by kernel_rfl) fun xr1193 v1191 r1193 e1192 hw13=>?_
   obtain⟨_,_,rfl,⟨lv1195,rfl,⟨LA1196,lc1196,zs1196,rfl,lz1196,hz1196⟩⟩,r1194_1⟩:=r1193
   have blk1197:=lz1196.block
   obtain rfl:=r1194_1
   refine mv 1 rfl (pu (v:= .agg #[.int .i64 ((n:Nat):Int),.int .i64 ((n:Nat):Int),.slice LA1196 (n*n) lc1196]) rfl (by kernel_rfl) (pu (v:= .int .i64 0) rfl (by kernel_rfl) (wl_alloc rfl (z:= .agg #[I0,I0,S0]) (vs:= [I0,I0,S0]) (fun _=>by kernel_rfl) rfl (by decide) fun g1198 v1199 nb=>?_)))
   have hb1201:=nb.bk
   have ge1202:w.heap.size≤g1198:=by rw [←nb.at_];exact hw13.size
   have q1203:g43<g1198:=by rw [←nb.at_];exact (hb54.ext (e1095.trans (e1186.trans e1192))).lt
   have ne1204:∀p:Addr,LA14=some p→p.block≠g1198:=fun p hp=>by have:=((((lz14.ext (e17.trans (e23.trans (e27.trans (e33.trans (e39.trans e45)))))).updT hb46 u55 ne49).ext (e1095.trans (e1186.trans e1192)))).block p hp;have:=nb.at_;omega
   have ne1205:∀p:Addr,LA20=some p→p.block≠g1198:=fun p hp=>by have:=((((lz20.ext (e23.trans (e27.trans (e33.trans (e39.trans e45))))).updT hb46 u55 ne50).ext (e1095.trans (e1186.trans e1192)))).block p hp;have:=nb.at_;omega
   have ne1206:∀p:Addr,LA36=some p→p.block≠g1198:=fun p hp=>by have:=((((lz36.ext (e39.trans e45)).updT hb46 u55 ne51).ext (e1095.trans (e1186.trans e1192)))).block p hp;have:=nb.at_;omega
   have ne1207:∀p:Addr,LA1189=some p→p.block≠g1198:=fun p hp=>by have:=((lz1189.ext e1192)).block p hp;have:=nb.at_;omega
   have ne1208:∀p:Addr,LA1196=some p→p.block≠g1198:=fun p hp=>by have:=(lz1196).block p hp;have:=nb.at_;omega
   have e1200:=nb.ext
   clear nb
   have hw14:=hw13.trans e1200
   refine so aggMat hb1201 [.int .i64 ((n:Nat):Int),.int .i64 ((n:Nat):Int),.slice LA1196 (n*n) lc1196] hw14 ge1202 rfl rfl rfl rfl fun v1209 hb1211 u1212 hw15=>(mv 1 rfl (ne_ (cw_seq (cw_seq ?_))))
   obtain⟨lb1214,hlb1214,hlelb1214,hgl1214,hq1214_0,hq1214_1,hq1214_2⟩:∃lb,lb≤v1209.heap.size∧v1209.heap.size≤lb∧w.heap.size≤lb∧g1<lb∧g43<lb∧g1198<lb:=⟨v1209.heap.size,Nat.le_refl _,Nat.le_refl _,hw15.size,((((hb4.ext (e7.trans (e11.trans (e17.trans (e23.trans (e27.trans (e33.trans (e39.trans e45)))))))).updN u55 (by omega)).ext (e1095.trans (e1186.trans (e1192.trans e1200)))).updN u1212 (by omega)).lt,((hb54.ext (e1095.trans (e1186.trans (e1192.trans e1200)))).updN u1212 (by omega)).lt,hb1211.lt⟩
   have hql1215:∀p:Addr,LA14=some p→p.block<lb1214:=fun p hp=>Nat.lt_of_lt_of_le ((((((lz14.ext (e17.trans (e23.trans (e27.trans (e33.trans (e39.trans e45)))))).updT hb46 u55 ne49).ext (e1095.trans (e1186.trans (e1192.trans e1200)))).updT hb1201 u1212 ne1204)).block p hp).2 hlelb1214
   have hql1216:∀p:Addr,LA20=some p→p.block<lb1214:=fun p hp=>Nat.lt_of_lt_of_le ((((((lz20.ext (e23.trans (e27.trans (e33.trans (e39.trans e45))))).updT hb46 u55 ne50).ext (e1095.trans (e1186.trans (e1192.trans e1200)))).updT hb1201 u1212 ne1205)).block p hp).2 hlelb1214
   have hql1217:∀p:Addr,LA36=some p→p.block<lb1214:=fun p hp=>Nat.lt_of_lt_of_le ((((((lz36.ext (e39.trans e45)).updT hb46 u55 ne51).ext (e1095.trans (e1186.trans (e1192.trans e1200)))).updT hb1201 u1212 ne1206)).block p hp).2 hlelb1214
   have hql1218:∀p:Addr,LA1189=some p→p.block<lb1214:=fun p hp=>Nat.lt_of_lt_of_le ((((lz1189.ext (e1192.trans e1200)).updT hb1201 u1212 ne1207)).block p hp).2 hlelb1214
   have hql1219:∀p:Addr,LA1196=some p→p.block<lb1214:=fun p hp=>Nat.lt_of_lt_of_le ((((lz1196.ext e1200).updT hb1201 u1212 ne1208)).block p hp).2 hlelb1214
   refine cw_draw mix 10 [] [Is (.int .i64 0),Is (.bool false),Is (.bool false),Is (.agg #[.int .i64 ((n:Nat):Int),.int .i64 ((n:Nat):Int),.slice LA1196 (n*n) lc1196]),Is (.int .i64 ((n:Nat):Int)),Is (.int .i64 ((n:Nat):Int)),MQ ((n:Nat):Int) ((n:Nat):Int) (LE none 1 w.heap.size lb1214 (n*n) (List.replicate (n*n) 0)),Is (.bool true),Is (.bool false),Is (.bool false)] [[],[0],[1],[2],[2],[2],[2,4,5],[2,3,6],[2,7],[2,8]] [[],[0],[0,1],[0,1,2],[0,1,2],[0,1,2],[0,1,2,4,5],[0,1,2,3,4,5,6],[0,1,2,3,4,5,6,7],[0,1,2,3,4,5,6,7,8]] rfl
    (obs_cons rfl rfl (hob rfl rfl ?_) (obs_cons rfl rfl (hob rfl rfl ?_) (obs_cons rfl rfl (hob rfl rfl ?_) (obs_cons rfl rfl (hob rfl rfl ?_) (obs_cons rfl rfl (hob rfl rfl ?_) (obs_cons rfl rfl (hob rfl rfl ?_) (obs_cons rfl rfl (hob rfl rfl ?_) (obs_cons rfl rfl (hob rfl rfl ?_) (obs_cons rfl rfl (hob rfl rfl ?_) (obs_cons rfl rfl (hob rfl rfl ?_) obs_nil)))))))))) ?_
   · 
    exact fun _ _=>deps_nil (mv 1 rfl (pi_done rfl (Ext.refl _) rfl))
   · 
    exact fun _ _=>dk rfl rfl (deps_nil (wl_cmp rfl rfl rfl false (by decide) (by decide) (pi_done rfl (Ext.refl _) rfl)))
   · 
    exact fun _ _=>dk rfl rfl (deps_nil (mv 1 rfl (pi_done rfl (Ext.refl _) rfl)))
   · 
    exact fun _ e1240=>dk rfl rfl (deps_nil (lo aggMat (hb1211.ext e1240) [.int .i64 ((n:Nat):Int),.int .i64 ((n:Nat):Int),.slice LA1196 (n*n) lc1196] rfl rfl rfl (pi_done rfl (Ext.refl _) rfl)))
   · 
    exact fun _ _=>dk rfl rfl (deps_nil (mv 1 rfl (pi_done rfl (Ext.refl _) rfl)))
   · 
    exact fun _ _=>dk rfl rfl (deps_nil (mv 1 rfl (pi_done rfl (Ext.refl _) rfl)))
   · 
    intro v1260 e1261
    have hw16:=hw15.trans e1261
    refine dk rfl rfl (dk rfl rfl (dk rfl rfl (deps_nil (cl (vs:= [.int .i64 ((n:Nat):Int),.int .i64 ((n:Nat):Int)]) hw16 (g_top_zeros hw16.size (Nat.le_trans hlb1214 e1261.size) hn) rfl (by kernel_rfl) fun xr1279 v1277 r1279 e1278 hw17=>?_))))
    obtain⟨lv1280,rfl,⟨LA1281,lc1281,rfl,lz1281⟩⟩:=r1279
    have blk1282:=lz1281.block
    exact pi_done rfl e1278 ⟨_,rfl,⟨_,_,rfl,lz1281⟩⟩
   · 
    intro v1283 e1284
    have hw16:=hw15.trans e1284
    refine dk rfl rfl (dk rfl rfl (deps_cons rfl rfl fun x1295 y1296 h1297 e1298 f1299=>?_))
    obtain⟨lv1300,rfl,⟨LA1301,lc1301,rfl,lz1301⟩⟩:=h1297
    have blk1302:=lz1301.block
    have lz1301:=lz1301.ext f1299
    refine deps_nil (cl (vs:= [.agg #[.int .i64 ((n:Nat):Int),.int .i64 ((n:Nat):Int),.slice LA1196 (n*n) lc1196],.agg #[.int .i64 ((n:Nat):Int),.int .i64 ((n:Nat):Int),.slice LA1301 (n*n) lc1301]]) hw16 (g_top_same (((lz1196.ext e1200).updT hb1201 u1212 ne1208).ext e1284) (Nat.le_trans (Nat.le_trans (Nat.le_trans (Nat.le_trans (Nat.le_trans hlb1181 e1186.size) e1192.size) e1200.size) u1212.by_.size) e1284.size) lz1301 (Nat.le_trans hlb1214 e1284.size) hn (en_zero hz1196 (fun i j hi hj=>hon_rt (chl_rt hcs hd) hi hj))) rfl (by kernel_rfl) fun xr1305 v1303 r1305 e1304 hw17=>?_)
    obtain rfl:=r1305
    exact pi_done rfl e1304 rfl
   · 
    exact fun _ _=>dk rfl rfl (dk rfl rfl (deps_nil (pu (v:= .bool false) rfl (by kernel_rfl) (pi_done rfl (Ext.refl _) rfl))))
   · 
    exact fun _ _=>dk rfl rfl (dk rfl rfl (deps_nil (pu (v:= .bool false) rfl (by kernel_rfl) (pi_done rfl (Ext.refl _) rfl))))
   · 
    intro v1330 e1331
    have hw16:=hw15.trans e1331
    refine dk rfl rfl (dk rfl rfl (dk rfl rfl (dk rfl rfl (dk rfl rfl (dk rfl rfl (deps_cons rfl rfl fun x1362 y1363 h1364 e1365 f1366=>?_))))))
    obtain⟨lv1367,rfl,⟨LA1368,lc1368,rfl,lz1368⟩⟩:=h1364
    have blk1369:=lz1368.block
    have lz1368:=lz1368.ext f1366
    refine dk rfl rfl (dk rfl rfl (dk rfl rfl (deps_nil (wl_nil (eo_np (eo_then (cw_false rfl (cw_skip (eo_then (sr (lo aggMat (((((hb4.ext (e7.trans (e11.trans (e17.trans (e23.trans (e27.trans (e33.trans (e39.trans e45)))))))).updN u55 (by omega)).ext (e1095.trans (e1186.trans (e1192.trans e1200)))).updN u1212 (by omega)).ext e1331) [.int .i64 ((n:Nat):Int),.int .i64 ((n:Nat):Int),.slice Aa (n*n) capa] rfl rfl rfl ?_)))))))))))
    obtain⟨lb1385,hlb1385,hlelb1385,hgl1385,hq1385_0,hq1385_1,hq1385_2⟩:∃lb,lb≤v1330.heap.size∧v1330.heap.size≤lb∧w.heap.size≤lb∧g1<lb∧g43<lb∧g1198<lb:=⟨v1330.heap.size,Nat.le_refl _,Nat.le_refl _,hw16.size,(((((hb4.ext (e7.trans (e11.trans (e17.trans (e23.trans (e27.trans (e33.trans (e39.trans e45)))))))).updN u55 (by omega)).ext (e1095.trans (e1186.trans (e1192.trans e1200)))).updN u1212 (by omega)).ext e1331).lt,(((hb54.ext (e1095.trans (e1186.trans (e1192.trans e1200)))).updN u1212 (by omega)).ext e1331).lt,(hb1211.ext e1331).lt⟩
    have hql1386:∀p:Addr,LA14=some p→p.block<lb1385:=fun p hp=>Nat.lt_of_lt_of_le (((((((lz14.ext (e17.trans (e23.trans (e27.trans (e33.trans (e39.trans e45)))))).updT hb46 u55 ne49).ext (e1095.trans (e1186.trans (e1192.trans e1200)))).updT hb1201 u1212 ne1204).ext e1331)).block p hp).2 hlelb1385
    have hql1387:∀p:Addr,LA20=some p→p.block<lb1385:=fun p hp=>Nat.lt_of_lt_of_le (((((((lz20.ext (e23.trans (e27.trans (e33.trans (e39.trans e45))))).updT hb46 u55 ne50).ext (e1095.trans (e1186.trans (e1192.trans e1200)))).updT hb1201 u1212 ne1205).ext e1331)).block p hp).2 hlelb1385
    have hql1388:∀p:Addr,LA36=some p→p.block<lb1385:=fun p hp=>Nat.lt_of_lt_of_le (((((((lz36.ext (e39.trans e45)).updT hb46 u55 ne51).ext (e1095.trans (e1186.trans (e1192.trans e1200)))).updT hb1201 u1212 ne1206).ext e1331)).block p hp).2 hlelb1385
    have hql1389:∀p:Addr,LA1189=some p→p.block<lb1385:=fun p hp=>Nat.lt_of_lt_of_le (((((lz1189.ext (e1192.trans e1200)).updT hb1201 u1212 ne1207).ext e1331)).block p hp).2 hlelb1385
    have hql1390:∀p:Addr,LA1196=some p→p.block<lb1385:=fun p hp=>Nat.lt_of_lt_of_le (((((lz1196.ext e1200).updT hb1201 u1212 ne1208).ext e1331)).block p hp).2 hlelb1385
    have hql1391:∀p:Addr,LA1368=some p→p.block<lb1385:=fun p hp=>Nat.lt_of_lt_of_le ((lz1368).block p hp).2 hlelb1385
    refine cl (vs:= [.agg #[.int .i64 ((n:Nat):Int),.int .i64 ((n:Nat):Int),.slice Aa (n*n) capa]]) hw16 (g_top_copyMat (w0:=w) hw16.size hlb1385 hw16 ((show ZF w _ _ _ _ _ from⟨msa,hla,hma⟩).ext hw16) (by omega)) rfl (by kernel_rfl) fun xr1394 v1392 r1394 e1393 hw17=>?_
    obtain⟨lv1395,rfl,⟨LA1396,lc1396,rfl,lz1396⟩⟩:=r1394
    have blk1397:=lz1396.block
    refine wl_call rfl rfl (vs:= [.agg #[.int .i64 ((n:Nat):Int),.int .i64 ((n:Nat):Int),.slice LA1396 (n*n) lc1396]]) (by kernel_rfl) (by decide) (g_chp_LeastPoly (d:=d) (X:=X) hw17.size (Nat.le_trans hlb1385 e1393.size) ((lz1396).zf hw17) hn hX hd) ?_
    rintro _ v1398 ⟨k1401,p1402,xr1400,rfl,r1400,e1399⟩
    refine ret_intro ?_
    have hw18:=hw17.trans e1399
    obtain⟨_,_,rfl,⟨LA1404,lc1404,zs1404,rfl,lz1404,hz1404⟩,r1403_1⟩:=r1400
    have blk1405:=lz1404.block
    obtain rfl:=r1403_1
    refine mv 1 rfl (pu (v:= .slice LA1404 (k1401+1) lc1404) rfl (by kernel_rfl) (pu (v:= .int .i64 0) rfl (by kernel_rfl) (mv 2 rfl (ne_ (cw_seq (cw_seq ?_))))))
    have hlpo:Lpo n X k1401 zs1404:=hz1404
    have hkn:=hlpo.le
    refine cw_region (mv 1 rfl (wl_cmp rfl rfl rfl false (by decide) (by decide) (mv 2 rfl (pu (v:= .int .i64 (((k1401+1):Nat):Int)) rfl (by kernel_rfl) (wl_cmp rfl rfl rfl false (cb_eq_f (a:=k1401+1) (b:=0) rfl rfl (by omega)) (by decide) (pu (v:= .bool false) rfl (by kernel_rfl) (mv 2 rfl (pu (v:= .int .i64 (((k1401+1):Nat):Int)) rfl (by kernel_rfl) (mv 1 rfl (wl_ar rfl rfl rfl ((n+1:Nat):Int) (ai_add (a:=n) (b:=1) rfl rfl (by omega)) (by decide) (wl_cmp rfl rfl rfl false (cb_gt_f (a:=k1401+1) (b:=n+1) rfl rfl (by omega)) (by decide) (pu (v:= .bool false) rfl (by kernel_rfl) (wl_nil ?_)))))))))))))
    refine eo_then (cw_false rfl (cw_skip (eo_then (sr (mv 1 rfl (lo aggMat (((((hb4.ext (e7.trans (e11.trans (e17.trans (e23.trans (e27.trans (e33.trans (e39.trans e45)))))))).updN u55 (by omega)).ext (e1095.trans (e1186.trans (e1192.trans e1200)))).updN u1212 (by omega)).ext (e1331.trans (e1393.trans e1399))) [.int .i64 ((n:Nat):Int),.int .i64 ((n:Nat):Int),.slice Aa (n*n) capa] rfl rfl rfl ?_))))))
    obtain⟨lb1406,hlb1406,hlelb1406,hgl1406,hq1406_0,hq1406_1,hq1406_2⟩:∃lb,lb≤v1398.heap.size∧v1398.heap.size≤lb∧w.heap.size≤lb∧g1<lb∧g43<lb∧g1198<lb:=⟨v1398.heap.size,Nat.le_refl _,Nat.le_refl _,hw18.size,(((((hb4.ext (e7.trans (e11.trans (e17.trans (e23.trans (e27.trans (e33.trans (e39.trans e45)))))))).updN u55 (by omega)).ext (e1095.trans (e1186.trans (e1192.trans e1200)))).updN u1212 (by omega)).ext (e1331.trans (e1393.trans e1399))).lt,(((hb54.ext (e1095.trans (e1186.trans (e1192.trans e1200)))).updN u1212 (by omega)).ext (e1331.trans (e1393.trans e1399))).lt,(hb1211.ext (e1331.trans (e1393.trans e1399))).lt⟩
    have hql1407:∀p:Addr,LA14=some p→p.block<lb1406:=fun p hp=>Nat.lt_of_lt_of_le (((((((lz14.ext (e17.trans (e23.trans (e27.trans (e33.trans (e39.trans e45)))))).updT hb46 u55 ne49).ext (e1095.trans (e1186.trans (e1192.trans e1200)))).updT hb1201 u1212 ne1204).ext (e1331.trans (e1393.trans e1399)))).block p hp).2 hlelb1406
    have hql1408:∀p:Addr,LA20=some p→p.block<lb1406:=fun p hp=>Nat.lt_of_lt_of_le (((((((lz20.ext (e23.trans (e27.trans (e33.trans (e39.trans e45))))).updT hb46 u55 ne50).ext (e1095.trans (e1186.trans (e1192.trans e1200)))).updT hb1201 u1212 ne1205).ext (e1331.trans (e1393.trans e1399)))).block p hp).2 hlelb1406
    have hql1409:∀p:Addr,LA36=some p→p.block<lb1406:=fun p hp=>Nat.lt_of_lt_of_le (((((((lz36.ext (e39.trans e45)).updT hb46 u55 ne51).ext (e1095.trans (e1186.trans (e1192.trans e1200)))).updT hb1201 u1212 ne1206).ext (e1331.trans (e1393.trans e1399)))).block p hp).2 hlelb1406
    have hql1410:∀p:Addr,LA1189=some p→p.block<lb1406:=fun p hp=>Nat.lt_of_lt_of_le (((((lz1189.ext (e1192.trans e1200)).updT hb1201 u1212 ne1207).ext (e1331.trans (e1393.trans e1399)))).block p hp).2 hlelb1406
    have hql1411:∀p:Addr,LA1196=some p→p.block<lb1406:=fun p hp=>Nat.lt_of_lt_of_le (((((lz1196.ext e1200).updT hb1201 u1212 ne1208).ext (e1331.trans (e1393.trans e1399)))).block p hp).2 hlelb1406
    have hql1412:∀p:Addr,LA1368=some p→p.block<lb1406:=fun p hp=>Nat.lt_of_lt_of_le (((lz1368.ext (e1393.trans e1399))).block p hp).2 hlelb1406
    have hql1413:∀p:Addr,LA1396=some p→p.block<lb1406:=fun p hp=>Nat.lt_of_lt_of_le (((lz1396.ext e1399)).block p hp).2 hlelb1406
    have hql1414:∀p:Addr,LA1404=some p→p.block<lb1406:=fun p hp=>Nat.lt_of_lt_of_le ((lz1404).block p hp).2 hlelb1406
    refine cl (vs:= [.agg #[.int .i64 ((n:Nat):Int),.int .i64 ((n:Nat):Int),.slice Aa (n*n) capa]]) hw18 (g_top_copyMat (w0:=w) hw18.size hlb1406 hw18 ((show ZF w _ _ _ _ _ from⟨msa,hla,hma⟩).ext hw18) (by omega)) rfl (by kernel_rfl) fun xr1417 v1415 r1417 e1416 hw19=>?_
    obtain⟨lv1418,rfl,⟨LA1419,lc1419,rfl,lz1419⟩⟩:=r1417
    have blk1420:=lz1419.block
    refine cl (vs:= [.slice LA1404 (k1401+1) lc1404,.agg #[.int .i64 ((n:Nat):Int),.int .i64 ((n:Nat):Int),.slice LA1419 (n*n) lc1419]]) hw19 (g_chp_At (X:=X) (Nat.le_trans hlb1406 e1416.size) (Lz.mono (b':=0) ((lz1404.ext e1416)) (Nat.le_refl _) (Nat.zero_le _) (Nat.le_refl _)) (Nat.le_trans (Nat.le_trans (Nat.le_trans hlb1385 e1393.size) e1399.size) e1416.size) (by omega) (by omega) (by rw [Nat.add_sub_cancel,hlpo.one];decide) ((lz1419).zf hw19) rfl hn hX) rfl (by kernel_rfl) fun xr1423 v1421 r1423 e1422 hw20=>?_
    obtain⟨_,_,rfl,⟨lv1425,rfl,⟨LA1426,lc1426,zs1426,rfl,lz1426,hz1426⟩⟩,r1424_1⟩:=r1423
    have blk1427:=lz1426.block
    obtain rfl:=r1424_1
    refine mv 1 rfl (pu (v:= .agg #[.int .i64 ((n:Nat):Int),.int .i64 ((n:Nat):Int),.slice LA1426 (n*n) lc1426]) rfl (by kernel_rfl) (pu (v:= .int .i64 0) rfl (by kernel_rfl) (wl_alloc rfl (z:= .agg #[I0,I0,S0]) (vs:= [I0,I0,S0]) (fun _=>by kernel_rfl) rfl (by decide) fun g1428 v1429 nb=>?_)))
    have hb1431:=nb.bk
    have ge1432:w.heap.size≤g1428:=by rw [←nb.at_];exact hw20.size
    have q1433:g1198<g1428:=by rw [←nb.at_];exact (hb1211.ext (e1331.trans (e1393.trans (e1399.trans (e1416.trans e1422))))).lt
    have ne1434:∀p:Addr,LA14=some p→p.block≠g1428:=fun p hp=>by have:=((((((lz14.ext (e17.trans (e23.trans (e27.trans (e33.trans (e39.trans e45)))))).updT hb46 u55 ne49).ext (e1095.trans (e1186.trans (e1192.trans e1200)))).updT hb1201 u1212 ne1204).ext (e1331.trans (e1393.trans (e1399.trans (e1416.trans e1422)))))).block p hp;have:=nb.at_;omega
    have ne1435:∀p:Addr,LA20=some p→p.block≠g1428:=fun p hp=>by have:=((((((lz20.ext (e23.trans (e27.trans (e33.trans (e39.trans e45))))).updT hb46 u55 ne50).ext (e1095.trans (e1186.trans (e1192.trans e1200)))).updT hb1201 u1212 ne1205).ext (e1331.trans (e1393.trans (e1399.trans (e1416.trans e1422)))))).block p hp;have:=nb.at_;omega
    have ne1436:∀p:Addr,LA36=some p→p.block≠g1428:=fun p hp=>by have:=((((((lz36.ext (e39.trans e45)).updT hb46 u55 ne51).ext (e1095.trans (e1186.trans (e1192.trans e1200)))).updT hb1201 u1212 ne1206).ext (e1331.trans (e1393.trans (e1399.trans (e1416.trans e1422)))))).block p hp;have:=nb.at_;omega
    have ne1437:∀p:Addr,LA1189=some p→p.block≠g1428:=fun p hp=>by have:=((((lz1189.ext (e1192.trans e1200)).updT hb1201 u1212 ne1207).ext (e1331.trans (e1393.trans (e1399.trans (e1416.trans e1422)))))).block p hp;have:=nb.at_;omega
    have ne1438:∀p:Addr,LA1196=some p→p.block≠g1428:=fun p hp=>by have:=((((lz1196.ext e1200).updT hb1201 u1212 ne1208).ext (e1331.trans (e1393.trans (e1399.trans (e1416.trans e1422)))))).block p hp;have:=nb.at_;omega
    have ne1439:∀p:Addr,LA1368=some p→p.block≠g1428:=fun p hp=>by have:=((lz1368.ext (e1393.trans (e1399.trans (e1416.trans e1422))))).block p hp;have:=nb.at_;omega
    have ne1440:∀p:Addr,LA1396=some p→p.block≠g1428:=fun p hp=>by have:=((lz1396.ext (e1399.trans (e1416.trans e1422)))).block p hp;have:=nb.at_;omega
    have ne1441:∀p:Addr,LA1404=some p→p.block≠g1428:=fun p hp=>by have:=((lz1404.ext (e1416.trans e1422))).block p hp;have:=nb.at_;omega
    have ne1442:∀p:Addr,LA1419=some p→p.block≠g1428:=fun p hp=>by have:=((lz1419.ext e1422)).block p hp;have:=nb.at_;omega
    have ne1443:∀p:Addr,LA1426=some p→p.block≠g1428:=fun p hp=>by have:=(lz1426).block p hp;have:=nb.at_;omega
    have e1430:=nb.ext
    clear nb
    have hw21:=hw20.trans e1430
    refine so aggMat hb1431 [.int .i64 ((n:Nat):Int),.int .i64 ((n:Nat):Int),.slice LA1426 (n*n) lc1426] hw21 ge1432 rfl rfl rfl rfl fun v1444 hb1446 u1447 hw22=>(mv 1 rfl (ne_ (sr (mv 2 rfl ?_))))
    obtain⟨lb1449,hlb1449,hlelb1449,hgl1449,hq1449_0,hq1449_1,hq1449_2,hq1449_3⟩:∃lb,lb≤v1444.heap.size∧v1444.heap.size≤lb∧w.heap.size≤lb∧g1<lb∧g43<lb∧g1198<lb∧g1428<lb:=⟨v1444.heap.size,Nat.le_refl _,Nat.le_refl _,hw22.size,((((((hb4.ext (e7.trans (e11.trans (e17.trans (e23.trans (e27.trans (e33.trans (e39.trans e45)))))))).updN u55 (by omega)).ext (e1095.trans (e1186.trans (e1192.trans e1200)))).updN u1212 (by omega)).ext (e1331.trans (e1393.trans (e1399.trans (e1416.trans (e1422.trans e1430)))))).updN u1447 (by omega)).lt,((((hb54.ext (e1095.trans (e1186.trans (e1192.trans e1200)))).updN u1212 (by omega)).ext (e1331.trans (e1393.trans (e1399.trans (e1416.trans (e1422.trans e1430)))))).updN u1447 (by omega)).lt,((hb1211.ext (e1331.trans (e1393.trans (e1399.trans (e1416.trans (e1422.trans e1430)))))).updN u1447 (by omega)).lt,hb1446.lt⟩
    have hql1450:∀p:Addr,LA14=some p→p.block<lb1449:=fun p hp=>Nat.lt_of_lt_of_le ((((((((lz14.ext (e17.trans (e23.trans (e27.trans (e33.trans (e39.trans e45)))))).updT hb46 u55 ne49).ext (e1095.trans (e1186.trans (e1192.trans e1200)))).updT hb1201 u1212 ne1204).ext (e1331.trans (e1393.trans (e1399.trans (e1416.trans (e1422.trans e1430)))))).updT hb1431 u1447 ne1434)).block p hp).2 hlelb1449
    have hql1451:∀p:Addr,LA20=some p→p.block<lb1449:=fun p hp=>Nat.lt_of_lt_of_le ((((((((lz20.ext (e23.trans (e27.trans (e33.trans (e39.trans e45))))).updT hb46 u55 ne50).ext (e1095.trans (e1186.trans (e1192.trans e1200)))).updT hb1201 u1212 ne1205).ext (e1331.trans (e1393.trans (e1399.trans (e1416.trans (e1422.trans e1430)))))).updT hb1431 u1447 ne1435)).block p hp).2 hlelb1449
    have hql1452:∀p:Addr,LA36=some p→p.block<lb1449:=fun p hp=>Nat.lt_of_lt_of_le ((((((((lz36.ext (e39.trans e45)).updT hb46 u55 ne51).ext (e1095.trans (e1186.trans (e1192.trans e1200)))).updT hb1201 u1212 ne1206).ext (e1331.trans (e1393.trans (e1399.trans (e1416.trans (e1422.trans e1430)))))).updT hb1431 u1447 ne1436)).block p hp).2 hlelb1449
    have hql1453:∀p:Addr,LA1189=some p→p.block<lb1449:=fun p hp=>Nat.lt_of_lt_of_le ((((((lz1189.ext (e1192.trans e1200)).updT hb1201 u1212 ne1207).ext (e1331.trans (e1393.trans (e1399.trans (e1416.trans (e1422.trans e1430)))))).updT hb1431 u1447 ne1437)).block p hp).2 hlelb1449
    have hql1454:∀p:Addr,LA1196=some p→p.block<lb1449:=fun p hp=>Nat.lt_of_lt_of_le ((((((lz1196.ext e1200).updT hb1201 u1212 ne1208).ext (e1331.trans (e1393.trans (e1399.trans (e1416.trans (e1422.trans e1430)))))).updT hb1431 u1447 ne1438)).block p hp).2 hlelb1449
    have hql1455:∀p:Addr,LA1368=some p→p.block<lb1449:=fun p hp=>Nat.lt_of_lt_of_le ((((lz1368.ext (e1393.trans (e1399.trans (e1416.trans (e1422.trans e1430))))).updT hb1431 u1447 ne1439)).block p hp).2 hlelb1449
    have hql1456:∀p:Addr,LA1396=some p→p.block<lb1449:=fun p hp=>Nat.lt_of_lt_of_le ((((lz1396.ext (e1399.trans (e1416.trans (e1422.trans e1430)))).updT hb1431 u1447 ne1440)).block p hp).2 hlelb1449
    have hql1457:∀p:Addr,LA1404=some p→p.block<lb1449:=fun p hp=>Nat.lt_of_lt_of_le ((((lz1404.ext (e1416.trans (e1422.trans e1430))).updT hb1431 u1447 ne1441)).block p hp).2 hlelb1449
    have hql1458:∀p:Addr,LA1419=some p→p.block<lb1449:=fun p hp=>Nat.lt_of_lt_of_le ((((lz1419.ext (e1422.trans e1430)).updT hb1431 u1447 ne1442)).block p hp).2 hlelb1449
    have hql1459:∀p:Addr,LA1426=some p→p.block<lb1449:=fun p hp=>Nat.lt_of_lt_of_le ((((lz1426.ext e1430).updT hb1431 u1447 ne1443)).block p hp).2 hlelb1449
    refine cl (vs:= [.slice LA20 (n+1) lc20,.slice LA1404 (k1401+1) lc1404]) hw22 (g_chp_DivMonicN (M:=n+1-k1401) (k:=k1401) (B:=LvB k1401) (show n+1=n+1-k1401+k1401 by omega) hw22.size hlb1449 (Lz.mono (b':=0) (((((((lz20.ext (e23.trans (e27.trans (e33.trans (e39.trans e45))))).updT hb46 u55 ne50).ext (e1095.trans (e1186.trans (e1192.trans e1200)))).updT hb1201 u1212 ne1205).ext (e1331.trans (e1393.trans (e1399.trans (e1416.trans (e1422.trans e1430)))))).updT hb1431 u1447 ne1435)) (Nat.le_refl _) (Nat.zero_le _) (Nat.le_refl _)) (Nat.le_trans (Nat.le_trans (Nat.le_trans (Nat.le_trans (Nat.le_trans (Nat.le_trans (Nat.le_trans (Nat.le_trans (Nat.le_trans (Nat.le_trans (Nat.le_trans (Nat.le_trans (Nat.le_trans (Nat.le_trans (Nat.le_trans (Nat.le_trans (Nat.le_trans (Nat.le_trans (Nat.le_trans (Nat.le_trans hlb9 e11.size) e17.size) e23.size) e27.size) e33.size) e39.size) e45.size) u55.by_.size) e1095.size) e1186.size) e1192.size) e1200.size) u1212.by_.size) e1331.size) e1393.size) e1399.size) e1416.size) e1422.size) e1430.size) u1447.by_.size) (Lz.mono (b':=0) (((lz1404.ext (e1416.trans (e1422.trans e1430))).updT hb1431 u1447 ne1441)) (Nat.le_refl _) (Nat.zero_le _) (Nat.le_refl _)) (Nat.le_trans (Nat.le_trans (Nat.le_trans (Nat.le_trans (Nat.le_trans (Nat.le_trans hlb1385 e1393.size) e1399.size) e1416.size) e1422.size) e1430.size) u1447.by_.size) (by omega) (by omega) (by omega) hlpo.one (by rw [Nat.add_sub_cancel,hc1];decide) hcb hlpo.ln (LvB_le (by omega)) (LvB_div hkn hn) (fun q r h1 h2=>hlpo.rest _ _ q r (show Rt n X (n+1-k1401+k1401) _ by rw [show n+1-k1401+k1401=n+1 by omega];exact chl_rt hcs hd) h1 h2)) rfl (by kernel_rfl) fun xr1462 v1460 r1462 e1461 hw23=>?_
    obtain⟨_,_,_,rfl,⟨LA1464,lc1464,zs1464,rfl,lz1464,hz1464⟩,r1463_1,r1463_2⟩:=r1462
    have blk1465:=lz1464.block
    obtain⟨LA1466,lc1466,rfl⟩:=r1463_1
    obtain rfl:=r1463_2
    refine mv 1 rfl (pu (v:= .slice LA1464 (n+1-k1401) lc1464) rfl (by kernel_rfl) (pu (v:= .slice LA1466 0 lc1466) rfl (by kernel_rfl) (pu (v:= .int .i64 0) rfl (by kernel_rfl) (mv 3 rfl (ne_ (cw_seq ?_))))))
    obtain⟨lb1467,hlb1467,hlelb1467,hgl1467,hq1467_0,hq1467_1,hq1467_2,hq1467_3⟩:∃lb,lb≤v1460.heap.size∧v1460.heap.size≤lb∧w.heap.size≤lb∧g1<lb∧g43<lb∧g1198<lb∧g1428<lb:=⟨v1460.heap.size,Nat.le_refl _,Nat.le_refl _,hw23.size,(((((((hb4.ext (e7.trans (e11.trans (e17.trans (e23.trans (e27.trans (e33.trans (e39.trans e45)))))))).updN u55 (by omega)).ext (e1095.trans (e1186.trans (e1192.trans e1200)))).updN u1212 (by omega)).ext (e1331.trans (e1393.trans (e1399.trans (e1416.trans (e1422.trans e1430)))))).updN u1447 (by omega)).ext e1461).lt,(((((hb54.ext (e1095.trans (e1186.trans (e1192.trans e1200)))).updN u1212 (by omega)).ext (e1331.trans (e1393.trans (e1399.trans (e1416.trans (e1422.trans e1430)))))).updN u1447 (by omega)).ext e1461).lt,(((hb1211.ext (e1331.trans (e1393.trans (e1399.trans (e1416.trans (e1422.trans e1430)))))).updN u1447 (by omega)).ext e1461).lt,(hb1446.ext e1461).lt⟩
    have hql1468:∀p:Addr,LA14=some p→p.block<lb1467:=fun p hp=>Nat.lt_of_lt_of_le (((((((((lz14.ext (e17.trans (e23.trans (e27.trans (e33.trans (e39.trans e45)))))).updT hb46 u55 ne49).ext (e1095.trans (e1186.trans (e1192.trans e1200)))).updT hb1201 u1212 ne1204).ext (e1331.trans (e1393.trans (e1399.trans (e1416.trans (e1422.trans e1430)))))).updT hb1431 u1447 ne1434).ext e1461)).block p hp).2 hlelb1467
    have hql1469:∀p:Addr,LA20=some p→p.block<lb1467:=fun p hp=>Nat.lt_of_lt_of_le (((((((((lz20.ext (e23.trans (e27.trans (e33.trans (e39.trans e45))))).updT hb46 u55 ne50).ext (e1095.trans (e1186.trans (e1192.trans e1200)))).updT hb1201 u1212 ne1205).ext (e1331.trans (e1393.trans (e1399.trans (e1416.trans (e1422.trans e1430)))))).updT hb1431 u1447 ne1435).ext e1461)).block p hp).2 hlelb1467
    have hql1470:∀p:Addr,LA36=some p→p.block<lb1467:=fun p hp=>Nat.lt_of_lt_of_le (((((((((lz36.ext (e39.trans e45)).updT hb46 u55 ne51).ext (e1095.trans (e1186.trans (e1192.trans e1200)))).updT hb1201 u1212 ne1206).ext (e1331.trans (e1393.trans (e1399.trans (e1416.trans (e1422.trans e1430)))))).updT hb1431 u1447 ne1436).ext e1461)).block p hp).2 hlelb1467
    have hql1471:∀p:Addr,LA1189=some p→p.block<lb1467:=fun p hp=>Nat.lt_of_lt_of_le (((((((lz1189.ext (e1192.trans e1200)).updT hb1201 u1212 ne1207).ext (e1331.trans (e1393.trans (e1399.trans (e1416.trans (e1422.trans e1430)))))).updT hb1431 u1447 ne1437).ext e1461)).block p hp).2 hlelb1467
    have hql1472:∀p:Addr,LA1196=some p→p.block<lb1467:=fun p hp=>Nat.lt_of_lt_of_le (((((((lz1196.ext e1200).updT hb1201 u1212 ne1208).ext (e1331.trans (e1393.trans (e1399.trans (e1416.trans (e1422.trans e1430)))))).updT hb1431 u1447 ne1438).ext e1461)).block p hp).2 hlelb1467
    have hql1473:∀p:Addr,LA1368=some p→p.block<lb1467:=fun p hp=>Nat.lt_of_lt_of_le (((((lz1368.ext (e1393.trans (e1399.trans (e1416.trans (e1422.trans e1430))))).updT hb1431 u1447 ne1439).ext e1461)).block p hp).2 hlelb1467
    have hql1474:∀p:Addr,LA1396=some p→p.block<lb1467:=fun p hp=>Nat.lt_of_lt_of_le (((((lz1396.ext (e1399.trans (e1416.trans (e1422.trans e1430)))).updT hb1431 u1447 ne1440).ext e1461)).block p hp).2 hlelb1467
    have hql1475:∀p:Addr,LA1404=some p→p.block<lb1467:=fun p hp=>Nat.lt_of_lt_of_le (((((lz1404.ext (e1416.trans (e1422.trans e1430))).updT hb1431 u1447 ne1441).ext e1461)).block p hp).2 hlelb1467
    have hql1476:∀p:Addr,LA1419=some p→p.block<lb1467:=fun p hp=>Nat.lt_of_lt_of_le (((((lz1419.ext (e1422.trans e1430)).updT hb1431 u1447 ne1442).ext e1461)).block p hp).2 hlelb1467
    have hql1477:∀p:Addr,LA1426=some p→p.block<lb1467:=fun p hp=>Nat.lt_of_lt_of_le (((((lz1426.ext e1430).updT hb1431 u1447 ne1443).ext e1461)).block p hp).2 hlelb1467
    have hql1478:∀p:Addr,LA1464=some p→p.block<lb1467:=fun p hp=>Nat.lt_of_lt_of_le ((lz1464).block p hp).2 hlelb1467
    refine cw_draw mix 18 [] [Is (.int .i64 0),Is (.bool true),Is (.bool true),Is (.int .i64 0),Is (.bool true),Is (.bool true),Is (.bool true),Is (.agg #[.int .i64 ((n:Nat):Int),.int .i64 ((n:Nat):Int),.slice LA1426 (n*n) lc1426]),Is (.int .i64 ((n:Nat):Int)),Is (.int .i64 ((n:Nat):Int)),MQ ((n:Nat):Int) ((n:Nat):Int) (LE none 1 w.heap.size lb1467 (n*n) (List.replicate (n*n) 0)),Is (.bool true),Is (.bool true),Is (.bool true),Is (.slice LA1466 0 lc1466),Is (.int .i64 0),Is (.bool true),Is (.bool true)] [[],[0],[1],[2],[2,3],[2,4],[5],[6],[6],[6],[6,8,9],[6,7,10],[6,11],[12],[13],[13,14],[13,15],[13,16]] [[],[0],[0,1],[0,1,2],[0,1,2,3],[0,1,2,3,4],[0,1,2,3,4,5],[0,1,2,3,4,5,6],[0,1,2,3,4,5,6],[0,1,2,3,4,5,6],[0,1,2,3,4,5,6,8,9],[0,1,2,3,4,5,6,7,8,9,10],[0,1,2,3,4,5,6,7,8,9,10,11],[0,1,2,3,4,5,6,7,8,9,10,11,12],[0,1,2,3,4,5,6,7,8,9,10,11,12,13],[0,1,2,3,4,5,6,7,8,9,10,11,12,13,14],[0,1,2,3,4,5,6,7,8,9,10,11,12,13,14,15],[0,1,2,3,4,5,6,7,8,9,10,11,12,13,14,15,16],[0,1,2,3,4,5,6,7,8,9,10,11,12,13,14,15,16,17]] rfl
     (obs_cons rfl rfl (hob rfl rfl ?_) (obs_cons rfl rfl (hob rfl rfl ?_) (obs_cons rfl rfl (hob rfl rfl ?_) (obs_cons rfl rfl (hob rfl rfl ?_) (obs_cons rfl rfl (hob rfl rfl ?_) (obs_cons rfl rfl (hob rfl rfl ?_) (obs_cons rfl rfl (hob rfl rfl ?_) (obs_cons rfl rfl (hob rfl rfl ?_) (obs_cons rfl rfl (hob rfl rfl ?_) (obs_cons rfl rfl (hob rfl rfl ?_) (obs_cons rfl rfl (hob rfl rfl ?_) (obs_cons rfl rfl (hob rfl rfl ?_) (obs_cons rfl rfl (hob rfl rfl ?_) (obs_cons rfl rfl (hob rfl rfl ?_) (obs_cons rfl rfl (hob rfl rfl ?_) (obs_cons rfl rfl (hob rfl rfl ?_) (obs_cons rfl rfl (hob rfl rfl ?_) (obs_cons rfl rfl (hob rfl rfl ?_) obs_nil)))))))))))))))))) ?_
    · 
     exact fun _ _=>deps_nil (mv 1 rfl (pi_done rfl (Ext.refl _) rfl))
    · 
     exact fun _ _=>dk rfl rfl (deps_nil (wl_cmp rfl rfl rfl true (by decide) (by decide) (pi_done rfl (Ext.refl _) rfl)))
    · 
     exact fun _ _=>dk rfl rfl (deps_nil (mv 1 rfl (pi_done rfl (Ext.refl _) rfl)))
    · 
     exact fun _ _=>dk rfl rfl (deps_nil (mv 1 rfl (pi_done rfl (Ext.refl _) rfl)))
    · 
     exact fun _ _=>dk rfl rfl (dk rfl rfl (deps_nil (wl_cmp rfl rfl rfl true (by decide) (by decide) (pi_done rfl (Ext.refl _) rfl))))
    · 
     exact fun _ _=>dk rfl rfl (dk rfl rfl (deps_nil (pu (v:= .bool true) rfl (by kernel_rfl) (pi_done rfl (Ext.refl _) rfl))))
    · 
     exact fun _ _=>dk rfl rfl (deps_nil (mv 1 rfl (pi_done rfl (Ext.refl _) rfl)))
    · 
     exact fun _ e1537=>dk rfl rfl (deps_nil (lo aggMat (hb1446.ext (e1461.trans e1537)) [.int .i64 ((n:Nat):Int),.int .i64 ((n:Nat):Int),.slice LA1426 (n*n) lc1426] rfl rfl rfl (pi_done rfl (Ext.refl _) rfl)))
    · 
     exact fun _ _=>dk rfl rfl (deps_nil (mv 1 rfl (pi_done rfl (Ext.refl _) rfl)))
    · 
     exact fun _ _=>dk rfl rfl (deps_nil (mv 1 rfl (pi_done rfl (Ext.refl _) rfl)))
    · 
     intro v1557 e1558
     have hw24:=hw23.trans e1558
     refine dk rfl rfl (dk rfl rfl (dk rfl rfl (deps_nil (cl (vs:= [.int .i64 ((n:Nat):Int),.int .i64 ((n:Nat):Int)]) hw24 (g_top_zeros hw24.size (Nat.le_trans hlb1467 e1558.size) hn) rfl (by kernel_rfl) fun xr1576 v1574 r1576 e1575 hw25=>?_))))
     obtain⟨lv1577,rfl,⟨LA1578,lc1578,rfl,lz1578⟩⟩:=r1576
     have blk1579:=lz1578.block
     exact pi_done rfl e1575 ⟨_,rfl,⟨_,_,rfl,lz1578⟩⟩
    · 
     intro v1580 e1581
     have hw24:=hw23.trans e1581
     refine dk rfl rfl (dk rfl rfl (deps_cons rfl rfl fun x1592 y1593 h1594 e1595 f1596=>?_))
     obtain⟨lv1597,rfl,⟨LA1598,lc1598,rfl,lz1598⟩⟩:=h1594
     have blk1599:=lz1598.block
     have lz1598:=lz1598.ext f1596
     refine deps_nil (cl (vs:= [.agg #[.int .i64 ((n:Nat):Int),.int .i64 ((n:Nat):Int),.slice LA1426 (n*n) lc1426],.agg #[.int .i64 ((n:Nat):Int),.int .i64 ((n:Nat):Int),.slice LA1598 (n*n) lc1598]]) hw24 (g_top_same (((lz1426.ext e1430).updT hb1431 u1447 ne1443).ext (e1461.trans e1581)) (Nat.le_trans (Nat.le_trans (Nat.le_trans (Nat.le_trans (Nat.le_trans (Nat.le_trans hlb1406 e1416.size) e1422.size) e1430.size) u1447.by_.size) e1461.size) e1581.size) lz1598 (Nat.le_trans hlb1467 e1581.size) hn (en_zero hz1426 (fun i j hi hj=>hon_rt (hlpo.rt) hi hj))) rfl (by kernel_rfl) fun xr1602 v1600 r1602 e1601 hw25=>?_)
     obtain rfl:=r1602
     exact pi_done rfl e1601 rfl
    · 
     exact fun _ _=>dk rfl rfl (dk rfl rfl (deps_nil (pu (v:= .bool true) rfl (by kernel_rfl) (pi_done rfl (Ext.refl _) rfl))))
    · 
     exact fun _ _=>dk rfl rfl (deps_nil (mv 1 rfl (pi_done rfl (Ext.refl _) rfl)))
    · 
     exact fun _ _=>dk rfl rfl (deps_nil (mv 1 rfl (pi_done rfl (Ext.refl _) rfl)))
    · 
     exact fun _ _=>dk rfl rfl (dk rfl rfl (deps_nil (pu (v:= .int .i64 0) rfl (by kernel_rfl) (pi_done rfl (Ext.refl _) rfl))))
    · 
     exact fun _ _=>dk rfl rfl (dk rfl rfl (deps_nil (wl_cmp rfl rfl rfl true (by decide) (by decide) (pi_done rfl (Ext.refl _) rfl))))
    · 
     exact fun _ _=>dk rfl rfl (dk rfl rfl (deps_nil (pu (v:= .bool true) rfl (by kernel_rfl) (pi_done rfl (Ext.refl _) rfl))))
    · 
     intro v1665 e1666
     have hw24:=hw23.trans e1666
     refine dk rfl rfl (dk rfl rfl (dk rfl rfl (dk rfl rfl (dk rfl rfl (dk rfl rfl (dk rfl rfl (dk rfl rfl (dk rfl rfl (dk rfl rfl (deps_cons rfl rfl fun x1717 y1718 h1719 e1720 f1721=>?_))))))))))
     obtain⟨lv1722,rfl,⟨LA1723,lc1723,rfl,lz1723⟩⟩:=h1719
     have blk1724:=lz1723.block
     have lz1723:=lz1723.ext f1721
     refine dk rfl rfl (dk rfl rfl (dk rfl rfl (dk rfl rfl (dk rfl rfl (dk rfl rfl (dk rfl rfl (deps_nil (mv 1 rfl (wl_nil (eo_np (eo_then (cw_ret (eo_ret [.bool true] rfl ⟨rfl,trivial⟩ ?_)))))))))))))
     exact⟨_,rfl,rfl,hw24⟩
theorem law_WholeOwnRoot {w:World}{R C:Int}{Aa:Option Addr}{na capa:Nat}{xs:List Int}(hxa:ZF w Aa na capa 1048576 xs) (hna1:na≤1048576):
  Calls Try.prog 3 #[.agg #[.int .i64 R,.int .i64 C,.slice Aa na capa]] w (fun e w'=>e= .returned (.bool true)∧Ext w w'):=by
 have key:Calls Try.prog 3 #[.agg #[.int .i64 R,.int .i64 C,.slice Aa na capa]] w (Gv w (Is (.bool true))):=by
  by_cases hs:Snd R C na
  ·by_cases hRC:R=C
   ·subst hRC
    obtain⟨n,rfl⟩:=Int.eq_ofNat_of_zero_le hs.1.1
    have hn:n≤64:=by have:=hs.1.2;omega
    obtain rfl:na=n*n:=by have:=hs.2.2;exact_mod_cast this
    obtain⟨d,hd⟩:=chp_ex n (fun i j=>xs.getD (i*n+j) 0)
    exact g_top_WholeOwnRoot_ok hxa hn (fun _ _ _ _=>rfl) hd
   ·exact g_top_WholeOwnRoot_unfit hxa hna1 hs hRC
  ·exact g_top_WholeOwnRoot_bad hxa hna1 hs
 refine key.mono fun e w' h=>?_
 obtain⟨v,rfl,h1,h2⟩:=h
 exact⟨by rw [show v=_ from h1],h2⟩
end Go.Proofs.Ytnpbbknemflpnaa
